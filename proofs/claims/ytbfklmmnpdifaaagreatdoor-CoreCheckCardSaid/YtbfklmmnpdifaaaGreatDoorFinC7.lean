/- The given statement CoreCheckCardSaid is proved: the law CoreCheck holds for every input. Conditions: none but those that the statement itself names. -/
import Derived.Test.YtbfklmmnpdifaaaGreatDoorMCor9
import Derived.Lay
import Derived.Stop.LaidErr
import Derived.Test.YtbfklmmnpdifaaaGreatDoorTie
import Derived.Test.YtbfklmmnpdifaaaGreatDoorCards
open List renaming all_eq_true → zG, mem_cons → zQ
open Go.Proofs.Tryz renaming prog → zA
namespace Go.Proofs.YtbfklmmnpdifaaaGreatDoor
open Go.ChangeShapes Go.WideShapes Go.ChangeAt Go.RowKit Go.Lift
theorem YW (W : World) (hL : laidMet zA Rows.coreCheckRow.laid W) : Go.Lift.YF zA W (Go.Lift.UB W) :=
 Go.Lift.bP fun x hx g hg => by
  rcases zQ.1 hx with rfl | hx
  ·exact absurd hg (by rw [show Tryz.prog.globalNamed "internal/strconv.uint64pow10" = none by kernel_rfl]; exact nofun)
  rcases zQ.1 hx with rfl | hx
  ·obtain rfl : 1 = g := Option.some.inj ((show Tryz.prog.globalNamed "math/bits.deBruijn64tab" = some 1 by kernel_rfl).symm.trans hg)
   exact Lib.tabIs_of_head (g := 1) (t := 181) (e := 5) (n := 64) (by kernel_rfl) (by kernel_rfl) (by kernel_rfl) (by kernel_rfl) (by kernel_rfl) (by kernel_rfl) (show laidMet zA (("math/bits.deBruijn64tab", Lib.tabData .u8 Go.Lift.WE) :: _) W from hL.tail)
  cases hx
set_option maxRecDepth 100000 in
theorem ZI (os : Os) (started : os.Started) (H : Type) (enc : TypeId × Value → H) :
  ReturnsInHanded {} Tryz.checked os 7 .any (fun w args => (Rows.coreCheckSpec.pre enc zA Tryz.f7 Rows.coreCheckRow.domain false w args ∧ laidMetH zA Rows.coreCheckRow.laid w) ∧ sizedMet enc zA Tryz.f7 (OpenSpec.ofChange Rows.coreCheckSpec) false w args) (Rows.coreCheckSpec.post enc zA Tryz.f7 false true false false) :=
 Go.Lift.TE (C := Tryz.checked) (d := 8) (tb := 4) (by kernel_rfl) started (by kernel_rfl) Tryz.func7
  (ChangeSpec.witness_shaped (enc := enc) (C := Tryz.checked) (os := os) (X := fun w _ => laidMetH zA Rows.coreCheckRow.laid w) false (World.laidAll zA os Rows.coreCheckRow.laid) #[.agg #[.slice none 0 0, .slice none 0 0, .slice none 0 0, .slice none 0 0], .slice none 0 0, .slice none 0 0] 8 (World.laidAll_os _ _ _)
   (World.shaped_of_ZipB (by kernel_rfl) (by kernel_rfl)) (by kernel_rfl) (by kernel_rfl) (by kernel_rfl)
   (by rw [MakeChecks.laidMetH_plain _ _ _ (by kernel_rfl)]; exact laidMet_laidAll _ (by kernel_rfl) (by kernel_rfl)))
  rfl (fun ds hl => match ds, hl with | [_, _, _], _ => rfl) (by kernel_rfl) (by kernel_rfl) (by kernel_rfl) (by kernel_rfl) (by kernel_rfl)
  (ZU 2000 8 O4) (by kernel_rfl) YW
theorem M9 : Rows.CoreCheckSaid :=
 OpenClaim.holds_of_wide 7 Tryz.f7 rfl rfl rfl rfl rfl rfl rfl ⟨rfl, rfl, rfl, rfl, rfl⟩ rfl rfl rfl rfl rfl (by kernel_rfl) Tryz.func7 (by kernel_rfl)
  (of_decide_eq_true (by kernel_rfl)) (by unfold Func.isWrapper; first | (rw [if_pos (by decide +kernel)]; kernel_rfl) | (rw [if_neg (by decide +kernel)]; exact ⟨rfl, rfl⟩))
  (fun os started H enc _ => ZI os started H enc)
theorem coreCheck_said : Rows.CoreCheckCardSaid :=
 Claim7.holds_tied_plain_at .later [] [.data, .data] true (true, "fcddfdc6d44c0b7914a0e085a67848f623285ed36f4788702ab1c5180702fea8") false M9 (fun _ h => by cases h) (by kernel_rfl) (fun _ h => by cases h) coreCheck_row_tie rfl ⟨rfl, rfl⟩ (by kernel_rfl) rfl
  (fun f fn hf hfn => by
   obtain rfl : f = 7 := Option.some.inj ((show Tryz.prog.funcNamed "sheave/sheavelaw41.CoreCheck" = some 7 by kernel_rfl).symm.trans hf) |>.symm
   obtain rfl : fn = Tryz.f7 := (Option.some.inj (Tryz.func7.symm.trans hfn)).symm
   exact ⟨by kernel_rfl, fun j t ht => by
    rw [Tryz.params7] at ht
    have hm : t ∈ [25, 26, 46] := by simpa using Array.mem_of_getElem? ht
    have hall : ([25, 26, 46].all fun u => !Tryz.prog.wantsStandIn u) = true := by kernel_rfl
    exact (show Tryz.prog.wantsStandIn t = false by simpa using zG.1 hall t hm)⟩)
  (by kernel_rfl)
#print axioms coreCheck_said
end Go.Proofs.YtbfklmmnpdifaaaGreatDoor
