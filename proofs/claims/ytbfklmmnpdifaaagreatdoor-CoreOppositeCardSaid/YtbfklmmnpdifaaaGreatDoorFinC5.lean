/- The given statement CoreOppositeCardSaid is proved: the law CoreOpposite holds for every input. Conditions: none but those that the statement itself names. -/
import Derived.Test.YtbfklmmnpdifaaaGreatDoorMCorO
import Derived.Lay
import Derived.Stop.LaidErr
import Derived.Test.YtbfklmmnpdifaaaGreatDoorTie
import Derived.Test.YtbfklmmnpdifaaaGreatDoorCards
open List renaming all_eq_true → zA2, mem_cons → zB6
open Go.Proofs.Tryz renaming prog → zA0
namespace Go.Proofs.YtbfklmmnpdifaaaGreatDoor
open Go.ChangeShapes Go.WideShapes Go.ChangeAt Go.RowKit Go.Lift
theorem Yk (W : World) (hL : laidMet zA0 Rows.coreOppositeRow.laid W) : Go.Lift.XN zA0 W (Go.Lift.T5 W) :=
 Go.Lift.ah fun x hx g hg => by
  rcases zB6.1 hx with rfl | hx
  ·exact absurd hg (by rw [show Tryz.prog.globalNamed "internal/strconv.uint64pow10" = none by kernel_rfl]; exact nofun)
  rcases zB6.1 hx with rfl | hx
  ·obtain rfl : 1 = g := Option.some.inj ((show Tryz.prog.globalNamed "math/bits.deBruijn64tab" = some 1 by kernel_rfl).symm.trans hg)
   exact Lib.tabIs_of_head (g := 1) (t := 181) (e := 5) (n := 64) (by kernel_rfl) (by kernel_rfl) (by kernel_rfl) (by kernel_rfl) (by kernel_rfl) (by kernel_rfl) (show laidMet zA0 (("math/bits.deBruijn64tab", Lib.tabData .u8 Go.Lift.Vv) :: _) W from hL.tail)
  cases hx
set_option maxRecDepth 100000 in
theorem X1 (os : Os) (started : os.Started) (H : Type) (enc : TypeId × Value → H) :
  ReturnsInHanded {} Tryz.checked os 5 .any (fun w args => (Rows.coreOppositeSpec.pre enc zA0 Tryz.f5 Rows.coreOppositeRow.domain false w args ∧ laidMetH zA0 Rows.coreOppositeRow.laid w) ∧ sizedMet enc zA0 Tryz.f5 (OpenSpec.ofChange Rows.coreOppositeSpec) false w args) (Rows.coreOppositeSpec.post enc zA0 Tryz.f5 false true false false) :=
 Go.Lift.Tb (C := Tryz.checked) (d := 8) (tb := 4) (by kernel_rfl) started (by kernel_rfl) Tryz.func5
  (ChangeSpec.witness_shaped (enc := enc) (C := Tryz.checked) (os := os) (X := fun w _ => laidMetH zA0 Rows.coreOppositeRow.laid w) false (World.laidAll zA0 os Rows.coreOppositeRow.laid) #[.agg #[.slice none 0 0, .slice none 0 0, .slice none 0 0, .slice none 0 0]] 8 (World.laidAll_os _ _ _)
   (World.shaped_of_ZipB (by kernel_rfl) (by kernel_rfl)) (by kernel_rfl) (by kernel_rfl) (by kernel_rfl)
   (by rw [MakeChecks.laidMetH_plain _ _ _ (by kernel_rfl)]; exact laidMet_laidAll _ (by kernel_rfl) (by kernel_rfl)))
  rfl (fun ds hl => match ds, hl with | [_], _ => rfl) (by kernel_rfl) (by kernel_rfl) (by kernel_rfl) (by kernel_rfl) (by kernel_rfl)
  (XT 2000 8 ME) (by kernel_rfl) Yk
theorem K9 : Rows.CoreOppositeSaid :=
 OpenClaim.holds_of_wide 5 Tryz.f5 rfl rfl rfl rfl rfl rfl rfl ⟨rfl, rfl, rfl, rfl, rfl⟩ rfl rfl rfl rfl rfl (by kernel_rfl) Tryz.func5 (by kernel_rfl)
  (of_decide_eq_true (by kernel_rfl)) (by unfold Func.isWrapper; first | (rw [if_pos (by decide +kernel)]; kernel_rfl) | (rw [if_neg (by decide +kernel)]; exact ⟨rfl, rfl⟩))
  (fun os started H enc _ => X1 os started H enc)
theorem coreOpposite_said : Rows.CoreOppositeCardSaid :=
 Claim7.holds_tied_plain_at .later [] [.data, .data] true (true, "fcddfdc6d44c0b7914a0e085a67848f623285ed36f4788702ab1c5180702fea8") false K9 (fun _ h => by cases h) (by kernel_rfl) (fun _ h => by cases h) coreOpposite_row_tie rfl ⟨rfl, rfl⟩ (by kernel_rfl) rfl
  (fun f fn hf hfn => by
   obtain rfl : f = 5 := Option.some.inj ((show Tryz.prog.funcNamed "sheave/sheavelaw41.CoreOpposite" = some 5 by kernel_rfl).symm.trans hf) |>.symm
   obtain rfl : fn = Tryz.f5 := (Option.some.inj (Tryz.func5.symm.trans hfn)).symm
   exact ⟨by kernel_rfl, fun j t ht => by
    rw [Tryz.params5] at ht
    have hm : t ∈ [25] := by simpa using Array.mem_of_getElem? ht
    have hall : ([25].all fun u => !Tryz.prog.wantsStandIn u) = true := by kernel_rfl
    exact (show Tryz.prog.wantsStandIn t = false by simpa using zA2.1 hall t hm)⟩)
  (by kernel_rfl)
#print axioms coreOpposite_said
end Go.Proofs.YtbfklmmnpdifaaaGreatDoor
