/- The given statement CoreFreeCardSaid is proved: the law CoreFree holds for every input. Conditions: none but those that the statement itself names. -/
import Derived.Test.YtbfklmmnpdifaaaGreatDoorMCor8
import Derived.Lay
import Derived.Stop.LaidErr
import Derived.Test.YtbfklmmnpdifaaaGreatDoorTie
import Derived.Test.YtbfklmmnpdifaaaGreatDoorCards
open List renaming all_eq_true → zA3, mem_cons → zB2
open Go.Proofs.Tryz renaming prog → zA0
namespace Go.Proofs.YtbfklmmnpdifaaaGreatDoor
open Go.ChangeShapes Go.WideShapes Go.ChangeAt Go.RowKit Go.Lift
theorem Yh (W : World) (hL : laidMet zA0 Rows.coreFreeRow.laid W) : Go.Lift.XV zA0 W (Go.Lift.T3 W) :=
 Go.Lift.ZU fun x hx g hg => by
  rcases zB2.1 hx with rfl | hx
  ·exact absurd hg (by rw [show Tryz.prog.globalNamed "internal/strconv.uint64pow10" = none by kernel_rfl]; exact nofun)
  rcases zB2.1 hx with rfl | hx
  ·obtain rfl : 1 = g := Option.some.inj ((show Tryz.prog.globalNamed "math/bits.deBruijn64tab" = some 1 by kernel_rfl).symm.trans hg)
   exact Lib.tabIs_of_head (g := 1) (t := 181) (e := 5) (n := 64) (by kernel_rfl) (by kernel_rfl) (by kernel_rfl) (by kernel_rfl) (by kernel_rfl) (by kernel_rfl) (show laidMet zA0 (("math/bits.deBruijn64tab", Lib.tabData .u8 Go.Lift.VI) :: _) W from hL.tail)
  cases hx
set_option maxRecDepth 100000 in
theorem Yy (os : Os) (started : os.Started) (H : Type) (enc : TypeId × Value → H) :
  ReturnsInHanded {} Tryz.checked os 4 .any (fun w args => (Rows.coreFreeSpec.pre enc zA0 Tryz.f4 Rows.coreFreeRow.domain false w args ∧ laidMetH zA0 Rows.coreFreeRow.laid w) ∧ sizedMet enc zA0 Tryz.f4 (OpenSpec.ofChange Rows.coreFreeSpec) false w args) (Rows.coreFreeSpec.post enc zA0 Tryz.f4 false true false false) :=
 Go.Lift.Tq (C := Tryz.checked) (d := 8) (tb := 4) (by kernel_rfl) started (by kernel_rfl) Tryz.func4
  (ChangeSpec.witness_shaped (enc := enc) (C := Tryz.checked) (os := os) (X := fun w _ => laidMetH zA0 Rows.coreFreeRow.laid w) false (World.laidAll zA0 os Rows.coreFreeRow.laid) #[.agg #[.slice none 0 0, .slice none 0 0, .slice none 0 0, .slice none 0 0]] 8 (World.laidAll_os _ _ _)
   (World.shaped_of_ZipB (by kernel_rfl) (by kernel_rfl)) (by kernel_rfl) (by kernel_rfl) (by kernel_rfl)
   (by rw [MakeChecks.laidMetH_plain _ _ _ (by kernel_rfl)]; exact laidMet_laidAll _ (by kernel_rfl) (by kernel_rfl)))
  rfl (fun ds hl => match ds, hl with | [_], _ => rfl) (by kernel_rfl) (by kernel_rfl) (by kernel_rfl) (by kernel_rfl) (by kernel_rfl)
  (Yv 2000 8 PG) (by kernel_rfl) Yh
theorem M4 : Rows.CoreFreeSaid :=
 OpenClaim.holds_of_wide 4 Tryz.f4 rfl rfl rfl rfl rfl rfl rfl ⟨rfl, rfl, rfl, rfl, rfl⟩ rfl rfl rfl rfl rfl (by kernel_rfl) Tryz.func4 (by kernel_rfl)
  (of_decide_eq_true (by kernel_rfl)) (by unfold Func.isWrapper; first | (rw [if_pos (by decide +kernel)]; kernel_rfl) | (rw [if_neg (by decide +kernel)]; exact ⟨rfl, rfl⟩))
  (fun os started H enc _ => Yy os started H enc)
theorem coreFree_said : Rows.CoreFreeCardSaid :=
 Claim7.holds_tied_plain_at .later [] [.data, .data] true (true, "fcddfdc6d44c0b7914a0e085a67848f623285ed36f4788702ab1c5180702fea8") false M4 (fun _ h => by cases h) (by kernel_rfl) (fun _ h => by cases h) coreFree_row_tie rfl ⟨rfl, rfl⟩ (by kernel_rfl) rfl
  (fun f fn hf hfn => by
   obtain rfl : f = 4 := Option.some.inj ((show Tryz.prog.funcNamed "sheave/sheavelaw41.CoreFree" = some 4 by kernel_rfl).symm.trans hf) |>.symm
   obtain rfl : fn = Tryz.f4 := (Option.some.inj (Tryz.func4.symm.trans hfn)).symm
   exact ⟨by kernel_rfl, fun j t ht => by
    rw [Tryz.params4] at ht
    have hm : t ∈ [25] := by simpa using Array.mem_of_getElem? ht
    have hall : ([25].all fun u => !Tryz.prog.wantsStandIn u) = true := by kernel_rfl
    exact (show Tryz.prog.wantsStandIn t = false by simpa using zA3.1 hall t hm)⟩)
  (by kernel_rfl)
#print axioms coreFree_said
end Go.Proofs.YtbfklmmnpdifaaaGreatDoor
