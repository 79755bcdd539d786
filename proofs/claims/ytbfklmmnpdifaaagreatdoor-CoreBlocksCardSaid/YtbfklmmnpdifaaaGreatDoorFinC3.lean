/- The given statement CoreBlocksCardSaid is proved: the law CoreBlocks holds for every input. Conditions: none but those that the statement itself names. -/
import Derived.Test.YtbfklmmnpdifaaaGreatDoorMCor5
import Derived.Lay
import Derived.Stop.LaidErr
import Derived.Test.YtbfklmmnpdifaaaGreatDoorTie
import Derived.Test.YtbfklmmnpdifaaaGreatDoorCards
open List renaming all_eq_true → zH, mem_cons → yJ
open Go.Proofs.Tryz renaming prog → zA
namespace Go.Proofs.YtbfklmmnpdifaaaGreatDoor
open Go.ChangeShapes Go.WideShapes Go.ChangeAt Go.RowKit Go.Lift
theorem YE (W : World) (hL : laidMet zA Rows.coreBlocksRow.laid W) : Go.Lift.X8 zA W (Go.Lift.UG W) :=
 Go.Lift.aK fun x hx g hg => by
  rcases yJ.1 hx with rfl | hx
  ·exact absurd hg (by rw [show Tryz.prog.globalNamed "internal/strconv.uint64pow10" = none by kernel_rfl]; exact nofun)
  rcases yJ.1 hx with rfl | hx
  ·obtain rfl : 1 = g := Option.some.inj ((show Tryz.prog.globalNamed "math/bits.deBruijn64tab" = some 1 by kernel_rfl).symm.trans hg)
   exact Lib.tabIs_of_head (g := 1) (t := 181) (e := 5) (n := 64) (by kernel_rfl) (by kernel_rfl) (by kernel_rfl) (by kernel_rfl) (by kernel_rfl) (by kernel_rfl) (show laidMet zA (("math/bits.deBruijn64tab", Lib.tabData .u8 Go.Lift.We) :: _) W from hL.tail)
  cases hx
set_option maxRecDepth 100000 in
theorem Yt (os : Os) (started : os.Started) (H : Type) (enc : TypeId × Value → H) :
  ReturnsInHanded {} Tryz.checked os 3 .any (fun w args => (Rows.coreBlocksSpec.pre enc zA Tryz.f3 Rows.coreBlocksRow.domain false w args ∧ laidMetH zA Rows.coreBlocksRow.laid w) ∧ sizedMet enc zA Tryz.f3 (OpenSpec.ofChange Rows.coreBlocksSpec) false w args) (Rows.coreBlocksSpec.post enc zA Tryz.f3 false true false false) :=
 Go.Lift.TJ (C := Tryz.checked) (d := 8) (tb := 4) (by kernel_rfl) started (by kernel_rfl) Tryz.func3
  (ChangeSpec.witness_shaped (enc := enc) (C := Tryz.checked) (os := os) (X := fun w _ => laidMetH zA Rows.coreBlocksRow.laid w) false (World.laidAll zA os Rows.coreBlocksRow.laid) #[.agg #[.slice none 0 0, .slice none 0 0, .slice none 0 0, .slice none 0 0], .slice none 0 0] 8 (World.laidAll_os _ _ _)
   (World.shaped_of_ZipB (by kernel_rfl) (by kernel_rfl)) (by kernel_rfl) (by kernel_rfl) (by kernel_rfl)
   (by rw [MakeChecks.laidMetH_plain _ _ _ (by kernel_rfl)]; exact laidMet_laidAll _ (by kernel_rfl) (by kernel_rfl)))
  rfl (fun ds hl => match ds, hl with | [_, _], _ => rfl) (by kernel_rfl) (by kernel_rfl) (by kernel_rfl) (by kernel_rfl) (by kernel_rfl)
  (Zm 2000 8 OC) (by kernel_rfl) YE
theorem MW : Rows.CoreBlocksSaid :=
 OpenClaim.holds_of_wide 3 Tryz.f3 rfl rfl rfl rfl rfl rfl rfl ⟨rfl, rfl, rfl, rfl, rfl⟩ rfl rfl rfl rfl rfl (by kernel_rfl) Tryz.func3 (by kernel_rfl)
  (of_decide_eq_true (by kernel_rfl)) (by unfold Func.isWrapper; first | (rw [if_pos (by decide +kernel)]; kernel_rfl) | (rw [if_neg (by decide +kernel)]; exact ⟨rfl, rfl⟩))
  (fun os started H enc _ => Yt os started H enc)
theorem coreBlocks_said : Rows.CoreBlocksCardSaid :=
 Claim7.holds_tied_plain_at .later [] [.data, .data] true (true, "fcddfdc6d44c0b7914a0e085a67848f623285ed36f4788702ab1c5180702fea8") false MW (fun _ h => by cases h) (by kernel_rfl) (fun _ h => by cases h) coreBlocks_row_tie rfl ⟨rfl, rfl⟩ (by kernel_rfl) rfl
  (fun f fn hf hfn => by
   obtain rfl : f = 3 := Option.some.inj ((show Tryz.prog.funcNamed "sheave/sheavelaw41.CoreBlocks" = some 3 by kernel_rfl).symm.trans hf) |>.symm
   obtain rfl : fn = Tryz.f3 := (Option.some.inj (Tryz.func3.symm.trans hfn)).symm
   exact ⟨by kernel_rfl, fun j t ht => by
    rw [Tryz.params3] at ht
    have hm : t ∈ [25, 26] := by simpa using Array.mem_of_getElem? ht
    have hall : ([25, 26].all fun u => !Tryz.prog.wantsStandIn u) = true := by kernel_rfl
    exact (show Tryz.prog.wantsStandIn t = false by simpa using zH.1 hall t hm)⟩)
  (by kernel_rfl)
#print axioms coreBlocks_said
end Go.Proofs.YtbfklmmnpdifaaaGreatDoor
