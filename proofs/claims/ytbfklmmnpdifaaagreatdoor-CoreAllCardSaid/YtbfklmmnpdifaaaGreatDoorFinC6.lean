/- The given statement CoreAllCardSaid is proved: the law CoreAll holds for every input. Conditions: none but those that the statement itself names. -/
import Derived.Test.YtbfklmmnpdifaaaGreatDoorMCor8
import Derived.Lay
import Derived.Stop.LaidErr
import Derived.Test.YtbfklmmnpdifaaaGreatDoorTie
import Derived.Test.YtbfklmmnpdifaaaGreatDoorCards
open List renaming all_eq_true → zF, mem_cons → zQ
open Go.Proofs.Tryz renaming prog → zA
namespace Go.Proofs.YtbfklmmnpdifaaaGreatDoor
open Go.ChangeShapes Go.WideShapes Go.ChangeAt Go.RowKit Go.Lift
theorem YA (W : World) (hL : laidMet zA Rows.coreAllRow.laid W) : Go.Lift.X5 zA W (Go.Lift.Uy W) :=
 Go.Lift.ZQ fun x hx g hg => by
  rcases zQ.1 hx with rfl | hx
  ·exact absurd hg (by rw [show Tryz.prog.globalNamed "internal/strconv.uint64pow10" = none by kernel_rfl]; exact nofun)
  rcases zQ.1 hx with rfl | hx
  ·obtain rfl : 1 = g := Option.some.inj ((show Tryz.prog.globalNamed "math/bits.deBruijn64tab" = some 1 by kernel_rfl).symm.trans hg)
   exact Lib.tabIs_of_head (g := 1) (t := 181) (e := 5) (n := 64) (by kernel_rfl) (by kernel_rfl) (by kernel_rfl) (by kernel_rfl) (by kernel_rfl) (by kernel_rfl) (show laidMet zA (("math/bits.deBruijn64tab", Lib.tabData .u8 Go.Lift.VE) :: _) W from hL.tail)
  cases hx
set_option maxRecDepth 100000 in
theorem Y6 (os : Os) (started : os.Started) (H : Type) (enc : TypeId × Value → H) :
  ReturnsInHanded {} Tryz.checked os 6 .any (fun w args => (Rows.coreAllSpec.pre enc zA Tryz.f6 Rows.coreAllRow.domain false w args ∧ laidMetH zA Rows.coreAllRow.laid w) ∧ sizedMet enc zA Tryz.f6 (OpenSpec.ofChange Rows.coreAllSpec) false w args) (Rows.coreAllSpec.post enc zA Tryz.f6 false true false false) :=
 Go.Lift.TI (C := Tryz.checked) (d := 8) (tb := 4) (by kernel_rfl) started (by kernel_rfl) Tryz.func6
  (ChangeSpec.witness_shaped (enc := enc) (C := Tryz.checked) (os := os) (X := fun w _ => laidMetH zA Rows.coreAllRow.laid w) false (World.laidAll zA os Rows.coreAllRow.laid) #[.agg #[.slice none 0 0, .slice none 0 0, .slice none 0 0, .slice none 0 0]] 8 (World.laidAll_os _ _ _)
   (World.shaped_of_ZipB (by kernel_rfl) (by kernel_rfl)) (by kernel_rfl) (by kernel_rfl) (by kernel_rfl)
   (by rw [MakeChecks.laidMetH_plain _ _ _ (by kernel_rfl)]; exact laidMet_laidAll _ (by kernel_rfl) (by kernel_rfl)))
  rfl (fun ds hl => match ds, hl with | [_], _ => rfl) (by kernel_rfl) (by kernel_rfl) (by kernel_rfl) (by kernel_rfl) (by kernel_rfl)
  (Zg 2000 8 Qt) (by kernel_rfl) YA
theorem Ol : Rows.CoreAllSaid :=
 OpenClaim.holds_of_wide 6 Tryz.f6 rfl rfl rfl rfl rfl rfl rfl ⟨rfl, rfl, rfl, rfl, rfl⟩ rfl rfl rfl rfl rfl (by kernel_rfl) Tryz.func6 (by kernel_rfl)
  (of_decide_eq_true (by kernel_rfl)) (by unfold Func.isWrapper; first | (rw [if_pos (by decide +kernel)]; kernel_rfl) | (rw [if_neg (by decide +kernel)]; exact ⟨rfl, rfl⟩))
  (fun os started H enc _ => Y6 os started H enc)
theorem coreAll_said : Rows.CoreAllCardSaid :=
 Claim7.holds_tied_plain_at .later [] [.data, .data] true (true, "fcddfdc6d44c0b7914a0e085a67848f623285ed36f4788702ab1c5180702fea8") false Ol (fun _ h => by cases h) (by kernel_rfl) (fun _ h => by cases h) coreAll_row_tie rfl ⟨rfl, rfl⟩ (by kernel_rfl) rfl
  (fun f fn hf hfn => by
   obtain rfl : f = 6 := Option.some.inj ((show Tryz.prog.funcNamed "sheave/sheavelaw41.CoreAll" = some 6 by kernel_rfl).symm.trans hf) |>.symm
   obtain rfl : fn = Tryz.f6 := (Option.some.inj (Tryz.func6.symm.trans hfn)).symm
   exact ⟨by kernel_rfl, fun j t ht => by
    rw [Tryz.params6] at ht
    have hm : t ∈ [25] := by simpa using Array.mem_of_getElem? ht
    have hall : ([25].all fun u => !Tryz.prog.wantsStandIn u) = true := by kernel_rfl
    exact (show Tryz.prog.wantsStandIn t = false by simpa using zF.1 hall t hm)⟩)
  (by kernel_rfl)
#print axioms coreAll_said
end Go.Proofs.YtbfklmmnpdifaaaGreatDoor
