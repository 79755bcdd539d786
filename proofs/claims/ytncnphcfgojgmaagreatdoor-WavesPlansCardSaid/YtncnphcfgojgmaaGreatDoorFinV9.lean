/- The given statement WavesPlansCardSaid is proved: the law WavesPlans holds for every input. Conditions: none but those that the statement itself names. -/
import Derived.Test.YtncnphcfgojgmaaGreatDoorMWav6
import Derived.Lay
import Derived.Stop.LaidErr
import Derived.Test.YtncnphcfgojgmaaGreatDoorTie
import Derived.Test.YtncnphcfgojgmaaGreatDoorCards
namespace Go.Proofs.YtncnphcfgojgmaaGreatDoor
open Go.ChangeShapes Go.WideShapes Go.ChangeAt Go.RowKit Go.Lift
theorem Ty (W : World) (hL : laidMet Tryz.prog Rows.wavesPlansRow.laid W) : Go.Lift.SQ Tryz.prog W (Go.Lift.P1 W) :=
 Go.Lift.UI fun x hx g hg => by
  rcases List.mem_cons.1 hx with rfl | hx
  ·obtain rfl : 0 = g := Option.some.inj ((show Tryz.prog.globalNamed "internal/strconv.uint64pow10" = some 0 by kernel_rfl).symm.trans hg)
   exact Lib.tabIs_of_head (g := 0) (t := 158) (e := 140) (n := 20) (by kernel_rfl) (by kernel_rfl) (by kernel_rfl) (by kernel_rfl) (by kernel_rfl) (by kernel_rfl) (show laidMet Tryz.prog (("internal/strconv.uint64pow10", Lib.tabData .u64 Go.Lift.Vg) :: _) W from hL.tail.tail)
  rcases List.mem_cons.1 hx with rfl | hx
  ·obtain rfl : 2 = g := Option.some.inj ((show Tryz.prog.globalNamed "math/bits.deBruijn64tab" = some 2 by kernel_rfl).symm.trans hg)
   exact Lib.tabIs_of_head (g := 2) (t := 164) (e := 5) (n := 64) (by kernel_rfl) (by kernel_rfl) (by kernel_rfl) (by kernel_rfl) (by kernel_rfl) (by kernel_rfl) (show laidMet Tryz.prog (("math/bits.deBruijn64tab", Lib.tabData .u8 Go.Lift.Wf) :: _) W from hL.tail)
  cases hx
set_option maxRecDepth 100000 in
theorem S8 (os : Os) (started : os.Started) (H : Type) (enc : TypeId × Value → H) :
  ReturnsInHanded {} Tryz.checked os 6 .any (fun w args => (Rows.wavesPlansSpec.pre enc Tryz.prog Tryz.f6 Rows.wavesPlansRow.domain false w args ∧ laidMetH Tryz.prog Rows.wavesPlansRow.laid w) ∧ sizedMet enc Tryz.prog Tryz.f6 (OpenSpec.ofChange Rows.wavesPlansSpec) false w args) (Rows.wavesPlansSpec.post enc Tryz.prog Tryz.f6 false true false false) :=
 Go.Lift.O9 (C := Tryz.checked) (d := 8) (tb := 4) (by kernel_rfl) started (by kernel_rfl) Tryz.func6
  (ChangeSpec.witness_shaped (enc := enc) (C := Tryz.checked) (os := os) (X := fun w _ => laidMetH Tryz.prog Rows.wavesPlansRow.laid w) false (World.laidAll Tryz.prog os Rows.wavesPlansRow.laid) #[.agg #[.slice none 0 0, .slice none 0 0, .slice none 0 0, .slice none 0 0], .slice none 0 0, .slice none 0 0] 8 (World.laidAll_os _ _ _)
   (World.shaped_of_ZipB (by kernel_rfl) (by kernel_rfl)) (by kernel_rfl) (by kernel_rfl) (by kernel_rfl)
   (by rw [MakeChecks.laidMetH_plain _ _ _ (by kernel_rfl)]; exact laidMet_laidAll _ (by kernel_rfl) (by kernel_rfl)))
  rfl (fun ds hl => match ds, hl with | [_, _, _], _ => rfl) (by kernel_rfl) (by kernel_rfl) (by kernel_rfl) (by kernel_rfl) (by kernel_rfl)
  (Tx 1000 8 K6) (by kernel_rfl) Ty
theorem Jv : Rows.WavesPlansSaid :=
 OpenClaim.holds_of_wide 6 Tryz.f6 rfl rfl rfl rfl rfl rfl rfl ⟨rfl, rfl, rfl, rfl, rfl⟩ rfl rfl rfl rfl rfl (by kernel_rfl) Tryz.func6 (by kernel_rfl)
  (of_decide_eq_true (by kernel_rfl)) (by unfold Func.isWrapper; first | (rw [if_pos (by decide +kernel)]; kernel_rfl) | (rw [if_neg (by decide +kernel)]; exact ⟨rfl, rfl⟩))
  (fun os started H enc _ => S8 os started H enc)
theorem wavesPlans_said : Rows.WavesPlansCardSaid :=
 Claim7.holds_tied_plain_at .later [] [.data, .data, .data] true (true, "709223896d8dc21d4abb6f17d208ec6cc1e08b0841b4c4726a91b42f2976ee8c") false Jv (fun _ h => by cases h) (by kernel_rfl) (fun _ h => by cases h) wavesPlans_row_tie rfl ⟨rfl, rfl⟩ (by kernel_rfl) rfl
  (fun f fn hf hfn => by
   obtain rfl : f = 6 := Option.some.inj ((show Tryz.prog.funcNamed "sheave/sheavelaw43.WavesPlans" = some 6 by kernel_rfl).symm.trans hf) |>.symm
   obtain rfl : fn = Tryz.f6 := (Option.some.inj (Tryz.func6.symm.trans hfn)).symm
   exact ⟨by kernel_rfl, fun j t ht => by
    rw [Tryz.params6] at ht
    have hm : t ∈ [25, 28, 22] := by simpa using Array.mem_of_getElem? ht
    have hall : ([25, 28, 22].all fun u => !Tryz.prog.wantsStandIn u) = true := by kernel_rfl
    exact (show Tryz.prog.wantsStandIn t = false by simpa using List.all_eq_true.1 hall t hm)⟩)
  (by kernel_rfl)
#print axioms wavesPlans_said
end Go.Proofs.YtncnphcfgojgmaaGreatDoor
