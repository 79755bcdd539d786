/- The given statement WavesOfCardSaid is proved: the law WavesOf holds for every input. Conditions: none but those that the statement itself names. -/
import Derived.Test.YtncnphcfgojgmaaGreatDoorMWav5
import Derived.Lay
import Derived.Stop.LaidErr
import Derived.Test.YtncnphcfgojgmaaGreatDoorTie
import Derived.Test.YtncnphcfgojgmaaGreatDoorCards
namespace Go.Proofs.YtncnphcfgojgmaaGreatDoor
open Go.ChangeShapes Go.WideShapes Go.ChangeAt Go.RowKit Go.Lift
theorem UL (W : World) (hL : laidMet Tryz.prog Rows.wavesOfRow.laid W) : Go.Lift.T6 Tryz.prog W (Go.Lift.Rh W) :=
 Go.Lift.VV fun x hx g hg => by
  rcases List.mem_cons.1 hx with rfl | hx
  ·obtain rfl : 0 = g := Option.some.inj ((show Tryz.prog.globalNamed "internal/strconv.uint64pow10" = some 0 by kernel_rfl).symm.trans hg)
   exact Lib.tabIs_of_head (g := 0) (t := 158) (e := 140) (n := 20) (by kernel_rfl) (by kernel_rfl) (by kernel_rfl) (by kernel_rfl) (by kernel_rfl) (by kernel_rfl) (show laidMet Tryz.prog (("internal/strconv.uint64pow10", Lib.tabData .u64 Go.Lift.V3) :: _) W from hL.tail.tail)
  rcases List.mem_cons.1 hx with rfl | hx
  ·obtain rfl : 2 = g := Option.some.inj ((show Tryz.prog.globalNamed "math/bits.deBruijn64tab" = some 2 by kernel_rfl).symm.trans hg)
   exact Lib.tabIs_of_head (g := 2) (t := 164) (e := 5) (n := 64) (by kernel_rfl) (by kernel_rfl) (by kernel_rfl) (by kernel_rfl) (by kernel_rfl) (by kernel_rfl) (show laidMet Tryz.prog (("math/bits.deBruijn64tab", Lib.tabData .u8 Go.Lift.WR) :: _) W from hL.tail)
  cases hx
set_option maxRecDepth 100000 in
theorem UI (os : Os) (started : os.Started) (H : Type) (enc : TypeId × Value → H) :
  ReturnsInHanded {} Tryz.checked os 5 .any (fun w args => (Rows.wavesOfSpec.pre enc Tryz.prog Tryz.f5 Rows.wavesOfRow.domain false w args ∧ laidMetH Tryz.prog Rows.wavesOfRow.laid w) ∧ sizedMet enc Tryz.prog Tryz.f5 (OpenSpec.ofChange Rows.wavesOfSpec) false w args) (Rows.wavesOfSpec.post enc Tryz.prog Tryz.f5 false true false false) :=
 Go.Lift.QO (C := Tryz.checked) (d := 8) (tb := 4) (by kernel_rfl) started (by kernel_rfl) Tryz.func5
  (ChangeSpec.witness_shaped (enc := enc) (C := Tryz.checked) (os := os) (X := fun w _ => laidMetH Tryz.prog Rows.wavesOfRow.laid w) false (World.laidAll Tryz.prog os Rows.wavesOfRow.laid) #[.agg #[.slice none 0 0, .slice none 0 0, .slice none 0 0, .slice none 0 0], .slice none 0 0] 8 (World.laidAll_os _ _ _)
   (World.shaped_of_ZipB (by kernel_rfl) (by kernel_rfl)) (by kernel_rfl) (by kernel_rfl) (by kernel_rfl)
   (by rw [MakeChecks.laidMetH_plain _ _ _ (by kernel_rfl)]; exact laidMet_laidAll _ (by kernel_rfl) (by kernel_rfl)))
  rfl (fun ds hl => match ds, hl with | [_, _], _ => rfl) (by kernel_rfl) (by kernel_rfl) (by kernel_rfl) (by kernel_rfl) (by kernel_rfl)
  (Ve 1000 8 NV) (by kernel_rfl) UL
theorem LF : Rows.WavesOfSaid :=
 OpenClaim.holds_of_wide 5 Tryz.f5 rfl rfl rfl rfl rfl rfl rfl ⟨rfl, rfl, rfl, rfl, rfl⟩ rfl rfl rfl rfl rfl (by kernel_rfl) Tryz.func5 (by kernel_rfl)
  (of_decide_eq_true (by kernel_rfl)) (by unfold Func.isWrapper; first | (rw [if_pos (by decide +kernel)]; kernel_rfl) | (rw [if_neg (by decide +kernel)]; exact ⟨rfl, rfl⟩))
  (fun os started H enc _ => UI os started H enc)
theorem wavesOf_said : Rows.WavesOfCardSaid :=
 Claim7.holds_tied_plain_at .later [] [.data, .data, .data] true (true, "709223896d8dc21d4abb6f17d208ec6cc1e08b0841b4c4726a91b42f2976ee8c") false LF (fun _ h => by cases h) (by kernel_rfl) (fun _ h => by cases h) wavesOf_row_tie rfl ⟨rfl, rfl⟩ (by kernel_rfl) rfl
  (fun f fn hf hfn => by
   obtain rfl : f = 5 := Option.some.inj ((show Tryz.prog.funcNamed "sheave/sheavelaw43.WavesOf" = some 5 by kernel_rfl).symm.trans hf) |>.symm
   obtain rfl : fn = Tryz.f5 := (Option.some.inj (Tryz.func5.symm.trans hfn)).symm
   exact ⟨by kernel_rfl, fun j t ht => by
    rw [Tryz.params5] at ht
    have hm : t ∈ [25, 28] := by simpa using Array.mem_of_getElem? ht
    have hall : ([25, 28].all fun u => !Tryz.prog.wantsStandIn u) = true := by kernel_rfl
    exact (show Tryz.prog.wantsStandIn t = false by simpa using List.all_eq_true.1 hall t hm)⟩)
  (by kernel_rfl)
#print axioms wavesOf_said
end Go.Proofs.YtncnphcfgojgmaaGreatDoor
