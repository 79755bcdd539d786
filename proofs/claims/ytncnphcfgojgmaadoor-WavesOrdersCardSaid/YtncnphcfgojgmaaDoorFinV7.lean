/- The given statement WavesOrdersCardSaid is proved: the law WavesOrders holds for every input. Conditions: none but those that the statement itself names. -/
import Derived.Test.YtncnphcfgojgmaaDoorMWav4
import Derived.Lay
import Derived.Stop.LaidErr
import Derived.Test.YtncnphcfgojgmaaDoorTie
import Derived.Test.YtncnphcfgojgmaaDoorCards
namespace Go.Proofs.YtncnphcfgojgmaaDoor
open Go.ChangeShapes Go.WideShapes Go.ChangeAt Go.RowKit Go.Lift
theorem Mq (W : World) (hL : laidMet Tryd.prog Rows.wavesOrdersRow.laid W) : Go.Lift.Mn Tryd.prog W (Go.Lift.KD W) :=
 Go.Lift.Oc fun x hx g hg => by
  rcases List.mem_cons.1 hx with rfl | hx
  ·obtain rfl : 0 = g := Option.some.inj ((show Tryd.prog.globalNamed "internal/strconv.uint64pow10" = some 0 by kernel_rfl).symm.trans hg)
   exact Lib.tabIs_of_head (g := 0) (t := 151) (e := 126) (n := 20) (by kernel_rfl) (by kernel_rfl) (by kernel_rfl) (by kernel_rfl) (by kernel_rfl) (by kernel_rfl) (show laidMet Tryd.prog (("internal/strconv.uint64pow10", Lib.tabData .u64 Go.Lift.NG) :: _) W from hL.tail.tail)
  rcases List.mem_cons.1 hx with rfl | hx
  ·obtain rfl : 2 = g := Option.some.inj ((show Tryd.prog.globalNamed "math/bits.deBruijn64tab" = some 2 by kernel_rfl).symm.trans hg)
   exact Lib.tabIs_of_head (g := 2) (t := 156) (e := 5) (n := 64) (by kernel_rfl) (by kernel_rfl) (by kernel_rfl) (by kernel_rfl) (by kernel_rfl) (by kernel_rfl) (show laidMet Tryd.prog (("math/bits.deBruijn64tab", Lib.tabData .u8 Go.Lift.OF) :: _) W from hL.tail)
  cases hx
set_option maxRecDepth 100000 in
theorem M5 (os : Os) (started : os.Started) (H : Type) (enc : TypeId × Value → H) :
  ReturnsInHanded {} Tryd.checked os 5 .any (fun w args => (Rows.wavesOrdersSpec.pre enc Tryd.prog Tryd.f5 Rows.wavesOrdersRow.domain false w args ∧ laidMetH Tryd.prog Rows.wavesOrdersRow.laid w) ∧ sizedMet enc Tryd.prog Tryd.f5 (OpenSpec.ofChange Rows.wavesOrdersSpec) false w args) (Rows.wavesOrdersSpec.post enc Tryd.prog Tryd.f5 false true false false) :=
 Go.Lift.Kb (C := Tryd.checked) (d := 8) (tb := 4) (by kernel_rfl) started (by kernel_rfl) Tryd.func5
  (ChangeSpec.witness_shaped (enc := enc) (C := Tryd.checked) (os := os) (X := fun w _ => laidMetH Tryd.prog Rows.wavesOrdersRow.laid w) false (World.laidAll Tryd.prog os Rows.wavesOrdersRow.laid) #[.slice none 0 0] 8 (World.laidAll_os _ _ _)
   (World.shaped_of_ZipB (by kernel_rfl) (by kernel_rfl)) (by kernel_rfl) (by kernel_rfl) (by kernel_rfl)
   (by rw [MakeChecks.laidMetH_plain _ _ _ (by kernel_rfl)]; exact laidMet_laidAll _ (by kernel_rfl) (by kernel_rfl)))
  rfl (fun ds hl => match ds, hl with | [_], _ => rfl) (by kernel_rfl) (by kernel_rfl) (by kernel_rfl) (by kernel_rfl) (by kernel_rfl)
  (M6 1000 8 Hh) (by kernel_rfl) Mq
theorem Gq : Rows.WavesOrdersSaid :=
 OpenClaim.holds_of_wide 5 Tryd.f5 rfl rfl rfl rfl rfl rfl rfl ⟨rfl, rfl, rfl, rfl, rfl⟩ rfl rfl rfl rfl rfl (by kernel_rfl) Tryd.func5 (by kernel_rfl)
  (of_decide_eq_true (by kernel_rfl)) (by unfold Func.isWrapper; first | (rw [if_pos (by decide +kernel)]; kernel_rfl) | (rw [if_neg (by decide +kernel)]; exact ⟨rfl, rfl⟩))
  (fun os started H enc _ => M5 os started H enc)
theorem wavesOrders_said : Rows.WavesOrdersCardSaid :=
 Claim7.holds_tied_plain_at .later [] [.data, .data, .data] true (true, "b9b3f5dfc8403cf1e27b77ffa00266c79291a758b11500337d5b3e9584ee196b") false Gq (fun _ h => by cases h) (by kernel_rfl) (fun _ h => by cases h) wavesOrders_row_tie rfl ⟨rfl, rfl⟩ (by kernel_rfl) rfl
  (fun f fn hf hfn => by
   obtain rfl : f = 5 := Option.some.inj ((show Tryd.prog.funcNamed "sheave/sheavelaw43.WavesOrders" = some 5 by kernel_rfl).symm.trans hf) |>.symm
   obtain rfl : fn = Tryd.f5 := (Option.some.inj (Tryd.func5.symm.trans hfn)).symm
   exact ⟨by kernel_rfl, fun j t ht => by
    rw [Tryd.params5] at ht
    have hm : t ∈ [22] := by simpa using Array.mem_of_getElem? ht
    have hall : ([22].all fun u => !Tryd.prog.wantsStandIn u) = true := by kernel_rfl
    exact (show Tryd.prog.wantsStandIn t = false by simpa using List.all_eq_true.1 hall t hm)⟩)
  (by kernel_rfl)
#print axioms wavesOrders_said
end Go.Proofs.YtncnphcfgojgmaaDoor
