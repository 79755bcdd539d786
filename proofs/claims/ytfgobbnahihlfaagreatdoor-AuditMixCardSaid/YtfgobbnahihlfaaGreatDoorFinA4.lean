/- The given statement AuditMixCardSaid is proved: the law AuditMix holds for every input. Conditions: none but those that the statement itself names. -/
import Derived.Test.YtfgobbnahihlfaaGreatDoorMAud15
import Derived.Lay
import Derived.Stop.LaidErr
import Derived.Test.YtfgobbnahihlfaaGreatDoorTie
import Derived.Test.YtfgobbnahihlfaaGreatDoorCards
open List renaming all_eq_true → uT, mem_cons → vS
open Go.Proofs.Tryz renaming prog → uS
namespace Go.Proofs.YtfgobbnahihlfaaGreatDoor
open Go.ChangeShapes Go.WideShapes Go.ChangeAt Go.RowKit Go.Lift
theorem SG (W : World) (hL : laidMet uS Rows.auditMixRow.laid W) : Go.Lift.RY uS W (Go.Lift.O7 W) :=
 Go.Lift.TY fun x hx g hg => by
  rcases vS.1 hx with rfl | hx
  ·obtain rfl : 0 = g := Option.some.inj ((show Tryz.prog.globalNamed "internal/strconv.uint64pow10" = some 0 by kernel_rfl).symm.trans hg)
   exact Lib.tabIs_of_head (g := 0) (t := 241) (e := 214) (n := 20) (by kernel_rfl) (by kernel_rfl) (by kernel_rfl) (by kernel_rfl) (by kernel_rfl) (by kernel_rfl) (show laidMet uS (("internal/strconv.uint64pow10", Lib.tabData .u64 Go.Lift.R9) :: _) W from hL.tail.tail)
  rcases vS.1 hx with rfl | hx
  ·obtain rfl : 2 = g := Option.some.inj ((show Tryz.prog.globalNamed "math/bits.deBruijn64tab" = some 2 by kernel_rfl).symm.trans hg)
   exact Lib.tabIs_of_head (g := 2) (t := 262) (e := 5) (n := 64) (by kernel_rfl) (by kernel_rfl) (by kernel_rfl) (by kernel_rfl) (by kernel_rfl) (by kernel_rfl) (show laidMet uS (("math/bits.deBruijn64tab", Lib.tabData .u8 Go.Lift.UY) :: _) W from hL.tail)
  cases hx
set_option maxRecDepth 100000 in
theorem Sl (os : Os) (started : os.Started) (H : Type) (enc : TypeId × Value → H) :
  ReturnsInHanded {} Tryz.checked os 4 .any (fun w args => (Rows.auditMixSpec.pre enc uS Tryz.f4 Rows.auditMixRow.domain false w args ∧ laidMetH uS Rows.auditMixRow.laid w) ∧ sizedMet enc uS Tryz.f4 (OpenSpec.ofChange Rows.auditMixSpec) false w args) (Rows.auditMixSpec.post enc uS Tryz.f4 false true false false) :=
 Go.Lift.Oa (C := Tryz.checked) (d := 8) (tb := 4) (by kernel_rfl) started (by kernel_rfl) Tryz.func4
  (ChangeSpec.witness_shaped (enc := enc) (C := Tryz.checked) (os := os) (X := fun w _ => laidMetH uS Rows.auditMixRow.laid w) false (World.laidAll uS os Rows.auditMixRow.laid) #[.agg #[.slice none 0 0, .slice none 0 0, .slice none 0 0, .slice none 0 0, .slice none 0 0, .slice none 0 0, .slice none 0 0]] 8 (World.laidAll_os _ _ _)
   (World.shaped_of_ZipB (by kernel_rfl) (by kernel_rfl)) (by kernel_rfl) (by kernel_rfl) (by kernel_rfl)
   (by rw [MakeChecks.laidMetH_plain _ _ _ (by kernel_rfl)]; exact laidMet_laidAll _ (by kernel_rfl) (by kernel_rfl)))
  rfl (fun ds hl => match ds, hl with | [_], _ => rfl) (by kernel_rfl) (by kernel_rfl) (by kernel_rfl) (by kernel_rfl) (by kernel_rfl)
  (Sr 20000 8 Lf) (by kernel_rfl) SG
theorem JC : Rows.AuditMixSaid :=
 OpenClaim.holds_of_wide 4 Tryz.f4 rfl rfl rfl rfl rfl rfl rfl ⟨rfl, rfl, rfl, rfl, rfl⟩ rfl rfl rfl rfl rfl (by kernel_rfl) Tryz.func4 (by kernel_rfl)
  (of_decide_eq_true (by kernel_rfl)) (by unfold Func.isWrapper; first | (rw [if_pos (by decide +kernel)]; kernel_rfl) | (rw [if_neg (by decide +kernel)]; exact ⟨rfl, rfl⟩))
  (fun os started H enc _ => Sl os started H enc)
theorem auditMix_said : Rows.AuditMixCardSaid :=
 Claim7.holds_tied_plain_at .later [] [.data, .data, .data] true (true, "f02cfd2a81092eafde4a34b1e110c34e956ef007a8919ef01295b10445f264fb") false JC (fun _ h => by cases h) (by kernel_rfl) (fun _ h => by cases h) auditMix_row_tie rfl ⟨rfl, rfl⟩ (by kernel_rfl) rfl
  (fun f fn hf hfn => by
   obtain rfl : f = 4 := Option.some.inj ((show Tryz.prog.funcNamed "sheave/sheavelaw57.AuditMix" = some 4 by kernel_rfl).symm.trans hf) |>.symm
   obtain rfl : fn = Tryz.f4 := (Option.some.inj (Tryz.func4.symm.trans hfn)).symm
   exact ⟨by kernel_rfl, fun j t ht => by
    rw [Tryz.params4] at ht
    have hm : t ∈ [29] := by simpa using Array.mem_of_getElem? ht
    have hall : ([29].all fun u => !Tryz.prog.wantsStandIn u) = true := by kernel_rfl
    exact (show Tryz.prog.wantsStandIn t = false by simpa using uT.1 hall t hm)⟩)
  (by kernel_rfl)
#print axioms auditMix_said
end Go.Proofs.YtfgobbnahihlfaaGreatDoor
