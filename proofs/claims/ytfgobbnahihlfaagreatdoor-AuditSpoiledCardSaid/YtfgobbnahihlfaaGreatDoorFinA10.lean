/- The given statement AuditSpoiledCardSaid is proved: the law AuditSpoiled holds for every input. Conditions: none but those that the statement itself names. -/
import Derived.Test.YtfgobbnahihlfaaGreatDoorMAud18
import Derived.Lay
import Derived.Stop.LaidErr
import Derived.Test.YtfgobbnahihlfaaGreatDoorTie
import Derived.Test.YtfgobbnahihlfaaGreatDoorCards
open List renaming all_eq_true → zA2, mem_cons → zB6
open Go.Proofs.Tryz renaming prog → zA0
namespace Go.Proofs.YtfgobbnahihlfaaGreatDoor
open Go.ChangeShapes Go.WideShapes Go.ChangeAt Go.RowKit Go.Lift
theorem Sa (W : World) (hL : laidMet zA0 Rows.auditSpoiledRow.laid W) : Go.Lift.Si zA0 W (Go.Lift.P0 W) :=
 Go.Lift.UK fun x hx g hg => by
  rcases zB6.1 hx with rfl | hx
  ·obtain rfl : 0 = g := Option.some.inj ((show Tryz.prog.globalNamed "internal/strconv.uint64pow10" = some 0 by kernel_rfl).symm.trans hg)
   exact Lib.tabIs_of_head (g := 0) (t := 241) (e := 214) (n := 20) (by kernel_rfl) (by kernel_rfl) (by kernel_rfl) (by kernel_rfl) (by kernel_rfl) (by kernel_rfl) (show laidMet zA0 (("internal/strconv.uint64pow10", Lib.tabData .u64 Go.Lift.SQ) :: _) W from hL.tail.tail)
  rcases zB6.1 hx with rfl | hx
  ·obtain rfl : 2 = g := Option.some.inj ((show Tryz.prog.globalNamed "math/bits.deBruijn64tab" = some 2 by kernel_rfl).symm.trans hg)
   exact Lib.tabIs_of_head (g := 2) (t := 262) (e := 5) (n := 64) (by kernel_rfl) (by kernel_rfl) (by kernel_rfl) (by kernel_rfl) (by kernel_rfl) (by kernel_rfl) (show laidMet zA0 (("math/bits.deBruijn64tab", Lib.tabData .u8 Go.Lift.WD) :: _) W from hL.tail)
  cases hx
set_option maxRecDepth 100000 in
theorem Rw (os : Os) (started : os.Started) (H : Type) (enc : TypeId × Value → H) :
  ReturnsInHanded {} Tryz.checked os 10 .any (fun w args => (Rows.auditSpoiledSpec.pre enc zA0 Tryz.f10 Rows.auditSpoiledRow.domain false w args ∧ laidMetH zA0 Rows.auditSpoiledRow.laid w) ∧ sizedMet enc zA0 Tryz.f10 (OpenSpec.ofChange Rows.auditSpoiledSpec) false w args) (Rows.auditSpoiledSpec.post enc zA0 Tryz.f10 false true false false) :=
 Go.Lift.OE (C := Tryz.checked) (d := 8) (tb := 4) (by kernel_rfl) started (by kernel_rfl) Tryz.func10
  (ChangeSpec.witness_shaped (enc := enc) (C := Tryz.checked) (os := os) (X := fun w _ => laidMetH zA0 Rows.auditSpoiledRow.laid w) false (World.laidAll zA0 os Rows.auditSpoiledRow.laid) #[.agg #[.slice none 0 0, .slice none 0 0, .slice none 0 0, .slice none 0 0, .slice none 0 0, .slice none 0 0, .slice none 0 0], .int .u8 0] 8 (World.laidAll_os _ _ _)
   (World.shaped_of_ZipB (by kernel_rfl) (by kernel_rfl)) (by kernel_rfl) (by kernel_rfl) (by kernel_rfl)
   (by rw [MakeChecks.laidMetH_plain _ _ _ (by kernel_rfl)]; exact laidMet_laidAll _ (by kernel_rfl) (by kernel_rfl)))
  rfl (fun ds hl => match ds, hl with | [_, _], _ => rfl) (by kernel_rfl) (by kernel_rfl) (by kernel_rfl) (by kernel_rfl) (by kernel_rfl)
  (Se 20000 8 Jw) (by kernel_rfl) Sa
theorem Im : Rows.AuditSpoiledSaid :=
 OpenClaim.holds_of_wide 10 Tryz.f10 rfl rfl rfl rfl rfl rfl rfl ⟨rfl, rfl, rfl, rfl, rfl⟩ rfl rfl rfl rfl rfl (by kernel_rfl) Tryz.func10 (by kernel_rfl)
  (of_decide_eq_true (by kernel_rfl)) (by unfold Func.isWrapper; first | (rw [if_pos (by decide +kernel)]; kernel_rfl) | (rw [if_neg (by decide +kernel)]; exact ⟨rfl, rfl⟩))
  (fun os started H enc _ => Rw os started H enc)
theorem auditSpoiled_said : Rows.AuditSpoiledCardSaid :=
 Claim7.holds_tied_plain_at .later [] [.data, .data, .data] true (true, "f02cfd2a81092eafde4a34b1e110c34e956ef007a8919ef01295b10445f264fb") false Im (fun _ h => by cases h) (by kernel_rfl) (fun _ h => by cases h) auditSpoiled_row_tie rfl ⟨rfl, rfl⟩ (by kernel_rfl) rfl
  (fun f fn hf hfn => by
   obtain rfl : f = 10 := Option.some.inj ((show Tryz.prog.funcNamed "sheave/sheavelaw57.AuditSpoiled" = some 10 by kernel_rfl).symm.trans hf) |>.symm
   obtain rfl : fn = Tryz.f10 := (Option.some.inj (Tryz.func10.symm.trans hfn)).symm
   exact ⟨by kernel_rfl, fun j t ht => by
    rw [Tryz.params10] at ht
    have hm : t ∈ [29, 5] := by simpa using Array.mem_of_getElem? ht
    have hall : ([29, 5].all fun u => !Tryz.prog.wantsStandIn u) = true := by kernel_rfl
    exact (show Tryz.prog.wantsStandIn t = false by simpa using zA2.1 hall t hm)⟩)
  (by kernel_rfl)
#print axioms auditSpoiled_said
end Go.Proofs.YtfgobbnahihlfaaGreatDoor
