/- The given statement AuditPartsCardSaid is proved: the law AuditParts holds for every input. Conditions: none but those that the statement itself names. -/
import Derived.Test.YtfgobbnahihlfaaGreatDoorMAud17
import Derived.Lay
import Derived.Stop.LaidErr
import Derived.Test.YtfgobbnahihlfaaGreatDoorTie
import Derived.Test.YtfgobbnahihlfaaGreatDoorCards
open List renaming all_eq_true → zD, mem_cons → zX
open Go.Proofs.Tryz renaming prog → zA
namespace Go.Proofs.YtfgobbnahihlfaaGreatDoor
open Go.ChangeShapes Go.WideShapes Go.ChangeAt Go.RowKit Go.Lift
theorem Um (W : World) (hL : laidMet zA Rows.auditPartsRow.laid W) : Go.Lift.TC zA W (Go.Lift.QG W) :=
 Go.Lift.VL fun x hx g hg => by
  rcases zX.1 hx with rfl | hx
  ·obtain rfl : 0 = g := Option.some.inj ((show Tryz.prog.globalNamed "internal/strconv.uint64pow10" = some 0 by kernel_rfl).symm.trans hg)
   exact Lib.tabIs_of_head (g := 0) (t := 241) (e := 214) (n := 20) (by kernel_rfl) (by kernel_rfl) (by kernel_rfl) (by kernel_rfl) (by kernel_rfl) (by kernel_rfl) (show laidMet zA (("internal/strconv.uint64pow10", Lib.tabData .u64 Go.Lift.Uz) :: _) W from hL.tail.tail)
  rcases zX.1 hx with rfl | hx
  ·obtain rfl : 2 = g := Option.some.inj ((show Tryz.prog.globalNamed "math/bits.deBruijn64tab" = some 2 by kernel_rfl).symm.trans hg)
   exact Lib.tabIs_of_head (g := 2) (t := 262) (e := 5) (n := 64) (by kernel_rfl) (by kernel_rfl) (by kernel_rfl) (by kernel_rfl) (by kernel_rfl) (by kernel_rfl) (show laidMet zA (("math/bits.deBruijn64tab", Lib.tabData .u8 Go.Lift.Xw) :: _) W from hL.tail)
  cases hx
set_option maxRecDepth 100000 in
theorem TY (os : Os) (started : os.Started) (H : Type) (enc : TypeId × Value → H) :
  ReturnsInHanded {} Tryz.checked os 9 .any (fun w args => (Rows.auditPartsSpec.pre enc zA Tryz.f9 Rows.auditPartsRow.domain false w args ∧ laidMetH zA Rows.auditPartsRow.laid w) ∧ sizedMet enc zA Tryz.f9 (OpenSpec.ofChange Rows.auditPartsSpec) false w args) (Rows.auditPartsSpec.post enc zA Tryz.f9 false true false false) :=
 Go.Lift.P4 (C := Tryz.checked) (d := 8) (tb := 4) (by kernel_rfl) started (by kernel_rfl) Tryz.func9
  (ChangeSpec.witness_shaped (enc := enc) (C := Tryz.checked) (os := os) (X := fun w _ => laidMetH zA Rows.auditPartsRow.laid w) false (World.laidAll zA os Rows.auditPartsRow.laid) #[.agg #[.slice none 0 0, .slice none 0 0, .slice none 0 0, .slice none 0 0, .slice none 0 0, .slice none 0 0, .slice none 0 0]] 8 (World.laidAll_os _ _ _)
   (World.shaped_of_ZipB (by kernel_rfl) (by kernel_rfl)) (by kernel_rfl) (by kernel_rfl) (by kernel_rfl)
   (by rw [MakeChecks.laidMetH_plain _ _ _ (by kernel_rfl)]; exact laidMet_laidAll _ (by kernel_rfl) (by kernel_rfl)))
  rfl (fun ds hl => match ds, hl with | [_], _ => rfl) (by kernel_rfl) (by kernel_rfl) (by kernel_rfl) (by kernel_rfl) (by kernel_rfl)
  (TW 20000 8 Lb) (by kernel_rfl) Um
theorem JQ : Rows.AuditPartsSaid :=
 OpenClaim.holds_of_wide 9 Tryz.f9 rfl rfl rfl rfl rfl rfl rfl ⟨rfl, rfl, rfl, rfl, rfl⟩ rfl rfl rfl rfl rfl (by kernel_rfl) Tryz.func9 (by kernel_rfl)
  (of_decide_eq_true (by kernel_rfl)) (by unfold Func.isWrapper; first | (rw [if_pos (by decide +kernel)]; kernel_rfl) | (rw [if_neg (by decide +kernel)]; exact ⟨rfl, rfl⟩))
  (fun os started H enc _ => TY os started H enc)
theorem auditParts_said : Rows.AuditPartsCardSaid :=
 Claim7.holds_tied_plain_at .later [] [.data, .data, .data] true (true, "f02cfd2a81092eafde4a34b1e110c34e956ef007a8919ef01295b10445f264fb") false JQ (fun _ h => by cases h) (by kernel_rfl) (fun _ h => by cases h) auditParts_row_tie rfl ⟨rfl, rfl⟩ (by kernel_rfl) rfl
  (fun f fn hf hfn => by
   obtain rfl : f = 9 := Option.some.inj ((show Tryz.prog.funcNamed "sheave/sheavelaw57.AuditParts" = some 9 by kernel_rfl).symm.trans hf) |>.symm
   obtain rfl : fn = Tryz.f9 := (Option.some.inj (Tryz.func9.symm.trans hfn)).symm
   exact ⟨by kernel_rfl, fun j t ht => by
    rw [Tryz.params9] at ht
    have hm : t ∈ [29] := by simpa using Array.mem_of_getElem? ht
    have hall : ([29].all fun u => !Tryz.prog.wantsStandIn u) = true := by kernel_rfl
    exact (show Tryz.prog.wantsStandIn t = false by simpa using zD.1 hall t hm)⟩)
  (by kernel_rfl)
#print axioms auditParts_said
end Go.Proofs.YtfgobbnahihlfaaGreatDoor
