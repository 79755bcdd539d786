/- The given statement RefuseReasonsSaid is proved: the law RefuseReasons holds for every input. Conditions: none but those that the statement itself names. -/
import Derived.Test.YtpaobkaighpaaaaGreatMReasB
import Derived.Test.YtpaobkaighpaaaaGreatRows
open Go.Proofs.Tryz renaming prog → zA0
namespace Go.Proofs.YtpaobkaighpaaaaGreat
open Go.ChangeShapes Go.WideShapes Go.ChangeAt Go.RowKit Go.Lift
set_option maxRecDepth 100000 in
theorem Yo (os : Os) (started : os.Started) (H : Type) (enc : TypeId × Value → H) :
  ReturnsInHanded {} Tryz.checked os 7 .any (Rows.refuseReasonsSpec.pre6 enc zA0 Tryz.f7 Rows.refuseReasonsRow.domain false) (Rows.refuseReasonsSpec.post enc zA0 Tryz.f7 false true false false) :=
 TF (C := Tryz.checked) (d := 8) (tb := 4) (by kernel_rfl) started (by kernel_rfl) Tryz.func7
  (ChangeSpec.witness6 (enc := enc) (C := Tryz.checked) false ⟨#[], #[.agg #[.slice none 0 0, .slice none 0 0, .slice none 0 0, .slice none 0 0]], []⟩ 8 (by kernel_rfl) (by kernel_rfl) (by kernel_rfl) (by kernel_rfl))
  rfl (fun ds hl => match ds, hl with | [_], _ => rfl) (by kernel_rfl) (by kernel_rfl) (by kernel_rfl) (by kernel_rfl) (by kernel_rfl)
  (Ym 20000 8 LB)
theorem refuseReasons_said : Rows.RefuseReasonsSaid :=
 OpenClaim.holds_of_wide 7 Tryz.f7 rfl rfl rfl rfl rfl rfl rfl ⟨rfl, rfl, rfl, rfl, rfl⟩ rfl rfl rfl rfl rfl (by kernel_rfl) Tryz.func7 (by kernel_rfl)
  (of_decide_eq_true (by kernel_rfl)) (by unfold Func.isWrapper; first | (rw [if_pos (by decide +kernel)]; kernel_rfl) | (rw [if_neg (by decide +kernel)]; exact ⟨rfl, rfl⟩))
  (fun os started H enc _ => Yo os started H enc)
#print axioms refuseReasons_said
end Go.Proofs.YtpaobkaighpaaaaGreat
