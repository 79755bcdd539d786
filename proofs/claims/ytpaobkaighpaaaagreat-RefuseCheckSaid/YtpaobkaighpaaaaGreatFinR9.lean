/- The given statement RefuseCheckSaid is proved: the law RefuseCheck holds for every input. Conditions: none but those that the statement itself names. -/
import Derived.Test.YtpaobkaighpaaaaGreatMChk
import Derived.Test.YtpaobkaighpaaaaGreatRows
open Go.Proofs.Tryz renaming prog → uS
namespace Go.Proofs.YtpaobkaighpaaaaGreat
open Go.ChangeShapes Go.WideShapes Go.ChangeAt Go.RowKit Go.Lift
set_option maxRecDepth 100000 in
theorem We (os : Os) (started : os.Started) (H : Type) (enc : TypeId × Value → H) :
  ReturnsInHanded {} Tryz.checked os 9 .any (Rows.refuseCheckSpec.pre6 enc uS Tryz.f9 Rows.refuseCheckRow.domain false) (Rows.refuseCheckSpec.post enc uS Tryz.f9 false true false false) :=
 Sg (C := Tryz.checked) (d := 8) (tb := 4) (by kernel_rfl) started (by kernel_rfl) Tryz.func9
  (ChangeSpec.witness6 (enc := enc) (C := Tryz.checked) false ⟨#[], #[.agg #[.slice none 0 0, .slice none 0 0, .slice none 0 0, .slice none 0 0], .agg #[.int .u8 0, .int .u8 0, .slice none 0 0, .slice none 0 0, .slice none 0 0]], []⟩ 8 (by kernel_rfl) (by kernel_rfl) (by kernel_rfl) (by kernel_rfl))
  rfl (fun ds hl => match ds, hl with | [_, _], _ => rfl) (by kernel_rfl) (by kernel_rfl) (by kernel_rfl) (by kernel_rfl) (by kernel_rfl)
  (Wo 2000 8 My)
theorem refuseCheck_said : Rows.RefuseCheckSaid :=
 OpenClaim.holds_of_wide 9 Tryz.f9 rfl rfl rfl rfl rfl rfl rfl ⟨rfl, rfl, rfl, rfl, rfl⟩ rfl rfl rfl rfl rfl (by kernel_rfl) Tryz.func9 (by kernel_rfl)
  (of_decide_eq_true (by kernel_rfl)) (by unfold Func.isWrapper; first | (rw [if_pos (by decide +kernel)]; kernel_rfl) | (rw [if_neg (by decide +kernel)]; exact ⟨rfl, rfl⟩))
  (fun os started H enc _ => We os started H enc)
#print axioms refuseCheck_said
end Go.Proofs.YtpaobkaighpaaaaGreat
