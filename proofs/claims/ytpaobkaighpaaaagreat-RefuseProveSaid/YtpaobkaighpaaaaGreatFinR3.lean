/- The given statement RefuseProveSaid is proved: the law RefuseProve holds for every input. Conditions: none but those that the statement itself names. -/
import Derived.Test.YtpaobkaighpaaaaGreatMCert3
import Derived.Test.YtpaobkaighpaaaaGreatRows
namespace Go.Proofs.YtpaobkaighpaaaaGreat
open Go.ChangeShapes Go.WideShapes Go.ChangeAt Go.RowKit Go.Lift
set_option maxRecDepth 100000 in
theorem WE (os : Os) (started : os.Started) (H : Type) (enc : TypeId × Value → H) :
  ReturnsInHanded {} Tryz.checked os 3 .any (Rows.refuseProveSpec.pre6 enc Tryz.prog Tryz.f3 Rows.refuseProveRow.domain false) (Rows.refuseProveSpec.post enc Tryz.prog Tryz.f3 false true false false) :=
 Sz (C := Tryz.checked) (d := 8) (tb := 4) (by kernel_rfl) started (by kernel_rfl) Tryz.func3
  (ChangeSpec.witness6 (enc := enc) (C := Tryz.checked) false ⟨#[], #[.agg #[.slice none 0 0, .slice none 0 0, .slice none 0 0, .slice none 0 0]], []⟩ 8 (by kernel_rfl) (by kernel_rfl) (by kernel_rfl) (by kernel_rfl))
  rfl (fun ds hl => match ds, hl with | [_], _ => rfl) (by kernel_rfl) (by kernel_rfl) (by kernel_rfl) (by kernel_rfl) (by kernel_rfl)
  (Wu 2000 8 Mc)
theorem refuseProve_said : Rows.RefuseProveSaid :=
 OpenClaim.holds_of_wide 3 Tryz.f3 rfl rfl rfl rfl rfl rfl rfl ⟨rfl, rfl, rfl, rfl, rfl⟩ rfl rfl rfl rfl rfl (by kernel_rfl) Tryz.func3 (by kernel_rfl)
  (of_decide_eq_true (by kernel_rfl)) (by unfold Func.isWrapper; first | (rw [if_pos (by decide +kernel)]; kernel_rfl) | (rw [if_neg (by decide +kernel)]; exact ⟨rfl, rfl⟩))
  (fun os started H enc _ => WE os started H enc)
#print axioms refuseProve_said
end Go.Proofs.YtpaobkaighpaaaaGreat
