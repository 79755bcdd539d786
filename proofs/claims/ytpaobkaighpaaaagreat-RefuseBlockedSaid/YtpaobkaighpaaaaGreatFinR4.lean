/- The given statement RefuseBlockedSaid is proved: the law RefuseBlocked holds for every input. Conditions: none but those that the statement itself names. -/
import Derived.Test.YtpaobkaighpaaaaGreatMRef
import Derived.Test.YtpaobkaighpaaaaGreatRows
/- The law 'refuseBlocked' holds for every input; no condition. -/
namespace Go.Proofs.YtpaobkaighpaaaaGreat
open Go.ChangeShapes Go.WideShapes Go.ChangeAt Go.RowKit Go.Lift
set_option maxRecDepth 100000 in
theorem Vo (os : Os) (started : os.Started) (H : Type) (enc : TypeId × Value → H) :
  ReturnsInHanded {} Tryz.checked os 4 .any (Rows.refuseBlockedSpec.pre6 enc Tryz.prog Tryz.f4 Rows.refuseBlockedRow.domain false) (Rows.refuseBlockedSpec.post enc Tryz.prog Tryz.f4 false true false false) :=
 Sb (C := Tryz.checked) (d := 8) (tb := 4) (by kernel_rfl) started (by kernel_rfl) Tryz.func4
  (ChangeSpec.witness6 (enc := enc) (C := Tryz.checked) false ⟨#[], #[.agg #[.slice none 0 0, .slice none 0 0, .slice none 0 0, .slice none 0 0], .agg #[.slice none 0 0, .slice none 0 0, .slice none 0 0]], []⟩ 8 (by kernel_rfl) (by kernel_rfl) (by kernel_rfl) (by kernel_rfl))
  rfl (fun ds hl => match ds, hl with | [_, _], _ => rfl) (by kernel_rfl) (by kernel_rfl) (by kernel_rfl) (by kernel_rfl) (by kernel_rfl)
  (Vm 1000 8 L2)
theorem refuseBlocked_said : Rows.RefuseBlockedSaid :=
 OpenClaim.holds_of_wide 4 Tryz.f4 rfl rfl rfl rfl rfl rfl rfl ⟨rfl, rfl, rfl, rfl, rfl⟩ rfl rfl rfl rfl rfl (by kernel_rfl) Tryz.func4 (by kernel_rfl)
  (of_decide_eq_true (by kernel_rfl)) (by unfold Func.isWrapper; first | (rw [if_pos (by decide +kernel)]; kernel_rfl) | (rw [if_neg (by decide +kernel)]; exact ⟨rfl, rfl⟩))
  (fun os started H enc _ => Vo os started H enc)
#print axioms refuseBlocked_said
end Go.Proofs.YtpaobkaighpaaaaGreat

