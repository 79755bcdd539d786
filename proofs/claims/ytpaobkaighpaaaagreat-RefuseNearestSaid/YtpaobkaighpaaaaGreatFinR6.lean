/- The given statement RefuseNearestSaid is proved: the law RefuseNearest holds for every input. Conditions: none but those that the statement itself names. -/
import Derived.Test.YtpaobkaighpaaaaGreatMNear
import Derived.Test.YtpaobkaighpaaaaGreatRows
/- The law 'refuseNearest' holds for every input; no condition. -/
namespace Go.Proofs.YtpaobkaighpaaaaGreat
open Go.ChangeShapes Go.WideShapes Go.ChangeAt Go.RowKit Go.Lift
set_option maxRecDepth 100000 in
theorem Sk (os : Os) (started : os.Started) (H : Type) (enc : TypeId × Value → H) :
  ReturnsInHanded {} Tryz.checked os 6 .any (Rows.refuseNearestSpec.pre6 enc Tryz.prog Tryz.f6 Rows.refuseNearestRow.domain false) (Rows.refuseNearestSpec.post enc Tryz.prog Tryz.f6 false true false false) :=
 Pu (C := Tryz.checked) (d := 8) (tb := 4) (by kernel_rfl) started (by kernel_rfl) Tryz.func6
  (ChangeSpec.witness6 (enc := enc) (C := Tryz.checked) false ⟨#[], #[.agg #[.slice none 0 0, .slice none 0 0, .slice none 0 0, .slice none 0 0], .slice none 0 0], []⟩ 8 (by kernel_rfl) (by kernel_rfl) (by kernel_rfl) (by kernel_rfl))
  rfl (fun ds hl => match ds, hl with | [_, _], _ => rfl) (by kernel_rfl) (by kernel_rfl) (by kernel_rfl) (by kernel_rfl) (by kernel_rfl)
  (So 1000 8 Kx)
theorem refuseNearest_said : Rows.RefuseNearestSaid :=
 OpenClaim.holds_of_wide 6 Tryz.f6 rfl rfl rfl rfl rfl rfl rfl ⟨rfl, rfl, rfl, rfl, rfl⟩ rfl rfl rfl rfl rfl (by kernel_rfl) Tryz.func6 (by kernel_rfl)
  (of_decide_eq_true (by kernel_rfl)) (by unfold Func.isWrapper; first | (rw [if_pos (by decide +kernel)]; kernel_rfl) | (rw [if_neg (by decide +kernel)]; exact ⟨rfl, rfl⟩))
  (fun os started H enc _ => Sk os started H enc)
#print axioms refuseNearest_said
end Go.Proofs.YtpaobkaighpaaaaGreat

