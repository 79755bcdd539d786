/- The given statement PlanFindSaid is proved: the law PlanFind holds for every input. Conditions: none but those that the statement itself names. -/
import Derived.Test.YtohibkdhajkmdaaMRef
import Derived.Test.YtohibkdhajkmdaaRows
/- The law 'planFind' holds for every input; no condition. -/
namespace Go.Proofs.Ytohibkdhajkmdaa
open Go.ChangeShapes Go.WideShapes Go.ChangeAt Go.RowKit Go.Lift
set_option maxRecDepth 100000 in
theorem Uj (os : Os) (started : os.Started) (H : Type) (enc : TypeId × Value → H) :
  ReturnsInHanded {} Try.checked os 3 .any (Rows.planFindSpec.pre6 enc Try.prog Try.f3 Rows.planFindRow.domain false) (Rows.planFindSpec.post enc Try.prog Try.f3 false true false false) :=
 Qs (C := Try.checked) (d := 8) (tb := 4) (by kernel_rfl) started (by kernel_rfl) Try.func3
  (ChangeSpec.witness6 (enc := enc) (C := Try.checked) false ⟨#[], #[.agg #[.slice none 0 0, .slice none 0 0, .slice none 0 0, .slice none 0 0]], []⟩ 8 (by kernel_rfl) (by kernel_rfl) (by kernel_rfl) (by kernel_rfl))
  rfl (fun ds hl => match ds, hl with | [_], _ => rfl) (by kernel_rfl) (by kernel_rfl) (by kernel_rfl) (by kernel_rfl) (by kernel_rfl)
  (UD 1000 8 Mr)
theorem planFind_said : Rows.PlanFindSaid :=
 OpenClaim.holds_of_wide 3 Try.f3 rfl rfl rfl rfl rfl rfl rfl ⟨rfl, rfl, rfl, rfl, rfl⟩ rfl rfl rfl rfl rfl (by kernel_rfl) Try.func3 (by kernel_rfl)
  (of_decide_eq_true (by kernel_rfl)) (by unfold Func.isWrapper; first | (rw [if_pos (by decide +kernel)]; kernel_rfl) | (rw [if_neg (by decide +kernel)]; exact ⟨rfl, rfl⟩))
  (fun os started H enc _ => Uj os started H enc)
#print axioms planFind_said
end Go.Proofs.Ytohibkdhajkmdaa

