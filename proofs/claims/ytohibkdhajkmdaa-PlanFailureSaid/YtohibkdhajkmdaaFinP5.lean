/- The given statement PlanFailureSaid is proved: the law PlanFailure holds for every input. Conditions: none but those that the statement itself names. -/
import Derived.Test.YtohibkdhajkmdaaMSteps2
import Derived.Test.YtohibkdhajkmdaaRows
/- The law 'planFailure' holds for every input; no condition. -/
namespace Go.Proofs.Ytohibkdhajkmdaa
open Go.ChangeShapes Go.WideShapes Go.ChangeAt Go.RowKit Go.Lift
set_option maxRecDepth 100000 in
theorem lifted5 (os : Os) (started : os.Started) (H : Type) (enc : TypeId × Value → H) :
    ReturnsInHanded {} Try.checked os 5 .any (Rows.planFailureSpec.pre6 enc Try.prog Try.f5 Rows.planFailureRow.domain false) (Rows.planFailureSpec.post enc Try.prog Try.f5 false true false false) :=
  law_lifted (C := Try.checked) (d := 8) (tb := 4) (by kernel_rfl) started (by kernel_rfl) Try.func5
    (ChangeSpec.witness6 (enc := enc) (C := Try.checked) false ⟨#[], #[.agg #[.slice none 0 0, .slice none 0 0, .slice none 0 0, .slice none 0 0], .slice none 0 0], []⟩ 8 (by kernel_rfl) (by kernel_rfl) (by kernel_rfl) (by kernel_rfl))
    rfl (fun ds hl => match ds, hl with | [_, _], _ => rfl) (by kernel_rfl) (by kernel_rfl) (by kernel_rfl) (by kernel_rfl) (by kernel_rfl)
    (entry_5 1000 8 planFailure_plain)
theorem planFailure_said : Rows.PlanFailureSaid :=
  OpenClaim.holds_of_wide 5 Try.f5 rfl rfl rfl rfl rfl rfl rfl ⟨rfl, rfl, rfl, rfl, rfl⟩ rfl rfl rfl rfl rfl (by kernel_rfl) Try.func5 (by kernel_rfl)
    (of_decide_eq_true (by kernel_rfl)) (by unfold Func.isWrapper; first | (rw [if_pos (by decide +kernel)]; kernel_rfl) | (rw [if_neg (by decide +kernel)]; exact ⟨rfl, rfl⟩))
    (fun os started H enc _ => lifted5 os started H enc)
#print axioms planFailure_said
end Go.Proofs.Ytohibkdhajkmdaa

