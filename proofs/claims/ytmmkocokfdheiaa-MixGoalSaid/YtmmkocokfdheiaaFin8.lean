/- The given statement MixGoalSaid is proved: the law MixGoal holds for every input. Conditions: none but those that the statement itself names. -/
/- The law 'mixGoal' holds for every input; no condition. -/
import Derived.Test.YtmmkocokfdheiaaDec
import Derived.Test.YtmmkocokfdheiaaMLaw36b
import Derived.Test.YtmmkocokfdheiaaRows
namespace Go.Proofs.Ytmmkocokfdheiaa
open Go.ChangeShapes Go.WideShapes Go.ChangeAt Go.RowKit Go.Lift

set_option maxRecDepth 100000 in
theorem lifted8 (os : Os) (started : os.Started) (H : Type) (enc : TypeId × Value → H) :
    ReturnsInHanded {} Try.checked os 8 .any (Rows.mixGoalSpec.pre6 enc Try.prog Try.f8 Rows.mixGoalRow.domain false) (Rows.mixGoalSpec.post enc Try.prog Try.f8 false true false false) :=
  law_lifted (C := Try.checked) (d := 8) (tb := 4) (by kernel_rfl) started (by kernel_rfl) Try.func8
    (ChangeSpec.witness6 (enc := enc) (C := Try.checked) false ⟨#[], #[.agg #[.slice none 0 0, .slice none 0 0, .slice none 0 0, .slice none 0 0], .agg #[.slice none 0 0, .slice none 0 0, .slice none 0 0]], []⟩ 8 (by kernel_rfl) (by kernel_rfl) (by kernel_rfl) (by kernel_rfl))
    rfl (fun ds hl => match ds, hl with | [_, _], _ => rfl) (by kernel_rfl) (by kernel_rfl) (by kernel_rfl) (by kernel_rfl) (by kernel_rfl)
    (entry_8 1000 8 mixGoal_plain)

theorem mixGoal_said : Rows.MixGoalSaid :=
  OpenClaim.holds_of_wide 8 Try.f8 rfl rfl rfl rfl rfl rfl rfl ⟨rfl, rfl, rfl, rfl, rfl⟩ rfl rfl rfl rfl rfl (by kernel_rfl) Try.func8 (by kernel_rfl)
    (of_decide_eq_true (by kernel_rfl)) (by unfold Func.isWrapper; first | (rw [if_pos (by decide +kernel)]; kernel_rfl) | (rw [if_neg (by decide +kernel)]; exact ⟨rfl, rfl⟩))
    (fun os started H enc _ => lifted8 os started H enc)
#print axioms mixGoal_said
end Go.Proofs.Ytmmkocokfdheiaa
