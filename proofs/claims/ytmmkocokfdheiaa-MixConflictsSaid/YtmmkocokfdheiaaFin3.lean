/- The given statement MixConflictsSaid is proved: the law MixConflicts holds for every input. Conditions: none but those that the statement itself names. -/
/- The law 'mixConflicts' holds for every input; no condition. -/
import Derived.Test.YtmmkocokfdheiaaDec
import Derived.Test.YtmmkocokfdheiaaMLaw36
import Derived.Test.YtmmkocokfdheiaaRows
namespace Go.Proofs.Ytmmkocokfdheiaa
open Go.ChangeShapes Go.WideShapes Go.ChangeAt Go.RowKit Go.Lift

set_option maxRecDepth 100000 in
theorem lifted3 (os : Os) (started : os.Started) (H : Type) (enc : TypeId × Value → H) :
    ReturnsInHanded {} Try.checked os 3 .any (Rows.mixConflictsSpec.pre6 enc Try.prog Try.f3 Rows.mixConflictsRow.domain false) (Rows.mixConflictsSpec.post enc Try.prog Try.f3 false true false false) :=
  law_lifted (C := Try.checked) (d := 8) (tb := 4) (by kernel_rfl) started (by kernel_rfl) Try.func3
    (ChangeSpec.witness6 (enc := enc) (C := Try.checked) false ⟨#[], #[.agg #[.slice none 0 0, .slice none 0 0, .slice none 0 0, .slice none 0 0], .agg #[.slice none 0 0, .slice none 0 0, .slice none 0 0]], []⟩ 8 (by kernel_rfl) (by kernel_rfl) (by kernel_rfl) (by kernel_rfl))
    rfl (fun ds hl => match ds, hl with | [_, _], _ => rfl) (by kernel_rfl) (by kernel_rfl) (by kernel_rfl) (by kernel_rfl) (by kernel_rfl)
    (entry_3 1000 8 mixConflicts_plain)

theorem mixConflicts_said : Rows.MixConflictsSaid :=
  OpenClaim.holds_of_wide 3 Try.f3 rfl rfl rfl rfl rfl rfl rfl ⟨rfl, rfl, rfl, rfl, rfl⟩ rfl rfl rfl rfl rfl (by kernel_rfl) Try.func3 (by kernel_rfl)
    (of_decide_eq_true (by kernel_rfl)) (by unfold Func.isWrapper; first | (rw [if_pos (by decide +kernel)]; kernel_rfl) | (rw [if_neg (by decide +kernel)]; exact ⟨rfl, rfl⟩))
    (fun os started H enc _ => lifted3 os started H enc)
#print axioms mixConflicts_said
end Go.Proofs.Ytmmkocokfdheiaa
