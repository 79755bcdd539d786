/- The given statement MixAbortsSaid is proved: the law MixAborts holds for every input. Conditions: none but those that the statement itself names. -/
/- The law 'mixAborts' holds for every input; no condition. -/
import Derived.Test.YtmmkocokfdheiaaDec
import Derived.Test.YtmmkocokfdheiaaMLaw36
import Derived.Test.YtmmkocokfdheiaaRows
namespace Go.Proofs.Ytmmkocokfdheiaa
open Go.ChangeShapes Go.WideShapes Go.ChangeAt Go.RowKit Go.Lift

set_option maxRecDepth 100000 in
theorem lifted4 (os : Os) (started : os.Started) (H : Type) (enc : TypeId × Value → H) :
    ReturnsInHanded {} Try.checked os 4 .any (Rows.mixAbortsSpec.pre6 enc Try.prog Try.f4 Rows.mixAbortsRow.domain false) (Rows.mixAbortsSpec.post enc Try.prog Try.f4 false true false false) :=
  law_lifted (C := Try.checked) (d := 8) (tb := 4) (by kernel_rfl) started (by kernel_rfl) Try.func4
    (ChangeSpec.witness6 (enc := enc) (C := Try.checked) false ⟨#[], #[.agg #[.slice none 0 0, .slice none 0 0, .slice none 0 0, .slice none 0 0], .agg #[.slice none 0 0, .slice none 0 0, .slice none 0 0]], []⟩ 8 (by kernel_rfl) (by kernel_rfl) (by kernel_rfl) (by kernel_rfl))
    rfl (fun ds hl => match ds, hl with | [_, _], _ => rfl) (by kernel_rfl) (by kernel_rfl) (by kernel_rfl) (by kernel_rfl) (by kernel_rfl)
    (entry_4 1000 8 mixAborts_plain)

theorem mixAborts_said : Rows.MixAbortsSaid :=
  OpenClaim.holds_of_wide 4 Try.f4 rfl rfl rfl rfl rfl rfl rfl ⟨rfl, rfl, rfl, rfl, rfl⟩ rfl rfl rfl rfl rfl (by kernel_rfl) Try.func4 (by kernel_rfl)
    (of_decide_eq_true (by kernel_rfl)) (by unfold Func.isWrapper; first | (rw [if_pos (by decide +kernel)]; kernel_rfl) | (rw [if_neg (by decide +kernel)]; exact ⟨rfl, rfl⟩))
    (fun os started H enc _ => lifted4 os started H enc)
#print axioms mixAborts_said
end Go.Proofs.Ytmmkocokfdheiaa
