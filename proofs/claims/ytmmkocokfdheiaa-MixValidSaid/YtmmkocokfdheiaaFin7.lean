/- The given statement MixValidSaid is proved: the law MixValid holds for every input. Conditions: none but those that the statement itself names. -/
/- The law 'mixValid' holds for every input; no condition. -/
import Derived.Test.YtmmkocokfdheiaaDec
import Derived.Test.YtmmkocokfdheiaaMLaw36b
import Derived.Test.YtmmkocokfdheiaaRows
namespace Go.Proofs.Ytmmkocokfdheiaa
open Go.ChangeShapes Go.WideShapes Go.ChangeAt Go.RowKit Go.Lift

set_option maxRecDepth 100000 in
theorem lifted7 (os : Os) (started : os.Started) (H : Type) (enc : TypeId × Value → H) :
    ReturnsInHanded {} Try.checked os 7 .any (Rows.mixValidSpec.pre6 enc Try.prog Try.f7 Rows.mixValidRow.domain false) (Rows.mixValidSpec.post enc Try.prog Try.f7 false true false false) :=
  law_lifted (C := Try.checked) (d := 8) (tb := 4) (by kernel_rfl) started (by kernel_rfl) Try.func7
    (ChangeSpec.witness6 (enc := enc) (C := Try.checked) false ⟨#[], #[.agg #[.slice none 0 0, .slice none 0 0, .slice none 0 0, .slice none 0 0], .agg #[.slice none 0 0, .slice none 0 0, .slice none 0 0]], []⟩ 8 (by kernel_rfl) (by kernel_rfl) (by kernel_rfl) (by kernel_rfl))
    rfl (fun ds hl => match ds, hl with | [_, _], _ => rfl) (by kernel_rfl) (by kernel_rfl) (by kernel_rfl) (by kernel_rfl) (by kernel_rfl)
    (entry_7 1000 8 mixValid_plain)

theorem mixValid_said : Rows.MixValidSaid :=
  OpenClaim.holds_of_wide 7 Try.f7 rfl rfl rfl rfl rfl rfl rfl ⟨rfl, rfl, rfl, rfl, rfl⟩ rfl rfl rfl rfl rfl (by kernel_rfl) Try.func7 (by kernel_rfl)
    (of_decide_eq_true (by kernel_rfl)) (by unfold Func.isWrapper; first | (rw [if_pos (by decide +kernel)]; kernel_rfl) | (rw [if_neg (by decide +kernel)]; exact ⟨rfl, rfl⟩))
    (fun os started H enc _ => lifted7 os started H enc)
#print axioms mixValid_said
end Go.Proofs.Ytmmkocokfdheiaa
