/- The given statement MixCompareSaid is proved: the law MixCompare holds for every input. Conditions: none but those that the statement itself names. -/
/- MixCompare: the row. -/
import Derived.Test.YtmmkocokfdheiaaDec
import Derived.Test.YtmmkocokfdheiaaPlain3
import Derived.Test.YtmmkocokfdheiaaRows
namespace Go.Proofs.Ytmmkocokfdheiaa
open Go.ChangeShapes Go.WideShapes Go.ChangeAt Go.RowKit Go.Lift

set_option maxRecDepth 100000 in
theorem lifted9 (os : Os) (started : os.Started) (H : Type) (enc : TypeId × Value → H) :
    ReturnsInHanded {} Try.checked os 9 .any (Rows.mixCompareSpec.pre6 enc Try.prog Try.f9 Rows.mixCompareRow.domain false) (Rows.mixCompareSpec.post enc Try.prog Try.f9 false true false false) :=
  law_lifted (C := Try.checked) (d := 8) (tb := 4) (by kernel_rfl) started (by kernel_rfl) Try.func9
    (ChangeSpec.witness6 (enc := enc) (C := Try.checked) false ⟨#[], #[.agg #[.slice none 0 0, .slice none 0 0, .slice none 0 0], .agg #[.slice none 0 0, .slice none 0 0, .slice none 0 0], .agg #[.slice none 0 0, .slice none 0 0, .slice none 0 0]], []⟩ 8 (by kernel_rfl) (by kernel_rfl) (by kernel_rfl) (by kernel_rfl))
    rfl (fun ds hl => match ds, hl with | [_, _, _], _ => rfl) (by kernel_rfl) (by kernel_rfl) (by kernel_rfl) (by kernel_rfl) (by kernel_rfl)
    (entry_9 1000 8 mixCompare_plain)

theorem mixCompare_said : Rows.MixCompareSaid :=
  OpenClaim.holds_of_wide 9 Try.f9 rfl rfl rfl rfl rfl rfl rfl ⟨rfl, rfl, rfl, rfl, rfl⟩ rfl rfl rfl rfl rfl (by kernel_rfl) Try.func9 (by kernel_rfl)
    (of_decide_eq_true (by kernel_rfl)) (by unfold Func.isWrapper; first | (rw [if_pos (by decide +kernel)]; kernel_rfl) | (rw [if_neg (by decide +kernel)]; exact ⟨rfl, rfl⟩))
    (fun os started H enc _ => lifted9 os started H enc)
#print axioms mixCompare_said
end Go.Proofs.Ytmmkocokfdheiaa
