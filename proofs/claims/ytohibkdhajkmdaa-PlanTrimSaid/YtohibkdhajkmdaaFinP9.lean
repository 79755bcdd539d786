/- The given statement PlanTrimSaid is proved: the law PlanTrim holds for every input. Conditions: none but those that the statement itself names. -/
import Derived.Test.YtohibkdhajkmdaaMReg6
import Derived.Test.YtohibkdhajkmdaaRows
/- The law 'planTrim' holds for every input; no condition. -/
namespace Go.Proofs.Ytohibkdhajkmdaa
open Go.ChangeShapes Go.WideShapes Go.ChangeAt Go.RowKit Go.Lift
set_option maxRecDepth 100000 in
theorem SE (os : Os) (started : os.Started) (H : Type) (enc : TypeId × Value → H) :
  ReturnsInHanded {} Try.checked os 9 .any (Rows.planTrimSpec.pre6 enc Try.prog Try.f9 Rows.planTrimRow.domain false) (Rows.planTrimSpec.post enc Try.prog Try.f9 false true false false) :=
 Py (C := Try.checked) (d := 8) (tb := 4) (by kernel_rfl) started (by kernel_rfl) Try.func9
  (ChangeSpec.witness6 (enc := enc) (C := Try.checked) false ⟨#[], #[.agg #[.slice none 0 0, .slice none 0 0, .slice none 0 0, .slice none 0 0], .slice none 0 0], []⟩ 8 (by kernel_rfl) (by kernel_rfl) (by kernel_rfl) (by kernel_rfl))
  rfl (fun ds hl => match ds, hl with | [_, _], _ => rfl) (by kernel_rfl) (by kernel_rfl) (by kernel_rfl) (by kernel_rfl) (by kernel_rfl)
  (R8 1000 8 Mj)
theorem planTrim_said : Rows.PlanTrimSaid :=
 OpenClaim.holds_of_wide 9 Try.f9 rfl rfl rfl rfl rfl rfl rfl ⟨rfl, rfl, rfl, rfl, rfl⟩ rfl rfl rfl rfl rfl (by kernel_rfl) Try.func9 (by kernel_rfl)
  (of_decide_eq_true (by kernel_rfl)) (by unfold Func.isWrapper; first | (rw [if_pos (by decide +kernel)]; kernel_rfl) | (rw [if_neg (by decide +kernel)]; exact ⟨rfl, rfl⟩))
  (fun os started H enc _ => SE os started H enc)
#print axioms planTrim_said
end Go.Proofs.Ytohibkdhajkmdaa

