/- The given statement PlanRestSaid is proved: the law PlanRest holds for every input. Conditions: none but those that the statement itself names. -/
import Derived.Test.YtohibkdhajkmdaaMReg6
import Derived.Test.YtohibkdhajkmdaaRows
/- The law 'planRest' holds for every input; no condition. -/
namespace Go.Proofs.Ytohibkdhajkmdaa
open Go.ChangeShapes Go.WideShapes Go.ChangeAt Go.RowKit Go.Lift
set_option maxRecDepth 100000 in
theorem Uy (os : Os) (started : os.Started) (H : Type) (enc : TypeId × Value → H) :
  ReturnsInHanded {} Try.checked os 8 .any (Rows.planRestSpec.pre6 enc Try.prog Try.f8 Rows.planRestRow.domain false) (Rows.planRestSpec.post enc Try.prog Try.f8 false true false false) :=
 Qt (C := Try.checked) (d := 8) (tb := 4) (by kernel_rfl) started (by kernel_rfl) Try.func8
  (ChangeSpec.witness6 (enc := enc) (C := Try.checked) false ⟨#[], #[.agg #[.slice none 0 0, .slice none 0 0, .slice none 0 0, .slice none 0 0], .int .u8 0], []⟩ 8 (by kernel_rfl) (by kernel_rfl) (by kernel_rfl) (by kernel_rfl))
  rfl (fun ds hl => match ds, hl with | [_, _], _ => rfl) (by kernel_rfl) (by kernel_rfl) (by kernel_rfl) (by kernel_rfl) (by kernel_rfl)
  (T2 1000 8 MI)
theorem planRest_said : Rows.PlanRestSaid :=
 OpenClaim.holds_of_wide 8 Try.f8 rfl rfl rfl rfl rfl rfl rfl ⟨rfl, rfl, rfl, rfl, rfl⟩ rfl rfl rfl rfl rfl (by kernel_rfl) Try.func8 (by kernel_rfl)
  (of_decide_eq_true (by kernel_rfl)) (by unfold Func.isWrapper; first | (rw [if_pos (by decide +kernel)]; kernel_rfl) | (rw [if_neg (by decide +kernel)]; exact ⟨rfl, rfl⟩))
  (fun os started H enc _ => Uy os started H enc)
#print axioms planRest_said
end Go.Proofs.Ytohibkdhajkmdaa

