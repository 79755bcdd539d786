/- The given statement PlanReversibleSaid is proved: the law PlanReversible holds for every input. Conditions: none but those that the statement itself names. -/
import Derived.Test.YtohibkdhajkmdaaGreatMRev3
import Derived.Test.YtohibkdhajkmdaaGreatRows
open Go.Proofs.Tryz renaming prog → zA0
namespace Go.Proofs.YtohibkdhajkmdaaGreat
open Go.ChangeShapes Go.WideShapes Go.ChangeAt Go.RowKit Go.Lift
set_option maxRecDepth 100000 in
theorem WI (os : Os) (started : os.Started) (H : Type) (enc : TypeId × Value → H) :
  ReturnsInHanded {} Tryz.checked os 3 .any (Rows.planReversibleSpec.pre6 enc zA0 Tryz.f3 Rows.planReversibleRow.domain false) (Rows.planReversibleSpec.post enc zA0 Tryz.f3 false true false false) :=
 SQ (C := Tryz.checked) (d := 8) (tb := 4) (by kernel_rfl) started (by kernel_rfl) Tryz.func3
  (ChangeSpec.witness6 (enc := enc) (C := Tryz.checked) false ⟨#[], #[.agg #[.slice none 0 0, .slice none 0 0, .slice none 0 0, .slice none 0 0], .slice none 0 0], []⟩ 8 (by kernel_rfl) (by kernel_rfl) (by kernel_rfl) (by kernel_rfl))
  rfl (fun ds hl => match ds, hl with | [_, _], _ => rfl) (by kernel_rfl) (by kernel_rfl) (by kernel_rfl) (by kernel_rfl) (by kernel_rfl)
  (V8 1000 8 KL)
theorem planReversible_said : Rows.PlanReversibleSaid :=
 OpenClaim.holds_of_wide 3 Tryz.f3 rfl rfl rfl rfl rfl rfl rfl ⟨rfl, rfl, rfl, rfl, rfl⟩ rfl rfl rfl rfl rfl (by kernel_rfl) Tryz.func3 (by kernel_rfl)
  (of_decide_eq_true (by kernel_rfl)) (by unfold Func.isWrapper; first | (rw [if_pos (by decide +kernel)]; kernel_rfl) | (rw [if_neg (by decide +kernel)]; exact ⟨rfl, rfl⟩))
  (fun os started H enc _ => WI os started H enc)
#print axioms planReversible_said
end Go.Proofs.YtohibkdhajkmdaaGreat
