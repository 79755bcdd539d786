/- The given statement UnblockPlansSaid is proved: the law UnblockPlans holds for every input. Conditions: none but those that the statement itself names. -/
import Derived.Test.YtjpgllmfenogoaaGreatMReach3
import Derived.Test.YtjpgllmfenogoaaGreatRows
namespace Go.Proofs.YtjpgllmfenogoaaGreat
open Go.ChangeShapes Go.WideShapes Go.ChangeAt Go.RowKit Go.Lift
set_option maxRecDepth 100000 in
theorem ac (os : Os) (started : os.Started) (H : Type) (enc : TypeId × Value → H) :
  ReturnsInHanded {} Tryz.checked os 7 .any (Rows.unblockPlansSpec.pre6 enc Tryz.prog Tryz.f7 Rows.unblockPlansRow.domain false) (Rows.unblockPlansSpec.post enc Tryz.prog Tryz.f7 false true false false) :=
 Vb (C := Tryz.checked) (d := 8) (tb := 4) (by kernel_rfl) started (by kernel_rfl) Tryz.func7
  (ChangeSpec.witness6 (enc := enc) (C := Tryz.checked) false ⟨#[], #[.agg #[.slice none 0 0, .slice none 0 0, .slice none 0 0, .slice none 0 0]], []⟩ 8 (by kernel_rfl) (by kernel_rfl) (by kernel_rfl) (by kernel_rfl))
  rfl (fun ds hl => match ds, hl with | [_], _ => rfl) (by kernel_rfl) (by kernel_rfl) (by kernel_rfl) (by kernel_rfl) (by kernel_rfl)
  (ZB 1000 8 NG)
theorem unblockPlans_said : Rows.UnblockPlansSaid :=
 OpenClaim.holds_of_wide 7 Tryz.f7 rfl rfl rfl rfl rfl rfl rfl ⟨rfl, rfl, rfl, rfl, rfl⟩ rfl rfl rfl rfl rfl (by kernel_rfl) Tryz.func7 (by kernel_rfl)
  (of_decide_eq_true (by kernel_rfl)) (by unfold Func.isWrapper; first | (rw [if_pos (by decide +kernel)]; kernel_rfl) | (rw [if_neg (by decide +kernel)]; exact ⟨rfl, rfl⟩))
  (fun os started H enc _ => ac os started H enc)
#print axioms unblockPlans_said
end Go.Proofs.YtjpgllmfenogoaaGreat
