/- The given statement UnblockErrorsSaid is proved: the law UnblockErrors holds for every input. Conditions: none but those that the statement itself names. -/
import Derived.Test.YtjpgllmfenogoaaGreatMUnb9
import Derived.Test.YtjpgllmfenogoaaGreatRows
namespace Go.Proofs.YtjpgllmfenogoaaGreat
open Go.ChangeShapes Go.WideShapes Go.ChangeAt Go.RowKit Go.Lift
set_option maxRecDepth 100000 in
theorem Q9 (os : Os) (started : os.Started) (H : Type) (enc : TypeId × Value → H) :
  ReturnsInHanded {} Tryz.checked os 9 .any (Rows.unblockErrorsSpec.pre6 enc Tryz.prog Tryz.f9 Rows.unblockErrorsRow.domain false) (Rows.unblockErrorsSpec.post enc Tryz.prog Tryz.f9 false true false false) :=
 Nz (C := Tryz.checked) (d := 8) (tb := 4) (by kernel_rfl) started (by kernel_rfl) Tryz.func9
  (ChangeSpec.witness6 (enc := enc) (C := Tryz.checked) false ⟨#[], #[.agg #[.slice none 0 0, .slice none 0 0, .slice none 0 0, .slice none 0 0]], []⟩ 8 (by kernel_rfl) (by kernel_rfl) (by kernel_rfl) (by kernel_rfl))
  rfl (fun ds hl => match ds, hl with | [_], _ => rfl) (by kernel_rfl) (by kernel_rfl) (by kernel_rfl) (by kernel_rfl) (by kernel_rfl)
  (Qu 1000 8 Iv)
theorem unblockErrors_said : Rows.UnblockErrorsSaid :=
 OpenClaim.holds_of_wide 9 Tryz.f9 rfl rfl rfl rfl rfl rfl rfl ⟨rfl, rfl, rfl, rfl, rfl⟩ rfl rfl rfl rfl rfl (by kernel_rfl) Tryz.func9 (by kernel_rfl)
  (of_decide_eq_true (by kernel_rfl)) (by unfold Func.isWrapper; first | (rw [if_pos (by decide +kernel)]; kernel_rfl) | (rw [if_neg (by decide +kernel)]; exact ⟨rfl, rfl⟩))
  (fun os started H enc _ => Q9 os started H enc)
#print axioms unblockErrors_said
end Go.Proofs.YtjpgllmfenogoaaGreat
