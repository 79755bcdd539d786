/- The given statement ReachErrorsSaid is proved: the law ReachErrors holds for every input. Conditions: none but those that the statement itself names. -/
import Derived.Test.YtfnobkfnohhmmaaMReach3
import Derived.Test.YtfnobkfnohhmmaaRows
/- The law 'reachErrors' holds for every input; no condition. -/
namespace Go.Proofs.Ytfnobkfnohhmmaa
open Go.ChangeShapes Go.WideShapes Go.ChangeAt Go.RowKit Go.Lift
set_option maxRecDepth 100000 in
theorem OF (os : Os) (started : os.Started) (H : Type) (enc : TypeId × Value → H) :
  ReturnsInHanded {} Try.checked os 3 .any (Rows.reachErrorsSpec.pre6 enc Try.prog Try.f3 Rows.reachErrorsRow.domain false) (Rows.reachErrorsSpec.post enc Try.prog Try.f3 false true false false) :=
 Ml (C := Try.checked) (d := 8) (tb := 4) (by kernel_rfl) started (by kernel_rfl) Try.func3
  (ChangeSpec.witness6 (enc := enc) (C := Try.checked) false ⟨#[], #[.agg #[.slice none 0 0, .slice none 0 0, .slice none 0 0, .slice none 0 0], .slice none 0 0], []⟩ 8 (by kernel_rfl) (by kernel_rfl) (by kernel_rfl) (by kernel_rfl))
  rfl (fun ds hl => match ds, hl with | [_, _], _ => rfl) (by kernel_rfl) (by kernel_rfl) (by kernel_rfl) (by kernel_rfl) (by kernel_rfl)
  (Oi 1000 8 ID)
theorem reachErrors_said : Rows.ReachErrorsSaid :=
 OpenClaim.holds_of_wide 3 Try.f3 rfl rfl rfl rfl rfl rfl rfl ⟨rfl, rfl, rfl, rfl, rfl⟩ rfl rfl rfl rfl rfl (by kernel_rfl) Try.func3 (by kernel_rfl)
  (of_decide_eq_true (by kernel_rfl)) (by unfold Func.isWrapper; first | (rw [if_pos (by decide +kernel)]; kernel_rfl) | (rw [if_neg (by decide +kernel)]; exact ⟨rfl, rfl⟩))
  (fun os started H enc _ => OF os started H enc)
#print axioms reachErrors_said
end Go.Proofs.Ytfnobkfnohhmmaa

