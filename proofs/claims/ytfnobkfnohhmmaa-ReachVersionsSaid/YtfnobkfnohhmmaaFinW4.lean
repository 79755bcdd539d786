/- The given statement ReachVersionsSaid is proved: the law ReachVersions holds for every input. Conditions: none but those that the statement itself names. -/
import Derived.Test.YtfnobkfnohhmmaaMReach3
import Derived.Test.YtfnobkfnohhmmaaRows
/- The law 'reachVersions' holds for every input; no condition. -/
namespace Go.Proofs.Ytfnobkfnohhmmaa
open Go.ChangeShapes Go.WideShapes Go.ChangeAt Go.RowKit Go.Lift
set_option maxRecDepth 100000 in
theorem PZ (os : Os) (started : os.Started) (H : Type) (enc : TypeId × Value → H) :
  ReturnsInHanded {} Try.checked os 4 .any (Rows.reachVersionsSpec.pre6 enc Try.prog Try.f4 Rows.reachVersionsRow.domain false) (Rows.reachVersionsSpec.post enc Try.prog Try.f4 false true false false) :=
 MX (C := Try.checked) (d := 8) (tb := 4) (by kernel_rfl) started (by kernel_rfl) Try.func4
  (ChangeSpec.witness6 (enc := enc) (C := Try.checked) false ⟨#[], #[.agg #[.slice none 0 0, .slice none 0 0, .slice none 0 0, .slice none 0 0], .slice none 0 0], []⟩ 8 (by kernel_rfl) (by kernel_rfl) (by kernel_rfl) (by kernel_rfl))
  rfl (fun ds hl => match ds, hl with | [_, _], _ => rfl) (by kernel_rfl) (by kernel_rfl) (by kernel_rfl) (by kernel_rfl) (by kernel_rfl)
  (Py 1000 8 IB)
theorem reachVersions_said : Rows.ReachVersionsSaid :=
 OpenClaim.holds_of_wide 4 Try.f4 rfl rfl rfl rfl rfl rfl rfl ⟨rfl, rfl, rfl, rfl, rfl⟩ rfl rfl rfl rfl rfl (by kernel_rfl) Try.func4 (by kernel_rfl)
  (of_decide_eq_true (by kernel_rfl)) (by unfold Func.isWrapper; first | (rw [if_pos (by decide +kernel)]; kernel_rfl) | (rw [if_neg (by decide +kernel)]; exact ⟨rfl, rfl⟩))
  (fun os started H enc _ => PZ os started H enc)
#print axioms reachVersions_said
end Go.Proofs.Ytfnobkfnohhmmaa

