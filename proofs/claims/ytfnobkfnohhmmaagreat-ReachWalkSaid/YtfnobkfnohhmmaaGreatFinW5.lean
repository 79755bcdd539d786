/- The given statement ReachWalkSaid is proved: the law ReachWalk holds for every input. Conditions: none but those that the statement itself names. -/
import Derived.Test.YtfnobkfnohhmmaaGreatMReach3
import Derived.Test.YtfnobkfnohhmmaaGreatRows
/- The law 'reachWalk' holds for every input; no condition. -/
namespace Go.Proofs.YtfnobkfnohhmmaaGreat
open Go.ChangeShapes Go.WideShapes Go.ChangeAt Go.RowKit Go.Lift
set_option maxRecDepth 100000 in
theorem Tj (os : Os) (started : os.Started) (H : Type) (enc : TypeId × Value → H) :
  ReturnsInHanded {} Tryz.checked os 5 .any (Rows.reachWalkSpec.pre6 enc Tryz.prog Tryz.f5 Rows.reachWalkRow.domain false) (Rows.reachWalkSpec.post enc Tryz.prog Tryz.f5 false true false false) :=
 P5 (C := Tryz.checked) (d := 8) (tb := 4) (by kernel_rfl) started (by kernel_rfl) Tryz.func5
  (ChangeSpec.witness6 (enc := enc) (C := Tryz.checked) false ⟨#[], #[.agg #[.slice none 0 0, .slice none 0 0, .slice none 0 0, .slice none 0 0], .slice none 0 0], []⟩ 8 (by kernel_rfl) (by kernel_rfl) (by kernel_rfl) (by kernel_rfl))
  rfl (fun ds hl => match ds, hl with | [_, _], _ => rfl) (by kernel_rfl) (by kernel_rfl) (by kernel_rfl) (by kernel_rfl) (by kernel_rfl)
  (SV 1000 8 L3)
theorem reachWalk_said : Rows.ReachWalkSaid :=
 OpenClaim.holds_of_wide 5 Tryz.f5 rfl rfl rfl rfl rfl rfl rfl ⟨rfl, rfl, rfl, rfl, rfl⟩ rfl rfl rfl rfl rfl (by kernel_rfl) Tryz.func5 (by kernel_rfl)
  (of_decide_eq_true (by kernel_rfl)) (by unfold Func.isWrapper; first | (rw [if_pos (by decide +kernel)]; kernel_rfl) | (rw [if_neg (by decide +kernel)]; exact ⟨rfl, rfl⟩))
  (fun os started H enc _ => Tj os started H enc)
#print axioms reachWalk_said
end Go.Proofs.YtfnobkfnohhmmaaGreat

