/- The given statement ReachPlaySaid is proved: the law ReachPlay holds for every input. Conditions: none but those that the statement itself names. -/
import Derived.Test.YtfnobkfnohhmmaaGreatMReach
import Derived.Test.YtfnobkfnohhmmaaGreatRows
/- The law 'reachPlay' holds for every input; no condition. -/
namespace Go.Proofs.YtfnobkfnohhmmaaGreat
open Go.ChangeShapes Go.WideShapes Go.ChangeAt Go.RowKit Go.Lift
set_option maxRecDepth 100000 in
theorem Q1 (os : Os) (started : os.Started) (H : Type) (enc : TypeId × Value → H) :
  ReturnsInHanded {} Tryz.checked os 7 .any (Rows.reachPlaySpec.pre6 enc Tryz.prog Tryz.f7 Rows.reachPlayRow.domain false) (Rows.reachPlaySpec.post enc Tryz.prog Tryz.f7 false true false false) :=
 Om (C := Tryz.checked) (d := 8) (tb := 4) (by kernel_rfl) started (by kernel_rfl) Tryz.func7
  (ChangeSpec.witness6 (enc := enc) (C := Tryz.checked) false ⟨#[], #[.agg #[.slice none 0 0, .slice none 0 0, .slice none 0 0, .slice none 0 0], .slice none 0 0], []⟩ 8 (by kernel_rfl) (by kernel_rfl) (by kernel_rfl) (by kernel_rfl))
  rfl (fun ds hl => match ds, hl with | [_, _], _ => rfl) (by kernel_rfl) (by kernel_rfl) (by kernel_rfl) (by kernel_rfl) (by kernel_rfl)
  (Rv 1000 8 KX)
theorem reachPlay_said : Rows.ReachPlaySaid :=
 OpenClaim.holds_of_wide 7 Tryz.f7 rfl rfl rfl rfl rfl rfl rfl ⟨rfl, rfl, rfl, rfl, rfl⟩ rfl rfl rfl rfl rfl (by kernel_rfl) Tryz.func7 (by kernel_rfl)
  (of_decide_eq_true (by kernel_rfl)) (by unfold Func.isWrapper; first | (rw [if_pos (by decide +kernel)]; kernel_rfl) | (rw [if_neg (by decide +kernel)]; exact ⟨rfl, rfl⟩))
  (fun os started H enc _ => Q1 os started H enc)
#print axioms reachPlay_said
end Go.Proofs.YtfnobkfnohhmmaaGreat

