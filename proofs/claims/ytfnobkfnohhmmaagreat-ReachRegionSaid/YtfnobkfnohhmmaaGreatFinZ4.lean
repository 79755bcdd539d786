/- The given statement ReachRegionSaid is proved: the law ReachRegion holds for every input. Conditions: none but those that the statement itself names. -/
import Derived.Test.YtfnobkfnohhmmaaGreatMCert3
import Derived.Test.YtfnobkfnohhmmaaGreatRows
namespace Go.Proofs.YtfnobkfnohhmmaaGreat
open Go.ChangeShapes Go.WideShapes Go.ChangeAt Go.RowKit Go.Lift
set_option maxRecDepth 100000 in
theorem Vu (os : Os) (started : os.Started) (H : Type) (enc : TypeId × Value → H) :
  ReturnsInHanded {} Tryz.checked os 4 .any (Rows.reachRegionSpec.pre6 enc Tryz.prog Tryz.f4 Rows.reachRegionRow.domain false) (Rows.reachRegionSpec.post enc Tryz.prog Tryz.f4 false true false false) :=
 RK (C := Tryz.checked) (d := 8) (tb := 4) (by kernel_rfl) started (by kernel_rfl) Tryz.func4
  (ChangeSpec.witness6 (enc := enc) (C := Tryz.checked) false ⟨#[], #[.agg #[.slice none 0 0, .slice none 0 0, .slice none 0 0, .slice none 0 0]], []⟩ 8 (by kernel_rfl) (by kernel_rfl) (by kernel_rfl) (by kernel_rfl))
  rfl (fun ds hl => match ds, hl with | [_], _ => rfl) (by kernel_rfl) (by kernel_rfl) (by kernel_rfl) (by kernel_rfl) (by kernel_rfl)
  (Vd 2000 8 LA)
theorem reachRegion_said : Rows.ReachRegionSaid :=
 OpenClaim.holds_of_wide 4 Tryz.f4 rfl rfl rfl rfl rfl rfl rfl ⟨rfl, rfl, rfl, rfl, rfl⟩ rfl rfl rfl rfl rfl (by kernel_rfl) Tryz.func4 (by kernel_rfl)
  (of_decide_eq_true (by kernel_rfl)) (by unfold Func.isWrapper; first | (rw [if_pos (by decide +kernel)]; kernel_rfl) | (rw [if_neg (by decide +kernel)]; exact ⟨rfl, rfl⟩))
  (fun os started H enc _ => Vu os started H enc)
#print axioms reachRegion_said
end Go.Proofs.YtfnobkfnohhmmaaGreat
