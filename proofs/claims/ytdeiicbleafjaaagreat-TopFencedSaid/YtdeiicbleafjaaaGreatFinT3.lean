/- The given statement TopFencedSaid is proved: the law TopFenced holds for every input. Conditions: none but those that the statement itself names. -/
import Derived.Test.YtdeiicbleafjaaaGreatMTop4
import Derived.Test.YtdeiicbleafjaaaGreatRows
open Go.Proofs.Tryz renaming prog → zA
namespace Go.Proofs.YtdeiicbleafjaaaGreat
open Go.ChangeShapes Go.WideShapes Go.ChangeAt Go.RowKit Go.Lift
set_option maxRecDepth 100000 in
theorem R9 (os : Os) (started : os.Started) (H : Type) (enc : TypeId × Value → H) :
  ReturnsInHanded {} Tryz.checked os 3 .any (Rows.topFencedSpec.pre6 enc zA Tryz.f3 Rows.topFencedRow.domain false) (Rows.topFencedSpec.post enc zA Tryz.f3 false true false false) :=
 Pe (C := Tryz.checked) (d := 8) (tb := 4) (by kernel_rfl) started (by kernel_rfl) Tryz.func3
  (ChangeSpec.witness6 (enc := enc) (C := Tryz.checked) false ⟨#[], #[.slice none 0 0], []⟩ 8 (by kernel_rfl) (by kernel_rfl) (by kernel_rfl) (by kernel_rfl))
  rfl (fun ds hl => match ds, hl with | [_], _ => rfl) (by kernel_rfl) (by kernel_rfl) (by kernel_rfl) (by kernel_rfl) (by kernel_rfl)
  (Sy 1000 8 LP)
theorem topFenced_said : Rows.TopFencedSaid :=
 OpenClaim.holds_of_wide 3 Tryz.f3 rfl rfl rfl rfl rfl rfl rfl ⟨rfl, rfl, rfl, rfl, rfl⟩ rfl rfl rfl rfl rfl (by kernel_rfl) Tryz.func3 (by kernel_rfl)
  (of_decide_eq_true (by kernel_rfl)) (by unfold Func.isWrapper; first | (rw [if_pos (by decide +kernel)]; kernel_rfl) | (rw [if_neg (by decide +kernel)]; exact ⟨rfl, rfl⟩))
  (fun os started H enc _ => R9 os started H enc)
#print axioms topFenced_said
end Go.Proofs.YtdeiicbleafjaaaGreat
