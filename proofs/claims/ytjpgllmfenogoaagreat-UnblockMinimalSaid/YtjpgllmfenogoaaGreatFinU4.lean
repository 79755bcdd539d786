/- The given statement UnblockMinimalSaid is proved: the law UnblockMinimal holds for every input. Conditions: none but those that the statement itself names. -/
import Derived.Test.YtjpgllmfenogoaaGreatMUnb8
import Derived.Test.YtjpgllmfenogoaaGreatRows
namespace Go.Proofs.YtjpgllmfenogoaaGreat
open Go.ChangeShapes Go.WideShapes Go.ChangeAt Go.RowKit Go.Lift
set_option maxRecDepth 100000 in
theorem Zk (os : Os) (started : os.Started) (H : Type) (enc : TypeId × Value → H) :
  ReturnsInHanded {} Tryz.checked os 4 .any (Rows.unblockMinimalSpec.pre6 enc Tryz.prog Tryz.f4 Rows.unblockMinimalRow.domain false) (Rows.unblockMinimalSpec.post enc Tryz.prog Tryz.f4 false true false false) :=
 Vz (C := Tryz.checked) (d := 8) (tb := 4) (by kernel_rfl) started (by kernel_rfl) Tryz.func4
  (ChangeSpec.witness6 (enc := enc) (C := Tryz.checked) false ⟨#[], #[.agg #[.slice none 0 0, .slice none 0 0, .slice none 0 0, .slice none 0 0], .slice none 0 0], []⟩ 8 (by kernel_rfl) (by kernel_rfl) (by kernel_rfl) (by kernel_rfl))
  rfl (fun ds hl => match ds, hl with | [_, _], _ => rfl) (by kernel_rfl) (by kernel_rfl) (by kernel_rfl) (by kernel_rfl) (by kernel_rfl)
  (ZN 2000 8 LK)
theorem unblockMinimal_said : Rows.UnblockMinimalSaid :=
 OpenClaim.holds_of_wide 4 Tryz.f4 rfl rfl rfl rfl rfl rfl rfl ⟨rfl, rfl, rfl, rfl, rfl⟩ rfl rfl rfl rfl rfl (by kernel_rfl) Tryz.func4 (by kernel_rfl)
  (of_decide_eq_true (by kernel_rfl)) (by unfold Func.isWrapper; first | (rw [if_pos (by decide +kernel)]; kernel_rfl) | (rw [if_neg (by decide +kernel)]; exact ⟨rfl, rfl⟩))
  (fun os started H enc _ => Zk os started H enc)
#print axioms unblockMinimal_said
end Go.Proofs.YtjpgllmfenogoaaGreat
