/- The given statement UnblockMoreSaid is proved: the law UnblockMore holds for every input. Conditions: none but those that the statement itself names. -/
import Derived.Test.YtjpgllmfenogoaaGreatMReach3
import Derived.Test.YtjpgllmfenogoaaGreatRows
namespace Go.Proofs.YtjpgllmfenogoaaGreat
open Go.ChangeShapes Go.WideShapes Go.ChangeAt Go.RowKit Go.Lift
set_option maxRecDepth 100000 in
theorem Zz (os : Os) (started : os.Started) (H : Type) (enc : TypeId × Value → H) :
  ReturnsInHanded {} Tryz.checked os 5 .any (Rows.unblockMoreSpec.pre6 enc Tryz.prog Tryz.f5 Rows.unblockMoreRow.domain false) (Rows.unblockMoreSpec.post enc Tryz.prog Tryz.f5 false true false false) :=
 VN (C := Tryz.checked) (d := 8) (tb := 4) (by kernel_rfl) started (by kernel_rfl) Tryz.func5
  (ChangeSpec.witness6 (enc := enc) (C := Tryz.checked) false ⟨#[], #[.agg #[.slice none 0 0, .slice none 0 0, .slice none 0 0, .slice none 0 0], .int .u8 0], []⟩ 8 (by kernel_rfl) (by kernel_rfl) (by kernel_rfl) (by kernel_rfl))
  rfl (fun ds hl => match ds, hl with | [_, _], _ => rfl) (by kernel_rfl) (by kernel_rfl) (by kernel_rfl) (by kernel_rfl) (by kernel_rfl)
  (ZE 1000 8 Oi)
theorem unblockMore_said : Rows.UnblockMoreSaid :=
 OpenClaim.holds_of_wide 5 Tryz.f5 rfl rfl rfl rfl rfl rfl rfl ⟨rfl, rfl, rfl, rfl, rfl⟩ rfl rfl rfl rfl rfl (by kernel_rfl) Tryz.func5 (by kernel_rfl)
  (of_decide_eq_true (by kernel_rfl)) (by unfold Func.isWrapper; first | (rw [if_pos (by decide +kernel)]; kernel_rfl) | (rw [if_neg (by decide +kernel)]; exact ⟨rfl, rfl⟩))
  (fun os started H enc _ => Zz os started H enc)
#print axioms unblockMore_said
end Go.Proofs.YtjpgllmfenogoaaGreat
