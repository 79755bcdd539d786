/- The given statement UnblockAllSaid is proved: the law UnblockAll holds for every input. Conditions: none but those that the statement itself names. -/
import Derived.Test.YtjpgllmfenogoaaGreatMUnb10
import Derived.Test.YtjpgllmfenogoaaGreatRows
open Go.Proofs.Tryz renaming prog → zA
namespace Go.Proofs.YtjpgllmfenogoaaGreat
open Go.ChangeShapes Go.WideShapes Go.ChangeAt Go.RowKit Go.Lift
set_option maxRecDepth 100000 in
theorem Z8 (os : Os) (started : os.Started) (H : Type) (enc : TypeId × Value → H) :
  ReturnsInHanded {} Tryz.checked os 8 .any (Rows.unblockAllSpec.pre6 enc zA Tryz.f8 Rows.unblockAllRow.domain false) (Rows.unblockAllSpec.post enc zA Tryz.f8 false true false false) :=
 VI (C := Tryz.checked) (d := 8) (tb := 4) (by kernel_rfl) started (by kernel_rfl) Tryz.func8
  (ChangeSpec.witness6 (enc := enc) (C := Tryz.checked) false ⟨#[], #[.agg #[.slice none 0 0, .slice none 0 0, .slice none 0 0, .slice none 0 0]], []⟩ 8 (by kernel_rfl) (by kernel_rfl) (by kernel_rfl) (by kernel_rfl))
  rfl (fun ds hl => match ds, hl with | [_], _ => rfl) (by kernel_rfl) (by kernel_rfl) (by kernel_rfl) (by kernel_rfl) (by kernel_rfl)
  (ab 2000 8 OA)
theorem unblockAll_said : Rows.UnblockAllSaid :=
 OpenClaim.holds_of_wide 8 Tryz.f8 rfl rfl rfl rfl rfl rfl rfl ⟨rfl, rfl, rfl, rfl, rfl⟩ rfl rfl rfl rfl rfl (by kernel_rfl) Tryz.func8 (by kernel_rfl)
  (of_decide_eq_true (by kernel_rfl)) (by unfold Func.isWrapper; first | (rw [if_pos (by decide +kernel)]; kernel_rfl) | (rw [if_neg (by decide +kernel)]; exact ⟨rfl, rfl⟩))
  (fun os started H enc _ => Z8 os started H enc)
#print axioms unblockAll_said
end Go.Proofs.YtjpgllmfenogoaaGreat
