/- Lemmas for MixStartSaid, which YtmmkocokfdheiaaFin10 proves. -/
/- Loops of the shallow programs as folds along lists. -/
import Derived.Test.YtmmkocokfdheiaaPlain10
namespace Go.Lift
@[simp] theorem join_eq {α β : Type} (k : α) (f : α → β) : join k f = f k := rfl
@[simp] theorem chk_true {p : Prop} [Decidable p] (h : p) : chk p = some () := by unfold chk; rw [if_pos h]
theorem chk_bind_true {β : Type} {p : Prop} [Decidable p] (h : p) (f : Unit → Option β) : (chk p).bind f = f () := by rw [chk_true h]; rfl
end Go.Lift
