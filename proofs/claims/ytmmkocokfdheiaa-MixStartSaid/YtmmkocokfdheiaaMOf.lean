/- Lemmas for MixStartSaid, which YtmmkocokfdheiaaFin10 proves. -/
/- The drafts: what the recipes give is a valid problem and a valid mix. -/
import Derived.Test.YtmmkocokfdheiaaMConf3
namespace Go.Lift
theorem loop_ex {A S R : Type} (L : Nat → S → Option R) (mk : A → Int → S) (len : Nat) (j : A → Option R) (I : Nat → A → Prop)
    (hs : ∀ (n i : Nat) (a : A), i < len → I i a → ∃ a', L (n + 1) (mk a (i : Int)) = L n (mk a' ((i + 1 : Nat) : Int)) ∧ I (i + 1) a')
    (he : ∀ (n : Nat) (a : A), I len a → L (n + 1) (mk a (len : Int)) = j a) :
    ∀ (n i : Nat) (a : A), i ≤ len → len - i < n → I i a → ∃ a', L n (mk a (i : Int)) = j a' ∧ I len a'
  | 0, i, _, _, h, _ => by omega
  | n + 1, i, a, hi, h, ha => by
    by_cases h1 : i < len
    · obtain ⟨a', e1, e2⟩ := hs n i a h1 ha
      rw [e1]
      exact loop_ex L mk len j I hs he n (i + 1) _ (by omega) (by omega) e2
    · have : i = len := by omega
      subst this
      exact ⟨a, he n a ha, ha⟩
end Go.Lift
