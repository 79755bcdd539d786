/- Lemmas for MixStartSaid, which YtmmkocokfdheiaaFin10 proves. -/
/- The mixes that result from aborts: both implementations give one list. -/
import Derived.Test.YtmmkocokfdheiaaMOf2
namespace Go.Lift
structure IsAb (m x : ApiMix) : Prop where
  base : x.fBase = m.fBase
  held : x.fHeld = m.fHeld
  len : x.fNext.length = m.fNext.length
  next : ∀ q, q < m.fNext.length → x.fNext.getD q 0 = m.fNext.getD q 0 ∨ (0 ≤ m.fNext.getD q 0 ∧ x.fNext.getD q 0 = -1)
theorem IsAb.refl (m : ApiMix) : IsAb m m := ⟨rfl, rfl, rfl, fun _ _ => .inl rfl⟩
theorem IsAb.trans {a b c : ApiMix} (h1 : IsAb a b) (h2 : IsAb b c) : IsAb a c :=
  ⟨h2.base.trans h1.base, h2.held.trans h1.held, h2.len.trans h1.len, fun q hq => by
    have e1 := h1.next q hq
    have e2 := h2.next q (by rw [h1.len]; exact hq)
    omega⟩
theorem clone_int (N : Nat) (l : List Int) (h : l.length ≤ lim) : Sh.slices_Clone_int_int N l = some l := by
  unfold Sh.slices_Clone_int_int
  rw [chk_bind_true (by simpa using h)]; rfl
end Go.Lift
