/- Lemmas for MixValidSaid, which YtmmkocokfdheiaaFin7 proves. -/
/- The test of a mix: both implementations give one answer. -/
import Derived.Test.YtmmkocokfdheiaaPlain7
import Derived.Test.YtmmkocokfdheiaaPlain3
namespace Go.Lift

theorem u8_range {n : Int} (h : wU8 n) : 0 ≤ n ∧ n ≤ 255 := by
  unfold wU8 at h
  simpa [Lit.wf, IntKind.min, IntKind.max, IntKind.signed, IntKind.bits] using h
theorem andNot_zero_l : ∀ k : Fin 256, andNotI .u8 0 (k.val : Int) = 0 := by decide +kernel
theorem andNot_zero_r : ∀ k : Fin 256, andNotI .u8 (k.val : Int) 0 = (k.val : Int) := by decide +kernel
theorem andNot0l {n : Int} (h : wU8 n) : andNotI .u8 0 n = 0 := by
  have := u8_range h
  obtain ⟨k, rfl⟩ := Int.eq_ofNat_of_zero_le this.1
  exact andNot_zero_l ⟨k, by omega⟩
theorem andNot0r {n : Int} (h : wU8 n) : andNotI .u8 n 0 = n := by
  have := u8_range h
  obtain ⟨k, rfl⟩ := Int.eq_ofNat_of_zero_le this.1
  exact andNot_zero_r ⟨k, by omega⟩

theorem scan_some {α R : Type} {f : Nat → α → Option R} : ∀ {i : Nat} {xs : List α} {r : R}, scan f i xs = some r → ∃ j x, xs[j]? = some x ∧ f (i + j) x = some r
  | _, [], _, h => by cases h
  | i, y :: ys, r, h => by
    rw [scan_cons] at h
    split at h
    · rename_i r' h0
      cases h
      exact ⟨0, y, rfl, h0⟩
    · obtain ⟨j, x, h1, h2⟩ := scan_some h
      exact ⟨j + 1, x, by simpa using h1, by rwa [show i + (j + 1) = i + 1 + j from by omega]⟩

structure ProbOk (p : ApiProblem) : Prop where
  nv : p.fVersions.length ≤ 6
  nt : p.fTables.length ≤ 12
  now : p.fNow.length = p.fVersions.length
  tgt : p.fTarget.length = p.fVersions.length
  ver : ∀ v, v ∈ p.fVersions → 1 ≤ v ∧ v ≤ 6
  tab : ∀ t, t ∈ p.fTables → tableE p t = 0

theorem diag_cases (l : List (List Bool)) : (diagE l).getD 0 = 0 ∨ (diagE l).getD 0 = 1 := by
  cases h : diagE l with
  | none => exact .inl rfl
  | some r =>
    obtain ⟨j, x, _, h⟩ := scan_some h
    split at h
    · cases h
    · cases h; exact .inr rfl
theorem tableE_cases (p : ApiProblem) (t : ApiTable) : tableE p t = 0 ∨ tableE p t = 1 ∨ tableE p t = 4 ∨ tableE p t = 6 := by
  unfold tableE
  split
  · exact .inr (.inl rfl)
  split
  · exact .inr (.inr (.inl rfl))
  simp only
  split
  · exact .inr (.inr (.inr rfl))
  split
  · split
    · exact .inr (.inr (.inr rfl))
    · rcases diag_cases t.fRewrite with h | h
      · exact .inl h
      · exact .inr (.inl h)
  · split
    · exact .inl rfl
    · exact .inr (.inr (.inr rfl))

theorem validP_cases (p : ApiProblem) : (validP p = 0 ∧ ProbOk p) ∨ (validP p = 1 ∨ validP p = 3 ∨ validP p = 4 ∨ validP p = 6 ∨ validP p = 7) := by
  unfold validP
  split
  · simp
  rename_i k1
  split
  · simp
  rename_i k2
  cases hs : scan (rangeE p) 0 p.fVersions with
  | some r =>
    obtain ⟨j, x, _, h⟩ := scan_some hs
    unfold rangeE at h
    split at h
    · cases h; simp [orElse]
    · cases h
  | none =>
    cases ht : scan (tabE p) 0 p.fTables with
    | some r =>
      obtain ⟨j, t, _, h⟩ := scan_some ht
      unfold tabE at h
      split at h
      · cases h
      · rename_i hne
        cases h
        simp only [orElse, Option.getD_some]
        right
        rcases tableE_cases p t with h | h | h | h
        · exact (hne h).elim
        · exact .inl h
        · exact .inr (.inr (.inl h))
        · exact .inr (.inr (.inr (.inl h)))
    | none =>
      left
      refine ⟨rfl, by omega, by omega, by omega, by omega, range_ok hs, fun t hm => ?_⟩
      obtain ⟨j, hj⟩ := List.mem_iff_getElem?.1 hm
      have := scan_none ht j t hj
      unfold tabE at this
      split at this
      · assumption
      · cases this
end Go.Lift
