/- Lemmas for MixValidSaid, which YtmmkocokfdheiaaFin7 proves. -/
/- The test of a problem: both implementations give one answer. -/
import Derived.Test.YtmmkocokfdheiaaPlain6
namespace Go.Lift

def rangeE (p : ApiProblem) (i : Nat) (v : Int) : Option Int :=
  if v < 1 ∨ 6 < v ∨ p.fNow.getD i 0 < 0 ∨ v ≤ p.fNow.getD i 0 ∨ p.fTarget.getD i 0 < 0 ∨ v ≤ p.fTarget.getD i 0 then some 7 else none
def tabE (p : ApiProblem) (_ : Nat) (t : ApiTable) : Option Int := if tableE p t = 0 then none else some (tableE p t)
def validP (p : ApiProblem) : Int :=
  if 6 < p.fVersions.length ∨ 12 < p.fTables.length then 3
  else if p.fNow.length ≠ p.fVersions.length ∨ p.fTarget.length ≠ p.fVersions.length then 6
  else ((orElse (scan (rangeE p) 0 p.fVersions) (scan (tabE p) 0 p.fTables)).getD 0)

theorem scan_none {α R : Type} {f : Nat → α → Option R} : ∀ {i : Nat} {xs : List α}, scan f i xs = none → ∀ j x, xs[j]? = some x → f (i + j) x = none
  | _, [], _, j, x, hx => by simp at hx
  | i, y :: ys, h, j, x, hx => by
    rw [scan_cons] at h
    split at h
    · cases h
    · rename_i h0
      cases j with
      | zero => simp at hx; subst hx; exact h0
      | succ j =>
        have := scan_none h j x (by simpa using hx)
        rwa [show i + 1 + j = i + (j + 1) from by omega] at this

theorem range_ok {p : ApiProblem} (h : scan (rangeE p) 0 p.fVersions = none) : ∀ v, v ∈ p.fVersions → 1 ≤ v ∧ v ≤ 6 := by
  intro v hv
  obtain ⟨i, hi⟩ := List.mem_iff_getElem?.1 hv
  have := scan_none h i v hi
  unfold rangeE at this
  split at this
  · cases this
  · rename_i hn
    constructor
    · exact Int.not_lt.1 fun h => hn (.inl h)
    · exact Int.not_lt.1 fun h => hn (.inr (.inl h))

theorem idx_lt {α : Type} {xs : List α} {i : Nat} {d : α} (h : i < xs.length) : idx xs (i : Int) = some (xs.getD i d) := by
  rw [idx_nat, List.getD_eq_getElem?_getD]; simp [h]

theorem ref_ranges (N : Nat) (p : ApiProblem) (hN : N ≤ 1000000) (h1 : p.fVersions.length < N) (h2 : p.fNow.length = p.fVersions.length) (h3 : p.fTarget.length = p.fVersions.length) (j : Option Int) :
    Sh.sheaveref35_ValidProblem_L7 N p (fun _ => j) N 0 = orElse (scan (rangeE p) 0 p.fVersions) j := by
  have := loop_scan (Sh.sheaveref35_ValidProblem_L7 N p (fun _ => j)) p.fVersions j (rangeE p)
    (fun n i x hx => by
      have hi := (List.getElem?_eq_some_iff.1 hx).1
      rw [Sh.sheaveref35_ValidProblem_L7, cnd_pos (by omega), idx_nat, hx]
      simp only [Option.bind_some, join]
      rw [idx_lt (d := 0) (by omega), idx_lt (d := 0) (by omega), wrap_succ (by omega)]
      simp only [Option.bind_some]
      unfold rangeE
      generalize p.fNow.getD i 0 = a
      generalize p.fTarget.getD i 0 = b
      by_cases k1 : x < 1 <;> by_cases k2 : 6 < x <;> by_cases k3 : a < 0 <;> by_cases k4 : x ≤ a <;> by_cases k5 : b < 0 <;> by_cases k6 : x ≤ b <;> simp [k1, k2, k3, k4, k5, k6, orElse])
    (fun n => by rw [Sh.sheaveref35_ValidProblem_L7, cnd_neg (by omega)]) N 0 (by omega) (by omega)
  simpa using this
theorem fleet_ranges (N : Nat) (p : ApiProblem) (hN : N ≤ 1000000) (h1 : p.fVersions.length < N) (h2 : p.fNow.length = p.fVersions.length) (h3 : p.fTarget.length = p.fVersions.length) (j : Option Int) :
    Sh.fleet_ValidProblem_L7 N p (fun _ => j) N 0 = orElse (scan (rangeE p) 0 p.fVersions) j := by
  have := loop_scan (Sh.fleet_ValidProblem_L7 N p (fun _ => j)) p.fVersions j (rangeE p)
    (fun n i x hx => by
      have hi := (List.getElem?_eq_some_iff.1 hx).1
      rw [Sh.fleet_ValidProblem_L7, cnd_pos (by omega), idx_nat, hx]
      simp only [Option.bind_some, join, within_eq]
      rw [idx_lt (d := 0) (by omega), idx_lt (d := 0) (by omega), wrap_succ (by omega)]
      simp only [Option.bind_some]
      unfold rangeE
      generalize p.fNow.getD i 0 = a
      generalize p.fTarget.getD i 0 = b
      have e1 : decide (0 ≤ a) = !decide (a < 0) := by rw [← decide_not]; congr 1; simp
      have e2 : decide (a < x) = !decide (x ≤ a) := by rw [← decide_not]; congr 1; simp
      have e3 : decide (0 ≤ b) = !decide (b < 0) := by rw [← decide_not]; congr 1; simp
      have e4 : decide (b < x) = !decide (x ≤ b) := by rw [← decide_not]; congr 1; simp
      rw [e1, e2, e3, e4]
      by_cases k1 : x < 1 <;> by_cases k2 : 6 < x <;> by_cases k3 : a < 0 <;> by_cases k4 : x ≤ a <;> by_cases k5 : b < 0 <;> by_cases k6 : x ≤ b <;> simp [k1, k2, k3, k4, k5, k6, orElse])
    (fun n => by rw [Sh.fleet_ValidProblem_L7, cnd_neg (by omega)]) N 0 (by omega) (by omega)
  simpa using this

theorem ref_tabs (N : Nat) (p : ApiProblem) (hN : N ≤ 1000000) (h6 : 7 ≤ N) (h1 : p.fTables.length < N) (hv : ∀ v, v ∈ p.fVersions → 1 ≤ v ∧ v ≤ 6) (j : Option Int) :
    Sh.sheaveref35_ValidProblem_L22 N p (fun _ => j) N 0 = orElse (scan (tabE p) 0 p.fTables) j := by
  have := loop_scan (Sh.sheaveref35_ValidProblem_L22 N p (fun _ => j)) p.fTables j (tabE p)
    (fun n i x hx => by
      have hi := (List.getElem?_eq_some_iff.1 hx).1
      rw [Sh.sheaveref35_ValidProblem_L22, cnd_pos (by omega), idx_nat, hx]
      simp only [Option.bind_some]
      rw [ref_table N p x hN h6 hv, wrap_succ (by omega)]
      simp only [Option.bind_some]
      unfold tabE
      by_cases k : tableE p x = 0
      · simp [k, orElse]
      · rw [bne_iff_ne.2 k, if_neg k]; rfl)
    (fun n => by rw [Sh.sheaveref35_ValidProblem_L22, cnd_neg (by omega)]) N 0 (by omega) (by omega)
  simpa using this
theorem fleet_tabs (N : Nat) (p : ApiProblem) (hN : N ≤ 1000000) (h6 : 7 ≤ N) (h1 : p.fTables.length < N) (hv : ∀ v, v ∈ p.fVersions → 1 ≤ v ∧ v ≤ 6) (j : Option Int) :
    Sh.fleet_ValidProblem_L20 N p (fun _ => j) N 0 = orElse (scan (tabE p) 0 p.fTables) j := by
  have := loop_scan (Sh.fleet_ValidProblem_L20 N p (fun _ => j)) p.fTables j (tabE p)
    (fun n i x hx => by
      have hi := (List.getElem?_eq_some_iff.1 hx).1
      rw [Sh.fleet_ValidProblem_L20, cnd_pos (by omega), idx_nat, hx]
      simp only [Option.bind_some]
      rw [fleet_table_eq N p x hN h6 hv, wrap_succ (by omega)]
      simp only [Option.bind_some]
      unfold tabE
      by_cases k : tableE p x = 0
      · simp [k, orElse]
      · rw [bne_iff_ne.2 k, if_neg k]; rfl)
    (fun n => by rw [Sh.fleet_ValidProblem_L20, cnd_neg (by omega)]) N 0 (by omega) (by omega)
  simpa using this

theorem ref_validP (N : Nat) (p : ApiProblem) (hN : N ≤ 1000000) (h : 20 ≤ N) : Sh.sheaveref35_ValidProblem N p = some (validP p) := by
  unfold Sh.sheaveref35_ValidProblem validP
  simp only [join]
  by_cases k1 : 6 < p.fVersions.length
  · rw [cnd_pos (by omega)]; simp [k1]
  rw [cnd_neg (by omega)]
  by_cases k2 : 12 < p.fTables.length
  · rw [decide_eq_true (by omega : (12 : Int) < (p.fTables.length : Int))]; simp [k2]
  rw [decide_eq_false (by omega : ¬ (12 : Int) < (p.fTables.length : Int)), cnd_false, if_neg (by omega)]
  by_cases k3 : p.fNow.length = p.fVersions.length
  · by_cases k4 : p.fTarget.length = p.fVersions.length
    · rw [k3, k4]
      simp only [bne_self_eq_false, cnd_false, ne_eq, not_true_eq_false, or_self, if_false]
      rw [ref_ranges N p hN (by omega) k3 k4]
      cases hs : scan (rangeE p) 0 p.fVersions with
      | some r => rfl
      | none =>
        simp only [orElse]
        rw [ref_tabs N p hN (by omega) (by omega) (range_ok hs)]
        cases scan (tabE p) 0 p.fTables <;> rfl
    · have : ((p.fTarget.length : Int) != (p.fVersions.length : Int)) = true := bne_iff_ne.2 (by omega)
      rw [this, k3]; simp [k4]
  · have : ((p.fNow.length : Int) != (p.fVersions.length : Int)) = true := bne_iff_ne.2 (by omega)
    rw [this]; simp [k3]
theorem fleet_validP (N : Nat) (p : ApiProblem) (hN : N ≤ 1000000) (h : 20 ≤ N) : Sh.fleet_ValidProblem N p = some (validP p) := by
  unfold Sh.fleet_ValidProblem validP
  simp only [join]
  by_cases k1 : 6 < p.fVersions.length
  · rw [cnd_pos (by omega)]; simp [k1]
  rw [cnd_neg (by omega)]
  by_cases k2 : 12 < p.fTables.length
  · rw [decide_eq_true (by omega : (12 : Int) < (p.fTables.length : Int))]; simp [k2]
  rw [decide_eq_false (by omega : ¬ (12 : Int) < (p.fTables.length : Int)), cnd_false, if_neg (by omega)]
  by_cases k3 : p.fNow.length = p.fVersions.length
  · by_cases k4 : p.fTarget.length = p.fVersions.length
    · rw [k3, k4]
      simp only [bne_self_eq_false, cnd_false, ne_eq, not_true_eq_false, or_self, if_false]
      rw [fleet_ranges N p hN (by omega) k3 k4]
      cases hs : scan (rangeE p) 0 p.fVersions with
      | some r => rfl
      | none =>
        simp only [orElse]
        rw [fleet_tabs N p hN (by omega) (by omega) (range_ok hs)]
        cases scan (tabE p) 0 p.fTables <;> rfl
    · have : ((p.fTarget.length : Int) != (p.fVersions.length : Int)) = true := bne_iff_ne.2 (by omega)
      rw [this, k3]; simp [k4]
  · have : ((p.fNow.length : Int) != (p.fVersions.length : Int)) = true := bne_iff_ne.2 (by omega)
    rw [this]; simp [k3]
end Go.Lift
