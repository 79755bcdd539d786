/- Lemmas for MixValidSaid, which YtmmkocokfdheiaaFin7 proves. -/
/- The test of a table: both implementations give one answer. -/
import Derived.Test.YtmmkocokfdheiaaPlain5
namespace Go.Lift

def diagE (l : List (List Bool)) : Option Int := scan (fun i row => if row.getD i false then none else some 1) 0 l

theorem getD_idx {row : List Bool} {i : Nat} (h : i < row.length) : idx row (i : Int) = some (row.getD i false) := by
  rw [idx_nat, List.getD_eq_getElem?_getD]; simp [h]

theorem refDiag (N : Nat) (t : ApiTable) (h : t.fRewrite.length < N) (hN : N ≤ 1000000) (hsq : ∀ row, row ∈ t.fRewrite → row.length = t.fRewrite.length) (j : Option Int) :
    Sh.sheaveref35_table_L22 N t (fun _ => j) N 0 = orElse (diagE t.fRewrite) j := by
  have := loop_scan (Sh.sheaveref35_table_L22 N t (fun _ => j)) t.fRewrite j (fun i row => if row.getD i false then none else some 1)
    (fun n i x hx => by
      have hi := (List.getElem?_eq_some_iff.1 hx).1
      have hl := hsq x (List.mem_of_getElem? hx)
      rw [Sh.sheaveref35_table_L22, cnd_pos (by omega), idx_nat, hx]
      simp only [Option.bind_some]
      rw [getD_idx (by omega), wrap_succ (by omega)]
      simp only [Option.bind_some]
      cases x.getD i false <;> rfl)
    (fun n => by rw [Sh.sheaveref35_table_L22, cnd_neg (by omega)]) N 0 (by omega) (by omega)
  simpa [diagE] using this
theorem fleetDiag (N : Nat) (t : ApiTable) (h : t.fRewrite.length < N) (hN : N ≤ 1000000) (hsq : ∀ row, row ∈ t.fRewrite → row.length = t.fRewrite.length) (j : Option Int) :
    Sh.fleet_table_L19 N t (fun _ => j) N 0 = orElse (diagE t.fRewrite) j := by
  have := loop_scan (Sh.fleet_table_L19 N t (fun _ => j)) t.fRewrite j (fun i row => if row.getD i false then none else some 1)
    (fun n i x hx => by
      have hi := (List.getElem?_eq_some_iff.1 hx).1
      have hl := hsq x (List.mem_of_getElem? hx)
      rw [Sh.fleet_table_L19, cnd_pos (by omega), idx_nat, hx]
      simp only [Option.bind_some]
      rw [getD_idx (by omega), wrap_succ (by omega)]
      simp only [Option.bind_some]
      cases x.getD i false <;> rfl)
    (fun n => by rw [Sh.fleet_table_L19, cnd_neg (by omega)]) N 0 (by omega) (by omega)
  simpa [diagE] using this

theorem sq_rows {l : List (List Bool)} {n m : Int} (h : sq l n m = true) : (l.length : Int) = n ∧ ∀ row, row ∈ l → (row.length : Int) = m := by
  unfold sq at h
  simp only [Bool.and_eq_true, decide_eq_true_eq, List.all_eq_true] at h
  exact h

def tableE (p : ApiProblem) (t : ApiTable) : Int :=
  if t.fKind < 1 ∨ 4 < t.fKind ∨ (t.fAware = true ∧ (t.fKind = 3 ∨ t.fKind = 4)) then 1
  else if t.fFrom < 0 ∨ (p.fVersions.length : Int) ≤ t.fFrom ∨ t.fTo < 0 ∨ (p.fVersions.length : Int) ≤ t.fTo then 4
  else
    let f := p.fVersions.getD t.fFrom.toNat 0
    let g := p.fVersions.getD t.fTo.toNat 0
    if sq t.fOK f g = false then 6
    else if t.fKind = 4 then (if sq t.fRewrite f f = false then 6 else (diagE t.fRewrite).getD 0)
    else if t.fRewrite.length = 0 then 0 else 6

theorem idx_in {α : Type} {xs : List α} {i : Int} {d : α} (h0 : 0 ≤ i) (h1 : i < (xs.length : Int)) : idx xs i = some (xs.getD i.toNat d) := by
  obtain ⟨k, rfl⟩ := Int.eq_ofNat_of_zero_le h0
  rw [idx_nat, List.getD_eq_getElem?_getD, Int.toNat_natCast]
  simp [show k < xs.length from by omega]

theorem bad_kind {t : ApiTable} (A B : Option Int) (hk : ¬ (t.fAware = true ∧ (t.fKind = 3 ∨ t.fKind = 4))) : cnd t.fAware (cnd (t.fKind == 3 || t.fKind == 4) A B) B = B := by
  cases ha : t.fAware
  · rfl
  · have : (t.fKind == 3 || t.fKind == 4) = false := by
      rw [Bool.or_eq_false_iff]
      constructor
      · simp only [beq_eq_false_iff_ne]; intro h; exact hk ⟨ha, .inl h⟩
      · simp only [beq_eq_false_iff_ne]; intro h; exact hk ⟨ha, .inr h⟩
    rw [this]; rfl

theorem ver_of {p : ApiProblem} {i : Int} (hv : ∀ v, v ∈ p.fVersions → 1 ≤ v ∧ v ≤ 6) (h0 : 0 ≤ i) (h1 : i < (p.fVersions.length : Int)) : 1 ≤ p.fVersions.getD i.toNat 0 ∧ p.fVersions.getD i.toNat 0 ≤ 6 := by
  refine hv _ ?_
  rw [List.getD_eq_getElem?_getD, List.getElem?_eq_getElem (by omega)]
  exact List.getElem_mem _

theorem ref_table (N : Nat) (p : ApiProblem) (t : ApiTable) (hN : N ≤ 1000000) (h6 : 7 ≤ N) (hv : ∀ v, v ∈ p.fVersions → 1 ≤ v ∧ v ≤ 6) : Sh.sheaveref35_table N p t = some (tableE p t) := by
  unfold Sh.sheaveref35_table tableE
  simp only [join, stored_eq, Option.bind_some]
  by_cases k1 : t.fKind < 1
  · simp [k1]
  by_cases k2 : 4 < t.fKind
  · simp [k1, k2]
  rw [cnd_neg k1, cnd_neg k2]
  by_cases hk : t.fAware = true ∧ (t.fKind = 3 ∨ t.fKind = 4)
  · obtain ⟨ha, k | k⟩ := hk <;> simp [ha, k]
  rw [cnd_false, bad_kind _ _ hk, if_neg (fun h => h.elim k1 fun h => h.elim k2 hk)]
  by_cases f1 : t.fFrom < 0
  · simp [f1]
  by_cases f2 : (p.fVersions.length : Int) ≤ t.fFrom
  · simp [f1, f2]
  by_cases f3 : t.fTo < 0
  · simp [f1, f2, f3]
  by_cases f4 : (p.fVersions.length : Int) ≤ t.fTo
  · simp [f1, f2, f3, f4]
  rw [cnd_neg f1, cnd_neg f2, cnd_neg f3, if_neg (fun h => h.elim f1 fun h => h.elim f2 fun h => h.elim f3 f4)]
  have hf := ver_of hv (i := t.fFrom) (by omega) (by omega)
  rw [decide_eq_false f4, cnd_false, idx_in (d := 0) (by omega : 0 ≤ t.fFrom) (by omega), idx_in (d := 0) (by omega : 0 ≤ t.fTo) (by omega)]
  simp only [Option.bind_some]
  generalize p.fVersions.getD t.fFrom.toNat 0 = f at *
  generalize p.fVersions.getD t.fTo.toNat 0 = g at *
  rw [square_eq N t.fOK f g (by omega) hN, square_eq N t.fRewrite f f (by omega) hN]
  simp only [Option.bind_some]
  cases hq : sq t.fOK f g
  · rfl
  simp only [Bool.not_true, cnd_false]
  by_cases k4 : t.fKind = 4
  · have : (t.fKind != 4) = false := by simp [k4]
    rw [this, cnd_false]
    simp only [k4, if_true]
    cases hr : sq t.fRewrite f f
    · rfl
    · have h7 := sq_rows hr
      simp only [Bool.not_true, cnd_false]
      rw [refDiag N t (by omega) hN (fun row hm => by have := h7.2 row hm; omega)]
      cases diagE t.fRewrite <;> simp [orElse]
  · have : (t.fKind != 4) = true := by simpa using k4
    rw [this, cnd_true]
    simp only [k4, if_false]
    by_cases hr : t.fRewrite.length = 0
    · simp [hr]
    · have : ((t.fRewrite.length : Int) != 0) = true := bne_iff_ne.2 (by omega)
      rw [this]; simp [hr]

theorem kind_eq (N : Nat) (k : Int) (a : Bool) : Sh.fleet_kind N k a = some (k == 1 || (k == 2 || ((k == 3 || k == 4) && !a))) := by
  unfold Sh.fleet_kind
  simp only [join]
  cases h1 : k == 1 <;> cases h2 : k == 2 <;> cases h3 : k == 3 <;> cases h4 : k == 4 <;> cases a <;> rfl

theorem fleet_table_eq (N : Nat) (p : ApiProblem) (t : ApiTable) (hN : N ≤ 1000000) (h6 : 7 ≤ N) (hv : ∀ v, v ∈ p.fVersions → 1 ≤ v ∧ v ≤ 6) : Sh.fleet_table N p t = some (tableE p t) := by
  unfold Sh.fleet_table tableE
  simp only [join, kind_eq, within_eq, Option.bind_some]
  by_cases hb : t.fKind < 1 ∨ 4 < t.fKind ∨ (t.fAware = true ∧ (t.fKind = 3 ∨ t.fKind = 4))
  · have : (t.fKind == 1 || (t.fKind == 2 || ((t.fKind == 3 || t.fKind == 4) && !t.fAware))) = false := by
      rcases hb with h | h | ⟨ha, h | h⟩
      · rw [beq_eq_false_iff_ne.2 (by omega : t.fKind ≠ 1), beq_eq_false_iff_ne.2 (by omega : t.fKind ≠ 2), beq_eq_false_iff_ne.2 (by omega : t.fKind ≠ 3), beq_eq_false_iff_ne.2 (by omega : t.fKind ≠ 4)]; rfl
      · rw [beq_eq_false_iff_ne.2 (by omega : t.fKind ≠ 1), beq_eq_false_iff_ne.2 (by omega : t.fKind ≠ 2), beq_eq_false_iff_ne.2 (by omega : t.fKind ≠ 3), beq_eq_false_iff_ne.2 (by omega : t.fKind ≠ 4)]; rfl
      · simp [ha, h]
      · simp [ha, h]
    rw [this, if_pos hb]; rfl
  · have : (t.fKind == 1 || (t.fKind == 2 || ((t.fKind == 3 || t.fKind == 4) && !t.fAware))) = true := by
      have hk : t.fKind = 1 ∨ t.fKind = 2 ∨ t.fKind = 3 ∨ t.fKind = 4 := by
        have h1 : ¬ t.fKind < 1 := fun h => hb (.inl h)
        have h2 : ¬ 4 < t.fKind := fun h => hb (.inr (.inl h))
        omega
      rcases hk with h | h | h | h
      · simp [h]
      · simp [h]
      · cases ha : t.fAware
        · simp [h]
        · exact (hb (.inr (.inr ⟨ha, .inl h⟩))).elim
      · cases ha : t.fAware
        · simp [h]
        · exact (hb (.inr (.inr ⟨ha, .inr h⟩))).elim
    rw [this, if_neg hb]
    simp only [Bool.not_true, cnd_false]
    by_cases f1 : t.fFrom < 0
    · simp [f1, show ¬ (0 ≤ t.fFrom) from by omega]
    by_cases f2 : (p.fVersions.length : Int) ≤ t.fFrom
    · simp [f2, show ¬ (t.fFrom < (p.fVersions.length : Int)) from by omega]
    by_cases f3 : t.fTo < 0
    · simp [f3, show 0 ≤ t.fFrom from by omega, show t.fFrom < (p.fVersions.length : Int) from by omega, show ¬ (0 ≤ t.fTo) from by omega]
    by_cases f4 : (p.fVersions.length : Int) ≤ t.fTo
    · simp [f4, show 0 ≤ t.fFrom from by omega, show t.fFrom < (p.fVersions.length : Int) from by omega, show ¬ (t.fTo < (p.fVersions.length : Int)) from by omega]
    rw [if_neg (fun h => h.elim f1 fun h => h.elim f2 fun h => h.elim f3 f4)]
    have hf := ver_of hv (i := t.fFrom) (by omega) (by omega)
    have hg := ver_of hv (i := t.fTo) (by omega) (by omega)
    rw [decide_eq_true (by omega : 0 ≤ t.fFrom), decide_eq_true (by omega : t.fFrom < (p.fVersions.length : Int)), decide_eq_true (by omega : 0 ≤ t.fTo), decide_eq_true (by omega : t.fTo < (p.fVersions.length : Int)), idx_in (d := 0) (by omega : 0 ≤ t.fFrom) (by omega), idx_in (d := 0) (by omega : 0 ≤ t.fTo) (by omega)]
    simp only [Bool.and_self, Bool.not_true, cnd_false, Option.bind_some]
    generalize p.fVersions.getD t.fFrom.toNat 0 = f at *
    generalize p.fVersions.getD t.fTo.toNat 0 = g at *
    rw [matrix_eq N t.fOK f g (by omega) hN, matrix_eq N t.fRewrite f f (by omega) hN]
    simp only [Option.bind_some]
    cases hq : sq t.fOK f g
    · rfl
    simp only [Bool.not_true, cnd_false]
    by_cases k4 : t.fKind = 4
    · simp only [k4, beq_self_eq_true, cnd_true, if_true]
      cases hr : sq t.fRewrite f f
      · rfl
      · have h7 := sq_rows hr
        simp only [Bool.not_true, cnd_false]
        rw [fleetDiag N t (by omega) hN (fun row hm => by have := h7.2 row hm; omega)]
        cases diagE t.fRewrite <;> simp [orElse]
    · have : (t.fKind == 4) = false := beq_eq_false_iff_ne.2 k4
      rw [this, cnd_false]
      simp only [k4, if_false, Bool.not_false, cnd_true]
      by_cases hr : t.fRewrite.length = 0
      · rw [fleetDiag N t (by omega) hN (fun row hm => by rw [List.eq_nil_of_length_eq_zero hr] at hm; cases hm), List.eq_nil_of_length_eq_zero hr]
        simp [diagE, scan, orElse]
      · rw [decide_eq_true (by omega : 0 < (t.fRewrite.length : Int))]
        simp [hr]
end Go.Lift
