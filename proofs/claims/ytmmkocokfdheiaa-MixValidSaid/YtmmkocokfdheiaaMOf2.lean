/- Lemmas for MixValidSaid, which YtmmkocokfdheiaaFin7 proves. -/
/- The drafts of problems: what the recipe gives is a valid problem. -/
import Derived.Test.YtmmkocokfdheiaaMOf
namespace Go.Lift

theorem sq_of {l : List (List Bool)} {n m : Int} (h1 : (l.length : Int) = n) (h2 : ∀ row, row ∈ l → (row.length : Int) = m) : sq l n m = true := by
  unfold sq
  simp only [Bool.and_eq_true, decide_eq_true_eq, List.all_eq_true]
  exact ⟨h1, h2⟩
theorem tab_of {p : ApiProblem} {t : ApiTable} (h : TabOk p t) : tableE p t = 0 := by
  have hk := h.kind
  have hf := h.from0
  have ht := h.to0
  unfold tableE
  rw [if_neg, if_neg (by omega)]
  · simp only [sq_of h.okL h.okR]
    rw [if_neg (by simp)]
    by_cases h4 : t.fKind = 4
    · rw [if_pos h4, sq_of (h.reL h4) h.reR, if_neg (by simp), h.reD h4]; rfl
    · rw [if_neg h4, h.reN h4]; rfl
  · rintro (h1 | h1 | ⟨h1, h2⟩)
    · omega
    · omega
    · have := h.aware h1
      unfold storedB at this
      rw [Bool.or_eq_false_iff, beq_eq_false_iff_ne, beq_eq_false_iff_ne] at this
      omega

theorem bits_row (N : Nat) (m bad : Int) (diag : Bool) (i : Nat) (acc : List (List Bool)) {R : Type} (j : List Bool → Option (List (List Bool))) (hN : N ≤ 1000000) (h20 : 20 ≤ N) (hm : 0 ≤ m ∧ m ≤ 6) (hi : i < 6) :
    ∃ row, Sh.sheaveref35_bits_L4 N m bad diag (acc, (i : Int)) j N ([], 0) = j row ∧ (row.length : Int) = m ∧ (diag = true → (i : Int) < m → row.getD i false = true) := by
  obtain ⟨M, rfl⟩ := Int.eq_ofNat_of_zero_le hm.1
  obtain ⟨row, e, h1, h2⟩ := loop_ex (A := List Bool) (Sh.sheaveref35_bits_L4 N (M : Int) bad diag (acc, (i : Int)) j) (fun a k => (a, k)) M j
    (fun k a => a.length = k ∧ ∀ q, q < k → diag = true → q = i → a.getD q false = true)
    (fun n k a hk ha => by
      refine ⟨a ++ [(diag && decide (i = k)) || (Int.tmod (shrI .u16 bad ((3 * i + k : Nat) : Int)) 2 == 0)], ?_, by simp [ha.1], getD_app (P := fun q y => diag = true → q = i → y = true) ha.1 ha.2 (fun h1 h2 => by simp [h1, h2])⟩
      rw [Sh.sheaveref35_bits_L4]
      simp only [join_eq]
      rw [cnd_pos (by omega), wrap_succ (by omega), wrap_small (n := 3 * (i : Int)) (by omega) (by omega), wrap_small (n := 3 * (i : Int) + (k : Int)) (by omega) (by omega)]
      have l1 : ∀ y : Bool, a.length + ([y] : List Bool).length ≤ lim := by intro y; rw [ha.1]; unfold lim; simp; omega
      simp only [chk_bind_true (l1 _), chk_bind_true (show (0 : Int) ≤ 3 * (i : Int) + (k : Int) by omega)]
      have e1 : ((3 * i + k : Nat) : Int) = 3 * (i : Int) + (k : Int) := by omega
      rw [e1]
      have e2 : (((i : Nat) : Int) == ((k : Nat) : Int)) = decide (i = k) := by
        by_cases h : i = k
        · simp [h]
        · rw [decide_eq_false h]; exact beq_eq_false_iff_ne.2 (by omega)
      rw [e2]
      cases diag <;> cases decide (i = k) <;> rfl)
    (fun n a _ => by
      rw [Sh.sheaveref35_bits_L4]
      simp only [join_eq]
      rw [cnd_neg (by omega)]) N 0 [] (Nat.zero_le _) (by omega) ⟨rfl, fun q hq => by omega⟩
  exact ⟨row, e, by omega, fun hd hlt => h2 i (by omega) hd rfl⟩

theorem bits_ok (N : Nat) (n m bad : Int) (diag : Bool) (hN : N ≤ 1000000) (h20 : 20 ≤ N) (hn : 0 ≤ n ∧ n ≤ 6) (hm : 0 ≤ m ∧ m ≤ 6) :
    ∃ l, Sh.sheaveref35_bits N n m bad diag = some l ∧ (l.length : Int) = n ∧ (∀ row, row ∈ l → (row.length : Int) = m) ∧ (diag = true → n = m → diagE l = none) := by
  obtain ⟨M, rfl⟩ := Int.eq_ofNat_of_zero_le hn.1
  unfold Sh.sheaveref35_bits
  obtain ⟨l, e, h1, h2⟩ := loop_ex (A := List (List Bool)) (Sh.sheaveref35_bits_L1 N (M : Int) m bad diag (fun v => some v)) (fun a k => (a, k)) M some
    (fun k a => a.length = k ∧ ∀ q, q < k → (((a.getD q []).length : Nat) : Int) = m ∧ (diag = true → (q : Int) < m → (a.getD q []).getD q false = true))
    (fun n k a hk ha => by
      obtain ⟨row, e, h1, h2⟩ := bits_row (R := Unit) N m bad diag k a (fun (v5 : List Bool) =>
        (chk (a.length + (([v5] : List (List Bool))).length ≤ lim)).bind fun _ =>
        Sh.sheaveref35_bits_L1 N (M : Int) m bad diag (fun v => some v) n (a ++ (([v5] : List (List Bool))), (IntKind.wrap .i64 ((k : Int) + 1)))) hN h20 hm (by omega)
      refine ⟨a ++ [row], ?_, by simp [ha.1], getD_app (P := fun q y => ((y.length : Nat) : Int) = m ∧ (diag = true → (q : Int) < m → y.getD q false = true)) ha.1 ha.2 ⟨h1, h2⟩⟩
      rw [Sh.sheaveref35_bits_L1]
      simp only [join_eq]
      rw [cnd_pos (by omega), e, chk_bind_true (by rw [ha.1]; unfold lim; simp; omega), wrap_succ (by omega)])
    (fun n a _ => by
      rw [Sh.sheaveref35_bits_L1]
      simp only [join_eq]
      rw [cnd_neg (by omega)]) N 0 [] (Nat.zero_le _) (by omega) ⟨rfl, fun q hq => by omega⟩
  have key : ∀ q row, l[q]? = some row → l.getD q [] = row := fun q row hq => by rw [List.getD_eq_getElem?_getD, hq]; rfl
  refine ⟨l, e, by omega, fun row hr => ?_, fun hd hnm => ?_⟩
  · obtain ⟨q, hq⟩ := List.mem_iff_getElem?.1 hr
    have := (h2 q (by have := (List.getElem?_eq_some_iff.1 hq).1; omega)).1
    rwa [key q row hq] at this
  · unfold diagE
    refine scan_none_of fun q row hq => ?_
    have hlt := (List.getElem?_eq_some_iff.1 hq).1
    have := (h2 q (by omega)).2 hd (by omega)
    rw [key q row hq] at this
    rw [Nat.zero_add, this]; rfl

/-- What a recipe's problem is. -/
structure GoodP (p : ApiProblem) : Prop where
  valid : validP p = 0
  nv : p.fVersions.length ≤ 3
  nt : p.fTables.length ≤ 4
  v3 : ∀ v, v ∈ p.fVersions → v ≤ 3

theorem tableE_vs {p q : ApiProblem} (h : p.fVersions = q.fVersions) (t : ApiTable) : tableE p t = tableE q t := by
  unfold tableE; rw [h]

theorem of35 (N : Nat) (d : Sheaveref35Draft) (hN : N ≤ 1000000) (h20 : 20 ≤ N) (hw : wSheaveref35Draft d) : ∃ p ok, Sh.sheaveref35_Of N d = some (p, ok) ∧ (ok = true → GoodP p) := by
  obtain ⟨w1, w2, w3, w4, _⟩ := hw
  unfold Sh.sheaveref35_Of
  simp only [join_eq]
  by_cases k1 : 3 < d.fVersions.length
  · rw [cnd_pos (by omega)]; exact ⟨_, false, rfl, fun h => by cases h⟩
  by_cases k2 : 4 < d.fLinks.length
  · rw [cnd_neg (by omega), decide_eq_true (by omega : (4 : Int) < (d.fLinks.length : Int))]; exact ⟨_, false, rfl, fun h => by cases h⟩
  rw [cnd_neg (by omega), decide_eq_false (by omega : ¬ (4 : Int) < (d.fLinks.length : Int)), cnd_false]
  obtain ⟨⟨vs, ns, ts⟩, e, h1, h2, h3, h4⟩ := loop_ex (A := List Int × List Int × List Int) (Sh.sheaveref35_Of_L4 N d fun v5 => Sh.sheaveref35_Of_L15 N d v5 (fun v16 => some (ApiProblem.mk v5.1 v5.2.1 v5.2.2 v16, true)) N ([], 0)) (fun a k => (a.1, a.2.1, a.2.2, k)) d.fVersions.length
    (fun v5 => Sh.sheaveref35_Of_L15 N d v5 (fun v16 => some (ApiProblem.mk v5.1 v5.2.1 v5.2.2 v16, true)) N ([], 0))
    (fun i a => a.1.length = i ∧ a.2.1.length = i ∧ a.2.2.length = i ∧ (∀ k, k < i → (1 ≤ a.1.getD k 0 ∧ a.1.getD k 0 ≤ 3) ∧ (0 ≤ a.2.1.getD k 0 ∧ a.2.1.getD k 0 < a.1.getD k 0) ∧ (0 ≤ a.2.2.getD k 0 ∧ a.2.2.getD k 0 < a.1.getD k 0)))
    (fun n i a hi ha => by
      obtain ⟨vs, ns, ts⟩ := a
      obtain ⟨h1, h2, h3, h4⟩ := ha
      simp only at h1 h2 h3 h4
      have hv := u8_at w1 i
      have hb := u8_at w2 i
      have hk := u8_at w3 i
      have hm := tmod_range (n := 3) hv.1 (by omega)
      obtain ⟨v, hvd⟩ : ∃ v, v = 1 + Int.tmod (d.fVersions.getD i 0) 3 := ⟨_, rfl⟩
      have m1 := tmod_range (n := v) hb.1 (by omega)
      have m2 := tmod_range (n := v) hk.1 (by omega)
      refine ⟨(vs ++ [v], ns ++ [Int.tmod (d.fNow.getD i 0) v], ts ++ [Int.tmod (d.fTarget.getD i 0) v]), ?_, by simp [h1], by simp [h2], by simp [h3], ?_⟩
      · rw [Sh.sheaveref35_Of_L4]
        simp only [join_eq]
        rw [cnd_pos (by omega), idx_lt (d := 0) hi, code35_eq N w2, code35_eq N w3]
        simp only [Option.bind_some]
        rw [wrap_small (n := Int.tmod _ _) (by omega) (by omega), wrap_small (n := 1 + _) (by omega) (by omega), ← hvd, wrap_succ (by omega)]
        have l1 : ∀ y : Int, vs.length + ([y] : List Int).length ≤ lim := by intro y; rw [h1]; unfold lim; simp; omega
        have l2 : ∀ y : Int, ns.length + ([y] : List Int).length ≤ lim := by intro y; rw [h2]; unfold lim; simp; omega
        have l3 : ∀ y : Int, ts.length + ([y] : List Int).length ≤ lim := by intro y; rw [h3]; unfold lim; simp; omega
        simp only [chk_bind_true (l1 _), chk_bind_true (l2 _), chk_bind_true (l3 _), chk_bind_true (show v ≠ 0 by omega)]
      · intro k hk
        simp only
        by_cases hki : k < i
        · rw [getD_app_lt (by omega), getD_app_lt (by omega), getD_app_lt (by omega)]; exact h4 k hki
        · have : k = i := by omega
          subst this
          rw [getD_app_eq h1.symm, getD_app_eq h2.symm, getD_app_eq h3.symm]
          omega)
    (fun n a _ => by
      rw [Sh.sheaveref35_Of_L4]
      simp only [join_eq]
      rw [cnd_neg (by omega)]) N 0 ([], [], []) (Nat.zero_le _) (by omega) ⟨rfl, rfl, rfl, fun k hk => by omega⟩
  simp only at h1 h2 h3 h4
  have e' : Sh.sheaveref35_Of_L4 N d (fun v5 => Sh.sheaveref35_Of_L15 N d v5 (fun v16 => some (ApiProblem.mk v5.1 v5.2.1 v5.2.2 v16, true)) N ([], 0)) N ([], [], [], 0) = _ := e
  rw [e']
  have hvs : ∀ v, v ∈ vs → 1 ≤ v ∧ v ≤ 3 := by
    intro v hv
    obtain ⟨q, hq⟩ := List.mem_iff_getElem?.1 hv
    have := (h4 q (by have := (List.getElem?_eq_some_iff.1 hq).1; omega)).1
    rwa [List.getD_eq_getElem?_getD, hq] at this
  have fin : ∀ tabs : List ApiTable, tabs.length ≤ 4 → (∀ t, t ∈ tabs → tableE ⟨vs, ns, ts, []⟩ t = 0) → GoodP ⟨vs, ns, ts, tabs⟩ := by
    intro tabs ht h
    have hp : ProbOk ⟨vs, ns, ts, tabs⟩ := ⟨show vs.length ≤ 6 by omega, show tabs.length ≤ 12 by omega, show ns.length = vs.length by omega, show ts.length = vs.length by omega, fun v hv => by have := hvs v hv; omega, fun t ht => by rw [← h t ht]; exact tableE_vs rfl t⟩
    exact ⟨probOk_valid hp fun i hi => by have := h4 i (by have : i < vs.length := hi; omega); simp only; omega, show vs.length ≤ 3 by omega, ht, fun v hv => (hvs v hv).2⟩
  by_cases k3 : vs.length = 0
  · refine ⟨_, true, ?_, fun _ => fin [] (by simp) (fun t ht => by cases ht)⟩
    obtain ⟨M, rfl⟩ : ∃ M, N = M + 1 := ⟨N - 1, by omega⟩
    rw [Sh.sheaveref35_Of_L15]
    simp only [join_eq]
    rw [k3]
    by_cases k4 : (0 : Int) < (d.fLinks.length : Int)
    · rw [cnd_pos k4]; rfl
    · rw [cnd_neg k4]; rfl
  obtain ⟨tabs, e2, g1, g2⟩ := loop_ex (A := List ApiTable) (Sh.sheaveref35_Of_L15 N d (vs, ns, ts) (fun v16 => some (ApiProblem.mk vs ns ts v16, true))) (fun a k => (a, k)) d.fLinks.length (fun v16 => some (ApiProblem.mk vs ns ts v16, true))
    (fun i a => a.length = i ∧ ∀ t, t ∈ a → tableE ⟨vs, ns, ts, []⟩ t = 0)
    (fun n i a hi ha => by
      have hx : d.fLinks[i]? = some d.fLinks[i] := by simp [hi]
      generalize d.fLinks[i] = l at hx
      obtain ⟨u1, u2, u3, _, u5, u6, _⟩ := w4 l (List.mem_of_getElem? hx)
      have u1 := u8_range u1
      have u2 := u8_range u2
      have u3 := u8_range u3
      have mk := tmod_range (n := 4) u1.1 (by omega)
      have hL : (0 : Int) < (vs.length : Int) := by omega
      have mf := tmod_range (n := (vs.length : Int)) u2.1 hL
      have mt := tmod_range (n := (vs.length : Int)) u3.1 hL
      rw [Sh.sheaveref35_Of_L15]
      simp only [join_eq]
      rw [cnd_pos (by omega), decide_eq_true hL, cnd_true, idx_nat, hx]
      simp only [Option.bind_some]
      rw [chk_bind_true (by omega), chk_bind_true (by omega), wrap_small (n := l.fFrom) (by omega) (by omega), wrap_small (n := l.fTo) (by omega) (by omega), wrap_small (n := Int.tmod l.fKind 4) (by omega) (by omega), wrap_small (n := 1 + _) (by omega) (by omega), wrap_succ (by omega)]
      simp only [stored_eq, Option.bind_some]
      rw [idx_in (d := 0) mf.1 mf.2, idx_in (d := 0) mt.1 mt.2]
      simp only [Option.bind_some]
      have hA : ∀ q : Int, 0 ≤ q → q < (vs.length : Int) → 1 ≤ vs.getD q.toNat 0 ∧ vs.getD q.toNat 0 ≤ 3 := fun q h0 h1 => (h4 q.toNat (by omega)).1
      have hf := hA _ mf.1 mf.2
      have ht := hA _ mt.1 mt.2
      obtain ⟨A, eA, a1, a2, _⟩ := bits_ok N (vs.getD (Int.tmod l.fFrom (vs.length : Int)).toNat 0) (vs.getD (Int.tmod l.fTo (vs.length : Int)).toNat 0) l.fBad false hN h20 (by omega) (by omega)
      obtain ⟨B, eB, b1, b2, b3⟩ := bits_ok N (vs.getD (Int.tmod l.fFrom (vs.length : Int)).toNat 0) (vs.getD (Int.tmod l.fFrom (vs.length : Int)).toNat 0) l.fLost true hN h20 (by omega) (by omega)
      rw [eA, eB]
      simp only [Option.bind_some]
      have l1 : ∀ y : ApiTable, a.length + ([y] : List ApiTable).length ≤ lim := by intro y; rw [ha.1]; unfold lim; simp; omega
      simp only [chk_bind_true (l1 _)]
      obtain ⟨kd, hkd⟩ : ∃ kd, kd = 1 + Int.tmod l.fKind 4 := ⟨_, rfl⟩
      rw [← hkd]
      have fin2 : ∀ (aw : Bool) (re : List (List Bool)), (aw = true → (kd == 3 || kd == 4) = false) → ((kd = 4 → re = B) ∧ (kd ≠ 4 → re = [])) →
          tableE ⟨vs, ns, ts, []⟩ (ApiTable.mk kd (Int.tmod l.fFrom (vs.length : Int)) (Int.tmod l.fTo (vs.length : Int)) aw A re) = 0 := by
        intro aw re haw hre
        refine tab_of ⟨show 1 ≤ kd ∧ kd ≤ 4 by omega, haw, mf, mt, a1, a2, fun h => by rw [hre.1 h]; exact b1, fun row hr => ?_, fun h => by rw [hre.1 h]; exact b3 rfl rfl, fun h => hre.2 h⟩
        by_cases h4 : kd = 4
        · simp only at hr; rw [hre.1 h4] at hr; exact b2 row hr
        · simp only at hr; rw [hre.2 h4] at hr; cases hr
      have app : ∀ t, tableE ⟨vs, ns, ts, []⟩ t = 0 → (a ++ [t]).length = i + 1 ∧ ∀ t', t' ∈ a ++ [t] → tableE ⟨vs, ns, ts, []⟩ t' = 0 := by
        intro t ht
        refine ⟨by simp [ha.1], fun t' ht' => ?_⟩
        rcases List.mem_append.1 ht' with h | h
        · exact ha.2 t' h
        · rw [List.mem_singleton.1 h]; exact ht
      by_cases h4 : kd = 4
      · have e4 : (kd == 4) = true := beq_iff_eq.2 h4
        have hre : (kd = 4 → B = B) ∧ (kd ≠ 4 → B = []) := ⟨fun _ => rfl, fun h => (h h4).elim⟩
        rw [e4]
        simp only [cnd_true, Bool.or_true, Bool.not_true]
        cases l.fAware
        · exact ⟨_, rfl, app _ (fin2 false B (fun h => by cases h) hre)⟩
        · exact ⟨_, rfl, app _ (fin2 false B (fun h => by cases h) hre)⟩
      · have e4 : (kd == 4) = false := beq_eq_false_iff_ne.2 h4
        have hre : (kd = 4 → ([] : List (List Bool)) = B) ∧ (kd ≠ 4 → ([] : List (List Bool)) = []) := ⟨fun h => (h4 h).elim, fun _ => rfl⟩
        rw [e4]
        simp only [cnd_false, Bool.or_false]
        cases l.fAware
        · exact ⟨_, rfl, app _ (fin2 false [] (fun h => by cases h) hre)⟩
        · cases e3 : kd == 3
          · exact ⟨_, rfl, app _ (fin2 true [] (fun _ => by rw [e3, e4]; rfl) hre)⟩
          · exact ⟨_, rfl, app _ (fin2 false [] (fun h => by cases h) hre)⟩)
    (fun n a _ => by
      rw [Sh.sheaveref35_Of_L15]
      simp only [join_eq]
      rw [cnd_neg (by omega), cnd_false]) N 0 [] (Nat.zero_le _) (by omega) ⟨rfl, fun t ht => by cases ht⟩
  exact ⟨_, true, e2, fun _ => fin tabs (by omega) g2⟩
end Go.Lift
