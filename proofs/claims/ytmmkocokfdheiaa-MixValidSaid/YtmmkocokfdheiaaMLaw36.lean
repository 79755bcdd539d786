/- Lemmas for MixValidSaid, which YtmmkocokfdheiaaFin7 proves. -/
/- The laws of the mixes in plain words: MixConflicts, MixAborts, MixAborted, MixGoal, MixValid. -/
import Derived.Test.YtmmkocokfdheiaaMAbort2
namespace Go.Lift

theorem ref_cmp_gen {N : Nat} {a b : ApiMix} (hN : N ≤ 1000000) (h1 : a.fBase.length < N) (h2 : a.fNext.length < N) (h3 : a.fHeld.length < N) (h4 : b.fHeld.length < N) (wa : wSl wU8 a.fHeld) (wb : wSl wU8 b.fHeld) : Sh.sheaveref36_Compare N a b = some (cmpM a b) := by
  unfold Sh.sheaveref36_Compare
  rw [ref_ints h1 hN, ref_ints h2 hN, ref_numbers h3 hN wa, ref_numbers h4 hN wb]
  simp only [Option.bind_some]
  rw [ref_ints h3 hN]
  unfold cmpM orF
  by_cases h1 : cmpL a.fBase b.fBase = 0
  · simp only [h1, orF]
    by_cases h2 : cmpL a.fNext b.fNext = 0
    · simp only [h2]
      by_cases h3 : cmpL a.fHeld b.fHeld = 0 <;> simp [h3]
    · have : (cmpL a.fNext b.fNext != 0) = true := by simpa using h2
      simp [h2, this]
  · have : (cmpL a.fBase b.fBase != 0) = true := by simpa using h1
    simp [h1, this]
theorem ref_eq_self {N : Nat} {a : ApiMix} (hN : N ≤ 1000000) (h1 : a.fBase.length < N) (h2 : a.fNext.length < N) (h3 : a.fHeld.length < N) (wa : wSl wU8 a.fHeld) : Sh.sheaveref36_Equal N a a = some true := by
  unfold Sh.sheaveref36_Equal
  rw [ref_cmp_gen hN h1 h2 h3 h3 wa wa, cmpM_self]; rfl
theorem ref_eq_ok {N : Nat} {p : ApiProblem} {a : ApiMix} (hN : N ≤ 1000000) (h20 : 100 ≤ N) (hp : ProbOk p) (ha : MixOk p a) : Sh.sheaveref36_Equal N a a = some true := by
  have := hp.nv
  have := hp.nt
  exact ref_eq_self hN (by rw [ha.base]; omega) (by rw [ha.next]; omega) (by rw [ha.held]; omega) (ok_u8 ha)
theorem conflicted_self (N : Nat) (a : List ApiConflict) (hN : N ≤ 1000000) (h : a.length < N) : Sh.sheaveref36_Conflicted N a a = some true := by
  unfold Sh.sheaveref36_Conflicted
  rw [bne_self_eq_false, cnd_false]
  have := loop_scan (Sh.sheaveref36_Conflicted_L2 N a a fun _ => some true) a (some true) (fun _ _ => none)
    (fun n i x hx => by
      have hi := (List.getElem?_eq_some_iff.1 hx).1
      rw [Sh.sheaveref36_Conflicted_L2, cnd_pos (by omega)]
      simp only [idx_nat, hx, Option.bind_some, beq_self_eq_true, Bool.and_self, Bool.not_true, cnd_false]
      rw [wrap_succ (by omega)]; rfl)
    (fun n => by rw [Sh.sheaveref36_Conflicted_L2, cnd_neg (by simp)]) N 0 (Nat.zero_le _) (by omega)
  refine this.trans ?_
  rw [scan_none_of (fun _ _ _ => rfl)]; rfl
theorem same_self (N : Nat) (a : List ApiMix) (hN : N ≤ 1000000) (h : a.length < N) (hs : ∀ x, x ∈ a → Sh.sheaveref36_Equal N x x = some true) : Sh.sheaveref36_Same N a a = some true := by
  unfold Sh.sheaveref36_Same
  rw [bne_self_eq_false, cnd_false]
  have := loop_scan (Sh.sheaveref36_Same_L2 N a a fun _ => some true) a (some true) (fun _ _ => none)
    (fun n i x hx => by
      have hi := (List.getElem?_eq_some_iff.1 hx).1
      rw [Sh.sheaveref36_Same_L2, cnd_pos (by omega)]
      simp only [idx_nat, hx, Option.bind_some]
      rw [hs x (List.mem_of_getElem? hx), wrap_succ (by omega)]; rfl)
    (fun n => by rw [Sh.sheaveref36_Same_L2, cnd_neg (by simp)]) N 0 (Nat.zero_le _) (by omega)
  refine this.trans ?_
  rw [scan_none_of (fun _ _ _ => rfl)]; rfl

theorem conflicts_len {p : ApiProblem} (hp : ProbOk p) (m : ApiMix) : (conflictsF p m).length ≤ 504 := by
  have := flatI_len (g := tabConf m) (c := 42) (i := 0) (xs := p.fTables) (fun j t ht => tabConf_len hp (tab_ok (hp.tab t (List.mem_of_getElem? ht))) _ m)
  have := hp.nt
  unfold conflictsF
  omega

theorem mix_confl_eq (N : Nat) (p : ApiProblem) (m : ApiMix) (hN : N ≤ 1000000) (h20 : 100 ≤ N) (hw : wSl wU8 m.fHeld) (hv : validM p m = 0) : Sh.mix_Conflicts N p m = some (conflictsF p m, 0) := by
  obtain ⟨hp, hm⟩ := valid_ok hw hv
  unfold Sh.mix_Conflicts
  rw [mix_valid_eq N p m hN (by omega) hw, hv, mix_conflicts_eq N p m hN (by omega) hp hm]; rfl
theorem mix_safe_eq (N : Nat) (p : ApiProblem) (m : ApiMix) (hN : N ≤ 1000000) (h20 : 100 ≤ N) (hw : wSl wU8 m.fHeld) (hv : validM p m = 0) : Sh.mix_Safe N p m = some ((conflictsF p m).isEmpty, 0) := by
  unfold Sh.mix_Safe
  rw [mix_confl_eq N p m hN h20 hw hv]
  simp only [Option.bind_some, join_eq, beq_self_eq_true, cnd_true]
  cases conflictsF p m with
  | nil => rfl
  | cons c cs => rw [beq_eq_false_iff_ne.2 (by simp only [List.length_cons]; omega)]; rfl

theorem law_head (d : Sheaveref35Draft) (x : Sheaveref36Draft) (wd : wSheaveref35Draft d) (wx : wSheaveref36Draft x) :
    ∃ p ok, Sh.sheaveref35_Of 1000 d = some (p, ok) ∧ (ok = true → GoodP p ∧ ProbOk p ∧ ∃ m, Sh.sheaveref36_Of 1000 p x = some m ∧ IsOf p x m ∧ MixOk p m ∧ validM p m = 0 ∧ wSl wU8 m.fHeld) := by
  obtain ⟨p, ok, e, h⟩ := of35 1000 d (by omega) (by omega) wd
  refine ⟨p, ok, e, fun hk => ?_⟩
  have hg := h hk
  have hp := (valid_prob hg.valid).1
  obtain ⟨m, e2, hi, ho⟩ := of36 1000 p x (by omega) (by omega) hp wx
  exact ⟨hg, hp, m, e2, hi, ho, ok_valid hg.valid ho, ok_u8 ho⟩

theorem mixConflicts_plain (d : Sheaveref35Draft) (x : Sheaveref36Draft) (wd : wSheaveref35Draft d) (wx : wSheaveref36Draft x) : Sh.sheavelaw36_MixConflicts 1000 d x = some true := by
  obtain ⟨p, ok, e, h⟩ := law_head d x wd wx
  unfold Sh.sheavelaw36_MixConflicts
  rw [e]
  simp only [Option.bind_some, join_eq, awake_true, Bool.not_true, cnd_false]
  cases ok
  · rfl
  obtain ⟨hg, hp, m, e2, hi, ho, hv, hw⟩ := h rfl
  simp only [Bool.not_true, cnd_false, e2, Option.bind_some]
  rw [mix_confl_eq 1000 p m (by omega) (by omega) hw hv, mix_safe_eq 1000 p m (by omega) (by omega) hw hv, ref_conflicts_eq 1000 p m (by omega) (by omega) hp ho]
  simp only [Option.bind_some, beq_self_eq_true, cnd_true]
  have := conflicts_len hp m
  rw [conflicted_self 1000 _ (by omega) (by omega)]
  simp only [Option.bind_some, cnd_true]
  cases conflictsF p m with
  | nil => rfl
  | cons c cs =>
    have : ((((c :: cs).length : Nat) : Int) == 0) = false := beq_eq_false_iff_ne.2 (by simp only [List.length_cons]; omega)
    rw [this]; rfl

theorem blame_eq_ok {p : ApiProblem} {m : ApiMix} (N : Nat) (hN : N ≤ 1000000) (h20 : 100 ≤ N) (hp : ProbOk p) (hm : MixOk p m) : Sh.sheaveref36_Equal N (blameR p m).1 (blameR p m).1 = some true := by
  unfold blameR
  cases h : blameF p m with
  | none => exact ref_eq_self hN (by simp [zeroM]; omega) (by simp [zeroM]; omega) (by simp [zeroM]; omega) (fun y hy => by simp [zeroM] at hy)
  | some y =>
    obtain ⟨j, x, hx, hf⟩ := scan_some h
    have hx2 := ok_ab hp hm (mem_aborts.1 (List.mem_of_getElem? hx))
    unfold blameE at hf
    split at hf
    · cases hf
    · cases hf; exact ref_eq_ok hN h20 hp hx2

theorem mixAborts_plain (d : Sheaveref35Draft) (x : Sheaveref36Draft) (wd : wSheaveref35Draft d) (wx : wSheaveref36Draft x) : Sh.sheavelaw36_MixAborts 1000 d x = some true := by
  obtain ⟨p, ok, e, h⟩ := law_head d x wd wx
  unfold Sh.sheavelaw36_MixAborts
  rw [e]
  simp only [Option.bind_some, join_eq, awake_true, Bool.not_true, cnd_false]
  cases ok
  · rfl
  obtain ⟨hg, hp, m, e2, hi, ho, hv, hw⟩ := h rfl
  have hnv := hp.nv
  simp only [Bool.not_true, cnd_false, e2, Option.bind_some]
  rw [mix_aborts_eq 1000 p m (by omega) (by omega) hw hv, mix_robust_eq 1000 p m (by omega) (by omega) hw hv, mix_blame_eq 1000 p m (by omega) (by omega) hw hv, ref_blame_eq 1000 p m (by omega) (by omega) hw hv, ref_all_ok 1000 p m (by omega) (by omega) hp ho, ref_robust_eq 1000 p m (by omega) (by omega) hp ho]
  have hal := aborts_len (m := m) (by rw [ho.next]; omega)
  simp only [Option.bind_some, beq_self_eq_true, cnd_true]
  rw [same_self 1000 _ (by omega) (by omega) (fun y hy => ref_eq_ok (by omega) (by omega) hp (ok_ab hp ho (mem_aborts.1 hy))), blame_eq_ok 1000 (by omega) (by omega) hp ho]
  simp

/-- No conflict, said in words. -/
theorem conflicts_nil {p : ApiProblem} {m : ApiMix} : conflictsF p m = [] ↔ ∀ i t, p.fTables[i]? = some t → ∀ u row, t.fOK[u]? = some row → wrB m i t u = true →
    (t.fAware = false → ∀ v ok, row[v]? = some ok → runB m t.fTo.toNat v = true → ok = true) ∧ (t.fAware = true → ∃ v, row[v]? = some true ∧ runB m t.fTo.toNat v = true) := by
  unfold conflictsF
  rw [flatI_nil_iff]
  have key : ∀ i t, tabConf m i t = [] ↔ ∀ u row, t.fOK[u]? = some row → wrB m i t u = true →
    (t.fAware = false → ∀ v ok, row[v]? = some ok → runB m t.fTo.toNat v = true → ok = true) ∧ (t.fAware = true → ∃ v, row[v]? = some true ∧ runB m t.fTo.toNat v = true) := by
    intro i t
    unfold tabConf
    rw [flatI_nil_iff]
    have key2 : ∀ u row, rdConf i m t u row = [] ↔ (t.fAware = false → ∀ v ok, row[v]? = some ok → runB m t.fTo.toNat v = true → ok = true) ∧ (t.fAware = true → ∃ v, row[v]? = some true ∧ runB m t.fTo.toNat v = true) := by
      intro u row
      unfold rdConf
      rw [List.append_eq_nil_iff, flatI_nil_iff]
      cases ha : t.fAware
      · simp only [Bool.false_and, Bool.false_eq_true, if_false, and_true, true_implies, false_implies]
        constructor
        · intro h v ok hv hr
          have := h v ok hv
          unfold gC at this
          rw [Nat.zero_add, hr, ha] at this
          cases ok
          · simp at this
          · rfl
        · intro h v ok hv
          unfold gC
          rw [Nat.zero_add]
          cases hr : runB m t.fTo.toNat v
          · rfl
          · rw [h v ok hv hr]; rfl
      · simp only [Bool.true_and, Bool.true_eq_false, false_implies, true_implies, true_and]
        constructor
        · rintro ⟨_, h⟩
          cases hA : anyI (hC m t) 0 row
          · rw [hA] at h; simp at h
          · obtain ⟨v, ok, hv, hh⟩ := anyI_iff.1 hA
            unfold hC at hh
            rw [Bool.and_eq_true, Nat.zero_add] at hh
            rw [hh.2] at hv
            exact ⟨v, hv, hh.1⟩
        · rintro ⟨v, hv, hr⟩
          have hA : anyI (hC m t) 0 row = true := anyI_iff.2 ⟨v, true, hv, by unfold hC; rw [Nat.zero_add, hr]; rfl⟩
          refine ⟨fun v ok _ => ?_, by rw [hA]; rfl⟩
          unfold gC
          rw [ha]; simp
    constructor
    · intro h u row hu hw
      have := h u row hu
      rw [Nat.zero_add, if_pos hw] at this
      exact (key2 u row).1 this
    · intro h u row hu
      rw [Nat.zero_add]
      split
      · rename_i hw; exact (key2 u row).2 (h u row hu hw)
      · rfl
  constructor
  · intro h i t hi
    have := h i t hi
    rw [Nat.zero_add] at this
    exact (key i t).1 this
  · intro h i t hi
    rw [Nat.zero_add]
    exact (key i t).2 (h i t hi)

theorem wr_ab {p : ApiProblem} {m x : ApiMix} (hp : ProbOk p) (hm : MixOk p m) (h : IsAb m x) {i : Nat} {t : ApiTable} (ht : p.fTables[i]? = some t) {u : Nat} (hw : wrB x i t u = true) : wrB m i t u = true := by
  have hin := (tab_ok (hp.tab t (List.mem_of_getElem? ht))).from0
  unfold wrB at hw ⊢
  split
  · rename_i hs; rw [if_pos hs, h.held] at hw; exact hw
  · rename_i hs; rw [if_neg hs] at hw; exact run_ab h (by rw [hm.next]; omega) hw
theorem safe_ab {p : ApiProblem} {m x : ApiMix} (hp : ProbOk p) (hm : MixOk p m) (h : IsAb m x) (ha : ∀ t, t ∈ p.fTables → t.fAware = false) (hs : conflictsF p m = []) : conflictsF p x = [] := by
  rw [conflicts_nil] at hs ⊢
  intro i t ht u row hu hw
  have hin := (tab_ok (hp.tab t (List.mem_of_getElem? ht))).to0
  have h1 := hs i t ht u row hu (wr_ab hp hm h ht hw)
  have h2 := ha t (List.mem_of_getElem? ht)
  exact ⟨fun _ v ok hv hr => h1.1 h2 v ok hv (run_ab h (by rw [hm.next]; omega) hr), fun h3 => by rw [h2] at h3; cases h3⟩
theorem robust_safe {p : ApiProblem} {m : ApiMix} (h : robustB p m = true) : conflictsF p m = [] := robust_iff.1 h m (IsAb.refl m)
theorem robust_ab {p : ApiProblem} {m x : ApiMix} (h : robustB p m = true) (hx : IsAb m x) : robustB p x = true := robust_iff.2 fun y hy => robust_iff.1 h y (hx.trans hy)

theorem mixAborted_plain (d : Sheaveref35Draft) (x : Sheaveref36Draft) (wd : wSheaveref35Draft d) (wx : wSheaveref36Draft x) : Sh.sheavelaw36_MixAborted 1000 d x = some true := by
  obtain ⟨p, ok, e, h⟩ := law_head d x wd wx
  unfold Sh.sheavelaw36_MixAborted
  rw [e]
  simp only [Option.bind_some, join_eq, awake_true, Bool.not_true, cnd_false]
  cases ok
  · rfl
  obtain ⟨hg, hp, m, e2, hi, ho, hv, hw⟩ := h rfl
  have hnv := hp.nv
  have hnt := hp.nt
  simp only [Bool.not_true, cnd_false, e2, Option.bind_some]
  rw [mix_aborts_eq 1000 p m (by omega) (by omega) hw hv, mix_robust_eq 1000 p m (by omega) (by omega) hw hv, mix_safe_eq 1000 p m (by omega) (by omega) hw hv]
  have hal := aborts_len (m := m) (by rw [ho.next]; omega)
  simp only [Option.bind_some, bne_self_eq_false, cnd_false]
  have k1 : (cnd (robustB p m) (cnd (!(conflictsF p m).isEmpty) (some false : Option Bool) none) none) = none := by
    cases hr : robustB p m
    · rfl
    · rw [robust_safe hr]; rfl
  have step1 : ∀ (A B : Option Bool), cnd (robustB p m) (cnd (!(conflictsF p m).isEmpty) A B) B = B := by
    intro A B
    cases hr : robustB p m
    · rfl
    · rw [robust_safe hr]; rfl
  rw [step1]
  have l1 := fun j => loop_scan (Sh.sheavelaw36_MixAborted_L17 1000 (p, true) (robustB p m, 0) (abortsF m, 0) fun _ => j) (abortsF m) j (fun _ _ => none)
    (fun n i x hx => by
      have hi := (List.getElem?_eq_some_iff.1 hx).1
      have hxa := mem_aborts.1 (List.mem_of_getElem? hx)
      have hx2 := ok_ab hp ho hxa
      rw [Sh.sheavelaw36_MixAborted_L17, cnd_pos (by simp only; omega)]
      simp only [idx_nat, hx, Option.bind_some, join_eq]
      rw [mix_robust_eq 1000 p x (by omega) (by omega) (ok_u8 hx2) (ok_valid hg.valid hx2), wrap_succ (by omega)]
      simp only [Option.bind_some, bne_self_eq_false, cnd_false]
      cases hr : robustB p m
      · rfl
      · rw [robust_ab hr hxa]; rfl)
    (fun n => by rw [Sh.sheavelaw36_MixAborted_L17, cnd_neg (by simp)]) 1000 0 (Nat.zero_le _) (by omega)
  have l2 := loop_scan (Sh.sheavelaw36_MixAborted_L26 1000 (p, true) fun _ => some (robustB p m == (conflictsF p m).isEmpty)) p.fTables (some (robustB p m == (conflictsF p m).isEmpty)) (fun _ t => if t.fAware then some true else none)
    (fun n i x hx => by
      have hi := (List.getElem?_eq_some_iff.1 hx).1
      rw [Sh.sheavelaw36_MixAborted_L26, cnd_pos (by simp only; omega)]
      simp only [idx_nat, hx, Option.bind_some]
      rw [wrap_succ (by omega)]
      cases x.fAware <;> rfl)
    (fun n => by rw [Sh.sheavelaw36_MixAborted_L26, cnd_neg (by simp)]) 1000 0 (Nat.zero_le _) (by omega)
  have l1 := l1 (Sh.sheavelaw36_MixAborted_L26 1000 (p, true) (fun _ => some (robustB p m == (conflictsF p m).isEmpty)) 1000 0)
  rw [scan_none_of (fun _ _ _ => rfl)] at l1
  refine l1.trans (l2.trans ?_)
  cases hs : scan (fun (_ : Nat) (t : ApiTable) => if t.fAware = true then some true else none) 0 (p.fTables.drop 0) with
  | some r =>
    obtain ⟨j, t, _, hf⟩ := scan_some hs
    split at hf
    · cases hf; rfl
    · cases hf
  | none =>
    have ha : ∀ t, t ∈ p.fTables → t.fAware = false := by
      intro t ht
      obtain ⟨j, hj⟩ := List.mem_iff_getElem?.1 ht
      have := scan_none hs j t (by simpa using hj)
      cases h : t.fAware
      · rfl
      · rw [h] at this; cases this
    simp only [orElse, Option.some.injEq, beq_iff_eq]
    rw [Bool.eq_iff_iff, List.isEmpty_iff]
    exact ⟨robust_safe, fun hc => robust_iff.2 fun y hy => safe_ab hp ho hy ha hc⟩
end Go.Lift
