/- Lemmas for MixValidSaid, which YtmmkocokfdheiaaFin7 proves. -/
/- Aborts, the first mix that is to blame, and robustness: both implementations give one answer. -/
import Derived.Test.YtmmkocokfdheiaaMAbort
namespace Go.Lift

theorem mix_open (N : Nat) (m : ApiMix) (hN : N ≤ 1000000) (h20 : 20 ≤ N) (hl : m.fNext.length ≤ 6) (j : List Int → Option (List ApiMix × Int)) :
    ∃ o, Sh.mix_Aborts_L3 N m j N ([], 0) = j o ∧ IsOpen m.fNext o := by
  obtain ⟨o, e, h1, h2⟩ := loop_ex (A := List Int) (Sh.mix_Aborts_L3 N m j) (fun a k => (a, k)) m.fNext.length j
    (fun i o => o.length = opn m.fNext i ∧ ∀ b, b < o.length → ∃ q : Nat, o.getD b 0 = (q : Int) ∧ q < m.fNext.length ∧ 0 ≤ m.fNext.getD q 0 ∧ opn m.fNext q = b)
    (fun n i o hi ho => by
      have hple := opn_le m.fNext i (by omega)
      have hs := opn_succ m.fNext i hi
      rw [Sh.mix_Aborts_L3]
      simp only [join_eq]
      rw [cnd_pos (by omega), idx_lt (d := 0) hi]
      simp only [Option.bind_some]
      rw [wrap_succ (by omega)]
      by_cases h0 : 0 ≤ m.fNext.getD i 0
      · rw [cnd_pos h0, chk_bind_true (by rw [ho.1]; unfold lim; simp; omega)]
        refine ⟨o ++ [(i : Int)], rfl, by rw [hs, if_pos h0, ← ho.1]; simp, ?_⟩
        rw [List.length_append]
        exact getD_app (P := fun b y => ∃ q : Nat, y = (q : Int) ∧ q < m.fNext.length ∧ 0 ≤ m.fNext.getD q 0 ∧ opn m.fNext q = b) rfl ho.2 ⟨i, rfl, hi, h0, ho.1.symm⟩
      · rw [cnd_neg h0]
        exact ⟨o, rfl, by rw [hs, if_neg h0, ho.1]; rfl, ho.2⟩)
    (fun n a _ => by
      rw [Sh.mix_Aborts_L3]
      simp only [join_eq]
      rw [cnd_neg (by omega)]) N 0 [] (Nat.zero_le _) (by omega) ⟨(opn_zero _).symm, fun b hb => by simp at hb⟩
  exact ⟨o, e, h1, h2⟩

theorem two_pow_le {n : Nat} (h : n ≤ 6) : 2 ^ n ≤ 64 := Nat.pow_le_pow_right (n := 2) (by omega) h
theorem shl_pow {n : Nat} (h : n ≤ 6) : shlI .i64 1 (n : Int) = ((2 ^ n : Nat) : Int) := shl_all ⟨n, by omega⟩
theorem range_succ_map {β : Type} (f : Nat → β) (n : Nat) : (List.range (n + 1)).map f = (List.range n).map f ++ [f n] := by
  rw [List.range_succ, List.map_append]; rfl

theorem mix_aborts_eq (N : Nat) (p : ApiProblem) (m : ApiMix) (hN : N ≤ 1000000) (h20 : 100 ≤ N) (hw : wSl wU8 m.fHeld) (hv : validM p m = 0) : Sh.mix_Aborts N p m = some (abortsF m, 0) := by
  obtain ⟨hp, hm⟩ := valid_ok hw hv
  have hnv := hp.nv
  have hnt := hp.nt
  have hl : m.fNext.length ≤ 6 := by rw [hm.next]; omega
  unfold Sh.mix_Aborts
  rw [mix_valid_eq N p m hN (by omega) hw, hv]
  simp only [Option.bind_some, bne_self_eq_false, cnd_false]
  obtain ⟨o, e, ho⟩ := mix_open N m hN (by omega) hl (fun (v4 : (List Int)) =>
      (chk (0 ≤ (v4.length : Int))).bind fun _ =>
      Sh.mix_Aborts_L11 N m v4 (fun (v12 : (List ApiMix)) =>
        some (v12, 0)) N (([] : List ApiMix), 0))
  rw [e, chk_bind_true (by omega)]
  have hoL := ho.len
  have hol := opn_le m.fNext m.fNext.length (Nat.le_refl _)
  have hpow := two_pow_le (show opn m.fNext m.fNext.length ≤ 6 by omega)
  obtain ⟨a, e2, h1⟩ := loop_ex (A := List ApiMix) (Sh.mix_Aborts_L11 N m o fun v12 => some (v12, 0)) (fun a k => (a, k)) (2 ^ opn m.fNext m.fNext.length) (fun v12 => some (v12, 0))
    (fun i a => a = (List.range i).map (abM m))
    (fun n i a hi ha => by
      refine ⟨a ++ [abM m i], ?_, by rw [range_succ_map, ha]⟩
      have hal : a.length = i := by rw [ha]; simp
      rw [Sh.mix_Aborts_L11]
      rw [hoL, shl_pow (n := opn m.fNext m.fNext.length) (by omega), cnd_pos (by omega), clone_int N m.fBase (by have := hm.base; unfold lim; omega), clone_int N m.fNext (by unfold lim; omega), clone_set N m.fHeld (by have := hm.held; unfold lim; omega)]
      simp only [Option.bind_some]
      rw [mix_ab_next N m.fNext o i a hN (by omega) hl ho (by omega), chk_bind_true (by rw [hal]; unfold lim; simp; omega), wrap_succ (by omega)]
      rfl)
    (fun n a _ => by
      rw [Sh.mix_Aborts_L11]
      rw [hoL, shl_pow (n := opn m.fNext m.fNext.length) (by omega), cnd_neg (by simp)]) N 0 [] (Nat.zero_le _) (by omega) rfl
  have e2' : Sh.mix_Aborts_L11 N m o (fun v12 => some (v12, 0)) N ([], 0) = some (a, 0) := e2
  rw [e2', h1]; rfl

theorem ref_copied (N : Nat) (m : ApiMix) (h1 : m.fBase.length ≤ lim) (h2 : m.fNext.length ≤ lim) (h3 : m.fHeld.length ≤ lim) : Sh.sheaveref36_copied N m = some m := by
  unfold Sh.sheaveref36_copied
  rw [chk_bind_true (by simpa using h1), chk_bind_true (by simpa using h2), chk_bind_true (by simpa using h3)]; rfl

theorem ref_all_eq (N : Nat) (m : ApiMix) (hN : N ≤ 1000000) (h20 : 100 ≤ N) (h1 : m.fBase.length ≤ 100) (hl : m.fNext.length ≤ 6) (h3 : m.fHeld.length ≤ 100) : Sh.sheaveref36_All N m = some (abortsF m) := by
  unfold Sh.sheaveref36_All
  obtain ⟨c, e, hc⟩ := loop_ex (A := Nat) (Sh.sheaveref36_All_L1 N m (fun (v2 : Int) =>
    Sh.sheaveref36_All_L7 N m v2 (fun (v8 : (List ApiMix)) => some v8) N (([] : List ApiMix), 0))) (fun a k => ((a : Int), k)) m.fNext.length (fun a => Sh.sheaveref36_All_L7 N m (a : Int) (fun (v8 : (List ApiMix)) => some v8) N (([] : List ApiMix), 0))
    (fun i a => a = opn m.fNext i)
    (fun n i a hi ha => by
      have hple := opn_le m.fNext i (by omega)
      have hs := opn_succ m.fNext i hi
      rw [Sh.sheaveref36_All_L1]
      simp only [join_eq]
      rw [cnd_pos (by omega), idx_lt (d := 0) hi]
      simp only [Option.bind_some]
      rw [wrap_succ (by omega), wrap_succ (by omega)]
      by_cases h0 : 0 ≤ m.fNext.getD i 0
      · rw [cnd_pos h0]
        exact ⟨a + 1, rfl, by rw [hs, if_pos h0, ha]⟩
      · rw [cnd_neg h0]
        exact ⟨a, rfl, by rw [hs, if_neg h0, ha]; rfl⟩)
    (fun n a _ => by
      rw [Sh.sheaveref36_All_L1]
      simp only [join_eq]
      rw [cnd_neg (by omega)]) N 0 0 (Nat.zero_le _) (by omega) (opn_zero _).symm
  have e' : Sh.sheaveref36_All_L1 N m (fun (v2 : Int) => Sh.sheaveref36_All_L7 N m v2 (fun (v8 : (List ApiMix)) => some v8) N (([] : List ApiMix), 0)) N (0, 0) = _ := e
  rw [e', hc]
  have hol := opn_le m.fNext m.fNext.length (Nat.le_refl _)
  have hpow := two_pow_le (show opn m.fNext m.fNext.length ≤ 6 by omega)
  obtain ⟨a, e2, h1⟩ := loop_ex (A := List ApiMix) (Sh.sheaveref36_All_L7 N m (opn m.fNext m.fNext.length : Int) fun v8 => some v8) (fun a k => (a, k)) (2 ^ opn m.fNext m.fNext.length) some
    (fun i a => a = (List.range i).map (abM m))
    (fun n i a hi ha => by
      refine ⟨a ++ [abM m i], ?_, by rw [range_succ_map, ha]⟩
      have hal : a.length = i := by rw [ha]; simp
      rw [Sh.sheaveref36_All_L7]
      rw [chk_bind_true (by omega), shl_pow (n := opn m.fNext m.fNext.length) (by omega), cnd_pos (by omega), ref_copied N m (by unfold lim; omega) (by unfold lim; omega) (by unfold lim; omega)]
      simp only [Option.bind_some]
      rw [ref_ab_next N m i a hN (by omega) hl (by omega), chk_bind_true (by rw [hal]; unfold lim; simp; omega), wrap_succ (by omega)]
      rfl)
    (fun n a _ => by
      rw [Sh.sheaveref36_All_L7]
      rw [chk_bind_true (by omega), shl_pow (n := opn m.fNext m.fNext.length) (by omega), cnd_neg (by simp)]) N 0 [] (Nat.zero_le _) (by omega) rfl
  have e2' : Sh.sheaveref36_All_L7 N m (opn m.fNext m.fNext.length : Int) (fun v8 => some v8) N ([], 0) = some a := e2
  rw [e2', h1]; rfl
theorem ref_all_ok (N : Nat) (p : ApiProblem) (m : ApiMix) (hN : N ≤ 1000000) (h20 : 100 ≤ N) (hp : ProbOk p) (hm : MixOk p m) : Sh.sheaveref36_All N m = some (abortsF m) := by
  have := hp.nv
  have := hp.nt
  exact ref_all_eq N m hN h20 (by rw [hm.base]; omega) (by rw [hm.next]; omega) (by rw [hm.held]; omega)

theorem ok_u8 {p : ApiProblem} {m : ApiMix} (hm : MixOk p m) : wSl wU8 m.fHeld := by
  intro x hx
  obtain ⟨q, hq⟩ := List.mem_iff_getElem?.1 hx
  have h1 := (List.getElem?_eq_some_iff.1 hq).1
  have := hm.range q (by rw [← hm.held]; exact h1)
  rw [List.getD_eq_getElem?_getD, hq] at this
  unfold wU8
  simp only [Option.getD_some] at this
  simp [Lit.wf, IntKind.min, IntKind.max, IntKind.signed, IntKind.bits]
  omega

/-- The first mix that is to blame, with its first conflict. -/
def blameE (p : ApiProblem) (x : ApiMix) : Option (ApiMix × ApiConflict) := match conflictsF p x with
  | [] => none
  | c :: _ => some (x, c)
def blameF (p : ApiProblem) (m : ApiMix) : Option (ApiMix × ApiConflict) := scan (fun _ x => blameE p x) 0 (abortsF m)
def zeroM : ApiMix := ⟨[], [], []⟩
def zeroC : ApiConflict := ⟨0, 0, 0⟩
def blameR (p : ApiProblem) (m : ApiMix) : ApiMix × ApiConflict × Int := match blameF p m with
  | some (x, c) => (x, c, 0)
  | none => (zeroM, zeroC, 15)
def robustB (p : ApiProblem) (m : ApiMix) : Bool := (blameF p m).isNone

theorem aborts_len {m : ApiMix} (hl : m.fNext.length ≤ 6) : (abortsF m).length ≤ 64 := by
  unfold abortsF
  have hol := opn_le m.fNext m.fNext.length (Nat.le_refl _)
  have hpow := two_pow_le (show opn m.fNext m.fNext.length ≤ 6 by omega)
  simpa using hpow

theorem loop_blame {R : Type} (r : Option (ApiMix × ApiConflict)) (j : Option R) (f : ApiMix → ApiConflict → R) : orElse (r.map fun (x : ApiMix × ApiConflict) => f x.1 x.2) j = match r with
    | some (x, c) => some (f x c)
    | none => j := by cases r <;> rfl
theorem scan_map {α R R' : Type} (f : Nat → α → Option R) (g : R → R') : ∀ (i : Nat) (xs : List α), scan (fun i x => (f i x).map g) i xs = (scan f i xs).map g
  | _, [] => rfl
  | i, x :: xs => by
    rw [scan_cons, scan_cons]
    cases f i x
    · exact scan_map f g (i + 1) xs
    · rfl

theorem mix_blame_eq (N : Nat) (p : ApiProblem) (m : ApiMix) (hN : N ≤ 1000000) (h20 : 100 ≤ N) (hw : wSl wU8 m.fHeld) (hv : validM p m = 0) : Sh.mix_Blame N p m = some (blameR p m) := by
  obtain ⟨hp, hm⟩ := valid_ok hw hv
  have hnv := hp.nv
  unfold Sh.mix_Blame
  rw [mix_aborts_eq N p m hN h20 hw hv]
  simp only [Option.bind_some, bne_self_eq_false, cnd_false]
  have hal := aborts_len (m := m) (by rw [hm.next]; omega)
  have := loop_scan (Sh.mix_Blame_L3 N p (abortsF m, 0) fun _ => some (zeroM, zeroC, 15)) (abortsF m) (some (zeroM, zeroC, 15)) (fun _ x => (blameE p x).map fun y => (y.1, y.2, 0))
    (fun n i x hx => by
      have hi := (List.getElem?_eq_some_iff.1 hx).1
      have hx2 := ok_ab hp hm (mem_aborts.1 (List.mem_of_getElem? hx))
      rw [Sh.mix_Blame_L3, cnd_pos (by simp only; omega)]
      simp only [idx_nat, hx, Option.bind_some]
      rw [mix_conflicts_eq N p x hN (by omega) hp hx2, wrap_succ (by omega)]
      simp only [Option.bind_some, blameE]
      cases conflictsF p x with
      | nil => rfl
      | cons c cs => rw [cnd_pos (by simp only [List.length_cons]; omega)]; rfl)
    (fun n => by rw [Sh.mix_Blame_L3, cnd_neg (by simp)]) N 0 (Nat.zero_le _) (by omega)
  rw [List.drop_zero, scan_map] at this
  exact this.trans (by
    unfold blameR blameF
    cases scan (fun _ x => blameE p x) 0 (abortsF m) <;> rfl)
theorem ref_blame_eq (N : Nat) (p : ApiProblem) (m : ApiMix) (hN : N ≤ 1000000) (h20 : 100 ≤ N) (hw : wSl wU8 m.fHeld) (hv : validM p m = 0) : Sh.sheaveref36_Blame N p m = some (blameR p m) := by
  obtain ⟨hp, hm⟩ := valid_ok hw hv
  have hnv := hp.nv
  unfold Sh.sheaveref36_Blame Sh.sheaveref36_Aborts
  rw [ref_valid_eq N p m hN (by omega), hv, ref_all_ok N p m hN h20 hp hm]
  simp only [Option.bind_some, bne_self_eq_false, cnd_false]
  have hal := aborts_len (m := m) (by rw [hm.next]; omega)
  have := loop_scan (Sh.sheaveref36_Blame_L3 N p (abortsF m, 0) fun _ => some (zeroM, zeroC, 15)) (abortsF m) (some (zeroM, zeroC, 15)) (fun _ x => (blameE p x).map fun y => (y.1, y.2, 0))
    (fun n i x hx => by
      have hi := (List.getElem?_eq_some_iff.1 hx).1
      have hx2 := ok_ab hp hm (mem_aborts.1 (List.mem_of_getElem? hx))
      rw [Sh.sheaveref36_Blame_L3, cnd_pos (by simp only; omega)]
      simp only [idx_nat, hx, Option.bind_some]
      rw [ref_conflicts_eq N p x hN (by omega) hp hx2, wrap_succ (by omega)]
      simp only [Option.bind_some, blameE]
      cases conflictsF p x with
      | nil => rfl
      | cons c cs => rw [cnd_pos (by simp only [List.length_cons]; omega)]; rfl)
    (fun n => by rw [Sh.sheaveref36_Blame_L3, cnd_neg (by simp)]) N 0 (Nat.zero_le _) (by omega)
  rw [List.drop_zero, scan_map] at this
  exact this.trans (by
    unfold blameR blameF
    cases scan (fun _ x => blameE p x) 0 (abortsF m) <;> rfl)

theorem mix_robust_eq (N : Nat) (p : ApiProblem) (m : ApiMix) (hN : N ≤ 1000000) (h20 : 100 ≤ N) (hw : wSl wU8 m.fHeld) (hv : validM p m = 0) : Sh.mix_Robust N p m = some (robustB p m, 0) := by
  unfold Sh.mix_Robust
  rw [mix_blame_eq N p m hN h20 hw hv]
  unfold robustB blameR
  cases blameF p m <;> rfl

theorem scan_isNone {α R : Type} {f : Nat → α → Option R} {i : Nat} {xs : List α} : (scan f i xs).isNone = true ↔ ∀ j x, xs[j]? = some x → f (i + j) x = none := by
  constructor
  · intro h
    exact scan_none (Option.isNone_iff_eq_none.1 h)
  · intro h
    rw [scan_none_of h]; rfl
theorem blameE_none {p : ApiProblem} {x : ApiMix} : blameE p x = none ↔ conflictsF p x = [] := by
  unfold blameE
  cases conflictsF p x <;> simp
theorem robust_iff {p : ApiProblem} {m : ApiMix} : robustB p m = true ↔ ∀ x, IsAb m x → conflictsF p x = [] := by
  unfold robustB blameF
  rw [scan_isNone]
  constructor
  · intro h x hx
    obtain ⟨j, hj⟩ := List.mem_iff_getElem?.1 (mem_aborts.2 hx)
    exact blameE_none.1 (h j x hj)
  · intro h j x hx
    exact blameE_none.2 (h x (mem_aborts.1 (List.mem_of_getElem? hx)))

theorem ref_safe_eq (N : Nat) (p : ApiProblem) (m : ApiMix) (hN : N ≤ 1000000) (h20 : 100 ≤ N) (hp : ProbOk p) (hm : MixOk p m) : Sh.sheaveref36_IsSafe N p m = some (conflictsF p m).isEmpty := by
  unfold Sh.sheaveref36_IsSafe
  rw [ref_conflicts_eq N p m hN (by omega) hp hm]
  simp only [Option.bind_some]
  cases conflictsF p m with
  | nil => rfl
  | cons c cs =>
    rw [beq_eq_false_iff_ne.2 (by simp only [List.length_cons]; omega)]; rfl

theorem ref_robust_eq (N : Nat) (p : ApiProblem) (m : ApiMix) (hN : N ≤ 1000000) (h20 : 100 ≤ N) (hp : ProbOk p) (hm : MixOk p m) : Sh.sheaveref36_IsRobust N p m = some (robustB p m) := by
  have hnv := hp.nv
  unfold Sh.sheaveref36_IsRobust
  rw [ref_all_ok N p m hN h20 hp hm]
  simp only [Option.bind_some]
  have hal := aborts_len (m := m) (by rw [hm.next]; omega)
  have := loop_scan (Sh.sheaveref36_IsRobust_L2 N p (abortsF m) fun _ => some true) (abortsF m) (some true) (fun _ x => (blameE p x).map fun _ => false)
    (fun n i x hx => by
      have hi := (List.getElem?_eq_some_iff.1 hx).1
      have hx2 := ok_ab hp hm (mem_aborts.1 (List.mem_of_getElem? hx))
      rw [Sh.sheaveref36_IsRobust_L2, cnd_pos (by omega)]
      simp only [idx_nat, hx, Option.bind_some]
      rw [ref_safe_eq N p x hN h20 hp hx2, wrap_succ (by omega)]
      simp only [Option.bind_some, blameE]
      cases conflictsF p x with
      | nil => rfl
      | cons c cs => rfl)
    (fun n => by rw [Sh.sheaveref36_IsRobust_L2, cnd_neg (by simp)]) N 0 (Nat.zero_le _) (by omega)
  rw [List.drop_zero, scan_map] at this
  refine Eq.trans this ?_
  unfold robustB blameF
  cases scan (fun _ x => blameE p x) 0 (abortsF m) <;> rfl
end Go.Lift
