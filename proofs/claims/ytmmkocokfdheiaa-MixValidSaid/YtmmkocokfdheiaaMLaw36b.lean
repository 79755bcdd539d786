/- Lemmas for MixValidSaid, which YtmmkocokfdheiaaFin7 proves. -/
/- The laws of the mixes in plain words: MixGoal, MixValid. -/
import Derived.Test.YtmmkocokfdheiaaMLaw36
namespace Go.Lift

theorem slices_equal (N : Nat) (a b : List Int) (hN : N ≤ 1000000) (h : a.length < N) : Sh.slices_Equal_int_int N a b = some (a == b) := by
  unfold Sh.slices_Equal_int_int
  by_cases hl : a.length = b.length
  · rw [hl, bne_self_eq_false, cnd_false]
    have := loop_scan (Sh.slices_Equal_int_int_L2 N a b fun _ => some true) a (some true) (fun i x => if x = b.getD i 0 then none else some false)
      (fun n i x hx => by
        have hi := (List.getElem?_eq_some_iff.1 hx).1
        rw [Sh.slices_Equal_int_int_L2, cnd_pos (by omega), idx_nat, hx, idx_lt (d := 0) (by omega)]
        simp only [Option.bind_some]
        rw [wrap_succ (by omega)]
        by_cases h : x = b.getD i 0
        · rw [if_pos h, h, bne_self_eq_false]; rfl
        · rw [if_neg h, bne_iff_ne.2 h]; rfl)
      (fun n => by rw [Sh.slices_Equal_int_int_L2, cnd_neg (by simp)]) N 0 (Nat.zero_le _) (by omega)
    refine this.trans ?_
    rw [List.drop_zero]
    cases hs : scan (fun i x => if x = b.getD i 0 then none else some false) 0 a with
    | none =>
      have : a = b := list_ext_getD hl fun q hq => by
        have hx : a[q]? = some (a.getD q 0) := by rw [List.getD_eq_getElem?_getD]; simp [hq]
        have := scan_none hs q _ hx
        rw [Nat.zero_add] at this
        split at this
        · assumption
        · cases this
      rw [this, beq_self_eq_true]; rfl
    | some r =>
      obtain ⟨j, x, hx, hf⟩ := scan_some hs
      rw [Nat.zero_add] at hf
      split at hf
      · cases hf
      · rename_i hne
        cases hf
        have : (a == b) = false := beq_eq_false_iff_ne.2 fun e => hne (by rw [← e, List.getD_eq_getElem?_getD, hx]; rfl)
        rw [this]; rfl
  · have h1 : ((a.length : Int) != (b.length : Int)) = true := bne_iff_ne.2 (by omega)
    have h2 : (a == b) = false := beq_eq_false_iff_ne.2 fun e => hl (by rw [e])
    rw [h1, h2]; rfl

theorem contains_int (N : Nat) (a : List Int) (f : Int → Option Bool) (g : Int → Bool) (hN : N ≤ 1000000) (h : a.length < N) (hf : ∀ x, x ∈ a → f x = some (g x)) : Sh.slices_ContainsFunc_int_int N a f = some (a.any g) := by
  unfold Sh.slices_ContainsFunc_int_int Sh.slices_IndexFunc_int_int
  have := loop_scan (Sh.slices_IndexFunc_int_int_L1 N a f fun _ => some (-1)) a (some (-1)) (fun i x => if g x then some (i : Int) else none)
    (fun n i x hx => by
      have hi := (List.getElem?_eq_some_iff.1 hx).1
      rw [Sh.slices_IndexFunc_int_int_L1, cnd_pos (by omega), idx_nat, hx]
      simp only [Option.bind_some]
      rw [hf x (List.mem_of_getElem? hx), wrap_succ (by omega)]
      simp only [Option.bind_some]
      cases g x <;> rfl)
    (fun n => by rw [Sh.slices_IndexFunc_int_int_L1, cnd_neg (by simp)]) N 0 (Nat.zero_le _) (by omega)
  have e : Sh.slices_IndexFunc_int_int_L1 N a f (fun _ => some (-1)) N 0 = _ := this
  rw [e, List.drop_zero]
  cases hs : scan (fun i x => if g x then some (i : Int) else none) 0 a with
  | none =>
    have : a.any g = false := by
      rw [List.any_eq_false]
      intro x hx
      obtain ⟨j, hj⟩ := List.mem_iff_getElem?.1 hx
      have := scan_none hs j x hj
      intro hg
      rw [hg] at this; cases this
    rw [this]; rfl
  | some r =>
    obtain ⟨j, x, hx, hf⟩ := scan_some hs
    split at hf
    · rename_i hg
      cases hf
      have : a.any g = true := List.any_eq_true.2 ⟨x, List.mem_of_getElem? hx, hg⟩
      rw [this]
      simp only [orElse, Option.bind_some]
      rw [decide_eq_true (by omega)]
    · cases hf

def goalB (p : ApiProblem) (m : ApiMix) : Bool := validM p m == 0 && (m.fBase == p.fTarget && m.fNext.all (fun n => decide (n < 0)))

theorem mix_goal_eq (N : Nat) (p : ApiProblem) (m : ApiMix) (hN : N ≤ 1000000) (h20 : 100 ≤ N) (hw : wSl wU8 m.fHeld) : Sh.mix_Goal N p m = some (goalB p m) := by
  unfold Sh.mix_Goal goalB
  rw [mix_valid_eq N p m hN (by omega) hw]
  simp only [join_eq, Option.bind_some]
  by_cases hv : validM p m = 0
  · obtain ⟨hp, hm⟩ := valid_ok hw hv
    have := hp.nv
    rw [hv, slices_equal N _ _ hN (by rw [hm.base]; omega), contains_int N m.fNext (fun x => Sh.mix_Goal_1 N x) (fun n => decide (0 ≤ n)) hN (by rw [hm.next]; omega) (fun x _ => rfl)]
    simp only [Option.bind_some, beq_self_eq_true, cnd_true, Bool.true_and]
    have : m.fNext.all (fun n => decide (n < 0)) = !m.fNext.any (fun n => decide (0 ≤ n)) := by
      rw [List.not_any_eq_all_not]
      congr 1; funext n
      by_cases h : 0 ≤ n
      · rw [decide_eq_true h, decide_eq_false (by omega)]; rfl
      · rw [decide_eq_false h, decide_eq_true (by omega)]; rfl
    rw [this]
    cases m.fBase == p.fTarget <;> simp
  · rw [beq_eq_false_iff_ne.2 hv]; rfl

theorem ref_goal_eq (N : Nat) (p : ApiProblem) (m : ApiMix) (hN : N ≤ 1000000) (h20 : 100 ≤ N) (hw : wSl wU8 m.fHeld) : Sh.sheaveref36_Goal N p m = some (goalB p m) := by
  unfold Sh.sheaveref36_Goal goalB
  rw [ref_valid_eq N p m hN (by omega)]
  simp only [Option.bind_some]
  by_cases hv : validM p m = 0
  · obtain ⟨hp, hm⟩ := valid_ok hw hv
    have h1 := hp.nv
    have h2 := hp.tgt
    have h3 := hm.base
    have h4 := hm.next
    rw [hv]
    simp only [bne_self_eq_false, cnd_false, beq_self_eq_true, Bool.true_and]
    have := loop_scan (Sh.sheaveref36_Goal_L3 N p m fun _ => some true) m.fBase (some true) (fun i x => if 0 ≤ m.fNext.getD i 0 ∨ x ≠ p.fTarget.getD i 0 then some false else none)
      (fun n i x hx => by
        have hi := (List.getElem?_eq_some_iff.1 hx).1
        rw [Sh.sheaveref36_Goal_L3, cnd_pos (by omega)]
        simp only [join_eq]
        rw [show idx m.fBase (i : Int) = some x from by rw [idx_nat, hx], idx_lt (d := 0) (by omega), idx_lt (d := 0) (by omega)]
        simp only [Option.bind_some]
        rw [wrap_succ (by omega)]
        by_cases k1 : 0 ≤ m.fNext.getD i 0
        · rw [cnd_pos k1, if_pos (.inl k1)]; rfl
        · rw [cnd_neg k1]
          by_cases k2 : x = p.fTarget.getD i 0
          · rw [if_neg (fun h => h.elim k1 (fun h => h k2)), k2, bne_self_eq_false]; rfl
          · rw [if_pos (.inr k2), bne_iff_ne.2 k2]; rfl)
      (fun n => by rw [Sh.sheaveref36_Goal_L3, cnd_neg (by simp)]) N 0 (Nat.zero_le _) (by omega)
    refine this.trans ?_
    rw [List.drop_zero]
    cases hs : scan (fun i x => if 0 ≤ m.fNext.getD i 0 ∨ x ≠ p.fTarget.getD i 0 then some false else none) 0 m.fBase with
    | none =>
      have key : ∀ q, q < m.fBase.length → m.fBase.getD q 0 = p.fTarget.getD q 0 ∧ ¬ 0 ≤ m.fNext.getD q 0 := by
        intro q hq
        have hx : m.fBase[q]? = some (m.fBase.getD q 0) := by rw [List.getD_eq_getElem?_getD]; simp [hq]
        have := scan_none hs q _ hx
        rw [Nat.zero_add] at this
        split at this
        · cases this
        · rename_i h; exact ⟨Decidable.not_not.1 fun h' => h (.inr h'), fun h' => h (.inl h')⟩
      have e1 : m.fBase = p.fTarget := list_ext_getD (by omega) fun q hq => (key q hq).1
      have e2 : m.fNext.all (fun n => decide (n < 0)) = true := by
        rw [List.all_eq_true]
        intro n hn
        obtain ⟨q, hq⟩ := List.mem_iff_getElem?.1 hn
        have hl := (List.getElem?_eq_some_iff.1 hq).1
        have := (key q (by omega)).2
        rw [List.getD_eq_getElem?_getD, hq] at this
        simp only [Option.getD_some] at this
        simp only [decide_eq_true_eq]
        omega
      rw [e2, e1]; simp [orElse]
    | some r =>
      obtain ⟨j, x, hx, hf⟩ := scan_some hs
      rw [Nat.zero_add] at hf
      have hj := (List.getElem?_eq_some_iff.1 hx).1
      split at hf
      · rename_i h
        cases hf
        have : (m.fBase == p.fTarget && m.fNext.all (fun n => decide (n < 0))) = false := by
          rw [Bool.and_eq_false_iff]
          rcases h with h | h
          · right
            rw [List.all_eq_false]
            refine ⟨m.fNext.getD j 0, ?_, ?_⟩
            · rw [List.getD_eq_getElem?_getD, List.getElem?_eq_getElem (by omega)]; exact List.getElem_mem _
            · simp only [decide_eq_true_eq]; omega
          · left
            exact beq_eq_false_iff_ne.2 fun e => h (by rw [← e, List.getD_eq_getElem?_getD, hx]; rfl)
        rw [this]; rfl
      · cases hf
  · rw [bne_iff_ne.2 hv, beq_eq_false_iff_ne.2 hv]; rfl

theorem mixGoal_plain (d : Sheaveref35Draft) (x : Sheaveref36Draft) (wd : wSheaveref35Draft d) (wx : wSheaveref36Draft x) : Sh.sheavelaw36_MixGoal 1000 d x = some true := by
  obtain ⟨p, ok, e, h⟩ := law_head d x wd wx
  unfold Sh.sheavelaw36_MixGoal
  rw [e]
  simp only [Option.bind_some, join_eq, awake_true, Bool.not_true, cnd_false]
  cases ok
  · rfl
  obtain ⟨hg, hp, m, e2, hi, ho, hv, hw⟩ := h rfl
  have h1 := hp.nv
  have h2 := hp.tgt
  obtain ⟨m2, e3, hi2, ho2⟩ := of36 1000 p ⟨d.fTarget, [], x.fHeld⟩ (by omega) (by omega) hp ⟨wd.2.2.1, (fun y hy => by cases hy), wx.2.2.1, trivial⟩
  simp only [Bool.not_true, cnd_false, e2, e3, Option.bind_some]
  have h3 := ho2.base
  obtain ⟨b, e4, _⟩ := loop_ex (A := List Int) (Sh.sheavelaw36_MixGoal_L9 1000 (p, true) (fun (v10 : (List Int)) =>
        (Sh.mix_Goal 1000 p m).bind fun v15 =>
        (Sh.sheaveref36_Goal 1000 p m).bind fun v16 =>
        cnd ((v15 == v16))
          ((Sh.mix_Goal 1000 p ((ApiMix.mk v10 m2.fNext m2.fHeld))).bind fun v18 =>
          (Sh.sheaveref36_Goal 1000 p ((ApiMix.mk v10 m2.fNext m2.fHeld))).bind fun v19 =>
          some (v18 == v19))
          (some false))) (fun a k => (a, k)) p.fTarget.length _ (fun _ a => a.length = p.fVersions.length)
    (fun n i a hi ha => by
      refine ⟨a.set i (p.fTarget.getD i 0), ?_, by simpa using ha⟩
      rw [Sh.sheavelaw36_MixGoal_L9, cnd_pos (by simp only; omega)]
      simp only
      rw [idx_lt (d := 0) hi, idx_lt (d := 0) (by omega), wrap_succ (by omega)]
      rfl)
    (fun n a _ => by rw [Sh.sheavelaw36_MixGoal_L9, cnd_neg (by simp)]) 1000 0 m2.fBase (Nat.zero_le _) (by omega) h3
  refine Eq.trans e4 ?_
  have hw2 : wSl wU8 m2.fHeld := ok_u8 ho2
  have hw2 : wSl wU8 (ApiMix.mk b m2.fNext m2.fHeld).fHeld := hw2
  simp only [mix_goal_eq 1000 p m (by omega) (by omega) hw, ref_goal_eq 1000 p m (by omega) (by omega) hw, mix_goal_eq 1000 p _ (by omega) (by omega) hw2, ref_goal_eq 1000 p _ (by omega) (by omega) hw2, Option.bind_some, beq_self_eq_true, cnd_true]

theorem ref35_few (N : Nat) (hN : N ≤ 1000000) (h20 : 100 ≤ N) (p : ApiProblem) : ∃ b, Sh.sheaveref35_Few N p = some b := by
  unfold Sh.sheaveref35_Few
  simp only [join_eq]
  by_cases h1 : 8 < (p.fVersions.length : Int)
  · rw [cnd_pos h1]; exact ⟨_, rfl⟩
  rw [cnd_neg h1]
  by_cases h2 : 8 < (p.fNow.length : Int)
  · rw [cnd_pos h2]; exact ⟨_, rfl⟩
  rw [cnd_neg h2]
  by_cases h3 : 8 < (p.fTarget.length : Int)
  · rw [cnd_pos h3]; exact ⟨_, rfl⟩
  rw [cnd_neg h3]
  by_cases h4 : 14 < (p.fTables.length : Int)
  · rw [decide_eq_true h4]; exact ⟨_, rfl⟩
  rw [decide_eq_false h4, cnd_false]
  have inner1 : ∀ (i : Nat) (t : ApiTable), p.fTables[i]? = some t → t.fOK.length ≤ 8 → ∀ j : Option Bool, ∃ r, Sh.sheaveref35_Few_L14 N p (i : Int) (fun _ => j) N 0 = orElse r j := by
    intro i t ht hl j
    refine ⟨_, loop_scan (Sh.sheaveref35_Few_L14 N p (i : Int) fun _ => j) t.fOK j (fun _ row => if 8 < (row.length : Int) then some false else none) (fun n k x hx => ?_) (fun n => ?_) N 0 (Nat.zero_le _) (by omega)⟩
    · have hk := (List.getElem?_eq_some_iff.1 hx).1
      rw [Sh.sheaveref35_Few_L14, idx_nat, ht]
      simp only [Option.bind_some]
      rw [cnd_pos (by omega), idx_nat, hx, wrap_succ (by omega)]
      simp only [Option.bind_some]
      by_cases h : 8 < (x.length : Int)
      · rw [cnd_pos h, if_pos h]; rfl
      · rw [cnd_neg h, if_neg h]; rfl
    · rw [Sh.sheaveref35_Few_L14, idx_nat, ht]
      simp only [Option.bind_some]
      rw [cnd_neg (by simp)]
  have inner2 : ∀ (i : Nat) (t : ApiTable), p.fTables[i]? = some t → t.fRewrite.length ≤ 8 → ∀ j : Option Bool, ∃ r, Sh.sheaveref35_Few_L21 N p (i : Int) (fun _ => j) N 0 = orElse r j := by
    intro i t ht hl j
    refine ⟨_, loop_scan (Sh.sheaveref35_Few_L21 N p (i : Int) fun _ => j) t.fRewrite j (fun _ row => if 8 < (row.length : Int) then some false else none) (fun n k x hx => ?_) (fun n => ?_) N 0 (Nat.zero_le _) (by omega)⟩
    · have hk := (List.getElem?_eq_some_iff.1 hx).1
      rw [Sh.sheaveref35_Few_L21, idx_nat, ht]
      simp only [Option.bind_some]
      rw [cnd_pos (by omega), idx_nat, hx, wrap_succ (by omega)]
      simp only [Option.bind_some]
      by_cases h : 8 < (x.length : Int)
      · rw [cnd_pos h, if_pos h]; rfl
      · rw [cnd_neg h, if_neg h]; rfl
    · rw [Sh.sheaveref35_Few_L21, idx_nat, ht]
      simp only [Option.bind_some]
      rw [cnd_neg (by simp)]
  have outer : ∀ n i : Nat, i ≤ p.fTables.length → p.fTables.length - i < n → ∃ b, Sh.sheaveref35_Few_L6 N p (fun _ => some true) n (i : Int) = some b := by
    intro n
    induction n with
    | zero => intro i _ h; omega
    | succ n ih =>
      intro i hi hn
      rw [Sh.sheaveref35_Few_L6]
      simp only [join_eq]
      by_cases h : i < p.fTables.length
      · have hx : p.fTables[i]? = some p.fTables[i] := by simp [h]
        generalize p.fTables[i] = t at hx
        rw [cnd_pos (by omega), idx_nat, hx]
        simp only [Option.bind_some]
        by_cases k1 : 8 < (t.fOK.length : Int)
        · rw [cnd_pos k1]; exact ⟨_, rfl⟩
        rw [cnd_neg k1]
        by_cases k2 : 8 < (t.fRewrite.length : Int)
        · rw [decide_eq_true k2]; exact ⟨_, rfl⟩
        rw [decide_eq_false k2, cnd_false, wrap_succ (by omega)]
        obtain ⟨b, hb⟩ := ih (i + 1) (by omega) (by omega)
        rw [hb]
        obtain ⟨r2, e2⟩ := inner2 i t hx (by omega) (some b)
        obtain ⟨r1, e1⟩ := inner1 i t hx (by omega) (orElse r2 (some b))
        rw [e2, e1]
        cases r1 with
        | some r => exact ⟨_, rfl⟩
        | none => cases r2 <;> exact ⟨_, rfl⟩
      · rw [cnd_neg (by omega)]; exact ⟨_, rfl⟩
  exact outer N 0 (Nat.zero_le _) (by omega)

theorem mixValid_plain (p : ApiProblem) (m : ApiMix) (_ : wApiProblem p) (wm : wApiMix m) : Sh.sheavelaw36_MixValid 1000 p m = some true := by
  unfold Sh.sheavelaw36_MixValid
  simp only [join_eq, awake_true, Option.bind_some, Bool.not_true, cnd_false]
  obtain ⟨b1, e1⟩ := ref35_few 1000 (by omega) (by omega) p
  obtain ⟨b2, e2, _⟩ := ref_few 1000 m
  rw [e1, e2]
  simp only [Option.bind_some]
  cases b1
  · rfl
  cases b2
  · rfl
  simp only [Bool.not_true, cnd_false]
  have hw := wm.2.2.1
  rw [ref_valid_eq 1000 p m (by omega) (by omega), mix_valid_eq 1000 p m (by omega) (by omega) hw]
  simp only [Option.bind_some, bne_self_eq_false, cnd_false]
  by_cases hv : validM p m = 0
  · rw [hv]; rfl
  · have hb : (validM p m == 0) = false := beq_eq_false_iff_ne.2 hv
    have hn : (validM p m != 0) = true := bne_iff_ne.2 hv
    rw [hb, cnd_false]
    have c1 : Sh.mix_Conflicts 1000 p m = some ([], validM p m) := by
      unfold Sh.mix_Conflicts; rw [mix_valid_eq 1000 p m (by omega) (by omega) hw]; simp only [Option.bind_some, hn, cnd_true]
    have c2 : Sh.mix_Safe 1000 p m = some (false, validM p m) := by
      unfold Sh.mix_Safe; rw [c1]; simp only [Option.bind_some, join_eq, hb, cnd_false]
    have c3 : Sh.mix_Aborts 1000 p m = some ([], validM p m) := by
      unfold Sh.mix_Aborts; rw [mix_valid_eq 1000 p m (by omega) (by omega) hw]; simp only [Option.bind_some, hn, cnd_true]
    have c4 : Sh.mix_Blame 1000 p m = some (zeroM, zeroC, validM p m) := by
      unfold Sh.mix_Blame; rw [c3]; simp only [Option.bind_some, hn, cnd_true]; rfl
    have c5 : Sh.mix_Robust 1000 p m = some (false, validM p m) := by
      unfold Sh.mix_Robust; rw [c4]; simp only [Option.bind_some, hb, cnd_false]
      rw [beq_eq_false_iff_ne.2 (by have := validM_cases p m; omega : validM p m ≠ 15)]; rfl
    have c6 : Sh.mix_Goal 1000 p m = some false := by
      rw [mix_goal_eq 1000 p m (by omega) (by omega) hw]; unfold goalB; rw [hb]; rfl
    rw [c1, c2, c3, c4, c5, c6]
    have z1 : Sh.sheaveref36_Equal 1000 zeroM (ApiMix.mk [] [] []) = some true := ref_eq_self (by omega) (by simp [zeroM]) (by simp [zeroM]) (by simp [zeroM]) (fun y hy => by simp [zeroM] at hy)
    simp only [Option.bind_some, beq_self_eq_true, cnd_true, z1]
    rfl
end Go.Lift
