/- Lemmas for MixStartSaid, which YtmmkocokfdheiaaFin10 proves. -/
/- The laws of the mixes in plain words: MixGoal, MixValid. -/
import Derived.Test.YtmmkocokfdheiaaMLaw36
namespace Go.Lift
theorem ref35_few (N : Nat) (hN : N ≤ 1000000) (h20 : 100 ≤ N) (p : ApiProblem) : ∃ b, Sh.sheaveref35_Few N p = some b := by
  unfold Sh.sheaveref35_Few
  simp only [join_eq]
  by_cases h1 : 8 < (p.fVersions.length : Int)
  · rw [cnd_pos h1]; exact ⟨_, rfl⟩
  rw [cnd_neg h1]
  by_cases h2 : 8 < (p.fNow.length : Int)
  · rw [cnd_pos h2]; exact ⟨_, rfl⟩
  rw [cnd_neg h2]
  by_cases h3 : 8 < (p.fTarget.length : Int)
  · rw [cnd_pos h3]; exact ⟨_, rfl⟩
  rw [cnd_neg h3]
  by_cases h4 : 14 < (p.fTables.length : Int)
  · rw [decide_eq_true h4]; exact ⟨_, rfl⟩
  rw [decide_eq_false h4, cnd_false]
  have inner1 : ∀ (i : Nat) (t : ApiTable), p.fTables[i]? = some t → t.fOK.length ≤ 8 → ∀ j : Option Bool, ∃ r, Sh.sheaveref35_Few_L14 N p (i : Int) (fun _ => j) N 0 = orElse r j := by
    intro i t ht hl j
    refine ⟨_, loop_scan (Sh.sheaveref35_Few_L14 N p (i : Int) fun _ => j) t.fOK j (fun _ row => if 8 < (row.length : Int) then some false else none) (fun n k x hx => ?_) (fun n => ?_) N 0 (Nat.zero_le _) (by omega)⟩
    · have hk := (List.getElem?_eq_some_iff.1 hx).1
      rw [Sh.sheaveref35_Few_L14, idx_nat, ht]
      simp only [Option.bind_some]
      rw [cnd_pos (by omega), idx_nat, hx, wrap_succ (by omega)]
      simp only [Option.bind_some]
      by_cases h : 8 < (x.length : Int)
      · rw [cnd_pos h, if_pos h]; rfl
      · rw [cnd_neg h, if_neg h]; rfl
    · rw [Sh.sheaveref35_Few_L14, idx_nat, ht]
      simp only [Option.bind_some]
      rw [cnd_neg (by simp)]
  have inner2 : ∀ (i : Nat) (t : ApiTable), p.fTables[i]? = some t → t.fRewrite.length ≤ 8 → ∀ j : Option Bool, ∃ r, Sh.sheaveref35_Few_L21 N p (i : Int) (fun _ => j) N 0 = orElse r j := by
    intro i t ht hl j
    refine ⟨_, loop_scan (Sh.sheaveref35_Few_L21 N p (i : Int) fun _ => j) t.fRewrite j (fun _ row => if 8 < (row.length : Int) then some false else none) (fun n k x hx => ?_) (fun n => ?_) N 0 (Nat.zero_le _) (by omega)⟩
    · have hk := (List.getElem?_eq_some_iff.1 hx).1
      rw [Sh.sheaveref35_Few_L21, idx_nat, ht]
      simp only [Option.bind_some]
      rw [cnd_pos (by omega), idx_nat, hx, wrap_succ (by omega)]
      simp only [Option.bind_some]
      by_cases h : 8 < (x.length : Int)
      · rw [cnd_pos h, if_pos h]; rfl
      · rw [cnd_neg h, if_neg h]; rfl
    · rw [Sh.sheaveref35_Few_L21, idx_nat, ht]
      simp only [Option.bind_some]
      rw [cnd_neg (by simp)]
  have outer : ∀ n i : Nat, i ≤ p.fTables.length → p.fTables.length - i < n → ∃ b, Sh.sheaveref35_Few_L6 N p (fun _ => some true) n (i : Int) = some b := by
    intro n
    induction n with
    | zero => intro i _ h; omega
    | succ n ih =>
      intro i hi hn
      rw [Sh.sheaveref35_Few_L6]
      simp only [join_eq]
      by_cases h : i < p.fTables.length
      · have hx : p.fTables[i]? = some p.fTables[i] := by simp [h]
        generalize p.fTables[i] = t at hx
        rw [cnd_pos (by omega), idx_nat, hx]
        simp only [Option.bind_some]
        by_cases k1 : 8 < (t.fOK.length : Int)
        · rw [cnd_pos k1]; exact ⟨_, rfl⟩
        rw [cnd_neg k1]
        by_cases k2 : 8 < (t.fRewrite.length : Int)
        · rw [decide_eq_true k2]; exact ⟨_, rfl⟩
        rw [decide_eq_false k2, cnd_false, wrap_succ (by omega)]
        obtain ⟨b, hb⟩ := ih (i + 1) (by omega) (by omega)
        rw [hb]
        obtain ⟨r2, e2⟩ := inner2 i t hx (by omega) (some b)
        obtain ⟨r1, e1⟩ := inner1 i t hx (by omega) (orElse r2 (some b))
        rw [e2, e1]
        cases r1 with
        | some r => exact ⟨_, rfl⟩
        | none => cases r2 <;> exact ⟨_, rfl⟩
      · rw [cnd_neg (by omega)]; exact ⟨_, rfl⟩
  exact outer N 0 (Nat.zero_le _) (by omega)
end Go.Lift
