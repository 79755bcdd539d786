/- Lemmas for MixValidSaid, which YtmmkocokfdheiaaFin7 proves. -/
/- MixCompare: the order on mixes. -/
import Derived.Test.YtmmkocokfdheiaaPlain1
namespace Go.Lift

theorem cmpL_range : ∀ a b : List Int, cmpL a b = -1 ∨ cmpL a b = 0 ∨ cmpL a b = 1
  | [], [] => by simp [cmpL]
  | [], _ :: _ => by simp [cmpL]
  | _ :: _, [] => by simp [cmpL]
  | a :: as, b :: bs => by
    unfold cmpL
    split
    · simp
    · split
      · simp
      · exact cmpL_range as bs
theorem cmpL_self : ∀ a : List Int, cmpL a a = 0
  | [] => rfl
  | a :: as => by simp [cmpL, cmpL_self as]
theorem cmpL_eq : ∀ a b : List Int, cmpL a b = 0 → a = b
  | [], [], _ => rfl
  | [], _ :: _, h => by simp [cmpL] at h
  | _ :: _, [], h => by simp [cmpL] at h
  | a :: as, b :: bs, h => by
    unfold cmpL at h
    split at h
    · omega
    · split at h
      · omega
      · rw [cmpL_eq as bs h, show a = b from by omega]
theorem cmpL_anti : ∀ a b : List Int, cmpL b a = - cmpL a b
  | [], [] => rfl
  | [], _ :: _ => rfl
  | _ :: _, [] => rfl
  | a :: as, b :: bs => by
    have := cmpL_anti as bs
    unfold cmpL
    by_cases h1 : a < b
    · simp [h1, show ¬ b < a from by omega]
    · by_cases h2 : b < a
      · simp [h1, h2]
      · simp [h1, h2, this]
theorem cmpL_le : ∀ a b c : List Int, cmpL a b ≤ 0 → cmpL b c ≤ 0 → cmpL a c ≤ 0
  | [], _, [], _, _ => by simp [cmpL]
  | [], _, _ :: _, _, _ => by simp [cmpL]
  | _ :: _, [], _, h, _ => by simp [cmpL] at h
  | _ :: _, _ :: _, [], _, h => by simp [cmpL] at h
  | a :: as, b :: bs, c :: cs, h1, h2 => by
    have ih := cmpL_le as bs cs
    unfold cmpL at h1 h2 ⊢
    split at h1 <;> split at h2 <;> (try split at h1) <;> (try split at h2) <;> split <;> (try split) <;> omega
theorem cmpL_lt1 {a b c : List Int} (h1 : cmpL a b < 0) (h2 : cmpL b c ≤ 0) : cmpL a c < 0 := by
  have h3 := cmpL_le a b c (by omega) h2
  rcases Int.lt_or_eq_of_le h3 with h | h
  · exact h
  · have := cmpL_eq a c h
    subst this
    have := cmpL_anti a b
    omega

def orF : List Int → Int
  | [] => 0
  | x :: xs => if x = 0 then orF xs else x
theorem orL (N : Nat) (a : List Int) (hb : a.length < 1000000) : ∀ (n i : Nat), i ≤ a.length → a.length - i < n →
    Sh.cmp_Or_int_L1 N a (fun _ => some 0) n (i : Int) = some (orF (a.drop i))
  | 0, i, _, h => by omega
  | n + 1, i, hi, h => by
    unfold Sh.cmp_Or_int_L1
    by_cases h1 : i < a.length
    · have ha : a[i]? = some a[i] := by simp [h1]
      rw [cnd_pos (by omega), idx_nat, ha, drop_cons ha]
      simp only [Option.bind_some, orF]
      rw [wrap_succ (by omega), orL N a hb n (i + 1) (by omega) (by omega)]
      by_cases h3 : a[i] = 0
      · simp [h3]
      · have : (a[i] != 0) = true := by simpa using h3
        simp [h3, this]
    · rw [cnd_neg (by omega), List.drop_eq_nil_of_le (by omega : a.length ≤ i)]
      simp [orF]
theorem cmp_or {N : Nat} {a : List Int} (h : a.length < N) (hN : N ≤ 1000000) : Sh.cmp_Or_int N a = some (orF a) := by
  have := orL N a (by omega) N 0 (by omega) (by omega)
  simpa [Sh.cmp_Or_int] using this

theorem numL (N : Nat) (a : List Int) (hb : a.length < 1000000) (hw : wSl wU8 a) : ∀ (n i : Nat), i ≤ a.length → a.length - i < n →
    Sh.sheaveref36_numbers_L1 N a (fun v => some v) n (a.take i, (i : Int)) = some a
  | 0, i, _, h => by omega
  | n + 1, i, hi, h => by
    unfold Sh.sheaveref36_numbers_L1
    by_cases h1 : i < a.length
    · have ha : a[i]? = some a[i] := by simp [h1]
      rw [cnd_pos (by simpa using h1)]
      simp only
      rw [idx_nat, ha]
      have hr : IntKind.wrap .i64 a[i] = a[i] := by
        have := hw a[i] (List.getElem_mem h1)
        unfold wU8 at this
        have h2 : 0 ≤ a[i] ∧ a[i] ≤ 255 := by simpa [Lit.wf, IntKind.min, IntKind.max, IntKind.signed, IntKind.bits] using this
        exact wrap_small (by omega) (by omega)
      simp only [Option.bind_some, hr]
      have hlen : (a.take i).length + ([a[i]] : List Int).length ≤ lim := by
        simp [lim]; omega
      rw [show chk ((a.take i).length + ([a[i]] : List Int).length ≤ lim) = some () from by unfold chk; rw [if_pos hlen]]
      simp only [Option.bind_some]
      rw [wrap_succ (by omega), show a.take i ++ [a[i]] = a.take (i + 1) from by rw [List.take_add_one, ha]; rfl]
      exact numL N a hb hw n (i + 1) (by omega) (by omega)
    · rw [cnd_neg (by simpa using h1)]
      simp only
      rw [List.take_of_length_le (by omega)]
theorem ref_numbers {N : Nat} {a : List Int} (h : a.length < N) (hN : N ≤ 1000000) (hw : wSl wU8 a) : Sh.sheaveref36_numbers N a = some a := by
  have := numL N a (by omega) hw N 0 (by omega) (by omega)
  simpa [Sh.sheaveref36_numbers] using this

def few (a : ApiMix) : Prop := a.fBase.length ≤ 8 ∧ a.fNext.length ≤ 8 ∧ a.fHeld.length ≤ 14
theorem ref_few (N : Nat) (a : ApiMix) : ∃ b, Sh.sheaveref36_Few N a = some b ∧ (b = true → few a) := by
  unfold Sh.sheaveref36_Few
  simp only [join]
  by_cases h1 : a.fBase.length ≤ 8 <;> by_cases h2 : a.fNext.length ≤ 8 <;> by_cases h3 : a.fHeld.length ≤ 14 <;>
    · refine ⟨_, by first
        | rw [cnd_neg (p := (a.fBase.length : Int) ≤ 8) (by omega)]
        | rw [cnd_pos (p := (a.fBase.length : Int) ≤ 8) (by omega), cnd_neg (p := (a.fNext.length : Int) ≤ 8) (by omega)]
        | rw [cnd_pos (p := (a.fBase.length : Int) ≤ 8) (by omega), cnd_pos (p := (a.fNext.length : Int) ≤ 8) (by omega)], ?_⟩
      first
        | (intro h; exact absurd h (by decide))
        | (intro h; have := of_decide_eq_true h; exact ⟨h1, h2, by omega⟩)

def cmpM (a b : ApiMix) : Int := orF [cmpL a.fBase b.fBase, cmpL a.fNext b.fNext, cmpL a.fHeld b.fHeld]
theorem mix_cmp {a b : ApiMix} (ha : few a) : Sh.mix_Compare 1000 a b = some (cmpM a b) := by
  unfold Sh.mix_Compare
  rw [slices_cmp (by have := ha.1; omega) (by omega), slices_cmp (by have := ha.2.1; omega) (by omega), slices_cmp' (by have := ha.2.2; omega) (by omega)]
  simp only [Option.bind_some]
  rw [cmp_or (by simp) (by omega)]
  rfl
theorem ref_cmp {a b : ApiMix} (ha : few a) (hb : few b) (wa : wApiMix a) (wb : wApiMix b) : Sh.sheaveref36_Compare 1000 a b = some (cmpM a b) := by
  unfold Sh.sheaveref36_Compare
  rw [ref_ints (by have := ha.1; omega) (by omega), ref_ints (by have := ha.2.1; omega) (by omega), ref_numbers (by have := ha.2.2; omega) (by omega) wa.2.2.1, ref_numbers (by have := hb.2.2; omega) (by omega) wb.2.2.1]
  simp only [Option.bind_some]
  rw [ref_ints (by have := ha.2.2; omega) (by omega)]
  unfold cmpM orF
  by_cases h1 : cmpL a.fBase b.fBase = 0
  · simp only [h1, orF]
    by_cases h2 : cmpL a.fNext b.fNext = 0
    · simp only [h2]
      by_cases h3 : cmpL a.fHeld b.fHeld = 0 <;> simp [h3]
    · have : (cmpL a.fNext b.fNext != 0) = true := by simpa using h2
      simp [h2, this]
  · have : (cmpL a.fBase b.fBase != 0) = true := by simpa using h1
    simp [h1, this]
theorem cmpM_anti (a b : ApiMix) : cmpM b a = - cmpM a b := by
  unfold cmpM
  rw [cmpL_anti a.fBase b.fBase, cmpL_anti a.fNext b.fNext, cmpL_anti a.fHeld b.fHeld]
  simp only [orF, Int.neg_eq_zero]
  split
  · split
    · split <;> simp_all
    · rfl
  · rfl
theorem cmpM_self (a : ApiMix) : cmpM a a = 0 := by unfold cmpM; simp [cmpL_self, orF]
theorem cmpM_range (a b : ApiMix) : -1 ≤ cmpM a b ∧ cmpM a b ≤ 1 := by
  have h1 := cmpL_range a.fBase b.fBase
  have h2 := cmpL_range a.fNext b.fNext
  have h3 := cmpL_range a.fHeld b.fHeld
  unfold cmpM
  simp only [orF]
  split
  · split
    · split <;> omega
    · omega
  · omega
theorem cmpM_le (a b c : ApiMix) (h1 : cmpM a b ≤ 0) (h2 : cmpM b c ≤ 0) : cmpM a c ≤ 0 := by
  unfold cmpM at *
  simp only [orF] at *
  have key : ∀ x y z : List Int, ∀ p q r : Int, (if cmpL x y = 0 then p else cmpL x y) ≤ 0 → (if cmpL y z = 0 then q else cmpL y z) ≤ 0 → (p ≤ 0 → q ≤ 0 → r ≤ 0) → (if cmpL x z = 0 then r else cmpL x z) ≤ 0 := by
    intro x y z p q r hx hy hr
    by_cases e1 : cmpL x y = 0
    · rw [if_pos e1] at hx
      have := cmpL_eq x y e1
      subst this
      by_cases e2 : cmpL x z = 0
      · rw [if_pos e2] at hy ⊢; exact hr hx hy
      · rw [if_neg e2] at hy ⊢; exact hy
    · rw [if_neg e1] at hx
      have hyz : cmpL y z ≤ 0 := by
        by_cases e2 : cmpL y z = 0
        · omega
        · rw [if_neg e2] at hy; exact hy
      have := cmpL_lt1 (show cmpL x y < 0 by omega) hyz
      rw [if_neg (by omega)]; omega
  refine key _ _ _ _ _ _ h1 h2 fun h3 h4 => key _ _ _ _ _ _ h3 h4 fun h5 h6 => ?_
  exact key _ _ _ _ _ _ h5 h6 fun _ _ => Int.le_refl 0
end Go.Lift
