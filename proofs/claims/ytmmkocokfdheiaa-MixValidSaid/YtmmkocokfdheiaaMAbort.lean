/- Lemmas for MixValidSaid, which YtmmkocokfdheiaaFin7 proves. -/
/- The mixes that result from aborts: both implementations give one list. -/
import Derived.Test.YtmmkocokfdheiaaMOf2
namespace Go.Lift

/-- How many upgrades are open among the first q services. -/
def opn : List Int → Nat → Nat
  | [], _ => 0
  | _, 0 => 0
  | n :: ns, q + 1 => (if 0 ≤ n then 1 else 0) + opn ns q
theorem opn_zero (l : List Int) : opn l 0 = 0 := by cases l <;> rfl
theorem opn_succ : ∀ (l : List Int) (q : Nat), q < l.length → opn l (q + 1) = opn l q + if 0 ≤ l.getD q 0 then 1 else 0
  | [], q, h => by simp at h
  | n :: ns, 0, _ => by simp [opn, opn_zero]
  | n :: ns, q + 1, h => by
    rw [opn, opn_succ ns q (by simpa using h), opn, List.getD_cons_succ, Nat.add_assoc]
theorem opn_mono (l : List Int) {a b : Nat} (h : a ≤ b) (hb : b ≤ l.length) : opn l a ≤ opn l b := by
  induction b with
  | zero => rw [Nat.le_zero.1 h]; exact Nat.le_refl _
  | succ b ih =>
    by_cases h1 : a = b + 1
    · rw [h1]; exact Nat.le_refl _
    · have := ih (by omega) (by omega)
      rw [opn_succ l b (by omega)]; omega
theorem opn_le (l : List Int) : ∀ q, q ≤ l.length → opn l q ≤ q
  | 0, _ => by rw [opn_zero]; exact Nat.le_refl _
  | q + 1, h => by
    have := opn_le l q (by omega)
    rw [opn_succ l q h]
    split <;> omega

def abAt (l : List Int) (k q : Nat) : Int := if 0 ≤ l.getD q 0 ∧ k.testBit (opn l q) = true then -1 else l.getD q 0
def abN (l : List Int) (k : Nat) : List Int := (List.range l.length).map (abAt l k)
def abM (m : ApiMix) (k : Nat) : ApiMix := ⟨m.fBase, abN m.fNext k, m.fHeld⟩
def abortsF (m : ApiMix) : List ApiMix := (List.range (2 ^ opn m.fNext m.fNext.length)).map (abM m)
theorem abN_len (l : List Int) (k : Nat) : (abN l k).length = l.length := by simp [abN]
theorem abN_at (l : List Int) (k q : Nat) (h : q < l.length) : (abN l k).getD q 0 = abAt l k q := by
  unfold abN; rw [List.getD_eq_getElem?_getD, List.getElem?_map, List.getElem?_range h]; rfl

theorem list_ext_getD {l1 l2 : List Int} (h1 : l1.length = l2.length) (h : ∀ q, q < l1.length → l1.getD q 0 = l2.getD q 0) : l1 = l2 := by
  apply List.ext_getElem h1
  intro q h2 h3
  have := h q h2
  rw [List.getD_eq_getElem?_getD, List.getD_eq_getElem?_getD, List.getElem?_eq_getElem h2, List.getElem?_eq_getElem h3] at this
  exact this

theorem bit_all : ∀ (k : Fin 64) (b : Fin 7), andI .i64 (shrI .i64 (k.val : Int) (b.val : Int)) 1 = (if k.val.testBit b.val then 1 else 0) ∧ Int.tmod (shrI .i64 (k.val : Int) (b.val : Int)) 2 = (if k.val.testBit b.val then 1 else 0) := by decide +kernel
theorem shl_all : ∀ n : Fin 7, shlI .i64 1 (n.val : Int) = ((2 ^ n.val : Nat) : Int) := by decide +kernel

/-- The mix x results from m by aborts. -/
structure IsAb (m x : ApiMix) : Prop where
  base : x.fBase = m.fBase
  held : x.fHeld = m.fHeld
  len : x.fNext.length = m.fNext.length
  next : ∀ q, q < m.fNext.length → x.fNext.getD q 0 = m.fNext.getD q 0 ∨ (0 ≤ m.fNext.getD q 0 ∧ x.fNext.getD q 0 = -1)
theorem IsAb.refl (m : ApiMix) : IsAb m m := ⟨rfl, rfl, rfl, fun _ _ => .inl rfl⟩
theorem IsAb.trans {a b c : ApiMix} (h1 : IsAb a b) (h2 : IsAb b c) : IsAb a c :=
  ⟨h2.base.trans h1.base, h2.held.trans h1.held, h2.len.trans h1.len, fun q hq => by
    have e1 := h1.next q hq
    have e2 := h2.next q (by rw [h1.len]; exact hq)
    omega⟩
theorem isAb_abM (m : ApiMix) (k : Nat) : IsAb m (abM m k) :=
  ⟨rfl, rfl, abN_len _ _, fun q hq => by
    show (abN m.fNext k).getD q 0 = _ ∨ _ ∧ (abN m.fNext k).getD q 0 = _
    rw [abN_at _ _ _ hq]; unfold abAt
    split
    · rename_i h; exact .inr ⟨h.1, rfl⟩
    · exact .inl rfl⟩

theorem ab_code : ∀ (l x : List Int), x.length = l.length → (∀ q, q < l.length → x.getD q 0 = l.getD q 0 ∨ (0 ≤ l.getD q 0 ∧ x.getD q 0 = -1)) → ∃ k, k < 2 ^ opn l l.length ∧ ∀ q, q < l.length → x.getD q 0 = abAt l k q
  | [], x, h, _ => ⟨0, by simp [opn], fun q hq => by simp at hq⟩
  | n :: ns, [], h, _ => by simp at h
  | n :: ns, y :: ys, h, hq => by
    obtain ⟨k, hk, hk2⟩ := ab_code ns ys (by simpa using h) (fun q hq' => by have := hq (q + 1) (by simpa using hq'); simpa using this)
    have h0 := hq 0 (by simp)
    simp only [List.getD_cons_zero] at h0
    by_cases hn : 0 ≤ n
    · refine ⟨2 * k + if y = n then 0 else 1, ?_, ?_⟩
      · rw [List.length_cons, opn, if_pos hn, Nat.pow_add]
        split <;> omega
      · intro q hq'
        cases q with
        | zero =>
          simp only [List.getD_cons_zero, abAt, opn_zero]
          by_cases hy : y = n
          · simp [hy]
          · rw [if_neg hy, if_pos ⟨hn, by simp⟩]; omega
        | succ q =>
          have := hk2 q (by simpa using hq')
          simp only [List.getD_cons_succ, abAt, opn, if_pos hn] at this ⊢
          rw [this, Nat.add_comm 1, Nat.testBit_succ]
          have : (2 * k + if y = n then 0 else 1) / 2 = k := by split <;> omega
          rw [this]
    · refine ⟨k, ?_, ?_⟩
      · rw [List.length_cons, opn, if_neg hn, Nat.zero_add]; exact hk
      · intro q hq'
        cases q with
        | zero =>
          simp only [List.getD_cons_zero, abAt, opn_zero]
          rw [if_neg (fun h => hn h.1)]
          omega
        | succ q =>
          have := hk2 q (by simpa using hq')
          simp only [List.getD_cons_succ, abAt, opn, if_neg hn, Nat.zero_add] at this ⊢
          exact this

theorem mem_aborts {m x : ApiMix} : x ∈ abortsF m ↔ IsAb m x := by
  unfold abortsF
  rw [List.mem_map]
  constructor
  · rintro ⟨k, _, rfl⟩; exact isAb_abM m k
  · intro h
    obtain ⟨k, hk, hq⟩ := ab_code m.fNext x.fNext h.len h.next
    refine ⟨k, List.mem_range.2 hk, ?_⟩
    have : abN m.fNext k = x.fNext := list_ext_getD (by rw [abN_len, h.len]) fun q hq' => by
      rw [abN_len] at hq'
      rw [abN_at _ _ _ hq', hq q hq']
    unfold abM
    rw [this, ← h.base, ← h.held]

theorem run_ab {m x : ApiMix} (h : IsAb m x) {s : Nat} (hs : s < m.fNext.length) {v : Nat} (hv : runB x s v = true) : runB m s v = true := by
  unfold runB at hv ⊢
  rw [h.base] at hv
  have := h.next s hs
  simp only [Bool.or_eq_true, decide_eq_true_eq] at hv ⊢
  omega
theorem ok_ab {p : ApiProblem} {m x : ApiMix} (hp : ProbOk p) (hm : MixOk p m) (h : IsAb m x) : MixOk p x := by
  refine ⟨⟨by rw [h.base]; exact hm.base, by rw [h.len]; exact hm.next, by rw [h.held]; exact hm.held, fun i hi => by rw [h.base]; exact hm.b0 i hi, fun i hi => ?_, fun i hi => ?_⟩, fun i hi => by rw [h.held]; exact hm.range i hi, fun i t ht hs v hv => ?_, fun i t ht hs v hv => ?_, fun i t ht hs => by rw [h.held]; exact hm.none i t ht hs⟩
  · have h1 := hm.n0 i hi
    have h2 := h.next i (by rw [hm.next]; exact hi)
    have h3 := ver_at hp hi
    omega
  · have h1 := hm.ne i hi
    have h2 := h.next i (by rw [hm.next]; exact hi)
    have h3 := hm.b0 i hi
    rw [h.base]
    omega
  · have hin := (tab_ok (hp.tab t (List.mem_of_getElem? ht))).from0
    rw [h.held]
    exact hm.low i t ht hs v (run_ab h (by rw [hm.next]; omega) hv)
  · rw [h.held] at hv
    exact hm.high i t ht hs v hv

theorem clone_int (N : Nat) (l : List Int) (h : l.length ≤ lim) : Sh.slices_Clone_int_int N l = some l := by
  unfold Sh.slices_Clone_int_int
  rw [chk_bind_true (by simpa using h)]; rfl
theorem clone_set (N : Nat) (l : List Int) (h : l.length ≤ lim) : Sh.slices_Clone_api_Set_api_Set N l = some l := by
  unfold Sh.slices_Clone_api_Set_api_Set
  rw [chk_bind_true (by simpa using h)]; rfl

theorem getD_set {l : List Int} {i q : Nat} {y : Int} (hi : i < l.length) : (l.set i y).getD q 0 = if q = i then y else l.getD q 0 := by
  rw [List.getD_eq_getElem?_getD, List.getD_eq_getElem?_getD, List.getElem?_set]
  by_cases h : i = q
  · subst h; simp [hi]
  · rw [if_neg h, if_neg (fun e => h e.symm)]

theorem opn_inj {l : List Int} {a b : Nat} (ha : a < l.length) (hb : b < l.length) (h1 : 0 ≤ l.getD a 0) (h2 : 0 ≤ l.getD b 0) (h : opn l a = opn l b) : a = b := by
  rcases Nat.lt_trichotomy a b with h3 | h3 | h3
  · have := opn_mono l (a := a + 1) (b := b) h3 (by omega)
    rw [opn_succ l a ha, if_pos h1] at this; omega
  · exact h3
  · have := opn_mono l (a := b + 1) (b := a) h3 (by omega)
    rw [opn_succ l b hb, if_pos h2] at this; omega

/-- The indices of the open upgrades. -/
structure IsOpen (l : List Int) (o : List Int) : Prop where
  len : o.length = opn l l.length
  at_ : ∀ b, b < o.length → ∃ i : Nat, o.getD b 0 = (i : Int) ∧ i < l.length ∧ 0 ≤ l.getD i 0 ∧ opn l i = b

theorem mix_ab_next (N : Nat) (l o : List Int) (k : Nat) (acc : List ApiMix) (hN : N ≤ 1000000) (h20 : 20 ≤ N) (hl : l.length ≤ 6) (ho : IsOpen l o) (hk : k < 64) (j : List Int → Option (List ApiMix × Int)) :
    Sh.mix_Aborts_L17 N o (acc, (k : Int)) j N (l, 0) = j (abN l k) := by
  have hol := opn_le l l.length (Nat.le_refl _)
  have hoL := ho.len
  obtain ⟨x, e, h1, h2⟩ := loop_ex (A := List Int) (Sh.mix_Aborts_L17 N o (acc, (k : Int)) j) (fun a k => (a, k)) o.length j
    (fun b a => a.length = l.length ∧ ∀ q, q < l.length → a.getD q 0 = if 0 ≤ l.getD q 0 ∧ opn l q < b ∧ k.testBit (opn l q) = true then -1 else l.getD q 0)
    (fun n b a hb ha => by
      obtain ⟨i, hi1, hi2, hi3, hi4⟩ := ho.at_ b hb
      have hbit := bit_all ⟨k, hk⟩ ⟨b, by omega⟩
      rw [Sh.mix_Aborts_L17]
      simp only [join_eq]
      rw [cnd_pos (by omega), idx_lt (d := 0) hb]
      simp only [Option.bind_some]
      rw [chk_bind_true (by omega), hi1, hbit.1, idx_lt (d := 0) (show i < a.length by rw [ha.1]; exact hi2), wrap_succ (by omega)]
      simp only [Option.bind_some, Int.toNat_natCast]
      cases hkb : k.testBit b
      · refine ⟨a, rfl, ha.1, fun q hq => ?_⟩
        rw [ha.2 q hq]
        by_cases hqb : opn l q = b
        · rw [hqb, hkb]; simp
        · by_cases h3 : opn l q < b
          · have : opn l q < b + 1 := by omega
            simp [h3, this]
          · have : ¬ opn l q < b + 1 := by omega
            simp [h3, this]
      · refine ⟨a.set i (-1), rfl, by simp [ha.1], fun q hq => ?_⟩
        rw [getD_set (by rw [ha.1]; exact hi2), ha.2 q hq]
        by_cases hqi : q = i
        · subst hqi
          rw [if_pos rfl, if_pos ⟨hi3, by omega, by rw [hi4]; exact hkb⟩]
        · rw [if_neg hqi]
          by_cases h0 : 0 ≤ l.getD q 0
          · have hne : opn l q ≠ b := fun h => hqi (opn_inj hq hi2 h0 hi3 (by omega))
            by_cases h3 : opn l q < b
            · have : opn l q < b + 1 := by omega
              simp [h3, this]
            · have : ¬ opn l q < b + 1 := by omega
              simp [h3, this]
          · rw [if_neg (fun h => h0 h.1), if_neg (fun h => h0 h.1)])
    (fun n a _ => by
      rw [Sh.mix_Aborts_L17]
      simp only [join_eq]
      rw [cnd_neg (by omega)]) N 0 l (Nat.zero_le _) (by omega) ⟨rfl, fun q hq => by simp⟩
  have e' : Sh.mix_Aborts_L17 N o (acc, (k : Int)) j N (l, 0) = j x := e
  rw [e']
  congr 1
  refine list_ext_getD (by rw [abN_len, h1]) fun q hq => ?_
  rw [h1] at hq
  rw [h2 q hq, abN_at _ _ _ hq, abAt]
  by_cases h0 : 0 ≤ l.getD q 0
  · have h3 := opn_mono l (a := q + 1) (b := l.length) hq (Nat.le_refl _)
    rw [opn_succ l q hq, if_pos h0] at h3
    have : opn l q < o.length := by omega
    simp [this]
  · rw [if_neg (fun h => h0 h.1), if_neg (fun h => h0 h.1)]

theorem ref_ab_next (N : Nat) (m : ApiMix) (k : Nat) (acc : List ApiMix) (hN : N ≤ 1000000) (h20 : 20 ≤ N) (hl : m.fNext.length ≤ 6) (hk : k < 64) (j : List Int → Option (List ApiMix)) :
    Sh.sheaveref36_All_L12 N m (acc, (k : Int)) j N (m.fNext, 0, 0) = j (abN m.fNext k) := by
  obtain ⟨⟨x, pl⟩, e, h1, h2, h3⟩ := loop_ex (A := List Int × Nat) (Sh.sheaveref36_All_L12 N m (acc, (k : Int)) j) (fun a k => (a.1, (a.2 : Int), k)) m.fNext.length (fun a => j a.1)
    (fun i a => a.2 = opn m.fNext i ∧ a.1.length = m.fNext.length ∧ ∀ q, q < m.fNext.length → a.1.getD q 0 = if q < i then abAt m.fNext k q else m.fNext.getD q 0)
    (fun n i a hi ha => by
      obtain ⟨a, pl⟩ := a
      obtain ⟨a1, a2, a3⟩ := ha
      simp only at a1 a2 a3
      have hple := opn_le m.fNext i (by omega)
      have hbit := bit_all ⟨k, hk⟩ ⟨pl, by omega⟩
      have hs := opn_succ m.fNext i hi
      rw [Sh.sheaveref36_All_L12]
      simp only [join_eq]
      rw [cnd_pos (by omega), idx_lt (d := 0) hi]
      simp only [Option.bind_some]
      rw [wrap_succ (by omega)]
      by_cases h0 : m.fNext.getD i 0 < 0
      · rw [cnd_pos h0]
        refine ⟨(a, pl), rfl, by simp only; rw [hs, if_neg (by omega), a1]; rfl, a2, fun q hq => ?_⟩
        simp only
        rw [a3 q hq]
        by_cases hqi : q = i
        · subst hqi
          rw [if_neg (by omega), if_pos (by omega), abAt, if_neg (by omega)]
        · by_cases h4 : q < i
          · rw [if_pos h4, if_pos (by omega)]
          · rw [if_neg h4, if_neg (by omega)]
      · rw [cnd_neg h0, chk_bind_true (by omega), idx_lt (d := 0) (show i < a.length by omega), hbit.2, wrap_succ (by omega)]
        simp only [Option.bind_some, Int.toNat_natCast]
        cases hkb : k.testBit pl
        · refine ⟨(a, pl + 1), rfl, by simp only; rw [hs, if_pos (by omega), a1], a2, fun q hq => ?_⟩
          simp only
          rw [a3 q hq]
          by_cases hqi : q = i
          · subst hqi
            rw [if_neg (by omega), if_pos (by omega), abAt, ← a1, hkb]; simp
          · by_cases h4 : q < i
            · rw [if_pos h4, if_pos (by omega)]
            · rw [if_neg h4, if_neg (by omega)]
        · refine ⟨(a.set i (-1), pl + 1), rfl, by simp only; rw [hs, if_pos (by omega), a1], by simp [a2], fun q hq => ?_⟩
          simp only
          rw [getD_set (by omega), a3 q hq]
          by_cases hqi : q = i
          · subst hqi
            rw [if_pos rfl, if_pos (by omega), abAt, ← a1, if_pos ⟨by omega, hkb⟩]
          · rw [if_neg hqi]
            by_cases h4 : q < i
            · rw [if_pos h4, if_pos (by omega)]
            · rw [if_neg h4, if_neg (by omega)])
    (fun n a _ => by
      rw [Sh.sheaveref36_All_L12]
      simp only [join_eq]
      rw [cnd_neg (by omega)]) N 0 (m.fNext, 0) (Nat.zero_le _) (by omega) ⟨(opn_zero _).symm, rfl, fun q hq => by simp⟩
  have e' : Sh.sheaveref36_All_L12 N m (acc, (k : Int)) j N (m.fNext, 0, 0) = j x := e
  rw [e']
  congr 1
  simp only at h2 h3
  refine list_ext_getD (by rw [abN_len, h2]) fun q hq => ?_
  rw [h2] at hq
  rw [h3 q hq, if_pos hq, abN_at _ _ _ hq]
end Go.Lift
