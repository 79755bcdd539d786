/- Lemmas for MixValidSaid, which YtmmkocokfdheiaaFin7 proves. -/
/- Sets as bits, the mixes that are valid, and the conflicts of a mix: both implementations give one answer. -/
import Derived.Test.YtmmkocokfdheiaaMLoop
namespace Go.Lift

def bitB (s : Int) (v : Nat) : Bool := s.toNat.testBit v
def runB (m : ApiMix) (s v : Nat) : Bool := decide (m.fBase.getD s 0 = (v : Int)) || decide (m.fNext.getD s 0 = (v : Int))

theorem has_all : ∀ (s : Fin 256) (v : Fin 8), andI .u8 (shrI .u8 (s.val : Int) (v.val : Int)) 1 = if bitB (s.val : Int) v.val then 1 else 0 := by decide +kernel
theorem has_bit {s : Int} {v : Nat} (h0 : 0 ≤ s) (h1 : s ≤ 255) (hv : v < 8) : andI .u8 (shrI .u8 s (v : Int)) 1 = if bitB s v then 1 else 0 := by
  obtain ⟨k, rfl⟩ := Int.eq_ofNat_of_zero_le h0
  exact has_all ⟨k, by omega⟩ ⟨v, hv⟩
theorem has_bit0 {s : Int} {v : Nat} (h0 : 0 ≤ s) (h1 : s ≤ 255) (hv : v < 8) : (andI .u8 (shrI .u8 s (v : Int)) 1 == 0) = !bitB s v := by
  rw [has_bit h0 h1 hv]; cases bitB s v <;> rfl
theorem has_bit1 {s : Int} {v : Nat} (h0 : 0 ≤ s) (h1 : s ≤ 255) (hv : v < 8) : (andI .u8 (shrI .u8 s (v : Int)) 1 == 1) = bitB s v := by
  rw [has_bit h0 h1 hv]; cases bitB s v <;> rfl
theorem bit_big {s : Int} {v : Nat} (h1 : s ≤ 255) (hv : 8 ≤ v) : bitB s v = false := by
  unfold bitB
  apply Nat.testBit_lt_two_pow
  have : (2 : Nat) ^ 8 ≤ 2 ^ v := Nat.pow_le_pow_right (by omega) hv
  omega

theorem run_one : ∀ (b : Fin 8) (v : Fin 8), bitB (shlI .u8 1 (b.val : Int)) v.val = decide (b.val = v.val) ∧ 0 ≤ shlI .u8 1 (b.val : Int) ∧ shlI .u8 1 (b.val : Int) ≤ 255 := by decide +kernel
theorem run_two : ∀ (b n : Fin 8) (v : Fin 8), bitB (orI .u8 (shlI .u8 1 (b.val : Int)) (shlI .u8 1 (n.val : Int))) v.val = (decide (b.val = v.val) || decide (n.val = v.val))
    ∧ 0 ≤ orI .u8 (shlI .u8 1 (b.val : Int)) (shlI .u8 1 (n.val : Int)) ∧ orI .u8 (shlI .u8 1 (b.val : Int)) (shlI .u8 1 (n.val : Int)) ≤ 255 := by decide +kernel

theorem runM_bit {m : ApiMix} {s : Nat} (hb0 : 0 ≤ m.fBase.getD s 0) (hb1 : m.fBase.getD s 0 < 8) (hn1 : m.fNext.getD s 0 < 8) :
    (∀ v, bitB (runM m s) v = runB m s v) ∧ 0 ≤ runM m s ∧ runM m s ≤ 255 := by
  unfold runM runB
  obtain ⟨b, hb⟩ := Int.eq_ofNat_of_zero_le hb0
  rw [hb] at hb1 ⊢
  by_cases h : 0 ≤ m.fNext.getD s 0
  · obtain ⟨n, hn⟩ := Int.eq_ofNat_of_zero_le h
    rw [hn] at hn1 ⊢
    rw [if_pos (by omega)]
    have h1 := run_two ⟨b, by omega⟩ ⟨n, by omega⟩
    refine ⟨fun v => ?_, (h1 0).2⟩
    by_cases hv : v < 8
    · rw [(h1 ⟨v, hv⟩).1]
      simp only [Int.ofNat_inj]
    · rw [bit_big (h1 0).2.2 (by omega)]
      simp; omega
  · rw [if_neg h]
    have h1 := run_one ⟨b, by omega⟩
    refine ⟨fun v => ?_, (h1 0).2⟩
    have h3 : decide (m.fNext.getD s 0 = (v : Int)) = false := decide_eq_false (by omega)
    rw [h3, Bool.or_false]
    by_cases hv : v < 8
    · rw [(h1 ⟨v, hv⟩).1]
      simp only [Int.ofNat_inj]
    · rw [bit_big (h1 0).2.2 (by omega)]
      simp; omega

theorem u8_bv {a : Nat} (h : a < 256) : (BitVec.ofInt 8 (a : Int)).toNat = a := by
  simp; omega
theorem andNot_iff {a b : Int} (ha : 0 ≤ a ∧ a ≤ 255) (hb : 0 ≤ b ∧ b ≤ 255) : andNotI .u8 a b = 0 ↔ ∀ v, bitB a v = true → bitB b v = true := by
  obtain ⟨a, rfl⟩ := Int.eq_ofNat_of_zero_le ha.1
  obtain ⟨b, rfl⟩ := Int.eq_ofNat_of_zero_le hb.1
  have hA := u8_bv (a := a) (by omega)
  have hB := u8_bv (a := b) (by omega)
  unfold andNotI bitB
  simp only [IntKind.bits, Int.toNat_natCast]
  have hx : ∀ x : BitVec 8, IntKind.wrap .u8 (x.toNat : Int) = (x.toNat : Int) := by
    intro x
    have := x.isLt
    simp [IntKind.wrap, IntKind.signed, IntKind.bits]
    omega
  rw [hx]
  constructor
  · intro h v hv
    have h0 : (BitVec.ofInt 8 (a : Int) &&& ~~~BitVec.ofInt 8 (b : Int)) = (BitVec.ofNat 8 0) := by
      apply BitVec.eq_of_toNat_eq
      simp only [BitVec.toNat_ofNat, Nat.zero_mod]
      exact Int.ofNat_inj.1 h
    by_cases hv8 : v < 8
    · have h1 : (BitVec.ofInt 8 (a : Int) &&& ~~~BitVec.ofInt 8 (b : Int)).getLsbD v = false := by rw [h0]; simp
      rw [BitVec.getLsbD_and, BitVec.getLsbD_not] at h1
      have e1 : (BitVec.ofInt 8 (a : Int)).getLsbD v = a.testBit v := by unfold BitVec.getLsbD; rw [hA]
      have e2 : (BitVec.ofInt 8 (b : Int)).getLsbD v = b.testBit v := by unfold BitVec.getLsbD; rw [hB]
      rw [e1, e2, hv] at h1
      simpa [hv8] using h1
    · have := bit_big (s := (a : Int)) (v := v) (by omega) (by omega)
      unfold bitB at this
      rw [Int.toNat_natCast, hv] at this
      cases this
  · intro h
    have h0 : (BitVec.ofInt 8 (a : Int) &&& ~~~BitVec.ofInt 8 (b : Int)) = (BitVec.ofNat 8 0) := by
      apply BitVec.eq_of_getLsbD_eq
      intro i hi
      rw [BitVec.getLsbD_and, BitVec.getLsbD_not]
      have e1 : (BitVec.ofInt 8 (a : Int)).getLsbD i = a.testBit i := by unfold BitVec.getLsbD; rw [hA]
      have e2 : (BitVec.ofInt 8 (b : Int)).getLsbD i = b.testBit i := by unfold BitVec.getLsbD; rw [hB]
      rw [e1, e2]
      have := h i
      cases h3 : a.testBit i
      · simp
      · rw [this h3]; simp
    have h2 : ∀ x : BitVec 8, x = (BitVec.ofNat 8 0) → (x.toNat : Int) = 0 := fun x hx => by rw [hx]; rfl
    exact h2 _ h0

theorem all_fin : ∀ n : Fin 9, (∀ v : Fin 8, bitB (IntKind.wrap .u8 (shlI .u8 1 (n.val : Int) - 1)) v.val = decide (v.val < n.val)) ∧ 0 ≤ IntKind.wrap .u8 (shlI .u8 1 (n.val : Int) - 1) ∧ IntKind.wrap .u8 (shlI .u8 1 (n.val : Int) - 1) ≤ 255 := by decide +kernel
theorem all_bit {n : Int} (h0 : 0 ≤ n) (h1 : n ≤ 8) : (∀ v, bitB (IntKind.wrap .u8 (shlI .u8 1 n - 1)) v = decide ((v : Int) < n)) ∧ 0 ≤ IntKind.wrap .u8 (shlI .u8 1 n - 1) ∧ IntKind.wrap .u8 (shlI .u8 1 n - 1) ≤ 255 := by
  obtain ⟨n, rfl⟩ := Int.eq_ofNat_of_zero_le h0
  have h := all_fin ⟨n, by omega⟩
  refine ⟨fun v => ?_, h.2⟩
  by_cases hv : v < 8
  · rw [h.1 ⟨v, hv⟩]; simp
  · rw [bit_big h.2.2 (by omega)]
    symm; apply decide_eq_false; omega

structure MixOk (p : ApiProblem) (m : ApiMix) : Prop extends MixServ p m where
  range : ∀ i, i < p.fTables.length → 0 ≤ m.fHeld.getD i 0 ∧ m.fHeld.getD i 0 ≤ 255
  low : ∀ i t, p.fTables[i]? = some t → storedB t = true → ∀ v, runB m t.fFrom.toNat v = true → bitB (m.fHeld.getD i 0) v = true
  high : ∀ i t, p.fTables[i]? = some t → storedB t = true → ∀ v, bitB (m.fHeld.getD i 0) v = true → (v : Int) < p.fVersions.getD t.fFrom.toNat 0
  none : ∀ i t, p.fTables[i]? = some t → storedB t = false → m.fHeld.getD i 0 = 0

theorem ver_at {p : ApiProblem} (hp : ProbOk p) {i : Nat} (hi : i < p.fVersions.length) : 1 ≤ p.fVersions.getD i 0 ∧ p.fVersions.getD i 0 ≤ 6 := by
  have := ver_of (i := (i : Int)) hp.ver (by omega) (by omega)
  simpa using this
theorem serv_run {p : ApiProblem} {m : ApiMix} (hp : ProbOk p) (hm : MixServ p m) {s : Nat} (hs : s < p.fVersions.length) :
    (∀ v, bitB (runM m s) v = runB m s v) ∧ 0 ≤ runM m s ∧ runM m s ≤ 255 := by
  have h1 := hm.b0 s hs
  have h2 := hm.n0 s hs
  have h3 := ver_at hp hs
  exact runM_bit h1.1 (by omega) (by omega)

theorem held_iff {p : ApiProblem} {m : ApiMix} (hp : ProbOk p) (hm : MixServ p m) {i : Nat} {t : ApiTable} (ht : p.fTables[i]? = some t) (hr : 0 ≤ m.fHeld.getD i 0 ∧ m.fHeld.getD i 0 ≤ 255) :
    heldE p m i t = none ↔ ((storedB t = true → (∀ v, runB m t.fFrom.toNat v = true → bitB (m.fHeld.getD i 0) v = true) ∧ (∀ v, bitB (m.fHeld.getD i 0) v = true → (v : Int) < p.fVersions.getD t.fFrom.toNat 0)) ∧ (storedB t = false → m.fHeld.getD i 0 = 0)) := by
  have hin := tab_in (hp.tab t (List.mem_of_getElem? ht))
  have hrun := serv_run hp hm (s := t.fFrom.toNat) (by omega)
  have hver := ver_at hp (i := t.fFrom.toNat) (by omega)
  have hall := all_bit (n := p.fVersions.getD t.fFrom.toNat 0) (by omega) (by omega)
  unfold heldE allM
  have e1 := andNot_iff hrun.2 hr
  have e2 := andNot_iff hr hall.2
  cases hst : storedB t
  · simp
  · simp only [if_true, true_implies, Bool.true_eq_false, false_implies, and_true, ite_eq_right_iff, reduceCtorEq, imp_false, not_or, Decidable.not_not]
    rw [e1, e2]
    simp only [hrun.1, hall.1, decide_eq_true_eq]

theorem valid_ok {p : ApiProblem} {m : ApiMix} (hw : wSl wU8 m.fHeld) (h : validM p m = 0) : ProbOk p ∧ MixOk p m := by
  unfold validM at h
  split at h
  · rename_i k; exact (k h).elim
  · rename_i k0
    have hp : ProbOk p := by
      rcases validP_cases p with h | h
      · exact h.2
      · omega
    split at h
    · cases h
    · rename_i k1
      have b1 : m.fBase.length = p.fVersions.length := Decidable.not_not.1 fun h => k1 (.inl h)
      have b2 : m.fNext.length = p.fVersions.length := Decidable.not_not.1 fun h => k1 (.inr (.inl h))
      have b3 : m.fHeld.length = p.fTables.length := Decidable.not_not.1 fun h => k1 (.inr (.inr h))
      cases hs : scan (mixE m) 0 p.fVersions with
      | some r =>
        obtain ⟨j, x, _, he⟩ := scan_some hs
        rw [hs] at h
        unfold mixE at he
        simp only [orElse, Option.getD_some] at h
        split at he
        · cases he; cases h
        · split at he
          · cases he; cases h
          · cases he
      | none =>
        have hm := serv_of b1 b2 b3 hs
        rw [hs] at h
        simp only [orElse] at h
        cases ht : scan (heldE p m) 0 p.fTables with
        | some r =>
          obtain ⟨j, x, _, he⟩ := scan_some ht
          rw [ht] at h
          simp only [Option.getD_some] at h
          subst h
          unfold heldE at he
          split at he
          · split at he <;> cases he
          · split at he <;> cases he
        | none =>
          have hr : ∀ i, i < p.fTables.length → 0 ≤ m.fHeld.getD i 0 ∧ m.fHeld.getD i 0 ≤ 255 := fun i hi => u8_range (wU8_getD hw (by omega))
          have key : ∀ i t, p.fTables[i]? = some t → _ := fun i t hi => (held_iff hp hm hi (hr i (List.getElem?_eq_some_iff.1 hi).1)).1 (by have := scan_none ht i t hi; rwa [Nat.zero_add] at this)
          exact ⟨hp, hm, hr, fun i t hi hst => ((key i t hi).1 hst).1, fun i t hi hst => ((key i t hi).1 hst).2, fun i t hi hst => (key i t hi).2 hst⟩

theorem scan_none_of {α R : Type} {f : Nat → α → Option R} : ∀ {i : Nat} {xs : List α}, (∀ j x, xs[j]? = some x → f (i + j) x = none) → scan f i xs = none
  | _, [], _ => rfl
  | i, y :: ys, h => by
    rw [scan_cons, show f i y = none from h 0 y rfl]
    exact scan_none_of fun j x hx => by
      have := h (j + 1) x (by simpa using hx)
      rwa [show i + (j + 1) = i + 1 + j from by omega] at this

theorem probOk_valid {p : ApiProblem} (hp : ProbOk p) (hr : ∀ i, i < p.fVersions.length → 0 ≤ p.fNow.getD i 0 ∧ p.fNow.getD i 0 < p.fVersions.getD i 0 ∧ 0 ≤ p.fTarget.getD i 0 ∧ p.fTarget.getD i 0 < p.fVersions.getD i 0) : validP p = 0 := by
  have := hp.nv
  have := hp.nt
  have := hp.now
  have := hp.tgt
  unfold validP
  rw [if_neg (by omega), if_neg (by omega)]
  have h1 : scan (rangeE p) 0 p.fVersions = none := scan_none_of fun j x hx => by
    have hj := (List.getElem?_eq_some_iff.1 hx).1
    have h1 := hr j hj
    have h2 := ver_at hp hj
    have e : p.fVersions.getD j 0 = x := by rw [List.getD_eq_getElem?_getD, hx]; rfl
    rw [e] at h1 h2
    unfold rangeE
    rw [Nat.zero_add, if_neg (by omega)]
  have h2 : scan (tabE p) 0 p.fTables = none := scan_none_of fun j x hx => by
    unfold tabE
    rw [if_pos (hp.tab x (List.mem_of_getElem? hx))]
  rw [h1, h2]; rfl
theorem valid_prob {p : ApiProblem} (h : validP p = 0) : ProbOk p ∧ ∀ i, i < p.fVersions.length → 0 ≤ p.fNow.getD i 0 ∧ p.fNow.getD i 0 < p.fVersions.getD i 0 ∧ 0 ≤ p.fTarget.getD i 0 ∧ p.fTarget.getD i 0 < p.fVersions.getD i 0 := by
  have hp : ProbOk p := by
    rcases validP_cases p with h | h
    · exact h.2
    · omega
  refine ⟨hp, fun i hi => ?_⟩
  have h1 := hp.nv
  have h2 := hp.nt
  have h3 := hp.now
  have h4 := hp.tgt
  unfold validP at h
  rw [if_neg (by omega), if_neg (by omega)] at h
  cases hs : scan (rangeE p) 0 p.fVersions with
  | some r =>
    obtain ⟨j, x, _, he⟩ := scan_some hs
    rw [hs] at h
    unfold rangeE at he
    split at he
    · cases he; cases h
    · cases he
  | none =>
    have hx : p.fVersions[i]? = some (p.fVersions.getD i 0) := by rw [List.getD_eq_getElem?_getD]; simp [hi]
    have := scan_none hs i _ hx
    rw [Nat.zero_add] at this
    unfold rangeE at this
    split at this
    · cases this
    · rename_i hn; omega

theorem ok_valid {p : ApiProblem} {m : ApiMix} (hv : validP p = 0) (hm : MixOk p m) : validM p m = 0 := by
  obtain ⟨hp, _⟩ := valid_prob hv
  unfold validM
  rw [hv, if_neg (by simp), if_neg (by have := hm.base; have := hm.next; have := hm.held; omega)]
  have h1 : scan (mixE m) 0 p.fVersions = none := scan_none_of fun j x hx => by
    have hj := (List.getElem?_eq_some_iff.1 hx).1
    have e : p.fVersions.getD j 0 = x := by rw [List.getD_eq_getElem?_getD, hx]; rfl
    have h1 := hm.b0 j hj
    have h2 := hm.n0 j hj
    have h3 := hm.ne j hj
    rw [e] at h1 h2
    unfold mixE
    rw [Nat.zero_add, if_neg (by omega), if_neg h3]
  have h2 : scan (heldE p m) 0 p.fTables = none := scan_none_of fun j x hx => by
    have hj := (List.getElem?_eq_some_iff.1 hx).1
    rw [Nat.zero_add]
    exact (held_iff hp hm.toMixServ hx (hm.range j hj)).2 ⟨fun hst => ⟨hm.low j x hx hst, hm.high j x hx hst⟩, fun hst => hm.none j x hx hst⟩
  rw [h1, h2]; rfl
end Go.Lift
