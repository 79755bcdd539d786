/- Lemmas for ReachRegionSaid, which YtfnobkfnohhmmaaGreatFinZ4 proves. -/
import Derived.Test.YtfnobkfnohhmmaaGreatMSort3
import Derived.KernelRfl
import Derived.Sort.AssemblyPlain
namespace Go.Lift
open IntKind renaming wrap → wI
open Option renaming bind_some → oS
open Go
open Go.Sort (swp order2 median medianAdjacent choosePivot Hint xorNext bitsLen breakStep breakPatterns pdq insertionSort heapSort reverseRange partialInsertionSort partitionEqual partition)
theorem Jm {n : Nat} (h : n < 18446744073709551616) : wI .u64 (n : Int) = (n : Int) := by
 show ((n : Int) % (18446744073709551616 : Int)) = n
 exact Int.emod_eq_of_lt (by omega) (by omega)
theorem UJ (n : Nat) : wI .u64 (n : Int) = ((n % 18446744073709551616 : Nat) : Int) := by
 show ((n : Int) % (18446744073709551616 : Int)) = _
 omega
theorem Ub (r : UInt64) : r.toNat < 18446744073709551616 := UInt64.toNat_lt r
theorem WT (r : UInt64) : BitVec.ofInt 64 (r.toNat : Int) = r.toBitVec := by
 rw [BitVec.ofInt_natCast]
 apply BitVec.eq_of_toNat_eq
 rw [BitVec.toNat_ofNat]
 exact Nat.mod_eq_of_lt (Ub r)
theorem UK (r s : UInt64) : Gu .u64 (r.toNat : Int) (s.toNat : Int) = ((r ^^^ s).toNat : Int) := by
 show wI .u64 (((BitVec.ofInt 64 (r.toNat : Int) ^^^ BitVec.ofInt 64 (s.toNat : Int)).toNat : Nat) : Int) = _
 rw [WT, WT]
 exact Jm (BitVec.isLt _)
theorem R9 (r k : UInt64) (q : Nat) (hq : k.toNat = q) (h64 : q < 64) (hs : Co .u64 (r.toNat : Int) (q : Int) = wI .u64 ((r.toNat : Int) * 2 ^ q)) : Co .u64 (r.toNat : Int) (q : Int) = ((r <<< k).toNat : Int) := by
 rw [hs, UInt64.toNat_shiftLeft, hq, Nat.mod_eq_of_lt h64, Nat.shiftLeft_eq]
 rw [show ((r.toNat : Int) * 2 ^ q) = ((r.toNat * 2 ^ q : Nat) : Int) from by simp, UJ]
theorem X3 (r : UInt64) : Co .u64 (r.toNat : Int) 13 = ((r <<< 13).toNat : Int) := R9 r 13 13 rfl (by decide) rfl
theorem Yt (r : UInt64) : Co .u64 (r.toNat : Int) 17 = ((r <<< 17).toNat : Int) := R9 r 17 17 rfl (by decide) rfl
theorem ZE (r : UInt64) : Ei .u64 (r.toNat : Int) 7 = ((r >>> 7).toNat : Int) := by
 show (r.toNat : Int).fdiv (128 : Int) = _
 rw [UInt64.toNat_shiftRight, show (7 : UInt64).toNat % 64 = 7 from rfl, Nat.shiftRight_eq_div_pow]
 rw [Int.fdiv_eq_ediv_of_nonneg _ (by omega)]
 omega
theorem Tt (N : Nat) (r : UInt64) : DC N (r.toNat : Int) = some (((xorNext r).toNat : Int), ((xorNext r).toNat : Int)) := by
 unfold DC xorNext
 simp only [X3, UK, ZE, Yt]
theorem VB (r : UInt64) {m : Nat} (h : m < 18446744073709551616) : FB .u64 (r.toNat : Int) (m : Int) = ((r.toNat &&& m : Nat) : Int) := by
 show wI .u64 (((BitVec.ofInt 64 (r.toNat : Int) &&& BitVec.ofInt 64 (m : Int)).toNat : Nat) : Int) = _
 rw [WT, BitVec.ofInt_natCast, BitVec.toNat_and, BitVec.toNat_ofNat, Nat.mod_eq_of_lt h]
 exact Jm (Nat.lt_of_le_of_lt Nat.and_le_left (Ub r))
theorem U1 : ((List.range 1001).all fun n => decide (DD 0 (n : Int) = some ((bitsLen n : Nat) : Int))) = true := by kernel_rfl
theorem XE (N : Nat) : DD N = DD 0 := rfl
theorem Tg (N : Nat) {n : Nat} (h : n ≤ 1000) : DD N (n : Int) = some ((bitsLen n : Nat) : Int) := by
 rw [XE]
 exact of_decide_eq_true (List.all_eq_true.1 U1 n (List.mem_range.2 (by omega)))
theorem R0 {n : Nat} (h : n ≤ 1000) : bitsLen n ≤ 10 := by
 have : ((List.range 1001).all fun n => decide (bitsLen n ≤ 10)) = true := by kernel_rfl
 exact of_decide_eq_true (List.all_eq_true.1 this n (List.mem_range.2 (by omega)))
theorem R2 {n : Nat} (h : n ≤ 1000) (h1 : 1 ≤ n) : n < 1 <<< bitsLen n ∧ 1 <<< bitsLen n ≤ 2 * n ∧ 2 ≤ 1 <<< bitsLen n := by
 have : ((List.range 1001).all fun n => decide (1 ≤ n → n < 1 <<< bitsLen n ∧ 1 <<< bitsLen n ≤ 2 * n ∧ 2 ≤ 1 <<< bitsLen n)) = true := by kernel_rfl
 exact of_decide_eq_true (List.all_eq_true.1 this n (List.mem_range.2 (by omega))) h1
theorem T1 (N : Nat) {n : Nat} (h : n ≤ 1000) (h1 : 1 ≤ n) : Dw N (n : Int) = some ((1 <<< bitsLen n : Nat) : Int) := by
 unfold Dw
 rw [Jm (by omega), Tg N h]
 simp only [oS]
 rw [AA (by omega)]
 have hb := R0 h
 have := R2 h h1
 have e : Co .u64 1 ((bitsLen n : Nat) : Int) = wI .u64 (((1 <<< bitsLen n : Nat)) : Int) := by
  unfold Co
  rw [show min (((bitsLen n : Nat) : Int)).toNat (IntKind.bits .u64) = bitsLen n from by
   rw [Int.toNat_natCast]; show min _ 64 = _; omega]
  rw [Nat.shiftLeft_eq]
  simp
 rw [e, Jm (by omega)]
section
variable {α : Type} [Inhabited α] {P : α → Prop} {cmp : α × α → Option Int} {c : α → α → Int}
theorem KP (N a b m : Nat) (hm : m < 1000000) {d : Array α} {r : UInt64} {idx0 : Nat} (hab : a + 8 ≤ b) (hb : b ≤ d.size) (hs : d.size ≤ 1000) (hml : b - a < m ∧ m ≤ 2 * (b - a)) (h0 : idx0 < d.size) (h1 : idx0 ≤ a + (b - a) / 4 * 2 + 1) (_h2 : a ≤ idx0) (J : List α → Option (List α)) (n : Nat) (hA : C0 P d) :
  Gs.breakPatterns_L3 N (a : Int) (b : Int) (m : Int) J (n + 1) (d.toList, (r.toNat : Int), (idx0 : Int)) = Gs.breakPatterns_L3 N (a : Int) (b : Int) (m : Int) J n ((breakStep a (b - a) m (r, d) idx0).2.toList, ((breakStep a (b - a) m (r, d) idx0).1.toNat : Int), ((idx0 + 1 : Nat) : Int)) ∧ (breakStep a (b - a) m (r, d) idx0).2.size = d.size ∧ C0 P (breakStep a (b - a) m (r, d) idx0).2 := by
 rw [Gs.breakPatterns_L3]
 have el : wI .i64 ((b : Int) - (a : Int)) = ((b - a : Nat) : Int) := wn (by omega) (by omega)
 have e4 : wI .i64 (Int.tdiv ((b - a : Nat) : Int) 4) = (((b - a) / 4 : Nat) : Int) := wn (by rw [Int.tdiv_eq_ediv_of_nonneg (by omega)]; omega) (by omega)
 have f2x : wI .i64 ((((b - a) / 4 : Nat) : Int) * 2) = (((b - a) / 4 * 2 : Nat) : Int) := wn (by omega) (by omega)
 have g2x : wI .i64 ((a : Int) + (((b - a) / 4 * 2 : Nat) : Int)) = ((a + (b - a) / 4 * 2 : Nat) : Int) := wn (by omega) (by omega)
 have e1 : wI .i64 (((a + (b - a) / 4 * 2 : Nat) : Int) + 1) = ((a + (b - a) / 4 * 2 + 1 : Nat) : Int) := wn (by omega) (by omega)
 simp only [el, e4, f2x, g2x, e1]
 rw [AC (by omega), Tt]
 simp only [oS, A6]
 rw [show wI .u64 ((m : Int) - 1) = ((m - 1 : Nat) : Int) from by rw [show ((m : Int) - 1) = ((m - 1 : Nat) : Int) from by omega]; exact Jm (by omega)]
 rw [VB _ (by omega)]
 have hle : (xorNext r).toNat &&& (m - 1) ≤ m - 1 := Nat.and_le_right
 unfold breakStep
 simp only
 generalize ho : (xorNext r).toNat &&& (m - 1) = o at hle
 rw [wn (e := ((o : Nat) : Int)) (n := o) rfl (by omega)]
 have fin : ∀ q : Nat, q < b - a → ((A9 d.toList (wI .i64 ((a : Int) + (q : Int)))).bind fun v9 => (A9 d.toList (idx0 : Int)).bind fun v10 => (A9 d.toList (idx0 : Int)).bind fun _ =>
   (A9 (d.toList.set ((idx0 : Int)).toNat v9) (wI .i64 ((a : Int) + (q : Int)))).bind fun _ =>
    Gs.breakPatterns_L3 N (a : Int) (b : Int) (m : Int) J n ((d.toList.set ((idx0 : Int)).toNat v9).set ((wI .i64 ((a : Int) + (q : Int)))).toNat v10, ((xorNext r).toNat : Int), (wI .i64 ((idx0 : Int) + 1)))) =
   Gs.breakPatterns_L3 N (a : Int) (b : Int) (m : Int) J n ((swp d idx0 (a + q)).toList, ((xorNext r).toNat : Int), ((idx0 + 1 : Nat) : Int)) ∧ (swp d idx0 (a + q)).size = d.size ∧ C0 P (swp d idx0 (a + q)) := by
  intro q hq
  have k1 : a + q < d.size := by omega
  rw [wn (e := (a : Int) + (q : Int)) (n := a + q) (by omega) (by omega), wn (e := (idx0 : Int) + 1) (n := idx0 + 1) (by omega) (by omega)]
  simp only [gi k1, gi h0, oS, Int.toNat_natCast]
  rw [H9 (by simp; omega), ← EC]
  exact ⟨rfl, Bi _ _ _, hA.swp h0 k1⟩
 by_cases hge : b - a ≤ o
 ·rw [AC (by omega), if_pos hge, wn (e := ((o : Nat) : Int) - ((b - a : Nat) : Int)) (n := o - (b - a)) (by omega) (by omega)]
  exact fin (o - (b - a)) (by omega)
 ·rw [AB (by omega), if_neg hge]
  exact fin o (by omega)
theorem Ur {N a b : Nat} {d : Array α} (hab : a + 8 ≤ b) (hb : b ≤ d.size) (hN : d.size < N) (hs : d.size ≤ 1000) (h6 : 6 ≤ N) (hA : C0 P d) :
  Gs.breakPatterns N d.toList (a : Int) (b : Int) cmp = some (breakPatterns d a b).toList ∧ (breakPatterns d a b).size = d.size ∧ C0 P (breakPatterns d a b) := by
 unfold Gs.breakPatterns breakPatterns
 simp only
 rw [wn (e := (b : Int) - (a : Int)) (n := b - a) (by omega) (by omega), AC (by omega), if_pos (by omega), T1 N (by omega) (by omega)]
 simp only [oS]
 have hp := R2 (n := b - a) (by omega) (by omega)
 rw [Jm (by omega)]
 have e4 : wI .i64 (Int.tdiv ((b - a : Nat) : Int) 4) = (((b - a) / 4 : Nat) : Int) := wn (by rw [Int.tdiv_eq_ediv_of_nonneg (by omega)]; omega) (by omega)
 have f2x : wI .i64 ((((b - a) / 4 : Nat) : Int) * 2) = (((b - a) / 4 * 2 : Nat) : Int) := wn (by omega) (by omega)
 have g2x : wI .i64 ((a : Int) + (((b - a) / 4 * 2 : Nat) : Int)) = ((a + (b - a) / 4 * 2 : Nat) : Int) := wn (by omega) (by omega)
 have e1y : wI .i64 (((a + (b - a) / 4 * 2 : Nat) : Int) - 1) = ((a + (b - a) / 4 * 2 - 1 : Nat) : Int) := wn (by omega) (by omega)
 simp only [e4, f2x, g2x, e1y]
 generalize hm : 1 <<< bitsLen (b - a) = m at hp
 have hr0 : ((b - a : Nat) : Int) = ((UInt64.ofNat (b - a)).toNat : Int) := by
  rw [UInt64.toNat_ofNat', Nat.mod_eq_of_lt (by omega)]
 rw [hr0]
 generalize hi : a + (b - a) / 4 * 2 - 1 = i0
 generalize UInt64.ofNat (b - a) = r0
 obtain ⟨N', rfl⟩ : ∃ q, N = q + 4 := ⟨N - 4, by omega⟩
 obtain ⟨f1, f2, f3⟩ := KP (N' + 4) a b m (by omega) (r := r0) (idx0 := i0) hab hb hs ⟨hp.1, hp.2.1⟩ (by omega) (by omega) (by omega) (fun v4 => some v4) (N' + 3) hA
 rw [f1]
 generalize hs1 : breakStep a (b - a) m (r0, d) i0 = s1 at f2 f3
 obtain ⟨r1, d1⟩ := s1
 simp only at f2 f3 ⊢
 obtain ⟨g1, g2, g3⟩ := KP (N' + 4) a b m (by omega) (r := r1) (d := d1) (idx0 := i0 + 1) hab (by omega) (by omega) ⟨hp.1, hp.2.1⟩ (by omega) (by omega) (by omega) (fun v4 => some v4) (N' + 2) f3
 rw [g1]
 generalize hs2 : breakStep a (b - a) m (r1, d1) (i0 + 1) = s2 at g2 g3
 obtain ⟨r2, d2⟩ := s2
 simp only at g2 g3 ⊢
 obtain ⟨k1, k2, k3⟩ := KP (N' + 4) a b m (by omega) (r := r2) (d := d2) (idx0 := i0 + 1 + 1) hab (by omega) (by omega) ⟨hp.1, hp.2.1⟩ (by omega) (by omega) (by omega) (fun v4 => some v4) (N' + 1) g3
 rw [k1, Gs.breakPatterns_L3]
 have el : wI .i64 ((b : Int) - (a : Int)) = ((b - a : Nat) : Int) := wn (by omega) (by omega)
 have e4 : wI .i64 (Int.tdiv ((b - a : Nat) : Int) 4) = (((b - a) / 4 : Nat) : Int) := wn (by rw [Int.tdiv_eq_ediv_of_nonneg (by omega)]; omega) (by omega)
 have f2x : wI .i64 ((((b - a) / 4 : Nat) : Int) * 2) = (((b - a) / 4 * 2 : Nat) : Int) := wn (by omega) (by omega)
 have g2x : wI .i64 ((a : Int) + (((b - a) / 4 * 2 : Nat) : Int)) = ((a + (b - a) / 4 * 2 : Nat) : Int) := wn (by omega) (by omega)
 have e1 : wI .i64 (((a + (b - a) / 4 * 2 : Nat) : Int) + 1) = ((a + (b - a) / 4 * 2 + 1 : Nat) : Int) := wn (by omega) (by omega)
 simp only [el, e4, f2x, g2x, e1]
 rw [AB (by omega)]
 exact ⟨rfl, k2.trans (g2.trans f2), k3⟩
theorem RM (hc : ∀ x y, P x → P y → cmp (x, y) = some (c x y)) (N : Nat) {d : Array α} {a b s : Nat} (ha : a < d.size) (hb : b < d.size) (hs : s < 1000) (hA : C0 P d) : Gs.order2 N d.toList (a : Int) (b : Int) (s : Int) cmp = some (((order2 (Cb c) d a b s).1 : Int), ((order2 (Cb c) d a b s).2.1 : Int), ((order2 (Cb c) d a b s).2.2 : Int)) ∧
  (order2 (Cb c) d a b s).1 < d.size ∧ (order2 (Cb c) d a b s).2.1 < d.size ∧ (order2 (Cb c) d a b s).2.2 ≤ s + 1 := by
 unfold Gs.order2 order2
 simp only [gi ha, gi hb, oS]
 rw [hc _ _ (hA.get hb) (hA.get ha)]
 simp only [oS]
 rw [wn (e := (s : Int) + 1) (n := s + 1) (by omega) (by omega)]
 cases hl : decide (c d[b]! d[a]! < 0)
 ·rw [Au, if_neg (by simp [Cb, hl])]
  exact ⟨rfl, ha, hb, by simp⟩
 ·rw [AO, if_pos (by simp [Cb, hl])]
  exact ⟨rfl, hb, ha, by simp⟩
theorem Rd (hc : ∀ x y, P x → P y → cmp (x, y) = some (c x y)) (N : Nat) {d : Array α} {a b e s : Nat} (ha : a < d.size) (hb : b < d.size) (he : e < d.size) (hs : s < 900) (hA : C0 P d) : Gs.median N d.toList (a : Int) (b : Int) (e : Int) (s : Int) cmp = some (((median (Cb c) d a b e s).1 : Int), ((median (Cb c) d a b e s).2 : Int)) ∧ (median (Cb c) d a b e s).1 < d.size ∧ (median (Cb c) d a b e s).2 ≤ s + 3 := by
 unfold Gs.median median
 simp only
 obtain ⟨f1, f2, f3, f4⟩ := RM hc N ha hb (show s < 1000 by omega) hA
 rw [f1]
 simp only [oS]
 obtain ⟨g1, g2, g3, g4⟩ := RM hc N f3 he (show (order2 (Cb c) d a b s).2.2 < 1000 by omega) hA
 rw [g1]
 simp only [oS]
 obtain ⟨k1, k2, k3, k4⟩ := RM hc N f2 g2 (show (order2 (Cb c) d (order2 (Cb c) d a b s).2.1 e (order2 (Cb c) d a b s).2.2).2.2 < 1000 by omega) hA
 rw [k1]
 exact ⟨rfl, k3, by omega⟩
theorem Rm (hc : ∀ x y, P x → P y → cmp (x, y) = some (c x y)) (N : Nat) {d : Array α} {a s : Nat} (h1 : 1 ≤ a) (ha : a + 1 < d.size) (hs : s < 900) (hz : d.size ≤ 100000) (hA : C0 P d) : Gs.medianAdjacent N d.toList (a : Int) (s : Int) cmp = some (((medianAdjacent (Cb c) d a s).1 : Int), ((medianAdjacent (Cb c) d a s).2 : Int)) ∧ (medianAdjacent (Cb c) d a s).1 < d.size ∧ (medianAdjacent (Cb c) d a s).2 ≤ s + 3 := by
 unfold Gs.medianAdjacent medianAdjacent
 rw [wn (e := (a : Int) - 1) (n := a - 1) (by omega) (by omega), wn (e := (a : Int) + 1) (n := a + 1) (by omega) (by omega)]
 obtain ⟨f1, f2, f3⟩ := Rd hc N (d := d) (a := a - 1) (b := a) (e := a + 1) (by omega) (by omega) ha hs hA
 rw [f1]
 exact ⟨rfl, f2, f3⟩
def Mt : Hint → Int
 | .unknown => 0
 | .increasing => 1
 | .decreasing => 2
theorem Uz (hc : ∀ x y, P x → P y → cmp (x, y) = some (c x y)) (N : Nat) {d : Array α} {a b : Nat} (hab : a + 12 < b) (hb : b ≤ d.size) (hz : d.size ≤ 100000) (hA : C0 P d) : Gs.choosePivot N d.toList (a : Int) (b : Int) cmp = some (((choosePivot (Cb c) d a b).1 : Int), Mt (choosePivot (Cb c) d a b).2) := by
 unfold Gs.choosePivot choosePivot
 simp only [A6]
 have el : wI .i64 ((b : Int) - (a : Int)) = ((b - a : Nat) : Int) := wn (by omega) (by omega)
 have e4 : wI .i64 (Int.tdiv ((b - a : Nat) : Int) 4) = (((b - a) / 4 : Nat) : Int) := wn (by rw [Int.tdiv_eq_ediv_of_nonneg (by omega)]; omega) (by omega)
 have f1 : wI .i64 ((((b - a) / 4 : Nat) : Int) * 1) = (((b - a) / 4 * 1 : Nat) : Int) := wn (by omega) (by omega)
 have f2 : wI .i64 ((((b - a) / 4 : Nat) : Int) * 2) = (((b - a) / 4 * 2 : Nat) : Int) := wn (by omega) (by omega)
 have f3 : wI .i64 ((((b - a) / 4 : Nat) : Int) * 3) = (((b - a) / 4 * 3 : Nat) : Int) := wn (by omega) (by omega)
 have g1 : wI .i64 ((a : Int) + (((b - a) / 4 * 1 : Nat) : Int)) = ((a + (b - a) / 4 * 1 : Nat) : Int) := wn (by omega) (by omega)
 have g2 : wI .i64 ((a : Int) + (((b - a) / 4 * 2 : Nat) : Int)) = ((a + (b - a) / 4 * 2 : Nat) : Int) := wn (by omega) (by omega)
 have g3 : wI .i64 ((a : Int) + (((b - a) / 4 * 3 : Nat) : Int)) = ((a + (b - a) / 4 * 3 : Nat) : Int) := wn (by omega) (by omega)
 simp only [el, e4, f1, f2, f3, g1, g2, g3]
 generalize hi : a + (b - a) / 4 * 1 = i
 generalize hj : a + (b - a) / 4 * 2 = j
 generalize hk : a + (b - a) / 4 * 3 = k
 have hsw : ∀ (p s : Nat), (AV (((s : Nat) : Int) == 0) (some ((p : Int), (1 : Int))) (AV (((s : Nat) : Int) == 12) (some ((p : Int), (2 : Int))) (some ((p : Int), (0 : Int))))) = some ((p : Int), Mt (if s = 0 then .increasing else if s = 12 then .decreasing else .unknown)) := by
  intro p s
  by_cases h0 : s = 0
  ·subst h0; rfl
  ·rw [if_neg h0, show (((s : Nat) : Int) == 0) = false from beq_eq_false_iff_ne.2 (by omega), Au]
   by_cases h12 : s = 12
   ·subst h12; rfl
   ·rw [if_neg h12, show (((s : Nat) : Int) == 12) = false from beq_eq_false_iff_ne.2 (by omega), Au]; rfl
 rw [AC (by omega), if_pos (show b - a ≥ 8 by omega)]
 by_cases h50 : b - a ≥ 50
 ·rw [AC (by omega), if_pos h50]
  obtain ⟨a1, a2, a3⟩ := Rm hc N (d := d) (a := i) (s := 0) (by omega) (by omega) (by omega) hz hA
  have a1' : Gs.medianAdjacent N d.toList (i : Int) 0 cmp = _ := a1
  rw [a1']
  simp only [oS]
  obtain ⟨b1, b2, b3⟩ := Rm hc N (d := d) (a := j) (s := (medianAdjacent (Cb c) d i 0).2) (by omega) (by omega) (by omega) hz hA
  rw [b1]
  simp only [oS]
  obtain ⟨c1, c2, c3⟩ := Rm hc N (d := d) (a := k) (s := (medianAdjacent (Cb c) d j (medianAdjacent (Cb c) d i 0).2).2) (by omega) (by omega) (by omega) hz hA
  rw [c1]
  simp only [oS]
  obtain ⟨d1, d2, d3⟩ := Rd hc N a2 b2 c2 (show (medianAdjacent (Cb c) d k (medianAdjacent (Cb c) d j (medianAdjacent (Cb c) d i 0).2).2).2 < 900 by omega) hA
  rw [d1]
  simp only [oS]
  exact hsw _ _
 ·rw [AB (by omega), if_neg h50]
  obtain ⟨d1, d2, d3⟩ := Rd hc N (d := d) (a := i) (b := j) (e := k) (s := 0) (by omega) (by omega) (by omega) (by omega) hA
  have d1' : Gs.median N d.toList (i : Int) (j : Int) (k : Int) 0 cmp = _ := d1
  rw [d1']
  simp only [oS]
  exact hsw _ _
end
end Go.Lift
namespace Go.Lift
open IntKind renaming wrap → wI
open Option renaming bind_some → oS
open Go
open Go.Sort (swp Hint bitsLen pdq insertionSort heapSort reverseRange partialInsertionSort partitionEqual partition choosePivot breakPatterns SWO PermIn SortedIn Below)
section
variable {α : Type} [Inhabited α] {P : α → Prop} {cmp : α × α → Option Int} {c : α → α → Int}
theorem UC (h : Hint) : (Mt h == 1) = decide (h = .increasing) := by cases h <;> rfl
theorem Tl (h : Hint) : (Mt h == 2) = decide (h = .decreasing) := by cases h <;> rfl
theorem TA {N a b limit : Nat} {d : Array α} (wb : Bool) (hab : a + 12 < b) (hb : b ≤ d.size) (hN : d.size < N) (hs : d.size ≤ 1000) (h6 : 6 ≤ N) (hl : 1 ≤ limit ∧ limit ≤ 100) (hA : C0 P d) (F : List α × Int → Option (List α)) :
  Bb F (fun j7 => AV (!wb) ((Gs.breakPatterns N d.toList (a : Int) (b : Int) cmp).bind fun v9 => j7 (v9, wI .i64 ((limit : Int) - 1))) (j7 (d.toList, (limit : Int)))) = F ((if !wb then breakPatterns d a b else d).toList, ((if !wb then limit - 1 else limit : Nat) : Int)) ∧ (if !wb then breakPatterns d a b else d).size = d.size ∧ C0 P (if !wb then breakPatterns d a b else d) := by
 rw [A6]
 cases wb
 ·obtain ⟨f1, f2, f3⟩ := Ur (cmp := cmp) (N := N) (show a + 8 ≤ b by omega) hb hN hs h6 hA
  rw [f1, wn (e := (limit : Int) - 1) (n := limit - 1) (by omega) (by omega)]
  exact ⟨rfl, f2, f3⟩
 ·exact ⟨rfl, rfl, hA⟩
theorem TD {N a b p : Nat} {d : Array α} (h : Hint) (hab : a + 12 < b) (hp : a ≤ p) (hpb : p < b) (hb : b ≤ d.size) (hN : d.size < N) (hs : d.size ≤ 1000) (hA : C0 P d) (F : List α × Int × Int → Option (List α)) :
  Bb F (fun j11 => AV (Mt h == 2) ((Gs.reverseRange N d.toList (a : Int) (b : Int) cmp).bind fun v13 => j11 (v13, wI .i64 (wI .i64 ((b : Int) - 1) - wI .i64 ((p : Int) - (a : Int))), 1)) (j11 (d.toList, (p : Int), Mt h))) =
   F ((if h = .decreasing then reverseRange d a b else d).toList, ((if h = .decreasing then (b - 1) - (p - a) else p : Nat) : Int), Mt (if h = .decreasing then Hint.increasing else h)) ∧ (if h = .decreasing then reverseRange d a b else d).size = d.size ∧ C0 P (if h = .decreasing then reverseRange d a b else d) := by
 rw [A6, Tl]
 by_cases hd : h = .decreasing
 ·obtain ⟨f1, f2, f3⟩ := WY (cmp := cmp) (N := N) (show a < b by omega) hb hN (by omega) hA
  rw [f1, wn (e := (b : Int) - 1) (n := b - 1) (by omega) (by omega), wn (e := (p : Int) - (a : Int)) (n := p - a) (by omega) (by omega), wn (n := (b - 1) - (p - a)) (by omega) (by omega)]
  simp only [hd, decide_true, AO, if_true, oS]
  exact ⟨rfl, f2, f3⟩
 ·simp only [hd, decide_false, Au, if_false]
  exact ⟨trivial, trivial, hA⟩
def PM (c : α → α → Int) (wb wp : Bool) (h : Hint) (d : Array α) (a b : Nat) : Array α × Bool := if wb && wp && h = .increasing then partialInsertionSort (Cb c) d a b else (d, false)
theorem T7 (hc : ∀ x y, P x → P y → cmp (x, y) = some (c x y)) {N a b : Nat} {d : Array α} (wb wp : Bool) (h : Hint) (hab : a + 12 < b) (hb : b ≤ d.size) (hN : d.size < N) (hs : d.size ≤ 1000) (h6 : 6 ≤ N) (hA : C0 P d) (F : List α → Option (List α)) :
  Bb F (fun j14 => Bb (fun (v15 : Bool) => AV v15 ((Gs.partialInsertionSort N d.toList (a : Int) (b : Int) cmp).bind fun v19 => AV v19.1 (some v19.2) (j14 v19.2)) (j14 d.toList)) fun j15 => AV wb (AV wp (j15 (Mt h == 1)) (j15 false)) (j15 false)) =
   (if (PM c wb wp h d a b).2 then some (PM c wb wp h d a b).1.toList else F (PM c wb wp h d a b).1.toList) ∧ (PM c wb wp h d a b).1.size = d.size ∧ C0 P (PM c wb wp h d a b).1 := by
 rw [A6, A6, UC]
 unfold PM
 have hno : ∀ q : Bool, q = false → (F d.toList) = (if (if q = true then partialInsertionSort (Cb c) d a b else (d, false)).2 then some (if q = true then partialInsertionSort (Cb c) d a b else (d, false)).1.toList else F (if q = true then partialInsertionSort (Cb c) d a b else (d, false)).1.toList) ∧ (if q = true then partialInsertionSort (Cb c) d a b else (d, false)).1.size = d.size ∧ C0 P (if q = true then partialInsertionSort (Cb c) d a b else (d, false)).1 := by
  intro q hq; subst hq; exact ⟨rfl, rfl, hA⟩
 cases wb
 ·exact hno _ rfl
 cases wp
 ·exact hno _ rfl
 by_cases hd : h = .increasing
 ·simp only [hd, decide_true, AO, Bool.and_self, if_true]
  obtain ⟨f1, f2, f3⟩ := Rl hc (N := N) (show a < b by omega) hb hN h6 (by omega) hA
  rw [f1]
  simp only [oS]
  refine ⟨?_, f2, f3⟩
  cases (partialInsertionSort (Cb c) d a b).2 <;> rfl
 ·simp only [hd, decide_false, Au, AO]
  exact hno _ rfl
theorem U3 (hc : ∀ x y, P x → P y → cmp (x, y) = some (c x y)) {a p : Nat} {d : Array α} (hb : a ≤ d.size) (hs : d.size ≤ 1000) (hp : p < d.size) (hA : C0 P d) (F : Bool → Option (List α)) :
  Bb F (fun j21 => AV (decide (0 < (a : Int))) ((A9 d.toList (wI .i64 ((a : Int) - 1))).bind fun v23 => (A9 d.toList (p : Int)).bind fun v24 => (cmp (v23, v24)).bind fun v25 => j21 (!decide (v25 < 0))) (j21 false)) = F (decide (a > 0) && !Cb c d[a - 1]! d[p]!) := by
 rw [A6]
 by_cases h0 : 0 < a
 ·rw [AC (by omega), wn (e := (a : Int) - 1) (n := a - 1) (by omega) (by omega), gi (show a - 1 < d.size by omega), gi hp]
  simp only [oS]
  rw [hc _ _ (hA.get (by omega)) (hA.get hp)]
  simp only [oS, Cb, h0, decide_true, Bool.true_and]
 ·rw [AB (by omega)]
  simp [h0]
theorem TG (hc : ∀ x y, P x → P y → cmp (x, y) = some (c x y)) {N : Nat} (hN : 1010 ≤ N) : ∀ (w : Nat) (k n : Nat) (d : Array α) (a b limit : Nat) (wb wp : Bool) (J : Unit → Option (List α)), b - a ≤ w → w < n → w ≤ k → a ≤ b → b ≤ d.size → d.size ≤ 1000 → limit ≤ 100 → C0 P d →
  Gs.pdqsort_L1 N cmp (Gs.pdqsort_R N k) J n (d.toList, (a : Int), (b : Int), (limit : Int), wb, wp) = some (pdq (Cb c) d a b limit wb wp).toList ∧ (pdq (Cb c) d a b limit wb wp).size = d.size ∧ C0 P (pdq (Cb c) d a b limit wb wp) := by
 intro w
 induction w using Nat.strongRecOn with
 | _ w ih =>
 intro k n d a b limit wb wp J hw hn hk hab hb hs hl hA
 obtain ⟨n, rfl⟩ : ∃ q, n = q + 1 := ⟨n - 1, by omega⟩
 rw [Gs.pdqsort_L1, pdq]
 have el : wI .i64 ((b : Int) - (a : Int)) = ((b - a : Nat) : Int) := wn (by omega) (by omega)
 simp only [el]
 by_cases h12 : b - a ≤ 12
 ·rw [AC (by omega), if_pos h12]
  obtain ⟨f1, f2, f3⟩ := WM hc (N := N) hab hb (by omega) (by omega) hA
  rw [f1]
  exact ⟨rfl, f2, f3⟩
 rw [AB (by omega), if_neg h12]
 by_cases h0 : limit = 0
 ·rw [if_pos h0, show ((limit : Int) == 0) = true from beq_iff_eq.2 (by omega), AO]
  obtain ⟨f1, f2, f3⟩ := Vj hc (N := N) (show a < b by omega) hb (by omega) (by omega) hA
  rw [f1]
  exact ⟨rfl, f2, f3⟩
 rw [if_neg h0, show ((limit : Int) == 0) = false from beq_eq_false_iff_ne.2 (by omega), Au]
 -- the recursion
 have rec_ : ∀ (q : Nat) (d : Array α) (a b limit : Nat), b - a ≤ q → q < w → a ≤ b → b ≤ d.size → d.size ≤ 1000 → limit ≤ 100 → C0 P d → Gs.pdqsort_R N k d.toList (a : Int) (b : Int) (limit : Int) cmp = some (pdq (Cb c) d a b limit true true).toList ∧ (pdq (Cb c) d a b limit true true).size = d.size ∧ C0 P (pdq (Cb c) d a b limit true true) := by
  intro q d a b limit h1 h2 h3 h4 h5 h6 h7
  obtain ⟨k', rfl⟩ : ∃ q, k = q + 1 := ⟨k - 1, by omega⟩
  rw [Gs.pdqsort_R]
  unfold Gs.pdqsort_B
  exact ih (min q 1000) (by omega) k' N d a b limit true true _ (by omega) (by omega) (by omega) h3 h4 h5 h6 h7
 obtain ⟨e1, e2, e3⟩ := TA (cmp := cmp) (N := N) (a := a) (b := b) (limit := limit) wb (by omega) hb (by omega) hs (by omega) ⟨by omega, hl⟩ hA _
 rw [e1]
 clear e1
 generalize (if !wb then breakPatterns d a b else d) = d1 at e2 e3 ⊢
 generalize hl1 : (if !wb then limit - 1 else limit) = l1
 have hl2 : l1 ≤ 100 := by rw [← hl1]; split <;> omega
 clear hl1
 simp only
 rw [Uz hc N (by omega) (by omega) (by omega) e3]
 obtain ⟨p1, p2⟩ := Go.Sort.choosePivot_holds (Cb c) d1 a b (by omega)
 generalize choosePivot (Cb c) d1 a b = cp at p1 p2 ⊢
 obtain ⟨p, h⟩ := cp
 simp only [oS] at p1 p2 ⊢
 obtain ⟨e4, e5, e6⟩ := TD (cmp := cmp) (N := N) (a := a) (b := b) h (by omega) p1 p2 (by omega) (by omega) (by omega) e3 _
 rw [e4]
 clear e4
 generalize (if h = .decreasing then reverseRange d1 a b else d1) = d2 at e5 e6 ⊢
 generalize hq : (if h = .decreasing then (b - 1) - (p - a) else p) = q
 have hq1 : a ≤ q ∧ q < b := by rw [← hq]; split <;> omega
 clear hq
 generalize (if h = .decreasing then Hint.increasing else h) = h'
 simp only
 obtain ⟨e7, e8, e9⟩ := T7 hc (N := N) (a := a) (b := b) wb wp h' (by omega) (show b ≤ d2.size by omega) (by omega) (by omega) (by omega) e6 _
 rw [e7]
 clear e7
 have hpr : (if (wb && wp && decide (h' = Hint.increasing)) = true then partialInsertionSort (Cb c) d2 a b else (d2, false)) = PM c wb wp h' d2 a b := rfl
 rw [hpr]
 by_cases hpi : (PM c wb wp h' d2 a b).2 = true
 ·simp only [hpi, if_true]
  exact ⟨trivial, by omega, e9⟩
 simp only [hpi]
 generalize (PM c wb wp h' d2 a b).1 = d3 at e8 e9 ⊢
 rw [U3 hc (by omega) (by omega) (by omega) e9]
 cases (decide (a > 0) && !Cb c d3[a - 1]! d3[q]!)
 ·simp only [Au, Bool.false_eq_true, if_false]
  obtain ⟨f1, f2, f3, f4, f5⟩ := XO hc (N := N) (show a < b by omega) hq1.1 hq1.2 (show b ≤ d3.size by omega) (by omega) (by omega) e9
  rw [f1]
  generalize partition (Cb c) d3 a b q = r at f2 f3 f4 f5 ⊢
  obtain ⟨mid, al, d4⟩ := r
  simp only [oS] at f2 f3 f4 f5 ⊢
  have m1 : wI .i64 ((mid : Int) - (a : Int)) = ((mid - a : Nat) : Int) := wn (by omega) (by omega)
  have m2 : wI .i64 ((b : Int) - (mid : Int)) = ((b - mid : Nat) : Int) := wn (by omega) (by omega)
  have m3 : wI .i64 ((mid : Int) + 1) = ((mid + 1 : Nat) : Int) := wn (by omega) (by omega)
  have m4 : wI .i64 (Int.tdiv ((b - a : Nat) : Int) 8) = (((b - a) / 8 : Nat) : Int) := wn (by rw [Int.tdiv_eq_ediv_of_nonneg (by omega)]; omega) (by omega)
  have m5 : decide ((((b - a) / 8 : Nat) : Int) ≤ ((mid - a : Nat) : Int)) = decide (mid - a ≥ (b - a) / 8) := by rw [decide_eq_decide]; omega
  have m6 : decide ((((b - a) / 8 : Nat) : Int) ≤ ((b - mid : Nat) : Int)) = decide (b - mid ≥ (b - a) / 8) := by rw [decide_eq_decide]; omega
  simp only [m1, m2, m3, m4, m5, m6, dif_pos (show a ≤ mid ∧ mid < b from ⟨f4, f5⟩)]
  by_cases hsm : mid - a < b - mid
  ·rw [AC (by omega)]
   simp only [hsm, if_true]
   obtain ⟨g1, g2, g3⟩ := rec_ (mid - a) d4 a mid l1 (Nat.le_refl _) (by omega) f4 (by omega) (by omega) hl2 f3
   rw [g1]
   simp only [oS]
   obtain ⟨k1, k2, k3⟩ := ih (b - (mid + 1)) (by omega) k n (pdq (Cb c) d4 a mid l1 true true) (mid + 1) b l1 (decide (mid - a ≥ (b - a) / 8)) al J (Nat.le_refl _) (by omega) (by omega) (by omega) (by omega) (by omega) hl2 g3
   exact ⟨k1, by omega, k3⟩
  ·rw [AB (by omega)]
   simp only [hsm, if_false]
   obtain ⟨g1, g2, g3⟩ := rec_ (b - (mid + 1)) d4 (mid + 1) b l1 (Nat.le_refl _) (by omega) (by omega) (by omega) (by omega) hl2 f3
   rw [g1]
   simp only [oS]
   obtain ⟨k1, k2, k3⟩ := ih (mid - a) (by omega) k n (pdq (Cb c) d4 (mid + 1) b l1 true true) a mid l1 (decide (b - mid ≥ (b - a) / 8)) al J (Nat.le_refl _) (by omega) (by omega) (by omega) (by omega) (by omega) hl2 g3
   exact ⟨k1, by omega, k3⟩
 ·simp only [AO, if_true]
  obtain ⟨f1, f2, f3, f4, f5⟩ := XX hc (N := N) (show a < b by omega) hq1.1 hq1.2 (show b ≤ d3.size by omega) (by omega) (by omega) e9
  rw [f1]
  generalize partitionEqual (Cb c) d3 a b q = r at f2 f3 f4 f5 ⊢
  obtain ⟨mid, d4⟩ := r
  simp only [oS] at f2 f3 f4 f5 ⊢
  simp only [dif_pos (show a < mid ∧ mid ≤ b from ⟨f4, f5⟩)]
  obtain ⟨k1, k2, k3⟩ := ih (b - mid) (by omega) k n d4 mid b l1 wb wp J (Nat.le_refl _) (by omega) (by omega) (by omega) (by omega) (by omega) hl2 f3
  simp only [Bool.false_eq_true, if_false]
  exact ⟨k1, by omega, k3⟩
end
end Go.Lift
namespace Go.Lift
open Go
open Go.Sort (bitsLen pdq SWO PermIn SortedIn)
structure J8 {α : Type} (c : α → α → Int) : Prop where
 anti : ∀ x y, c y x = - c x y
 le : ∀ x y z, c x y ≤ 0 → c y z ≤ 0 → c x z ≤ 0
namespace J8
variable {α : Type} {c : α → α → Int}
theorem self (O : J8 c) (x : α) : c x x = 0 := by have := O.anti x x; omega
theorem lt1 (O : J8 c) {x y z : α} (h : c x y < 0) (h2 : c y z ≤ 0) : c x z < 0 := by
 have h3 := O.le x y z (by omega) h2
 by_cases h0 : c x z = 0
 ·have h4 := O.anti x z
  have h5 := O.le y z x h2 (by omega)
  have h6 := O.anti x y
  omega
 ·omega
theorem lt2 (O : J8 c) {x y z : α} (h : c x y ≤ 0) (h2 : c y z < 0) : c x z < 0 := by
 have h3 := O.le x y z h (by omega)
 by_cases h0 : c x z = 0
 ·have h4 := O.anti x z
  have h5 := O.le z x y (by omega) h
  have h6 := O.anti y z
  omega
 ·omega
theorem or {d : α → α → Int} (O : J8 c) (Q : J8 d) : J8 (fun x y => if c x y = 0 then d x y else c x y) := by
 refine ⟨fun x y => ?_, fun x y z => ?_⟩
 ·have := O.anti x y
  by_cases h : c x y = 0
  ·simp only [h, show c y x = 0 by omega, if_true]; exact Q.anti x y
  ·simp only [h, show ¬ c y x = 0 by omega, if_false]; exact this
 ·intro h1 h2
  have a1 : c x y ≤ 0 := by revert h1; split <;> omega
  have a2 : c y z ≤ 0 := by revert h2; split <;> omega
  have a3 := O.le x y z a1 a2
  by_cases h0 : c x z = 0
  ·have b1 : c x y = 0 := by
    by_cases q : c x y = 0
    ·exact q
    ·have := O.lt1 (show c x y < 0 by omega) a2; omega
   have b2 : c y z = 0 := by
    by_cases q : c y z = 0
    ·exact q
    ·have := O.lt2 a1 (show c y z < 0 by omega); omega
   simp only [b1, b2, h0, if_true] at h1 h2 ⊢
   exact Q.le x y z h1 h2
  ·simp only [h0, if_false]; exact a3
theorem swo (O : J8 c) : SWO (Cb c) := by
 refine ⟨fun x => ?_, fun x y z => ?_, fun x y z => ?_⟩
 ·unfold Cb; rw [O.self x]; rfl
 ·unfold Cb; intro h1 h2
  exact decide_eq_true (O.lt1 (of_decide_eq_true h1) (by have := of_decide_eq_true h2; omega))
 ·unfold Cb; intro h1 h2
  have := of_decide_eq_false h1
  have := of_decide_eq_false h2
  have := O.anti x y
  have := O.anti y z
  have := O.anti x z
  have := O.le z y x (by omega) (by omega)
  exact decide_eq_false (by omega)
end J8
section
variable {α : Type} [Inhabited α] {P : α → Prop} {cmp : α × α → Option Int} {c : α → α → Int}
theorem ST (O : J8 c) (hc : ∀ x y, P x → P y → cmp (x, y) = some (c x y)) {N : Nat} (hN : 1010 ≤ N) (l : List α) (hl : l.length ≤ 1000) (hP : ∀ x, x ∈ l → P x) :
  ∃ r : List α, Gs.pdqsort N l 0 ((l.length : Nat) : Int) ((bitsLen l.length : Nat) : Int) cmp = some r ∧ r.Perm l ∧ r.Pairwise (fun x y => c x y ≤ 0) := by
 have hb := R0 hl
 have hA : C0 P l.toArray := fun x hx => hP x hx
 obtain ⟨k, rfl⟩ : ∃ q, N = q + 1 := ⟨N - 1, by omega⟩
 obtain ⟨f1, f2, f3⟩ := TG hc hN 1000 k (k + 1) l.toArray 0 l.length (bitsLen l.length) true true (fun _ => none) (by omega) (by omega) (by omega) (by omega) (by simp) (by simpa using hl) (by omega) hA
 obtain ⟨⟨g0, _, g1⟩, g2⟩ := Go.Sort.sort_sorts (Cb c) O.swo l.toArray
 unfold Go.Sort.sort at g0 g1 g2
 simp only [List.size_toArray] at g0 g1 g2
 refine ⟨_, f1, ?_, ?_⟩
 ·generalize pdq (Cb c) l.toArray 0 l.length (bitsLen l.length) true true = d at g0 g1
  have e1 : (d.extract 0 l.length).toList = d.toList := by rw [← g0]; simp
  have e2 : (l.toArray.extract 0 l.length).toList = l := by simp
  rw [e1, e2] at g1
  exact g1
 ·generalize pdq (Cb c) l.toArray 0 l.length (bitsLen l.length) true true = d at g0 g2
  rw [List.pairwise_iff_getElem]
  intro i j hi hj hij
  have := of_decide_eq_false (g2 i j (Nat.zero_le _) hij (by rw [← g0]; simpa using hj))
  rw [getElem!_pos d i (by simpa using hi), getElem!_pos d j (by simpa using hj)] at this
  have h2 := O.anti d[i] d[j]
  simp only [Array.getElem_toList]
  omega
end
section
variable {α : Type} {c : α → α → Int}
abbrev JQ (c : α → α → Int) (l : List α) : Prop := l.Pairwise (fun x y => c x y < 0)
theorem Ni (O : J8 c) : ∀ (a b : List α), JQ c a → JQ c b → (∀ x, x ∈ a ↔ x ∈ b) → a = b
 | [], [], _, _, _ => rfl
 | [], y :: ys, _, _, h => by have := (h y).2 (by simp); simp at this
 | x :: xs, [], _, _, h => by have := (h x).1 (by simp); simp at this
 | x :: xs, y :: ys, ha, hb, h => by
  obtain ⟨a1, a2⟩ := List.pairwise_cons.1 ha
  obtain ⟨b1, b2⟩ := List.pairwise_cons.1 hb
  have exy : x = y := by
   rcases List.mem_cons.1 ((h x).1 (by simp)) with e | e
   ·exact e
   rcases List.mem_cons.1 ((h y).2 (by simp)) with f | f
   ·exact f.symm
   have := b1 x e
   have := a1 y f
   have := O.anti x y
   omega
  subst exy
  rw [Ni O xs ys a2 b2 fun z => ?_]
  constructor
  ·intro hz
   rcases List.mem_cons.1 ((h z).1 (by simp [hz])) with e | e
   ·subst e; have := a1 z hz; have := O.self z; omega
   ·exact e
  ·intro hz
   rcases List.mem_cons.1 ((h z).2 (by simp [hz])) with e | e
   ·subst e; have := b1 z hz; have := O.self z; omega
   ·exact e
theorem SK (_O : J8 c) (h0 : ∀ x y, c x y = 0 → x = y) : ∀ (l : List α), l.Pairwise (fun x y => c x y ≤ 0) → l.Nodup → JQ c l := by
 intro l h hn
 exact List.Pairwise.imp₂ (fun x y h1 h2 => by
  by_cases q : c x y = 0
  ·exact absurd (h0 x y q) h2
  ·omega) h hn
end
theorem RP : J8 Eu := ⟨fun a b => IW a b, Sa⟩
theorem J8.pull {α β : Type} {c : α → α → Int} (O : J8 c) (f : β → α) : J8 (fun x y => c (f x) (f y)) := ⟨fun _x _y => O.anti _ _, fun _x _y _z => O.le _ _ _⟩
theorem PC : J8 Hl := by
 have := (RP.pull Ae.fBase).or ((RP.pull Ae.fNext).or (RP.pull Ae.fHeld))
 have e : Hl = fun (x y : Ae) => if Eu x.fBase y.fBase = 0 then (if Eu x.fNext y.fNext = 0 then Eu x.fHeld y.fHeld else Eu x.fNext y.fNext) else Eu x.fBase y.fBase := by
  funext x y
  unfold Hl Rc Rc Rc Rc
  repeat' split
  all_goals (first | rfl | omega | simp_all)
 rw [e]; exact this
end Go.Lift
namespace Go.Lift
open Go
variable {α : Type}
end Go.Lift
namespace Go.Lift
open Go
section
variable {α : Type} {c : α → α → Int}
variable {P : α → Prop} {eq : α × α → Option Bool} {b : α → α → Bool}
end
end Go.Lift
namespace Go.Lift
open Go
instance : Inhabited Av := ⟨⟨0, 0, 0⟩⟩
def ZC (a b : Av) : Bool := (a.fTable == b.fTable) && ((a.fWriter == b.fWriter) && ((a.fReader == b.fReader) && true))
theorem Sn (a b : Av) : ZC a b = true ↔ a = b := by
 cases a; cases b
 simp [ZC]
instance YC : DecidableEq Av := fun a b => if h : ZC a b = true then isTrue ((Sn a b).1 h) else isFalse fun e => h ((Sn a b).2 e)
end Go.Lift
namespace Go.Lift
open Option renaming bind_some → oS
open List renaming mem_of_getElem? → lM
open Go
theorem L6 (N : Nat) (hN : N ≤ 1000000) (h20 : 100 ≤ N) {p : Ag} (hv : CK p = 0) {m : Ae} (hm : Bv p m) (l : List Ak) (hl : l.length ≤ 54) (hs : ∀ s, s ∈ l → s ∈ F3 p m) (e : Int) : ∀ (n i : Nat) (a : List Ak) (b : List Ae), i ≤ l.length → l.length - i < n → a.length ≤ i → b.length ≤ i →
  EH N p m (l, e) (fun v3 => some (v3.1, v3.2)) n (a, b, (i : Int)) = some (a ++ (On p m (l.drop i)).map (·.1), b ++ (On p m (l.drop i)).map (·.2))
 | 0, i, _, _, _, h, _, _ => by omega
 | n + 1, i, a, b, hi, h, ha, hb => by
  obtain ⟨hp, _⟩ := Dj hv
  rw [EH]
  by_cases h1 : i < l.length
  ·have hx : l[i]? = some l[i] := by simp [h1]
   have hmem := hs _ (lM hx)
   have h0 := (I4 hmem).2
   have hk := Kd hp hm h0
   rw [AC (by first | omega | (simp only; omega)), CP hx, JJ]
   simp only [A6, A5, hx, oS]
   rw [Oe N hN h20 (Lv hm), JK hv hm, if_pos rfl]
   simp only [oS]
   rw [h0, bne_self_eq_false, Au, Ks N p _ hN h20 (Lv hk) (JK hv hk)]
   simp only [oS]
   cases hr : B4 p (B3 p m l[i]).1
   ·rw [Au, if_neg (by simp), AS (by omega)]
    exact L6 N hN h20 hv hm l hl hs e n (i + 1) a b (by omega) (by omega) (by omega) (by omega)
   ·rw [AO, if_pos rfl, AA (by simp [Dy]; omega), AA (by simp [Dy]; omega), AS (by omega)]
    rw [L6 N hN h20 hv hm l hl hs e n (i + 1) _ _ (by omega) (by omega) (by simp; omega) (by simp; omega)]
    simp
  ·rw [AB (by first | omega | (simp only; omega)), List.drop_eq_nil_of_le (by omega)]
   simp [On]
theorem U5 (N : Nat) (hN : N ≤ 1000000) (h20 : 100 ≤ N) {p : Ag} (hv : CK p = 0) {m : Ae} (hm : Bv p m) : FJ N p m = some ((Ic p m).map (·.1), (Ic p m).map (·.2)) := by
 obtain ⟨hp, _⟩ := Dj hv
 unfold FJ
 rw [RJ N hN h20 hv hm]
 simp only [oS]
 have hl : (F3 p m).length ≤ 54 := Nat.le_trans (List.length_filter_le _ _) (MM hp)
 have := L6 N hN h20 hv hm (F3 p m) hl (fun _ h => h) 0 N 0 [] [] (Nat.zero_le _) (by omega) (Nat.le_refl _) (Nat.le_refl _)
 simpa [Ic] using this
theorem KT (N : Nat) (hN : N ≤ 1000000) (h20 : 100 ≤ N) {p : Ag} (hv : CK p = 0) {m : Ae} (hm : Bv p m) (l : List Ak) (hl : l.length ≤ 54) (hs : ∀ s, s ∈ l → s ∈ F3 p m) : ∀ (n i : Nat) (a : List Ak), i ≤ l.length → l.length - i < n → a.length ≤ i →
  C8 N p m l (fun v3 => some v3) n (a, (i : Int)) = some (a ++ (On p m (l.drop i)).map (·.1))
 | 0, i, _, _, h, _ => by omega
 | n + 1, i, a, hi, h, ha => by
  obtain ⟨hp, _⟩ := Dj hv
  rw [C8]
  by_cases h1 : i < l.length
  ·have hx : l[i]? = some l[i] := by simp [h1]
   have hmem := hs _ (lM hx)
   have h0 := (I4 hmem).2
   have hk := Kd hp hm h0
   rw [AC (by first | omega | (simp only; omega)), CP hx, JJ]
   simp only [A6, A5, hx, oS]
   obtain ⟨b, e⟩ := Lo N hN h20 hp hm hmem
   rw [e]
   simp only [oS]
   rw [IM N p _ hN h20 hp hk]
   simp only [oS]
   cases hr : B4 p (B3 p m l[i]).1
   ·rw [Au, if_neg (by simp), AS (by omega)]
    exact KT N hN h20 hv hm l hl hs n (i + 1) a (by omega) (by omega) (by omega)
   ·rw [AO, if_pos rfl, AA (by simp [Dy]; omega), AS (by omega)]
    rw [KT N hN h20 hv hm l hl hs n (i + 1) _ (by omega) (by omega) (by simp; omega)]
    simp
  ·rw [AB (by first | omega | (simp only; omega)), List.drop_eq_nil_of_le (by omega)]
   simp [On]
theorem Tv (N : Nat) (hN : N ≤ 1000000) (h20 : 100 ≤ N) {p : Ag} (hv : CK p = 0) {m : Ae} (hm : Bv p m) : Ez N p m = some ((Ic p m).map (·.1)) := by
 obtain ⟨hp, _⟩ := Dj hv
 unfold Ez
 rw [Pp N hN h20 hv hm]
 simp only [oS]
 have hl : (F3 p m).length ≤ 54 := Nat.le_trans (List.length_filter_le _ _) (MM hp)
 have := KT N hN h20 hv hm (F3 p m) hl (fun _ h => h) N 0 [] (Nat.zero_le _) (by omega) (Nat.le_refl _)
 simpa [Ic] using this
theorem Sp {p : Ag} (hp : Bl p) (m : Ae) : (Ic p m).length ≤ 54 := by
 unfold Ic On
 exact Nat.le_trans (List.length_filterMap_le _ _) (Nat.le_trans (List.length_filter_le _ _) (MM hp))
def Kj (x : Ae) : List Ae → List Ae
 | [] => [x]
 | y :: ys => if Hl y x = 0 then y :: ys else if 0 < Hl y x then x :: y :: ys else y :: Kj x ys
theorem Lr {x : Ae} : ∀ {l : List Ae} {z : Ae}, z ∈ Kj x l ↔ z = x ∨ z ∈ l
 | [], z => by simp [Kj]
 | y :: ys, z => by
  simp only [Kj]
  split
  ·rename_i h
   have h := Ke h
   constructor
   ·exact fun hz => .inr hz
   ·rintro (rfl | hz)
    ·rw [h]; simp
    ·exact hz
  ·split
   ·simp
   ·rw [List.mem_cons, Lr, List.mem_cons]
    constructor
    ·rintro (h | h | h)
     ·exact .inr (.inl h)
     ·exact .inl h
     ·exact .inr (.inr h)
    ·rintro (h | h | h)
     ·exact .inr (.inl h)
     ·exact .inl h
     ·exact .inr (.inr h)
theorem MX (x : Ae) : ∀ (l : List Ae), (Kj x l).length ≤ l.length + 1 ∧ l.length ≤ (Kj x l).length
 | [] => by simp [Kj]
 | y :: ys => by
  have := MX x ys
  simp only [Kj]
  split
  ·simp
  ·split
   ·simp
   ·simp only [List.length_cons]; omega
theorem Md {x : Ae} : ∀ {l : List Ae}, JQ Hl l → JQ Hl (Kj x l)
 | [], _ => by simp [Kj, JQ]
 | y :: ys, h => by
  obtain ⟨h1, h2⟩ := List.pairwise_cons.1 h
  simp only [Kj]
  split
  ·exact h
  ·split
   ·rename_i h0 hx
    have hxy : Hl x y < 0 := by rw [SY y x]; omega
    refine List.pairwise_cons.2 ⟨fun z hz => ?_, h⟩
    rcases List.mem_cons.1 hz with rfl | hz
    ·exact hxy
    ·have := h1 z hz
     exact PC.lt1 hxy (by omega)
   ·rename_i h0 hx
    refine List.pairwise_cons.2 ⟨fun z hz => ?_, Md h2⟩
    rcases Lr.1 hz with rfl | hz
    ·omega
    ·exact h1 z hz
theorem RA {N : Nat} {p : Ag} {a b : Ae} (hN : N ≤ 1000000) (h20 : 100 ≤ N) (hp : Bl p) (ha : Bv p a) (hb : Bv p b) : CI N a b = some (Hl a b) := by
 have hnv := hp.nv
 have hnt := hp.nt
 exact MB hN (by rw [ha.base]; omega) (by rw [ha.next]; omega) (by rw [ha.held]; omega) (by rw [hb.held]; omega) (Lv ha) (Lv hb)
theorem QN (N : Nat) (hN : N ≤ 1000000) (h20 : 100 ≤ N) {p : Ag} (hp : Bl p) {l : List Ae} (hl : l.length ≤ 100000) (hA : ∀ x, x ∈ l → Bv p x) {x : Ae} (hx : Bv p x) : ∀ (n i : Nat), l.length - i < n → i ≤ l.length →
  Dp N l x (fun (_ : Unit) => (DP (l.length + (([x] : List Ae)).length ≤ Dy)).bind fun _ => some (l ++ (([x] : List Ae)))) n (i : Int) = some (l.take i ++ Kj x (l.drop i))
 | 0, i, h, _ => by omega
 | n + 1, i, h, hi => by
  rw [Dp]
  by_cases h1 : i < l.length
  ·have hy : l[i]? = some l[i] := by simp [h1]
   have hyo := hA _ (lM hy)
   rw [AC (by omega), CP hy]
   simp only [A5, hy, oS]
   rw [RA hN h20 hp hyo hx]
   simp only [oS, Kj]
   by_cases e : Hl l[i] x = 0
   ·rw [e, if_pos rfl, show ((0:Int) == 0) = true from rfl, AO, ← CP hy, List.take_append_drop]
   ·rw [show (Hl l[i] x == 0) = false from by simpa using e, Au, if_neg e]
    by_cases e2 : 0 < Hl l[i] x
    ·rw [AC e2, if_pos e2]
     simp only [Int.toNat_natCast, Nat.zero_le, Nat.zero_add, List.drop_zero, List.nil_append, List.length_nil, Int.natCast_nonneg, Nat.le_refl, and_true, true_and]
     rw [AA (by omega), AA (by simp [Dy]; omega), AA (by simp [Dy]; omega), AA (by omega), AA (by simp [Dy]; omega)]
     have ht : (l.drop i).take (l.length - i) = l.drop i := List.take_of_length_le (by rw [List.length_drop]; omega)
     rw [← CP hy, ht, List.append_assoc]
     rfl
    ·rw [AB e2, if_neg e2, AS (by omega), QN N hN h20 hp hl hA hx n (i + 1) (by omega) (by omega)]
     rw [List.take_add_one, hy, List.append_assoc]; rfl
  ·have : i = l.length := by omega
   subst this
   rw [AB (by omega), AA (by simp [Dy]; omega), List.drop_length, List.take_length]
   rfl
theorem Wp (N : Nat) (hN : N ≤ 1000000) (h20 : 100 ≤ N) {p : Ag} (hp : Bl p) {l : List Ae} (hl : l.length ≤ 100000) (hl2 : l.length < N) (hA : ∀ x, x ∈ l → Bv p x) {x : Ae} (hx : Bv p x) : EL N l x = some (Kj x l) := by
 unfold EL
 have := QN N hN h20 hp hl hA hx N 0 (by omega) (Nat.zero_le _)
 rw [List.take_zero, List.drop_zero, List.nil_append] at this
 exact this
def FP (a : List Ae) : List Ae → List Ae
 | [] => a
 | x :: xs => FP (Kj x a) xs
theorem KL {z : Ae} : ∀ {xs a : List Ae}, z ∈ FP a xs ↔ z ∈ a ∨ z ∈ xs
 | [], a => by simp [FP]
 | x :: xs, a => by
  simp only [FP]
  rw [KL, Lr, List.mem_cons]
  constructor
  ·rintro ((h | h) | h)
   ·exact .inr (.inl h)
   ·exact .inl h
   ·exact .inr (.inr h)
  ·rintro (h | h | h)
   ·exact .inl (.inr h)
   ·exact .inl (.inl h)
   ·exact .inr h
theorem Kw : ∀ {xs a : List Ae}, JQ Hl a → JQ Hl (FP a xs)
 | [], _, h => h
 | _ :: xs, _, h => Kw (xs := xs) (Md h)
theorem MS : ∀ (xs a : List Ae), (FP a xs).length ≤ a.length + xs.length
 | [], a => by simp [FP]
 | x :: xs, a => by
  have h1 := MS xs (Kj x a)
  have h2 := MX x a
  simp only [FP, List.length_cons]; omega
end Go.Lift
namespace Go.Lift
open IntKind renaming wrap → wI
open Option renaming bind_some → oS
open List renaming mem_of_getElem? → lM
open Go
def ED (l : List N9) : List Ae := l.map (·.1)
theorem NJ {l : List N9} {i : Nat} {m : Ae} {f : Int} {t : Ak} (h : l[i]? = some (m, f, t)) : (ED l)[i]? = some m := by
 unfold ED; rw [List.getElem?_map, h]; rfl
theorem EK (l : List N9) : (ED l).length = l.length := List.length_map _
theorem JO {l : List N9} {x : Ae} : x ∈ ED l ↔ ∃ n, n ∈ l ∧ n.1 = x := List.mem_map
theorem PY (p : Ag) (m : Ae) : ∀ ss : List Ak, On p m ((On p m ss).map (·.1)) = On p m ss
 | [] => rfl
 | s :: ss => by
  rw [JJ]
  split
  ·rename_i h
   rw [List.map_cons, JJ, if_pos h, PY p m ss]
  ·exact PY p m ss
theorem W5 {N : Nat} (hN : N ≤ 1000000) (h20 : 100 ≤ N) {p : Ag} (hp : Bl p) {A : List Ae} (hA : ∀ x, x ∈ A → Bv p x) (hl : A.length < N) {x : Ae} (hx : Bv p x) : FQ N A x = some (A.any fun y => decide (y = x)) := by
 have key : ∀ (n i : Nat), A.length - i < n → i ≤ A.length → DI N A x (fun _ => some false) n (i : Int) = some ((A.drop i).any fun y => decide (y = x)) := by
  intro n
  induction n with
  | zero => intro i h; omega
  | succ n ih =>
   intro i h hi
   rw [DI]
   by_cases h1 : i < A.length
   ·have hy : A[i]? = some A[i] := by simp [h1]
    rw [CP hy, AC (by omega)]
    simp only [A5, hy, oS, List.any_cons]
    rw [Qa hN h20 hp (hA _ (lM hy)) hx]
    simp only [oS]
    by_cases e : A[i] = x
    ·rw [decide_eq_true e, AO]; rfl
    ·rw [decide_eq_false e, Au, AS (by omega), ih (i + 1) (by omega) (by omega), Bool.false_or]
   ·rw [AB (by omega), List.drop_eq_nil_of_le (by omega)]; rfl
 exact key N 0 (by omega) (Nat.zero_le _)
theorem Sg {N : Nat} (hN : N ≤ 1000000) (h20 : 100 ≤ N) {p : Ag} (hp : Bl p) {m : Ae} (hm : Bv p m) {f : Int} {t : Ak} {most i : Nat} (hmo : most ≤ 20000) (hmN : most < N) {v4 : List Ae × Int} (hv4 : v4.2 = (i : Int)) (ss : List Ak) (hss : ∀ s, s ∈ ss → s ∈ F3 p m ∧ B4 p (B3 p m s).1 = true) (hsl : ss.length ≤ 1000) (j : List Ae → Option (List Ae × Bool)) :
  ∀ (n k : Nat) (l : List N9), k ≤ ss.length → ss.length - k < n → l[i]? = some (m, f, t) → (∀ n, n ∈ l → Bv p n.1 ∧ B4 p n.1 = true) → l.length ≤ most →
   BV N p (most : Int) v4 ss j n (ED l, (k : Int)) = match Bfs.inner most i (On p m (ss.drop k)) l with
    | none => some ([], false)
    | some l' => j (ED l')
 | 0, k, l, _, h, _, _, _ => by omega
 | n + 1, k, l, hk, h, hi, hA, hlm => by
  by_cases h1 : k < ss.length
  ·have hs : ss[k]? = some ss[k] := by simp [h1]
   obtain ⟨hsm, hsr⟩ := hss _ (lM hs)
   have hxo := Kd hp hm (I4 hsm).2
   obtain ⟨b, ea⟩ := Lo N hN h20 hp hm hsm
   rw [BV, AC (by simp only; omega)]
   simp only [A6, hv4, A5, NJ hi, hs, oS]
   rw [ea]
   simp only [oS]
   rw [W5 hN h20 hp (fun x hx => by obtain ⟨q, h1, rfl⟩ := JO.1 hx; exact (hA q h1).1) (by rw [EK]; omega) hxo]
   simp only [oS]
   rw [CP hs, JJ, if_pos hsr]
   have hany : ((ED l).any fun y => decide (y = (B3 p m ss[k]).1)) = l.any fun n => decide (n.1 = (B3 p m ss[k]).1) := by
    unfold ED; rw [List.any_map]; rfl
   rw [hany]
   have hput : Bfs.put i l (ss[k], (B3 p m ss[k]).1) = if (l.any fun n => decide (n.1 = (B3 p m ss[k]).1)) = true then l else l ++ [((B3 p m ss[k]).1, (i : Int), ss[k])] := rfl
   simp only [Bfs.inner]
   have hA2 : ∀ n, n ∈ Bfs.put i l (ss[k], (B3 p m ss[k]).1) → Bv p n.1 ∧ B4 p n.1 = true := fun n hn => by
    rcases Pr hn with h | h
    ·exact hA n h
    ·rw [h]; exact ⟨hxo, hsr⟩
   have hi2 : (Bfs.put i l (ss[k], (B3 p m ss[k]).1))[i]? = some (m, f, t) := Qf hi
   have main : (AV (decide ((most : Int) < ((ED (Bfs.put i l (ss[k], (B3 p m ss[k]).1))).length : Int))) (some (([] : List Ae), false)) (BV N p (most : Int) v4 ss j n (ED (Bfs.put i l (ss[k], (B3 p m ss[k]).1)), (wI .i64 ((k : Int) + 1))))) =
     match (if most < (Bfs.put i l (ss[k], (B3 p m ss[k]).1)).length then none else Bfs.inner most i (On p m (ss.drop (k + 1))) (Bfs.put i l (ss[k], (B3 p m ss[k]).1))) with
     | none => some ([], false)
     | some l' => j (ED l') := by
    by_cases hb : most < (Bfs.put i l (ss[k], (B3 p m ss[k]).1)).length
    ·rw [if_pos hb, AC (by rw [EK]; omega)]
    ·rw [if_neg hb, AB (by rw [EK]; omega), AS (by omega)]
     exact Sg hN h20 hp hm hmo hmN hv4 ss hss hsl j n (k + 1) _ (by omega) (by omega) hi2 hA2 (by omega)
   cases hin : (l.any fun n => decide (n.1 = (B3 p m ss[k]).1))
   ·rw [hin] at hput
    rw [Bool.not_false, AO, AA (by rw [EK]; simp [Dy]; omega)]
    rw [if_neg (by simp)] at hput
    have e : ED l ++ [(B3 p m ss[k]).1] = ED (Bfs.put i l (ss[k], (B3 p m ss[k]).1)) := by rw [hput]; simp [ED]
    rw [e]
    exact main
   ·rw [hin] at hput
    rw [Bool.not_true, Au]
    rw [if_pos rfl] at hput
    rw [hput] at main
    rw [hput]
    exact main
  ·have : k = ss.length := by omega
   subst this
   rw [BV, AB (by simp), List.drop_eq_nil_of_le (Nat.le_refl _)]
   rfl
theorem OC {N : Nat} (hN : N ≤ 1000000) (h20 : 100 ≤ N) {p : Ag} (hv : CK p = 0) {most : Nat} (hmo : most ≤ 20000) (hmN : most < N) (j : List Ae → Option (List Ae × Bool)) :
  ∀ (n i : Nat) (l : List N9), i ≤ l.length → (∀ n, n ∈ l → Bv p n.1 ∧ B4 p n.1 = true) → l.length ≤ most → most < n + i →
   Cq N p (most : Int) j n (ED l, (i : Int)) = match Bfs.go (Ic p) most n i l with
    | none => some ([], false)
    | some l' => j (ED l')
 | 0, i, l, hi, _, hlm, hfu => by omega
 | n + 1, i, l, hi, hA, hlm, hfu => by
  obtain ⟨hp, _⟩ := Dj hv
  simp only [Bfs.go]
  rw [Cq]
  by_cases h1 : i < l.length
  ·obtain ⟨⟨m, f, t⟩, hx⟩ := Bfs.get_ex h1
   have hm := (hA _ (lM hx)).1
   rw [hx]
   simp only
   rw [AC (by rw [EK]; omega)]
   simp only [A5, NJ hx, oS]
   rw [Tv N hN h20 hv hm]
   simp only [oS]
   have hsl := Sp hp m
   have e := Sg hN h20 hp hm hmo hmN (v4 := (ED l, (i : Int))) rfl ((Ic p m).map (·.1)) (fun s hs => by
    obtain ⟨q, hq, rfl⟩ := List.mem_map.1 hs
    obtain ⟨g1, g2, g3⟩ := Pz.1 hq
    exact ⟨g1, by rw [← g2]; exact g3⟩) (by rw [List.length_map]; omega) (fun (v10 : (List Ae)) => Cq N p (most : Int) j n (v10, (wI .i64 ((i : Int) + 1)))) N 0 l (Nat.zero_le _) (by rw [List.length_map]; omega) hx hA hlm
   rw [List.drop_zero, show On p m ((Ic p m).map (·.1)) = Ic p m from PY p m _] at e
   refine e.trans ?_
   cases hin : Bfs.inner most i (Ic p m) l with
   | none => rfl
   | some l1 =>
    simp only [oS]
    rw [AS (by omega)]
    have hk := Jw hin (fun q hq => NI hp hm hq) hA
    exact OC hN h20 hv hmo hmN j n (i + 1) l1 (by have := Bfs.lt_get (hk.2 i _ hx); omega) hk.1 (Bfs.inner_len _ _ _ hlm hin) (by omega)
  ·have : l[i]? = none := by rw [List.getElem?_eq_none]; omega
   rw [this, AB (by rw [EK]; omega)]
theorem O1 {N : Nat} (hN : N ≤ 1000000) (h20 : 100 ≤ N) {p : Ag} (hp : Bl p) {v : List Ae} (hv : ∀ x, x ∈ v → Bv p x) (hvl : v.length < N) (hvl2 : v.length ≤ 100000) (j : List Ae → Option (List Ae × Bool)) : ∀ (n i : Nat) (a : List Ae), v.length - i < n → i ≤ v.length → a.length ≤ i → (∀ x, x ∈ a → Bv p x) →
  Ce N v j n (a, (i : Int)) = j (FP a (v.drop i))
 | 0, i, a, h, _, _, _ => by omega
 | n + 1, i, a, h, hi, ha, hA => by
  rw [Ce]
  by_cases h1 : i < v.length
  ·have hy : v[i]? = some v[i] := by simp [h1]
   have hyo := hv _ (lM hy)
   rw [AC (by simp only; omega), CP hy]
   simp only [A5, hy, oS]
   rw [Wp N hN h20 hp (by omega) (by omega) hA hyo]
   simp only [oS]
   rw [AS (by omega), O1 hN h20 hp hv hvl hvl2 j n (i + 1) _ (by omega) (by omega) (by have := (MX v[i] a).1; omega) (fun x hx => by
    rcases Lr.1 hx with rfl | hx
    ·exact hyo
    ·exact hA x hx)]
   rfl
  ·rw [AB (by simp only; omega), List.drop_eq_nil_of_le (by omega)]; rfl
theorem Kb {p : Ag} (hp : Bl p) {most : Nat} : ∀ (n i : Nat) (l l' : List N9), Bfs.go (Ic p) most n i l = some l' → (∀ n, n ∈ l → Bv p n.1 ∧ B4 p n.1 = true) → ∀ n, n ∈ l' → Bv p n.1 ∧ B4 p n.1 = true
 | 0, i, l, l', h, _ => by cases h
 | n + 1, i, l, l', h, hA => by
  simp only [Bfs.go] at h
  split at h
  ·cases h; exact hA
  ·rename_i nd hx
   cases hin : Bfs.inner most i (Ic p nd.1) l with
   | none => rw [hin] at h; cases h
   | some l1 =>
    rw [hin] at h
    exact Kb hp n (i + 1) l1 l' h (Jw hin (fun q hq => NI hp (hA _ (lM hx)).1 hq) hA).1
theorem PE {N : Nat} (hN : N ≤ 1000000) (h20 : 100 ≤ N) {p : Ag} (hv : CK p = 0) {most : Nat} (h1 : 1 ≤ most) (hmo : most ≤ 20000) (hmN : most < N) :
  Ec N p (most : Int) = some (if B4 p (EJ p) = true then (match Mb p (EJ p) most N with
   | none => ([], false)
   | some l => (FP [] (ED l), true)) else ([], true)) := by
 obtain ⟨hp, _⟩ := Dj hv
 have hs := Nc hv
 unfold Ec
 rw [Pg N p hN h20, if_pos hv]
 simp only [oS]
 rw [IM N p _ hN h20 hp hs]
 simp only [oS]
 cases hr : B4 p (EJ p)
 ·rfl
 ·rw [Bool.not_true, Au, if_pos rfl]
  have e := OC hN h20 hv hmo hmN (fun (v5 : (List Ae)) => Ce N v5 (fun (v21 : (List Ae)) => some (v21, true)) N (([] : List Ae), 0)) N 0 [(EJ p, -1, Qj)] (Nat.zero_le _) (LF hs hr) (by simpa using h1) (by omega)
  refine e.trans ?_
  show (match Mb p (EJ p) most N with | none => _ | some l' => _) = _
  cases hg : Mb p (EJ p) most N with
  | none => rfl
  | some l =>
   have hA := Kb hp _ _ _ _ hg (LF hs hr)
   have hl := Bfs.go_len _ _ _ _ (by simpa using h1) hg
   simp only
   rw [show ((0 : Int)) = ((0 : Nat) : Int) from rfl]
   rw [O1 hN h20 hp (fun x hx => by obtain ⟨q, h1, rfl⟩ := JO.1 hx; exact (hA q h1).1) (by rw [EK]; omega) (by rw [EK]; omega) _ N 0 [] (by rw [EK]; omega) (Nat.zero_le _) (Nat.le_refl _) (fun x hx => by cases hx)]
   rfl
instance Ya : Inhabited Ae := ⟨GS⟩
theorem U0 : Gs.pdqsort = @Gs.pdqsort Ae := by kernel_rfl
theorem QD {N : Nat} (hN : N ≤ 1000000) {a b : Ae} (h1 : a.fBase.length < N) (h2 : a.fNext.length < N) (h3 : a.fHeld.length < N) (h4 : 3 < N) : CA N a b = some (Hl a b) := by
 unfold CA
 rw [NO h1 hN, NO h2 hN, QG h3 hN]
 simp only [oS]
 rw [WA (by simp; omega) hN]
 rfl
theorem TF {N : Nat} (hN : N ≤ 1000000) (h20 : 1010 ≤ N) {p : Ag} (hp : Bl p) (l : List Ae) (hl : l.length ≤ 1000) (hm : ∀ x, x ∈ l → Bv p x) :
  ∃ r : List Ae, Bm N l (fun (x : Ae × Ae) => CA N x.1 x.2) = some r ∧ r.Perm l ∧ r.Pairwise (fun x y => Hl x y ≤ 0) := by
 have hcmp : ∀ x y : Ae, Bv p x → Bv p y → (fun (x : Ae × Ae) => CA N x.1 x.2) (x, y) = some (Hl x y) := fun x y hx _ => by
  have := hp.nv
  have := hp.nt
  exact QD hN (by rw [hx.base]; omega) (by rw [hx.next]; omega) (by rw [hx.held]; omega) (by omega)
 obtain ⟨r1, s1, s2, s3⟩ := ST (cmp := fun (x : Ae × Ae) => CA N x.1 x.2) PC hcmp (N := N) h20 l hl hm
 unfold Bm
 rw [Jm (by omega), Tg N hl, U0]
 simp only [oS]
 rw [s1]
 exact ⟨r1, rfl, s2, s3⟩
theorem Pu : DE 2000 = some true := by kernel_rfl
end Go.Lift
namespace Go.Lift
open IntKind renaming wrap → wI
open Option renaming bind_some → oS
open List renaming mem_of_getElem? → lM
open List renaming getElem?_eq_some_iff → lI
open List renaming getD_eq_getElem?_getD → lD
open Go
theorem Lk (N : Nat) (hN : N ≤ 1000000) (h20 : 100 ≤ N) {p : Ag} {m : Ae} (hp : Bl p) (hm : Bv p m) : Fv N m = some (CD (Kg m)) := by
 have hnv := hp.nv
 have hnt := hp.nt
 have hb := hm.base
 have hn := hm.next
 have hh := hm.held
 unfold Fv
 have l1 := Ge (D4 N m fun v2 => C3 N m (fun v8 => some (CD v8)) N (v2, 0)) (fun a i => (a, i)) m.fBase (fun v2 => C3 N m (fun v8 => some (CD v8)) N (v2, 0)) (FX m) 2 100
  (fun i x hx => by simp [FX])
  (fun n i x a hx hl => by
   have hi := (lI.1 hx).1
   rw [D4, AC (by simp only; omega)]
   simp only [A5, hx, oS, AS (show i < 1000000 by omega)]
   have e2 : m.fNext[i]? = some (m.fNext.getD i 0) := by rw [lD]; simp [show i < m.fNext.length by omega]
   rw [e2]
   simp only [oS]
   rw [AA (by simp [Dy]; simp [FX] at hl; omega)]
   rfl)
  (fun n a => by rw [D4, AB (by simp)]) N [] (by omega) (by simp; omega)
 have l1' : D4 N m (fun v2 => C3 N m (fun v8 => some (CD v8)) N (v2, 0)) N ([], 0) = _ := l1
 rw [l1', List.nil_append]
 have hfl : (CQ (FX m) 0 m.fBase).length ≤ 2 * m.fBase.length := FG fun j x hx => by simp [FX]
 have l2 := Ge (C3 N m fun v9 => some (CD v9)) (fun a i => (a, i)) m.fHeld (fun v9 => some (CD v9)) (fun _ x => [x]) 1 100
  (fun i x hx => by simp)
  (fun n i x a hx hl => by
   have hi := (lI.1 hx).1
   rw [C3, AC (by simp only; omega)]
   simp only [A5, hx, oS, AS (show i < 1000000 by omega)]
   rw [AA (by simp [Dy]; simp at hl; omega)])
  (fun n a => by rw [C3, AB (by simp)]) N (CQ (FX m) 0 m.fBase) (by omega) (by omega)
 have e3 : ∀ (i : Nat) (l : List Int), CQ (fun _ (x : Int) => [x]) i l = l := by
  intro i l
  induction l generalizing i with
  | nil => rfl
  | cons x l ih => rw [CQ, ih]; rfl
 refine l2.trans ?_
 rw [e3]; rfl
def Q2 (q : List Ae) : List (ByteArray × Bool) := q.map fun x => (CD (Kg x), true)
theorem TW {p : Ag} (hp : Bl p) {x y : Ae} (hx : Bv p x) (hy : Bv p y) : (CD (Kg x) == CD (Kg y)) = decide (x = y) := by
 by_cases h : x = y
 ·rw [decide_eq_true h, h, PL]
 ·rw [decide_eq_false h]
  cases hb : CD (Kg x) == CD (Kg y)
  ·rfl
  ·exact absurd (Vr hp hx hy hb) h
theorem LJ {p : Ag} (hp : Bl p) {x : Ae} (hx : Bv p x) : ∀ {q : List Ae}, (∀ e, e ∈ q → Bv p e) → Ko (CD (Kg x)) (Q2 q) = if q.any (fun y => decide (y = x)) = true then some true else none
 | [], _ => rfl
 | e :: q, h => by
  have ih := LJ hp hx (q := q) fun e he => h e (List.mem_cons_of_mem _ he)
  show (if (CD (Kg x) == CD (Kg e)) = true then some true else Ko (CD (Kg x)) (Q2 q)) = _
  rw [TW hp hx (h e (by simp)), ih, List.any_cons]
  by_cases h : x = e
  ·rw [decide_eq_true h, if_pos rfl, decide_eq_true h.symm, Bool.true_or, if_pos rfl]
  ·rw [decide_eq_false h, if_neg (by simp), decide_eq_false (fun e' => h e'.symm), Bool.false_or]
theorem Ua (q : List Ae) (x : Ae) : Q2 (q ++ [x]) = Q2 q ++ [(CD (Kg x), true)] := by simp [Q2]
theorem UE {N : Nat} (hN : N ≤ 1000000) (h20 : 100 ≤ N) {p : Ag} (hp : Bl p) {m : Ae} {most i : Nat} (hmo : most ≤ 20000) (ss : List Ak) (qs : List (Ak × Ae)) (hqs : ∀ q, q ∈ qs → Bv p q.2 ∧ B4 p q.2 = true) (hsl : qs.length ≤ 1000) (j : List Ae × List (ByteArray × Bool) → Option (List Ae × Int)) :
  ∀ (n k : Nat) (l l' : List N9), k ≤ qs.length → qs.length - k < n → (∀ n, n ∈ l → Bv p n.1 ∧ B4 p n.1 = true) → l.length ≤ most → Bfs.inner most i (qs.drop k) l = some l' →
   DV N (ss, qs.map (·.2)) j n (ED l, Q2 (ED l), (k : Int)) = j (ED l', Q2 (ED l'))
 | 0, k, l, l', _, h, _, _, _ => by omega
 | n + 1, k, l, l', hk, h, hA, hlm, hin => by
  rw [DV]
  by_cases h1 : k < qs.length
  ·have hs : qs[k]? = some qs[k] := by simp [h1]
   obtain ⟨hxo, hxr⟩ := hqs _ (lM hs)
   rw [CP hs] at hin
   simp only [Bfs.inner] at hin
   rw [AC (by simp only; rw [List.length_map]; omega)]
   simp only [A6, A5, List.getElem?_map, hs, Option.map_some, oS]
   rw [Lk N hN h20 hp hxo]
   simp only [oS]
   have hok : ∀ x, x ∈ ED l → Bv p x := fun x hx => by obtain ⟨q, h1, rfl⟩ := JO.1 hx; exact (hA q h1).1
   rw [LJ hp hxo hok]
   have hany : ((ED l).any fun y => decide (y = qs[k].2)) = l.any fun n => decide (n.1 = qs[k].2) := by
    unfold ED; rw [List.any_map]; rfl
   rw [hany]
   have hput : Bfs.put i l qs[k] = if (l.any fun n => decide (n.1 = qs[k].2)) = true then l else l ++ [(qs[k].2, (i : Int), qs[k].1)] := rfl
   split at hin
   ·cases hin
   ·rename_i hb
    have hA2 : ∀ n, n ∈ Bfs.put i l qs[k] → Bv p n.1 ∧ B4 p n.1 = true := fun n hn => by
     rcases Pr hn with h | h
     ·exact hA n h
     ·rw [h]; exact ⟨hxo, hxr⟩
    have main := UE hN h20 hp (m := m) hmo ss qs hqs hsl j n (k + 1) (Bfs.put i l qs[k]) l' (by omega) (by omega) hA2 (by omega) hin
    cases ha : (l.any fun n => decide (n.1 = qs[k].2))
    ·rw [ha] at hput
     rw [if_neg (by simp)] at hput ⊢
     simp only [Option.getD_none, Bool.not_false, AO]
     rw [AA (by rw [EK]; simp [Dy]; omega), AS (by omega)]
     have e : ED l ++ [qs[k].2] = ED (Bfs.put i l qs[k]) := by rw [hput]; simp [ED]
     rw [Ka _ _ (by rw [LJ hp hxo hok, hany, ha, if_neg (by simp)]), ← Ua, e]
     exact main
    ·rw [ha] at hput
     rw [if_pos rfl] at hput ⊢
     simp only [Option.getD_some, Bool.not_true, Au]
     rw [AS (by omega)]
     rw [hput] at main
     exact main
  ·have : k = qs.length := by omega
   subst this
   rw [List.drop_eq_nil_of_le (Nat.le_refl _)] at hin
   cases hin
   rw [AB (by simp)]
theorem QQ {N : Nat} (hN : N ≤ 1000000) (h20 : 100 ≤ N) {p : Ag} (hv : CK p = 0) {most : Nat} (hmo : most ≤ 20000) (j : List Ae → Option (List Ae × Int)) :
  ∀ (n i : Nat) (l l' : List N9), i ≤ l.length → (∀ n, n ∈ l → Bv p n.1 ∧ B4 p n.1 = true) → l.length ≤ most → Bfs.go (Ic p) most n i l = some l' →
   DB N p j n (ED l, Q2 (ED l), (i : Int)) = j (ED l')
 | 0, i, l, l', hi, _, hlm, hg => by cases hg
 | n + 1, i, l, l', hi, hA, hlm, hg => by
  obtain ⟨hp, _⟩ := Dj hv
  simp only [Bfs.go] at hg
  rw [DB]
  by_cases h1 : i < l.length
  ·obtain ⟨⟨m, f, t⟩, hx⟩ := Bfs.get_ex h1
   have hm := (hA _ (lM hx)).1
   rw [hx] at hg
   simp only at hg
   cases hin : Bfs.inner most i (Ic p m) l with
   | none => rw [hin] at hg; cases hg
   | some l1 =>
    rw [hin] at hg
    simp only [oS] at hg
    rw [AC (by simp only; rw [EK]; omega)]
    simp only [A5, NJ hx, oS]
    rw [U5 N hN h20 hv hm]
    simp only [oS]
    have hsl := Sp hp m
    have e := UE hN h20 hp (m := m) hmo ((Ic p m).map (·.1)) (Ic p m) (fun q hq => NI hp hm hq) (by omega) (fun (v12 : (List Ae) × (List (ByteArray × Bool))) =>
     AV ((decide (20000 < (v12.1.length : Int)))) (some (([] : List Ae), 3)) (DB N p j n (v12.1, v12.2, (wI .i64 ((i : Int) + 1))))) N 0 l l1 (Nat.zero_le _) (by omega) hA hlm (by rw [List.drop_zero]; exact hin)
    refine e.trans ?_
    have hk := Jw hin (fun q hq => NI hp hm hq) hA
    have hl1 := Bfs.inner_len _ _ _ hlm hin
    simp only
    rw [AB (by rw [EK]; omega), AS (by omega)]
    exact QQ hN h20 hv hmo j n (i + 1) l1 l' (by have := Bfs.lt_get (hk.2 i _ hx); omega) hk.1 hl1 hg
  ·have : l[i]? = none := by rw [List.getElem?_eq_none]; omega
   rw [this] at hg
   cases hg
   rw [AB (by simp only; rw [EK]; omega)]
theorem SZ {p : Ag} {m : Ae} {l : List N9} {ws : List (List Ak)} (h : Zi p m l ws) : (ED l).Nodup := by
 rw [List.Nodup, List.pairwise_iff_getElem]
 intro a b ha hb hab e
 have h1 : (ED l)[a]? = some (ED l)[a] := by simp [ha]
 have h2 : (ED l)[b]? = some (ED l)[b] := by simp [hb]
 unfold ED at h1 h2
 rw [List.getElem?_map] at h1 h2
 cases ha' : l[a]? with
 | none => rw [ha'] at h1; cases h1
 | some x =>
  cases hb' : l[b]? with
  | none => rw [hb'] at h2; cases h2
  | some y =>
   rw [ha'] at h1; rw [hb'] at h2
   simp only [Option.map_some, Option.some.injEq] at h1 h2
   obtain ⟨x1, x2, x3⟩ := x
   obtain ⟨y1, y2, y3⟩ := y
   simp only at h1 h2
   have : x1 = y1 := by rw [h1, h2]; exact e
   subst this
   exact absurd (h.inv.nodup a b _ _ _ _ _ ha' hb') (by omega)
theorem RH {p : Ag} {m : Ae} {l : List N9} {ws : List (List Ak)} (h : Zi p m l ws) {r : List Ae} (hp1 : r.Perm (ED l)) (hp2 : r.Pairwise (fun x y => Hl x y ≤ 0)) : r = FP [] (ED l) := by
 have hn : r.Nodup := hp1.nodup_iff.2 (SZ h)
 refine Ni PC _ _ (SK PC (fun x y h => Ke h) r hp2 hn) (Kw List.Pairwise.nil) fun x => ?_
 rw [hp1.mem_iff, KL]
 simp
theorem ME {N : Nat} (hN : N ≤ 1000000) (h20 : 1010 ≤ N) {p : Ag} (hv : CK p = 0) {most : Nat} (h1 : 1 ≤ most) (hmo : most ≤ 1000) :
  (B4 p (EJ p) = false → D1 N p = some ([], 0)) ∧
  (B4 p (EJ p) = true → ∀ l, Mb p (EJ p) most N = some l → D1 N p = some (FP [] (ED l), 0)) := by
 obtain ⟨hp, _⟩ := Dj hv
 have hs := Nc hv
 have est : Fr N p = some (EJ p, B4 p (EJ p), 0) := by
  unfold Fr
  rw [PA N p hN (by omega), if_pos hv, hv]
  simp only [oS, bne_self_eq_false, Au]
  rw [Ks N p _ hN (by omega) (Lv hs) (JK hv hs)]
  rfl
 unfold D1
 rw [est]
 simp only [oS, A6, bne_self_eq_false, Au]
 refine ⟨fun hr => by rw [hr]; rfl, fun hr l hg => ?_⟩
 rw [hr]
 simp only [Bool.not_true, Au]
 rw [Lk N hN (by omega) hp hs]
 simp only [oS]
 have e := QQ hN (by omega) hv (by omega : most ≤ 20000) (fun (v7 : (List Ae)) =>
    (Bm N v7 ((fun (x : Ae × Ae) => CA N x.1 x.2))).bind fun v21 =>
    some (v21, 0)) N 0 [(EJ p, -1, Qj)] l (Nat.zero_le _) (LF hs hr) (by simpa using h1) hg
 refine Eq.trans e ?_
 obtain ⟨ws, hreg⟩ := WO hp hs hr hg
 have hA := Kb hp _ _ _ _ hg (LF hs hr)
 have hl := Bfs.go_len _ _ _ _ (by simpa using h1) hg
 obtain ⟨r, e1, e2, e3⟩ := TF hN h20 hp (ED l) (by rw [EK]; omega) (fun x hx => by obtain ⟨q, h1, rfl⟩ := JO.1 hx; exact (hA q h1).1)
 rw [e1]
 simp only [oS]
 rw [RH hreg e2 e3]
theorem Ve {l : List N9} {x : Ae} : x ∈ FP [] (ED l) ↔ x ∈ ED l := by rw [KL]; simp
theorem Vx (l : List N9) : (FP [] (ED l)).length ≤ l.length := by
 have := MS (ED l) []
 rw [EK] at this; simpa using this
theorem JI {N : Nat} (hN : N ≤ 1000000) (h20 : 100 ≤ N) {p : Ag} (hp : Bl p) (ok : Bool) (A : List Ae) (e : Int) (hA : ∀ x, x ∈ A → Bv p x ∧ B4 p x = true) (hl : A.length ≤ 100000) (j : Unit → Option Bool) : ∀ (n i : Nat), A.length - i < n → i ≤ A.length →
  BZ N (p, ok) (A, e) j n (i : Int) = j ()
 | 0, i, h, _ => by omega
 | n + 1, i, h, hi => by
  rw [BZ]
  by_cases h1 : i < A.length
  ·have hy : A[i]? = some A[i] := by simp [h1]
   obtain ⟨h2, h3⟩ := hA _ (lM hy)
   rw [AC (by first | omega | (simp only; omega))]
   simp only [A5, hy, oS]
   rw [IM N p _ hN h20 hp h2, h3]
   simp only [oS, Bool.not_true, Au]
   rw [AS (by omega)]
   exact JI hN h20 hp ok A e hA hl j n (i + 1) (by omega) (by omega)
  ·rw [AB (by first | omega | (simp only; omega))]
theorem Ob (N : Nat) (hN : N ≤ 1000000) (h20 : 1010 ≤ N) (haw : DE N = some true) (d : Cg) (wd : Fa d) : CB N d = some true := by
 obtain ⟨p, ok, e, hok⟩ := Za N d (by omega) (by omega) wd
 unfold CB
 rw [e]
 simp only [oS, A6, haw, Bool.not_true, Au]
 cases ok
 ·rfl
 simp only [Bool.not_true, Au]
 have hv := (hok rfl).valid
 obtain ⟨hp, _⟩ := Dj hv
 have hs := Nc hv
 have e1 := PE (N := N) (by omega) (by omega) hv (most := 400) (by omega) (by omega) (by omega)
 obtain ⟨e2, e3⟩ := ME (N := N) (by omega) (by omega) hv (most := 400) (by omega) (by omega)
 rw [show (400 : Int) = ((400 : Nat) : Int) from rfl, e1]
 simp only [oS]
 cases hr : B4 p (EJ p)
 ·rw [e2 hr]
  rw [if_neg (by first | omega | (simp; done) | (simp; omega))]
  simp only [Bool.not_true, Au, oS]
  have := JI (N := N) (by omega) (by omega) hp true [] 0 (fun x hx => by cases hx) (by first | omega | (simp; done) | (simp; omega)) (fun (_ : Unit) => AV ((0 : Int) == 0) ((Dg N [] []).bind fun v18 => some v18) (some false)) N 0 (by first | omega | (simp; done) | (simp; omega)) (by first | omega | (simp; done) | (simp; omega))
  refine Eq.trans this ?_
  rw [OP N [] (by omega) (by first | omega | (simp; done) | (simp; omega)) (fun x hx => by cases hx)]; rfl
 ·rw [if_pos rfl]
  cases hg : Mb p (EJ p) 400 N with
  | none => rfl
  | some l =>
   simp only [Bool.not_true, Au]
   rw [e3 hr l hg]
   simp only [oS]
   have hA := Kb hp _ _ _ _ hg (LF hs hr)
   have hl := Bfs.go_len _ _ _ _ (by first | omega | (simp; done) | (simp; omega)) hg
   have hl2 := Vx l
   have hA2 : ∀ x, x ∈ FP [] (ED l) → Bv p x ∧ B4 p x = true := fun x hx => by
    obtain ⟨n, h1, rfl⟩ := JO.1 (Ve.1 hx)
    exact hA n h1
   have := JI (N := N) (by omega) (by omega) hp true (FP [] (ED l)) 0 hA2 (by omega) (fun (_ : Unit) => AV ((0 : Int) == 0) ((Dg N (FP [] (ED l)) (FP [] (ED l))).bind fun v18 => some v18) (some false)) N 0 (by omega) (by first | omega | (simp; done) | (simp; omega))
   refine Eq.trans this ?_
   rw [OP N _ (by omega) (by omega) (fun x hx => by
    rw [Qa (by omega) (by omega) hp (hA2 x hx).1 (hA2 x hx).1, decide_eq_true rfl])]
   rfl
theorem LA (d : Cg) (wd : Fa d) : CB 2000 d = some true := Ob 2000 (by omega) (by omega) Pu d wd
end Go.Lift
