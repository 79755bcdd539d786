/- Lemmas for RefuseProveSaid, which YtpaobkaighpaaaaGreatFinR3 proves. -/
import Derived.Test.YtpaobkaighpaaaaGreatMSort3
import Derived.KernelRfl
import Derived.Sort.AssemblyPlain
namespace Go.Lift
open IntKind renaming wrap → wI
open Option renaming bind_some → oS
open Go
open Go.Sort (swp order2 median medianAdjacent choosePivot Hint xorNext bitsLen breakStep breakPatterns pdq insertionSort heapSort reverseRange partialInsertionSort partitionEqual partition)
theorem JH {n : Nat} (h : n < 18446744073709551616) : wI .u64 (n : Int) = (n : Int) := by
 show ((n : Int) % (18446744073709551616 : Int)) = n
 exact Int.emod_eq_of_lt (by omega) (by omega)
theorem Xm (n : Nat) : wI .u64 (n : Int) = ((n % 18446744073709551616 : Nat) : Int) := by
 show ((n : Int) % (18446744073709551616 : Int)) = _
 omega
theorem VR (r : UInt64) : r.toNat < 18446744073709551616 := UInt64.toNat_lt r
theorem YI (r : UInt64) : BitVec.ofInt 64 (r.toNat : Int) = r.toBitVec := by
 rw [BitVec.ofInt_natCast]
 apply BitVec.eq_of_toNat_eq
 rw [BitVec.toNat_ofNat]
 exact Nat.mod_eq_of_lt (VR r)
theorem W1 (r s : UInt64) : He .u64 (r.toNat : Int) (s.toNat : Int) = ((r ^^^ s).toNat : Int) := by
 show wI .u64 (((BitVec.ofInt 64 (r.toNat : Int) ^^^ BitVec.ofInt 64 (s.toNat : Int)).toNat : Nat) : Int) = _
 rw [YI, YI]
 exact JH (BitVec.isLt _)
theorem Tw (r k : UInt64) (q : Nat) (hq : k.toNat = q) (h64 : q < 64) (hs : CJ .u64 (r.toNat : Int) (q : Int) = wI .u64 ((r.toNat : Int) * 2 ^ q)) : CJ .u64 (r.toNat : Int) (q : Int) = ((r <<< k).toNat : Int) := by
 rw [hs, UInt64.toNat_shiftLeft, hq, Nat.mod_eq_of_lt h64, Nat.shiftLeft_eq]
 rw [show ((r.toNat : Int) * 2 ^ q) = ((r.toNat * 2 ^ q : Nat) : Int) from by simp, Xm]
theorem Y0 (r : UInt64) : CJ .u64 (r.toNat : Int) 13 = ((r <<< 13).toNat : Int) := Tw r 13 13 rfl (by decide) rfl
theorem Zl (r : UInt64) : CJ .u64 (r.toNat : Int) 17 = ((r <<< 17).toNat : Int) := Tw r 17 17 rfl (by decide) rfl
theorem bk (r : UInt64) : Eh .u64 (r.toNat : Int) 7 = ((r >>> 7).toNat : Int) := by
 show (r.toNat : Int).fdiv (128 : Int) = _
 rw [UInt64.toNat_shiftRight, show (7 : UInt64).toNat % 64 = 7 from rfl, Nat.shiftRight_eq_div_pow]
 rw [Int.fdiv_eq_ediv_of_nonneg _ (by omega)]
 omega
theorem UW (N : Nat) (r : UInt64) : D8 N (r.toNat : Int) = some (((xorNext r).toNat : Int), ((xorNext r).toNat : Int)) := by
 unfold D8 xorNext
 simp only [Y0, W1, bk, Zl]
theorem Xt (r : UInt64) {m : Nat} (h : m < 18446744073709551616) : Gf .u64 (r.toNat : Int) (m : Int) = ((r.toNat &&& m : Nat) : Int) := by
 show wI .u64 (((BitVec.ofInt 64 (r.toNat : Int) &&& BitVec.ofInt 64 (m : Int)).toNat : Nat) : Int) = _
 rw [YI, BitVec.ofInt_natCast, BitVec.toNat_and, BitVec.toNat_ofNat, Nat.mod_eq_of_lt h]
 exact JH (Nat.lt_of_le_of_lt Nat.and_le_left (VR r))
theorem Xy : ((List.range 1001).all fun n => decide (DH 0 (n : Int) = some ((bitsLen n : Nat) : Int))) = true := by kernel_rfl
theorem ak (N : Nat) : DH N = DH 0 := rfl
theorem Vq (N : Nat) {n : Nat} (h : n ≤ 1000) : DH N (n : Int) = some ((bitsLen n : Nat) : Int) := by
 rw [ak]
 exact of_decide_eq_true (List.all_eq_true.1 Xy n (List.mem_range.2 (by omega)))
theorem Tq {n : Nat} (h : n ≤ 1000) : bitsLen n ≤ 10 := by
 have : ((List.range 1001).all fun n => decide (bitsLen n ≤ 10)) = true := by kernel_rfl
 exact of_decide_eq_true (List.all_eq_true.1 this n (List.mem_range.2 (by omega)))
theorem Tt {n : Nat} (h : n ≤ 1000) (h1 : 1 ≤ n) : n < 1 <<< bitsLen n ∧ 1 <<< bitsLen n ≤ 2 * n ∧ 2 ≤ 1 <<< bitsLen n := by
 have : ((List.range 1001).all fun n => decide (1 ≤ n → n < 1 <<< bitsLen n ∧ 1 <<< bitsLen n ≤ 2 * n ∧ 2 ≤ 1 <<< bitsLen n)) = true := by kernel_rfl
 exact of_decide_eq_true (List.all_eq_true.1 this n (List.mem_range.2 (by omega))) h1
theorem VB (N : Nat) {n : Nat} (h : n ≤ 1000) (h1 : 1 ≤ n) : DV N (n : Int) = some ((1 <<< bitsLen n : Nat) : Int) := by
 unfold DV
 rw [JH (by omega), Vq N h]
 simp only [oS]
 rw [AI (by omega)]
 have hb := Tq h
 have := Tt h h1
 have e : CJ .u64 1 ((bitsLen n : Nat) : Int) = wI .u64 (((1 <<< bitsLen n : Nat)) : Int) := by
  unfold CJ
  rw [show min (((bitsLen n : Nat) : Int)).toNat (IntKind.bits .u64) = bitsLen n from by
   rw [Int.toNat_natCast]; show min _ 64 = _; omega]
  rw [Nat.shiftLeft_eq]
  simp
 rw [e, JH (by omega)]
section
variable {α : Type} [Inhabited α] {P : α → Prop} {cmp : α × α → Option Int} {c : α → α → Int}
theorem L5 (N a b m : Nat) (hm : m < 1000000) {d : Array α} {r : UInt64} {idx0 : Nat} (hab : a + 8 ≤ b) (hb : b ≤ d.size) (hs : d.size ≤ 1000) (hml : b - a < m ∧ m ≤ 2 * (b - a)) (h0 : idx0 < d.size) (h1 : idx0 ≤ a + (b - a) / 4 * 2 + 1) (_h2 : a ≤ idx0) (J : List α → Option (List α)) (n : Nat) (hA : Dv P d) :
  Gs.breakPatterns_L3 N (a : Int) (b : Int) (m : Int) J (n + 1) (d.toList, (r.toNat : Int), (idx0 : Int)) = Gs.breakPatterns_L3 N (a : Int) (b : Int) (m : Int) J n ((breakStep a (b - a) m (r, d) idx0).2.toList, ((breakStep a (b - a) m (r, d) idx0).1.toNat : Int), ((idx0 + 1 : Nat) : Int)) ∧ (breakStep a (b - a) m (r, d) idx0).2.size = d.size ∧ Dv P (breakStep a (b - a) m (r, d) idx0).2 := by
 rw [Gs.breakPatterns_L3]
 have el : wI .i64 ((b : Int) - (a : Int)) = ((b - a : Nat) : Int) := wn (by omega) (by omega)
 have e4 : wI .i64 (Int.tdiv ((b - a : Nat) : Int) 4) = (((b - a) / 4 : Nat) : Int) := wn (by rw [Int.tdiv_eq_ediv_of_nonneg (by omega)]; omega) (by omega)
 have f2x : wI .i64 ((((b - a) / 4 : Nat) : Int) * 2) = (((b - a) / 4 * 2 : Nat) : Int) := wn (by omega) (by omega)
 have g2x : wI .i64 ((a : Int) + (((b - a) / 4 * 2 : Nat) : Int)) = ((a + (b - a) / 4 * 2 : Nat) : Int) := wn (by omega) (by omega)
 have e1 : wI .i64 (((a + (b - a) / 4 * 2 : Nat) : Int) + 1) = ((a + (b - a) / 4 * 2 + 1 : Nat) : Int) := wn (by omega) (by omega)
 simp only [el, e4, f2x, g2x, e1]
 rw [AG (by omega), UW]
 simp only [oS, Bf]
 rw [show wI .u64 ((m : Int) - 1) = ((m - 1 : Nat) : Int) from by rw [show ((m : Int) - 1) = ((m - 1 : Nat) : Int) from by omega]; exact JH (by omega)]
 rw [Xt _ (by omega)]
 have hle : (xorNext r).toNat &&& (m - 1) ≤ m - 1 := Nat.and_le_right
 unfold breakStep
 simp only
 generalize ho : (xorNext r).toNat &&& (m - 1) = o at hle
 rw [wn (e := ((o : Nat) : Int)) (n := o) rfl (by omega)]
 have fin : ∀ q : Nat, q < b - a → ((Bg d.toList (wI .i64 ((a : Int) + (q : Int)))).bind fun v9 => (Bg d.toList (idx0 : Int)).bind fun v10 => (Bg d.toList (idx0 : Int)).bind fun _ =>
   (Bg (d.toList.set ((idx0 : Int)).toNat v9) (wI .i64 ((a : Int) + (q : Int)))).bind fun _ =>
    Gs.breakPatterns_L3 N (a : Int) (b : Int) (m : Int) J n ((d.toList.set ((idx0 : Int)).toNat v9).set ((wI .i64 ((a : Int) + (q : Int)))).toNat v10, ((xorNext r).toNat : Int), (wI .i64 ((idx0 : Int) + 1)))) =
   Gs.breakPatterns_L3 N (a : Int) (b : Int) (m : Int) J n ((swp d idx0 (a + q)).toList, ((xorNext r).toNat : Int), ((idx0 + 1 : Nat) : Int)) ∧ (swp d idx0 (a + q)).size = d.size ∧ Dv P (swp d idx0 (a + q)) := by
  intro q hq
  have k1 : a + q < d.size := by omega
  rw [wn (e := (a : Int) + (q : Int)) (n := a + q) (by omega) (by omega), wn (e := (idx0 : Int) + 1) (n := idx0 + 1) (by omega) (by omega)]
  simp only [gi k1, gi h0, oS, Int.toNat_natCast]
  rw [Jv (by simp; omega), ← E8]
  exact ⟨rfl, Bs _ _ _, hA.swp h0 k1⟩
 by_cases hge : b - a ≤ o
 ·rw [AG (by omega), if_pos hge, wn (e := ((o : Nat) : Int) - ((b - a : Nat) : Int)) (n := o - (b - a)) (by omega) (by omega)]
  exact fin (o - (b - a)) (by omega)
 ·rw [AC (by omega), if_neg hge]
  exact fin o (by omega)
theorem Vt {N a b : Nat} {d : Array α} (hab : a + 8 ≤ b) (hb : b ≤ d.size) (hN : d.size < N) (hs : d.size ≤ 1000) (h6 : 6 ≤ N) (hA : Dv P d) :
  Gs.breakPatterns N d.toList (a : Int) (b : Int) cmp = some (breakPatterns d a b).toList ∧ (breakPatterns d a b).size = d.size ∧ Dv P (breakPatterns d a b) := by
 unfold Gs.breakPatterns breakPatterns
 simp only
 rw [wn (e := (b : Int) - (a : Int)) (n := b - a) (by omega) (by omega), AG (by omega), if_pos (by omega), VB N (by omega) (by omega)]
 simp only [oS]
 have hp := Tt (n := b - a) (by omega) (by omega)
 rw [JH (by omega)]
 have e4 : wI .i64 (Int.tdiv ((b - a : Nat) : Int) 4) = (((b - a) / 4 : Nat) : Int) := wn (by rw [Int.tdiv_eq_ediv_of_nonneg (by omega)]; omega) (by omega)
 have f2x : wI .i64 ((((b - a) / 4 : Nat) : Int) * 2) = (((b - a) / 4 * 2 : Nat) : Int) := wn (by omega) (by omega)
 have g2x : wI .i64 ((a : Int) + (((b - a) / 4 * 2 : Nat) : Int)) = ((a + (b - a) / 4 * 2 : Nat) : Int) := wn (by omega) (by omega)
 have e1y : wI .i64 (((a + (b - a) / 4 * 2 : Nat) : Int) - 1) = ((a + (b - a) / 4 * 2 - 1 : Nat) : Int) := wn (by omega) (by omega)
 simp only [e4, f2x, g2x, e1y]
 generalize hm : 1 <<< bitsLen (b - a) = m at hp
 have hr0 : ((b - a : Nat) : Int) = ((UInt64.ofNat (b - a)).toNat : Int) := by
  rw [UInt64.toNat_ofNat', Nat.mod_eq_of_lt (by omega)]
 rw [hr0]
 generalize hi : a + (b - a) / 4 * 2 - 1 = i0
 generalize UInt64.ofNat (b - a) = r0
 obtain ⟨N', rfl⟩ : ∃ q, N = q + 4 := ⟨N - 4, by omega⟩
 obtain ⟨f1, f2, f3⟩ := L5 (N' + 4) a b m (by omega) (r := r0) (idx0 := i0) hab hb hs ⟨hp.1, hp.2.1⟩ (by omega) (by omega) (by omega) (fun v4 => some v4) (N' + 3) hA
 rw [f1]
 generalize hs1 : breakStep a (b - a) m (r0, d) i0 = s1 at f2 f3
 obtain ⟨r1, d1⟩ := s1
 simp only at f2 f3 ⊢
 obtain ⟨g1, g2, g3⟩ := L5 (N' + 4) a b m (by omega) (r := r1) (d := d1) (idx0 := i0 + 1) hab (by omega) (by omega) ⟨hp.1, hp.2.1⟩ (by omega) (by omega) (by omega) (fun v4 => some v4) (N' + 2) f3
 rw [g1]
 generalize hs2 : breakStep a (b - a) m (r1, d1) (i0 + 1) = s2 at g2 g3
 obtain ⟨r2, d2⟩ := s2
 simp only at g2 g3 ⊢
 obtain ⟨k1, k2, k3⟩ := L5 (N' + 4) a b m (by omega) (r := r2) (d := d2) (idx0 := i0 + 1 + 1) hab (by omega) (by omega) ⟨hp.1, hp.2.1⟩ (by omega) (by omega) (by omega) (fun v4 => some v4) (N' + 1) g3
 rw [k1, Gs.breakPatterns_L3]
 have el : wI .i64 ((b : Int) - (a : Int)) = ((b - a : Nat) : Int) := wn (by omega) (by omega)
 have e4 : wI .i64 (Int.tdiv ((b - a : Nat) : Int) 4) = (((b - a) / 4 : Nat) : Int) := wn (by rw [Int.tdiv_eq_ediv_of_nonneg (by omega)]; omega) (by omega)
 have f2x : wI .i64 ((((b - a) / 4 : Nat) : Int) * 2) = (((b - a) / 4 * 2 : Nat) : Int) := wn (by omega) (by omega)
 have g2x : wI .i64 ((a : Int) + (((b - a) / 4 * 2 : Nat) : Int)) = ((a + (b - a) / 4 * 2 : Nat) : Int) := wn (by omega) (by omega)
 have e1 : wI .i64 (((a + (b - a) / 4 * 2 : Nat) : Int) + 1) = ((a + (b - a) / 4 * 2 + 1 : Nat) : Int) := wn (by omega) (by omega)
 simp only [el, e4, f2x, g2x, e1]
 rw [AC (by omega)]
 exact ⟨rfl, k2.trans (g2.trans f2), k3⟩
theorem SU (hc : ∀ x y, P x → P y → cmp (x, y) = some (c x y)) (N : Nat) {d : Array α} {a b s : Nat} (ha : a < d.size) (hb : b < d.size) (hs : s < 1000) (hA : Dv P d) : Gs.order2 N d.toList (a : Int) (b : Int) (s : Int) cmp = some (((order2 (Cs c) d a b s).1 : Int), ((order2 (Cs c) d a b s).2.1 : Int), ((order2 (Cs c) d a b s).2.2 : Int)) ∧
  (order2 (Cs c) d a b s).1 < d.size ∧ (order2 (Cs c) d a b s).2.1 < d.size ∧ (order2 (Cs c) d a b s).2.2 ≤ s + 1 := by
 unfold Gs.order2 order2
 simp only [gi ha, gi hb, oS]
 rw [hc _ _ (hA.get hb) (hA.get ha)]
 simp only [oS]
 rw [wn (e := (s : Int) + 1) (n := s + 1) (by omega) (by omega)]
 cases hl : decide (c d[b]! d[a]! < 0)
 ·rw [Aw, if_neg (by simp [Cs, hl])]
  exact ⟨rfl, ha, hb, by simp⟩
 ·rw [AN, if_pos (by simp [Cs, hl])]
  exact ⟨rfl, hb, ha, by simp⟩
theorem SO (hc : ∀ x y, P x → P y → cmp (x, y) = some (c x y)) (N : Nat) {d : Array α} {a b e s : Nat} (ha : a < d.size) (hb : b < d.size) (he : e < d.size) (hs : s < 900) (hA : Dv P d) : Gs.median N d.toList (a : Int) (b : Int) (e : Int) (s : Int) cmp = some (((median (Cs c) d a b e s).1 : Int), ((median (Cs c) d a b e s).2 : Int)) ∧ (median (Cs c) d a b e s).1 < d.size ∧ (median (Cs c) d a b e s).2 ≤ s + 3 := by
 unfold Gs.median median
 simp only
 obtain ⟨f1, f2, f3, f4⟩ := SU hc N ha hb (show s < 1000 by omega) hA
 rw [f1]
 simp only [oS]
 obtain ⟨g1, g2, g3, g4⟩ := SU hc N f3 he (show (order2 (Cs c) d a b s).2.2 < 1000 by omega) hA
 rw [g1]
 simp only [oS]
 obtain ⟨k1, k2, k3, k4⟩ := SU hc N f2 g2 (show (order2 (Cs c) d (order2 (Cs c) d a b s).2.1 e (order2 (Cs c) d a b s).2.2).2.2 < 1000 by omega) hA
 rw [k1]
 exact ⟨rfl, k3, by omega⟩
theorem Tb (hc : ∀ x y, P x → P y → cmp (x, y) = some (c x y)) (N : Nat) {d : Array α} {a s : Nat} (h1 : 1 ≤ a) (ha : a + 1 < d.size) (hs : s < 900) (hz : d.size ≤ 100000) (hA : Dv P d) : Gs.medianAdjacent N d.toList (a : Int) (s : Int) cmp = some (((medianAdjacent (Cs c) d a s).1 : Int), ((medianAdjacent (Cs c) d a s).2 : Int)) ∧ (medianAdjacent (Cs c) d a s).1 < d.size ∧ (medianAdjacent (Cs c) d a s).2 ≤ s + 3 := by
 unfold Gs.medianAdjacent medianAdjacent
 rw [wn (e := (a : Int) - 1) (n := a - 1) (by omega) (by omega), wn (e := (a : Int) + 1) (n := a + 1) (by omega) (by omega)]
 obtain ⟨f1, f2, f3⟩ := SO hc N (d := d) (a := a - 1) (b := a) (e := a + 1) (by omega) (by omega) ha hs hA
 rw [f1]
 exact ⟨rfl, f2, f3⟩
def NJ : Hint → Int
 | .unknown => 0
 | .increasing => 1
 | .decreasing => 2
theorem VO (hc : ∀ x y, P x → P y → cmp (x, y) = some (c x y)) (N : Nat) {d : Array α} {a b : Nat} (hab : a + 12 < b) (hb : b ≤ d.size) (hz : d.size ≤ 100000) (hA : Dv P d) : Gs.choosePivot N d.toList (a : Int) (b : Int) cmp = some (((choosePivot (Cs c) d a b).1 : Int), NJ (choosePivot (Cs c) d a b).2) := by
 unfold Gs.choosePivot choosePivot
 simp only [Bf]
 have el : wI .i64 ((b : Int) - (a : Int)) = ((b - a : Nat) : Int) := wn (by omega) (by omega)
 have e4 : wI .i64 (Int.tdiv ((b - a : Nat) : Int) 4) = (((b - a) / 4 : Nat) : Int) := wn (by rw [Int.tdiv_eq_ediv_of_nonneg (by omega)]; omega) (by omega)
 have f1 : wI .i64 ((((b - a) / 4 : Nat) : Int) * 1) = (((b - a) / 4 * 1 : Nat) : Int) := wn (by omega) (by omega)
 have f2 : wI .i64 ((((b - a) / 4 : Nat) : Int) * 2) = (((b - a) / 4 * 2 : Nat) : Int) := wn (by omega) (by omega)
 have f3 : wI .i64 ((((b - a) / 4 : Nat) : Int) * 3) = (((b - a) / 4 * 3 : Nat) : Int) := wn (by omega) (by omega)
 have g1 : wI .i64 ((a : Int) + (((b - a) / 4 * 1 : Nat) : Int)) = ((a + (b - a) / 4 * 1 : Nat) : Int) := wn (by omega) (by omega)
 have g2 : wI .i64 ((a : Int) + (((b - a) / 4 * 2 : Nat) : Int)) = ((a + (b - a) / 4 * 2 : Nat) : Int) := wn (by omega) (by omega)
 have g3 : wI .i64 ((a : Int) + (((b - a) / 4 * 3 : Nat) : Int)) = ((a + (b - a) / 4 * 3 : Nat) : Int) := wn (by omega) (by omega)
 simp only [el, e4, f1, f2, f3, g1, g2, g3]
 generalize hi : a + (b - a) / 4 * 1 = i
 generalize hj : a + (b - a) / 4 * 2 = j
 generalize hk : a + (b - a) / 4 * 3 = k
 have hsw : ∀ (p s : Nat), (AW (((s : Nat) : Int) == 0) (some ((p : Int), (1 : Int))) (AW (((s : Nat) : Int) == 12) (some ((p : Int), (2 : Int))) (some ((p : Int), (0 : Int))))) = some ((p : Int), NJ (if s = 0 then .increasing else if s = 12 then .decreasing else .unknown)) := by
  intro p s
  by_cases h0 : s = 0
  ·subst h0; rfl
  ·rw [if_neg h0, show (((s : Nat) : Int) == 0) = false from beq_eq_false_iff_ne.2 (by omega), Aw]
   by_cases h12 : s = 12
   ·subst h12; rfl
   ·rw [if_neg h12, show (((s : Nat) : Int) == 12) = false from beq_eq_false_iff_ne.2 (by omega), Aw]; rfl
 rw [AG (by omega), if_pos (show b - a ≥ 8 by omega)]
 by_cases h50 : b - a ≥ 50
 ·rw [AG (by omega), if_pos h50]
  obtain ⟨a1, a2, a3⟩ := Tb hc N (d := d) (a := i) (s := 0) (by omega) (by omega) (by omega) hz hA
  have a1' : Gs.medianAdjacent N d.toList (i : Int) 0 cmp = _ := a1
  rw [a1']
  simp only [oS]
  obtain ⟨b1, b2, b3⟩ := Tb hc N (d := d) (a := j) (s := (medianAdjacent (Cs c) d i 0).2) (by omega) (by omega) (by omega) hz hA
  rw [b1]
  simp only [oS]
  obtain ⟨c1, c2, c3⟩ := Tb hc N (d := d) (a := k) (s := (medianAdjacent (Cs c) d j (medianAdjacent (Cs c) d i 0).2).2) (by omega) (by omega) (by omega) hz hA
  rw [c1]
  simp only [oS]
  obtain ⟨d1, d2, d3⟩ := SO hc N a2 b2 c2 (show (medianAdjacent (Cs c) d k (medianAdjacent (Cs c) d j (medianAdjacent (Cs c) d i 0).2).2).2 < 900 by omega) hA
  rw [d1]
  simp only [oS]
  exact hsw _ _
 ·rw [AC (by omega), if_neg h50]
  obtain ⟨d1, d2, d3⟩ := SO hc N (d := d) (a := i) (b := j) (e := k) (s := 0) (by omega) (by omega) (by omega) (by omega) hA
  have d1' : Gs.median N d.toList (i : Int) (j : Int) (k : Int) 0 cmp = _ := d1
  rw [d1']
  simp only [oS]
  exact hsw _ _
end
end Go.Lift
namespace Go.Lift
open IntKind renaming wrap → wI
open Option renaming bind_some → oS
open Go
open Go.Sort (swp Hint bitsLen pdq insertionSort heapSort reverseRange partialInsertionSort partitionEqual partition choosePivot breakPatterns SWO PermIn SortedIn Below)
section
variable {α : Type} [Inhabited α] {P : α → Prop} {cmp : α × α → Option Int} {c : α → α → Int}
theorem UC (h : Hint) : (NJ h == 1) = decide (h = .increasing) := by cases h <;> rfl
theorem Vp (h : Hint) : (NJ h == 2) = decide (h = .decreasing) := by cases h <;> rfl
theorem U0 {N a b limit : Nat} {d : Array α} (wb : Bool) (hab : a + 12 < b) (hb : b ≤ d.size) (hN : d.size < N) (hs : d.size ≤ 1000) (h6 : 6 ≤ N) (hl : 1 ≤ limit ∧ limit ≤ 100) (hA : Dv P d) (F : List α × Int → Option (List α)) :
  Bh F (fun j7 => AW (!wb) ((Gs.breakPatterns N d.toList (a : Int) (b : Int) cmp).bind fun v9 => j7 (v9, wI .i64 ((limit : Int) - 1))) (j7 (d.toList, (limit : Int)))) = F ((if !wb then breakPatterns d a b else d).toList, ((if !wb then limit - 1 else limit : Nat) : Int)) ∧ (if !wb then breakPatterns d a b else d).size = d.size ∧ Dv P (if !wb then breakPatterns d a b else d) := by
 rw [Bf]
 cases wb
 ·obtain ⟨f1, f2, f3⟩ := Vt (cmp := cmp) (N := N) (show a + 8 ≤ b by omega) hb hN hs h6 hA
  rw [f1, wn (e := (limit : Int) - 1) (n := limit - 1) (by omega) (by omega)]
  exact ⟨rfl, f2, f3⟩
 ·exact ⟨rfl, rfl, hA⟩
theorem Uy {N a b p : Nat} {d : Array α} (h : Hint) (hab : a + 12 < b) (hp : a ≤ p) (hpb : p < b) (hb : b ≤ d.size) (hN : d.size < N) (hs : d.size ≤ 1000) (hA : Dv P d) (F : List α × Int × Int → Option (List α)) :
  Bh F (fun j11 => AW (NJ h == 2) ((Gs.reverseRange N d.toList (a : Int) (b : Int) cmp).bind fun v13 => j11 (v13, wI .i64 (wI .i64 ((b : Int) - 1) - wI .i64 ((p : Int) - (a : Int))), 1)) (j11 (d.toList, (p : Int), NJ h))) =
   F ((if h = .decreasing then reverseRange d a b else d).toList, ((if h = .decreasing then (b - 1) - (p - a) else p : Nat) : Int), NJ (if h = .decreasing then Hint.increasing else h)) ∧ (if h = .decreasing then reverseRange d a b else d).size = d.size ∧ Dv P (if h = .decreasing then reverseRange d a b else d) := by
 rw [Bf, Vp]
 by_cases hd : h = .decreasing
 ·obtain ⟨f1, f2, f3⟩ := YJ (cmp := cmp) (N := N) (show a < b by omega) hb hN (by omega) hA
  rw [f1, wn (e := (b : Int) - 1) (n := b - 1) (by omega) (by omega), wn (e := (p : Int) - (a : Int)) (n := p - a) (by omega) (by omega), wn (n := (b - 1) - (p - a)) (by omega) (by omega)]
  simp only [hd, decide_true, AN, if_true, oS]
  exact ⟨rfl, f2, f3⟩
 ·simp only [hd, decide_false, Aw, if_false]
  exact ⟨trivial, trivial, hA⟩
def QD (c : α → α → Int) (wb wp : Bool) (h : Hint) (d : Array α) (a b : Nat) : Array α × Bool := if wb && wp && h = .increasing then partialInsertionSort (Cs c) d a b else (d, false)
theorem Wn (hc : ∀ x y, P x → P y → cmp (x, y) = some (c x y)) {N a b : Nat} {d : Array α} (wb wp : Bool) (h : Hint) (hab : a + 12 < b) (hb : b ≤ d.size) (hN : d.size < N) (hs : d.size ≤ 1000) (h6 : 6 ≤ N) (hA : Dv P d) (F : List α → Option (List α)) :
  Bh F (fun j14 => Bh (fun (v15 : Bool) => AW v15 ((Gs.partialInsertionSort N d.toList (a : Int) (b : Int) cmp).bind fun v19 => AW v19.1 (some v19.2) (j14 v19.2)) (j14 d.toList)) fun j15 => AW wb (AW wp (j15 (NJ h == 1)) (j15 false)) (j15 false)) =
   (if (QD c wb wp h d a b).2 then some (QD c wb wp h d a b).1.toList else F (QD c wb wp h d a b).1.toList) ∧ (QD c wb wp h d a b).1.size = d.size ∧ Dv P (QD c wb wp h d a b).1 := by
 rw [Bf, Bf, UC]
 unfold QD
 have hno : ∀ q : Bool, q = false → (F d.toList) = (if (if q = true then partialInsertionSort (Cs c) d a b else (d, false)).2 then some (if q = true then partialInsertionSort (Cs c) d a b else (d, false)).1.toList else F (if q = true then partialInsertionSort (Cs c) d a b else (d, false)).1.toList) ∧ (if q = true then partialInsertionSort (Cs c) d a b else (d, false)).1.size = d.size ∧ Dv P (if q = true then partialInsertionSort (Cs c) d a b else (d, false)).1 := by
  intro q hq; subst hq; exact ⟨rfl, rfl, hA⟩
 cases wb
 ·exact hno _ rfl
 cases wp
 ·exact hno _ rfl
 by_cases hd : h = .increasing
 ·simp only [hd, decide_true, AN, Bool.and_self, if_true]
  obtain ⟨f1, f2, f3⟩ := S1 hc (N := N) (show a < b by omega) hb hN h6 (by omega) hA
  rw [f1]
  simp only [oS]
  refine ⟨?_, f2, f3⟩
  cases (partialInsertionSort (Cs c) d a b).2 <;> rfl
 ·simp only [hd, decide_false, Aw, AN]
  exact hno _ rfl
theorem WI (hc : ∀ x y, P x → P y → cmp (x, y) = some (c x y)) {a p : Nat} {d : Array α} (hb : a ≤ d.size) (hs : d.size ≤ 1000) (hp : p < d.size) (hA : Dv P d) (F : Bool → Option (List α)) :
  Bh F (fun j21 => AW (decide (0 < (a : Int))) ((Bg d.toList (wI .i64 ((a : Int) - 1))).bind fun v23 => (Bg d.toList (p : Int)).bind fun v24 => (cmp (v23, v24)).bind fun v25 => j21 (!decide (v25 < 0))) (j21 false)) = F (decide (a > 0) && !Cs c d[a - 1]! d[p]!) := by
 rw [Bf]
 by_cases h0 : 0 < a
 ·rw [AG (by omega), wn (e := (a : Int) - 1) (n := a - 1) (by omega) (by omega), gi (show a - 1 < d.size by omega), gi hp]
  simp only [oS]
  rw [hc _ _ (hA.get (by omega)) (hA.get hp)]
  simp only [oS, Cs, h0, decide_true, Bool.true_and]
 ·rw [AC (by omega)]
  simp [h0]
theorem Vk (hc : ∀ x y, P x → P y → cmp (x, y) = some (c x y)) {N : Nat} (hN : 1010 ≤ N) : ∀ (w : Nat) (k n : Nat) (d : Array α) (a b limit : Nat) (wb wp : Bool) (J : Unit → Option (List α)), b - a ≤ w → w < n → w ≤ k → a ≤ b → b ≤ d.size → d.size ≤ 1000 → limit ≤ 100 → Dv P d →
  Gs.pdqsort_L1 N cmp (Gs.pdqsort_R N k) J n (d.toList, (a : Int), (b : Int), (limit : Int), wb, wp) = some (pdq (Cs c) d a b limit wb wp).toList ∧ (pdq (Cs c) d a b limit wb wp).size = d.size ∧ Dv P (pdq (Cs c) d a b limit wb wp) := by
 intro w
 induction w using Nat.strongRecOn with
 | _ w ih =>
 intro k n d a b limit wb wp J hw hn hk hab hb hs hl hA
 obtain ⟨n, rfl⟩ : ∃ q, n = q + 1 := ⟨n - 1, by omega⟩
 rw [Gs.pdqsort_L1, pdq]
 have el : wI .i64 ((b : Int) - (a : Int)) = ((b - a : Nat) : Int) := wn (by omega) (by omega)
 simp only [el]
 by_cases h12 : b - a ≤ 12
 ·rw [AG (by omega), if_pos h12]
  obtain ⟨f1, f2, f3⟩ := Yv hc (N := N) hab hb (by omega) (by omega) hA
  rw [f1]
  exact ⟨rfl, f2, f3⟩
 rw [AC (by omega), if_neg h12]
 by_cases h0 : limit = 0
 ·rw [if_pos h0, show ((limit : Int) == 0) = true from beq_iff_eq.2 (by omega), AN]
  obtain ⟨f1, f2, f3⟩ := WC hc (N := N) (show a < b by omega) hb (by omega) (by omega) hA
  rw [f1]
  exact ⟨rfl, f2, f3⟩
 rw [if_neg h0, show ((limit : Int) == 0) = false from beq_eq_false_iff_ne.2 (by omega), Aw]
 -- the recursion
 have rec_ : ∀ (q : Nat) (d : Array α) (a b limit : Nat), b - a ≤ q → q < w → a ≤ b → b ≤ d.size → d.size ≤ 1000 → limit ≤ 100 → Dv P d → Gs.pdqsort_R N k d.toList (a : Int) (b : Int) (limit : Int) cmp = some (pdq (Cs c) d a b limit true true).toList ∧ (pdq (Cs c) d a b limit true true).size = d.size ∧ Dv P (pdq (Cs c) d a b limit true true) := by
  intro q d a b limit h1 h2 h3 h4 h5 h6 h7
  obtain ⟨k', rfl⟩ : ∃ q, k = q + 1 := ⟨k - 1, by omega⟩
  rw [Gs.pdqsort_R]
  unfold Gs.pdqsort_B
  exact ih (min q 1000) (by omega) k' N d a b limit true true _ (by omega) (by omega) (by omega) h3 h4 h5 h6 h7
 obtain ⟨e1, e2, e3⟩ := U0 (cmp := cmp) (N := N) (a := a) (b := b) (limit := limit) wb (by omega) hb (by omega) hs (by omega) ⟨by omega, hl⟩ hA _
 rw [e1]
 clear e1
 generalize (if !wb then breakPatterns d a b else d) = d1 at e2 e3 ⊢
 generalize hl1 : (if !wb then limit - 1 else limit) = l1
 have hl2 : l1 ≤ 100 := by rw [← hl1]; split <;> omega
 clear hl1
 simp only
 rw [VO hc N (by omega) (by omega) (by omega) e3]
 obtain ⟨p1, p2⟩ := Go.Sort.choosePivot_holds (Cs c) d1 a b (by omega)
 generalize choosePivot (Cs c) d1 a b = cp at p1 p2 ⊢
 obtain ⟨p, h⟩ := cp
 simp only [oS] at p1 p2 ⊢
 obtain ⟨e4, e5, e6⟩ := Uy (cmp := cmp) (N := N) (a := a) (b := b) h (by omega) p1 p2 (by omega) (by omega) (by omega) e3 _
 rw [e4]
 clear e4
 generalize (if h = .decreasing then reverseRange d1 a b else d1) = d2 at e5 e6 ⊢
 generalize hq : (if h = .decreasing then (b - 1) - (p - a) else p) = q
 have hq1 : a ≤ q ∧ q < b := by rw [← hq]; split <;> omega
 clear hq
 generalize (if h = .decreasing then Hint.increasing else h) = h'
 simp only
 obtain ⟨e7, e8, e9⟩ := Wn hc (N := N) (a := a) (b := b) wb wp h' (by omega) (show b ≤ d2.size by omega) (by omega) (by omega) (by omega) e6 _
 rw [e7]
 clear e7
 have hpr : (if (wb && wp && decide (h' = Hint.increasing)) = true then partialInsertionSort (Cs c) d2 a b else (d2, false)) = QD c wb wp h' d2 a b := rfl
 rw [hpr]
 by_cases hpi : (QD c wb wp h' d2 a b).2 = true
 ·simp only [hpi, if_true]
  exact ⟨trivial, by omega, e9⟩
 simp only [hpi]
 generalize (QD c wb wp h' d2 a b).1 = d3 at e8 e9 ⊢
 rw [WI hc (by omega) (by omega) (by omega) e9]
 cases (decide (a > 0) && !Cs c d3[a - 1]! d3[q]!)
 ·simp only [Aw, Bool.false_eq_true, if_false]
  obtain ⟨f1, f2, f3, f4, f5⟩ := ac hc (N := N) (show a < b by omega) hq1.1 hq1.2 (show b ≤ d3.size by omega) (by omega) (by omega) e9
  rw [f1]
  generalize partition (Cs c) d3 a b q = r at f2 f3 f4 f5 ⊢
  obtain ⟨mid, al, d4⟩ := r
  simp only [oS] at f2 f3 f4 f5 ⊢
  have m1 : wI .i64 ((mid : Int) - (a : Int)) = ((mid - a : Nat) : Int) := wn (by omega) (by omega)
  have m2 : wI .i64 ((b : Int) - (mid : Int)) = ((b - mid : Nat) : Int) := wn (by omega) (by omega)
  have m3 : wI .i64 ((mid : Int) + 1) = ((mid + 1 : Nat) : Int) := wn (by omega) (by omega)
  have m4 : wI .i64 (Int.tdiv ((b - a : Nat) : Int) 8) = (((b - a) / 8 : Nat) : Int) := wn (by rw [Int.tdiv_eq_ediv_of_nonneg (by omega)]; omega) (by omega)
  have m5 : decide ((((b - a) / 8 : Nat) : Int) ≤ ((mid - a : Nat) : Int)) = decide (mid - a ≥ (b - a) / 8) := by rw [decide_eq_decide]; omega
  have m6 : decide ((((b - a) / 8 : Nat) : Int) ≤ ((b - mid : Nat) : Int)) = decide (b - mid ≥ (b - a) / 8) := by rw [decide_eq_decide]; omega
  simp only [m1, m2, m3, m4, m5, m6, dif_pos (show a ≤ mid ∧ mid < b from ⟨f4, f5⟩)]
  by_cases hsm : mid - a < b - mid
  ·rw [AG (by omega)]
   simp only [hsm, if_true]
   obtain ⟨g1, g2, g3⟩ := rec_ (mid - a) d4 a mid l1 (Nat.le_refl _) (by omega) f4 (by omega) (by omega) hl2 f3
   rw [g1]
   simp only [oS]
   obtain ⟨k1, k2, k3⟩ := ih (b - (mid + 1)) (by omega) k n (pdq (Cs c) d4 a mid l1 true true) (mid + 1) b l1 (decide (mid - a ≥ (b - a) / 8)) al J (Nat.le_refl _) (by omega) (by omega) (by omega) (by omega) (by omega) hl2 g3
   exact ⟨k1, by omega, k3⟩
  ·rw [AC (by omega)]
   simp only [hsm, if_false]
   obtain ⟨g1, g2, g3⟩ := rec_ (b - (mid + 1)) d4 (mid + 1) b l1 (Nat.le_refl _) (by omega) (by omega) (by omega) (by omega) hl2 f3
   rw [g1]
   simp only [oS]
   obtain ⟨k1, k2, k3⟩ := ih (mid - a) (by omega) k n (pdq (Cs c) d4 (mid + 1) b l1 true true) a mid l1 (decide (b - mid ≥ (b - a) / 8)) al J (Nat.le_refl _) (by omega) (by omega) (by omega) (by omega) (by omega) hl2 g3
   exact ⟨k1, by omega, k3⟩
 ·simp only [AN, if_true]
  obtain ⟨f1, f2, f3, f4, f5⟩ := Zo hc (N := N) (show a < b by omega) hq1.1 hq1.2 (show b ≤ d3.size by omega) (by omega) (by omega) e9
  rw [f1]
  generalize partitionEqual (Cs c) d3 a b q = r at f2 f3 f4 f5 ⊢
  obtain ⟨mid, d4⟩ := r
  simp only [oS] at f2 f3 f4 f5 ⊢
  simp only [dif_pos (show a < mid ∧ mid ≤ b from ⟨f4, f5⟩)]
  obtain ⟨k1, k2, k3⟩ := ih (b - mid) (by omega) k n d4 mid b l1 wb wp J (Nat.le_refl _) (by omega) (by omega) (by omega) (by omega) (by omega) hl2 f3
  simp only [Bool.false_eq_true, if_false]
  exact ⟨k1, by omega, k3⟩
end
end Go.Lift
namespace Go.Lift
open Go
open Go.Sort (bitsLen pdq SWO PermIn SortedIn)
structure K9 {α : Type} (c : α → α → Int) : Prop where
 anti : ∀ x y, c y x = - c x y
 le : ∀ x y z, c x y ≤ 0 → c y z ≤ 0 → c x z ≤ 0
namespace K9
variable {α : Type} {c : α → α → Int}
theorem self (O : K9 c) (x : α) : c x x = 0 := by have := O.anti x x; omega
theorem lt1 (O : K9 c) {x y z : α} (h : c x y < 0) (h2 : c y z ≤ 0) : c x z < 0 := by
 have h3 := O.le x y z (by omega) h2
 by_cases h0 : c x z = 0
 ·have h4 := O.anti x z
  have h5 := O.le y z x h2 (by omega)
  have h6 := O.anti x y
  omega
 ·omega
theorem lt2 (O : K9 c) {x y z : α} (h : c x y ≤ 0) (h2 : c y z < 0) : c x z < 0 := by
 have h3 := O.le x y z h (by omega)
 by_cases h0 : c x z = 0
 ·have h4 := O.anti x z
  have h5 := O.le z x y (by omega) h
  have h6 := O.anti y z
  omega
 ·omega
theorem or {d : α → α → Int} (O : K9 c) (Q : K9 d) : K9 (fun x y => if c x y = 0 then d x y else c x y) := by
 refine ⟨fun x y => ?_, fun x y z => ?_⟩
 ·have := O.anti x y
  by_cases h : c x y = 0
  ·simp only [h, show c y x = 0 by omega, if_true]; exact Q.anti x y
  ·simp only [h, show ¬ c y x = 0 by omega, if_false]; exact this
 ·intro h1 h2
  have a1 : c x y ≤ 0 := by revert h1; split <;> omega
  have a2 : c y z ≤ 0 := by revert h2; split <;> omega
  have a3 := O.le x y z a1 a2
  by_cases h0 : c x z = 0
  ·have b1 : c x y = 0 := by
    by_cases q : c x y = 0
    ·exact q
    ·have := O.lt1 (show c x y < 0 by omega) a2; omega
   have b2 : c y z = 0 := by
    by_cases q : c y z = 0
    ·exact q
    ·have := O.lt2 a1 (show c y z < 0 by omega); omega
   simp only [b1, b2, h0, if_true] at h1 h2 ⊢
   exact Q.le x y z h1 h2
  ·simp only [h0, if_false]; exact a3
theorem swo (O : K9 c) : SWO (Cs c) := by
 refine ⟨fun x => ?_, fun x y z => ?_, fun x y z => ?_⟩
 ·unfold Cs; rw [O.self x]; rfl
 ·unfold Cs; intro h1 h2
  exact decide_eq_true (O.lt1 (of_decide_eq_true h1) (by have := of_decide_eq_true h2; omega))
 ·unfold Cs; intro h1 h2
  have := of_decide_eq_false h1
  have := of_decide_eq_false h2
  have := O.anti x y
  have := O.anti y z
  have := O.anti x z
  have := O.le z y x (by omega) (by omega)
  exact decide_eq_false (by omega)
end K9
section
variable {α : Type} [Inhabited α] {P : α → Prop} {cmp : α × α → Option Int} {c : α → α → Int}
theorem T7 (O : K9 c) (hc : ∀ x y, P x → P y → cmp (x, y) = some (c x y)) {N : Nat} (hN : 1010 ≤ N) (l : List α) (hl : l.length ≤ 1000) (hP : ∀ x, x ∈ l → P x) :
  ∃ r : List α, Gs.pdqsort N l 0 ((l.length : Nat) : Int) ((bitsLen l.length : Nat) : Int) cmp = some r ∧ r.Perm l ∧ r.Pairwise (fun x y => c x y ≤ 0) := by
 have hb := Tq hl
 have hA : Dv P l.toArray := fun x hx => hP x hx
 obtain ⟨k, rfl⟩ : ∃ q, N = q + 1 := ⟨N - 1, by omega⟩
 obtain ⟨f1, f2, f3⟩ := Vk hc hN 1000 k (k + 1) l.toArray 0 l.length (bitsLen l.length) true true (fun _ => none) (by omega) (by omega) (by omega) (by omega) (by simp) (by simpa using hl) (by omega) hA
 obtain ⟨⟨g0, _, g1⟩, g2⟩ := Go.Sort.sort_sorts (Cs c) O.swo l.toArray
 unfold Go.Sort.sort at g0 g1 g2
 simp only [List.size_toArray] at g0 g1 g2
 refine ⟨_, f1, ?_, ?_⟩
 ·generalize pdq (Cs c) l.toArray 0 l.length (bitsLen l.length) true true = d at g0 g1
  have e1 : (d.extract 0 l.length).toList = d.toList := by rw [← g0]; simp
  have e2 : (l.toArray.extract 0 l.length).toList = l := by simp
  rw [e1, e2] at g1
  exact g1
 ·generalize pdq (Cs c) l.toArray 0 l.length (bitsLen l.length) true true = d at g0 g2
  rw [List.pairwise_iff_getElem]
  intro i j hi hj hij
  have := of_decide_eq_false (g2 i j (Nat.zero_le _) hij (by rw [← g0]; simpa using hj))
  rw [getElem!_pos d i (by simpa using hi), getElem!_pos d j (by simpa using hj)] at this
  have h2 := O.anti d[i] d[j]
  simp only [Array.getElem_toList]
  omega
end
section
variable {α : Type} {c : α → α → Int}
abbrev GH (c : α → α → Int) (l : List α) : Prop := l.Pairwise (fun x y => c x y < 0)
theorem O4 (O : K9 c) : ∀ (a b : List α), GH c a → GH c b → (∀ x, x ∈ a ↔ x ∈ b) → a = b
 | [], [], _, _, _ => rfl
 | [], y :: ys, _, _, h => by have := (h y).2 (by simp); simp at this
 | x :: xs, [], _, _, h => by have := (h x).1 (by simp); simp at this
 | x :: xs, y :: ys, ha, hb, h => by
  obtain ⟨a1, a2⟩ := List.pairwise_cons.1 ha
  obtain ⟨b1, b2⟩ := List.pairwise_cons.1 hb
  have exy : x = y := by
   rcases List.mem_cons.1 ((h x).1 (by simp)) with e | e
   ·exact e
   rcases List.mem_cons.1 ((h y).2 (by simp)) with f | f
   ·exact f.symm
   have := b1 x e
   have := a1 y f
   have := O.anti x y
   omega
  subst exy
  rw [O4 O xs ys a2 b2 fun z => ?_]
  constructor
  ·intro hz
   rcases List.mem_cons.1 ((h z).1 (by simp [hz])) with e | e
   ·subst e; have := a1 z hz; have := O.self z; omega
   ·exact e
  ·intro hz
   rcases List.mem_cons.1 ((h z).2 (by simp [hz])) with e | e
   ·subst e; have := b1 z hz; have := O.self z; omega
   ·exact e
theorem Un (_O : K9 c) (h0 : ∀ x y, c x y = 0 → x = y) : ∀ (l : List α), l.Pairwise (fun x y => c x y ≤ 0) → l.Nodup → GH c l := by
 intro l h hn
 exact List.Pairwise.imp₂ (fun x y h1 h2 => by
  by_cases q : c x y = 0
  ·exact absurd (h0 x y q) h2
  ·omega) h hn
end
theorem SJ : K9 EY := ⟨fun a b => J2 a b, TA⟩
theorem K9.pull {α β : Type} {c : α → α → Int} (O : K9 c) (f : β → α) : K9 (fun x y => c (f x) (f y)) := ⟨fun _x _y => O.anti _ _, fun _x _y _z => O.le _ _ _⟩
theorem LS : K9 EU := by
 have := (SJ.pull Af.fd).or ((SJ.pull Af.fa).or (SJ.pull Af.fe))
 have e : EU = fun (x y : Af) => if EY x.fd y.fd = 0 then (if EY x.fa y.fa = 0 then EY x.fe y.fe else EY x.fa y.fa) else EY x.fd y.fd := by
  funext x y
  unfold EU Su Su Su Su
  repeat' split
  all_goals (first | rfl | omega | simp_all)
 rw [e]; exact this
end Go.Lift
namespace Go.Lift
open Go
variable {α : Type}
end Go.Lift
namespace Go.Lift
open Go
section
variable {α : Type} {c : α → α → Int}
variable {P : α → Prop} {eq : α × α → Option Bool} {b : α → α → Bool}
end
end Go.Lift
namespace Go.Lift
open Go
instance : Inhabited Al := ⟨⟨0, 0, 0⟩⟩
theorem Qp : Eb 2000 = some true := by kernel_rfl
def bu (a b : Al) : Bool := (a.fr == b.fr) && ((a.ft == b.ft) && ((a.fu == b.fu) && true))
theorem Tn (a b : Al) : bu a b = true ↔ a = b := by
 cases a; cases b
 simp [bu]
instance aO : DecidableEq Al := fun a b => if h : bu a b = true then isTrue ((Tn a b).1 h) else isFalse fun e => h ((Tn a b).2 e)
end Go.Lift
namespace Go.Lift
open Option renaming bind_some → oS
open List renaming mem_of_getElem? → lM
open Go
theorem Nf (N : Nat) (hN : N ≤ 1000000) (h20 : 100 ≤ N) {p : Ah} (hv : CR p = 0) {m : Af} (hm : B3 p m) (l : List As) (hl : l.length ≤ 54) (hs : ∀ s, s ∈ l → s ∈ F0 p m) (e : Int) : ∀ (n i : Nat) (a : List As) (b : List Af), i ≤ l.length → l.length - i < n → a.length ≤ i → b.length ≤ i →
  Fh N p m (l, e) (fun v3 => some (v3.1, v3.2)) n (a, b, (i : Int)) = some (a ++ (Ss p m (l.drop i)).map (·.1), b ++ (Ss p m (l.drop i)).map (·.2))
 | 0, i, _, _, _, h, _, _ => by omega
 | n + 1, i, a, b, hi, h, ha, hb => by
  obtain ⟨hp, _⟩ := DA hv
  rw [Fh]
  by_cases h1 : i < l.length
  ·have hx : l[i]? = some l[i] := by simp [h1]
   have hmem := hs _ (lM hx)
   have h0 := (Ke hmem).2
   have hk := Lk hp hm h0
   rw [AG (by first | omega | (simp only; omega)), Df hx, Ro]
   simp only [Bf, Bc, hx, oS]
   rw [LI N hN h20 (Kb hm), H0 hv hm, if_pos rfl]
   simp only [oS]
   rw [h0, bne_self_eq_false, Aw, Hm N p _ hN h20 (Kb hk) (H0 hv hk)]
   simp only [oS]
   cases hr : Br p (BV p m l[i]).1
   ·rw [Aw, if_neg (by simp), AT (by omega)]
    exact Nf N hN h20 hv hm l hl hs e n (i + 1) a b (by omega) (by omega) (by omega) (by omega)
   ·rw [AN, if_pos rfl, AI (by simp [Eg]; omega), AI (by simp [Eg]; omega), AT (by omega)]
    rw [Nf N hN h20 hv hm l hl hs e n (i + 1) _ _ (by omega) (by omega) (by simp; omega) (by simp; omega)]
    simp
  ·rw [AC (by first | omega | (simp only; omega)), List.drop_eq_nil_of_le (by omega)]
   simp [Ss]
theorem W8 (N : Nat) (hN : N ≤ 1000000) (h20 : 100 ≤ N) {p : Ah} (hv : CR p = 0) {m : Af} (hm : B3 p m) : Hh N p m = some ((Kq p m).map (·.1), (Kq p m).map (·.2)) := by
 obtain ⟨hp, _⟩ := DA hv
 unfold Hh
 rw [OM N hN h20 hv hm]
 simp only [oS]
 have hl : (F0 p m).length ≤ 54 := Nat.le_trans (List.length_filter_le _ _) (NV hp)
 have := Nf N hN h20 hv hm (F0 p m) hl (fun _ h => h) 0 N 0 [] [] (Nat.zero_le _) (by omega) (Nat.le_refl _) (Nat.le_refl _)
 simpa [Kq] using this
theorem WK {p : Ah} (hp : BB p) (m : Af) : (Kq p m).length ≤ 54 := by
 unfold Kq Ss
 exact Nat.le_trans (List.length_filterMap_le _ _) (Nat.le_trans (List.length_filter_le _ _) (NV hp))
def KK (x : Af) : List Af → List Af
 | [] => [x]
 | y :: ys => if EU y x = 0 then y :: ys else if 0 < EU y x then x :: y :: ys else y :: KK x ys
theorem OR {x : Af} : ∀ {l : List Af} {z : Af}, z ∈ KK x l ↔ z = x ∨ z ∈ l
 | [], z => by simp [KK]
 | y :: ys, z => by
  simp only [KK]
  split
  ·rename_i h
   have h := I5 h
   constructor
   ·exact fun hz => .inr hz
   ·rintro (rfl | hz)
    ·rw [h]; simp
    ·exact hz
  ·split
   ·simp
   ·rw [List.mem_cons, OR, List.mem_cons]
    constructor
    ·rintro (h | h | h)
     ·exact .inr (.inl h)
     ·exact .inl h
     ·exact .inr (.inr h)
    ·rintro (h | h | h)
     ·exact .inr (.inl h)
     ·exact .inl h
     ·exact .inr (.inr h)
theorem R7 (x : Af) : ∀ (l : List Af), (KK x l).length ≤ l.length + 1 ∧ l.length ≤ (KK x l).length
 | [] => by simp [KK]
 | y :: ys => by
  have := R7 x ys
  simp only [KK]
  split
  ·simp
  ·split
   ·simp
   ·simp only [List.length_cons]; omega
theorem NG {x : Af} : ∀ {l : List Af}, GH EU l → GH EU (KK x l)
 | [], _ => by simp [KK, GH]
 | y :: ys, h => by
  obtain ⟨h1, h2⟩ := List.pairwise_cons.1 h
  simp only [KK]
  split
  ·exact h
  ·split
   ·rename_i h0 hx
    have hxy : EU x y < 0 := by rw [Uf y x]; omega
    refine List.pairwise_cons.2 ⟨fun z hz => ?_, h⟩
    rcases List.mem_cons.1 hz with rfl | hz
    ·exact hxy
    ·have := h1 z hz
     exact LS.lt1 hxy (by omega)
   ·rename_i h0 hx
    refine List.pairwise_cons.2 ⟨fun z hz => ?_, NG h2⟩
    rcases OR.1 hz with rfl | hz
    ·omega
    ·exact h1 z hz
def CQ (a : List Af) : List Af → List Af
 | [] => a
 | x :: xs => CQ (KK x a) xs
theorem Jc {z : Af} : ∀ {xs a : List Af}, z ∈ CQ a xs ↔ z ∈ a ∨ z ∈ xs
 | [], a => by simp [CQ]
 | x :: xs, a => by
  simp only [CQ]
  rw [Jc, OR, List.mem_cons]
  constructor
  ·rintro ((h | h) | h)
   ·exact .inr (.inl h)
   ·exact .inl h
   ·exact .inr (.inr h)
  ·rintro (h | h | h)
   ·exact .inl (.inr h)
   ·exact .inl (.inl h)
   ·exact .inr h
theorem Iq : ∀ {xs a : List Af}, GH EU a → GH EU (CQ a xs)
 | [], _, h => h
 | _ :: xs, _, h => Iq (xs := xs) (NG h)
theorem L1 : ∀ (xs a : List Af), (CQ a xs).length ≤ a.length + xs.length
 | [], a => by simp [CQ]
 | x :: xs, a => by
  have h1 := L1 xs (KK x a)
  have h2 := R7 x a
  simp only [CQ, List.length_cons]; omega
def DB (l : List Pb) : List Af := l.map (·.1)
theorem OD {l : List Pb} {i : Nat} {m : Af} {f : Int} {t : As} (h : l[i]? = some (m, f, t)) : (DB l)[i]? = some m := by
 unfold DB; rw [List.getElem?_map, h]; rfl
theorem Gk (l : List Pb) : (DB l).length = l.length := List.length_map _
theorem H5 {l : List Pb} {x : Af} : x ∈ DB l ↔ ∃ n, n ∈ l ∧ n.1 = x := List.mem_map
theorem Ln {p : Ah} (hp : BB p) {most : Nat} : ∀ (n i : Nat) (l l' : List Pb), Bfs.go (Kq p) most n i l = some l' → (∀ n, n ∈ l → B3 p n.1 ∧ Br p n.1 = true) → ∀ n, n ∈ l' → B3 p n.1 ∧ Br p n.1 = true
 | 0, i, l, l', h, _ => by cases h
 | n + 1, i, l, l', h, hA => by
  simp only [Bfs.go] at h
  split at h
  ·cases h; exact hA
  ·rename_i nd hx
   cases hin : Bfs.inner most i (Kq p nd.1) l with
   | none => rw [hin] at h; cases h
   | some l1 =>
    rw [hin] at h
    exact Ln hp n (i + 1) l1 l' h (Kl hin (fun q hq => Oe hp (hA _ (lM hx)).1 hq) hA).1
instance Z1 : Inhabited Af := ⟨Hi⟩
theorem WY : Gs.pdqsort = @Gs.pdqsort Af := by kernel_rfl
theorem Ny {N : Nat} (hN : N ≤ 1000000) {a b : Af} (h1 : a.fd.length < N) (h2 : a.fa.length < N) (h3 : a.fe.length < N) (h4 : 3 < N) : BR N a b = some (EU a b) := by
 unfold BR
 rw [Ox h1 hN, Ox h2 hN, RU h3 hN]
 simp only [oS]
 rw [YP (by simp; omega) hN]
 rfl
theorem U1 {N : Nat} (hN : N ≤ 1000000) (h20 : 1010 ≤ N) {p : Ah} (hp : BB p) (l : List Af) (hl : l.length ≤ 1000) (hm : ∀ x, x ∈ l → B3 p x) :
  ∃ r : List Af, BU N l (fun (x : Af × Af) => BR N x.1 x.2) = some r ∧ r.Perm l ∧ r.Pairwise (fun x y => EU x y ≤ 0) := by
 have hcmp : ∀ x y : Af, B3 p x → B3 p y → (fun (x : Af × Af) => BR N x.1 x.2) (x, y) = some (EU x y) := fun x y hx _ => by
  have := hp.nv
  have := hp.nt
  exact Ny hN (by rw [hx.base]; omega) (by rw [hx.next]; omega) (by rw [hx.held]; omega) (by omega)
 obtain ⟨r1, s1, s2, s3⟩ := T7 (cmp := fun (x : Af × Af) => BR N x.1 x.2) LS hcmp (N := N) h20 l hl hm
 unfold BU
 rw [JH (by omega), Vq N hl, WY]
 simp only [oS]
 rw [s1]
 exact ⟨r1, rfl, s2, s3⟩
end Go.Lift
namespace Go.Lift
open IntKind renaming wrap → wI
open Option renaming bind_some → oS
open List renaming mem_of_getElem? → lM
open List renaming getElem?_eq_some_iff → lI
open List renaming getD_eq_getElem?_getD → lD
open Go
theorem Mb (N : Nat) (hN : N ≤ 1000000) (h20 : 100 ≤ N) {p : Ah} {m : Af} (hp : BB p) (hm : B3 p m) : F7 N m = some (C0 (Lw m)) := by
 have hnv := hp.nv
 have hnt := hp.nt
 have hb := hm.base
 have hn := hm.next
 have hh := hm.held
 unfold F7
 have l1 := G1 (Ex N m fun v2 => DD N m (fun v8 => some (C0 v8)) N (v2, 0)) (fun a i => (a, i)) m.fd (fun v2 => DD N m (fun v8 => some (C0 v8)) N (v2, 0)) (GA m) 2 100
  (fun i x hx => by simp [GA])
  (fun n i x a hx hl => by
   have hi := (lI.1 hx).1
   rw [Ex, AG (by simp only; omega)]
   simp only [Bc, hx, oS, AT (show i < 1000000 by omega)]
   have e2 : m.fa[i]? = some (m.fa.getD i 0) := by rw [lD]; simp [show i < m.fa.length by omega]
   rw [e2]
   simp only [oS]
   rw [AI (by simp [Eg]; simp [GA] at hl; omega)]
   rfl)
  (fun n a => by rw [Ex, AC (by simp)]) N [] (by omega) (by simp; omega)
 have l1' : Ex N m (fun v2 => DD N m (fun v8 => some (C0 v8)) N (v2, 0)) N ([], 0) = _ := l1
 rw [l1', List.nil_append]
 have hfl : (Dg (GA m) 0 m.fd).length ≤ 2 * m.fd.length := Gn fun j x hx => by simp [GA]
 have l2 := G1 (DD N m fun v9 => some (C0 v9)) (fun a i => (a, i)) m.fe (fun v9 => some (C0 v9)) (fun _ x => [x]) 1 100
  (fun i x hx => by simp)
  (fun n i x a hx hl => by
   have hi := (lI.1 hx).1
   rw [DD, AG (by simp only; omega)]
   simp only [Bc, hx, oS, AT (show i < 1000000 by omega)]
   rw [AI (by simp [Eg]; simp at hl; omega)])
  (fun n a => by rw [DD, AC (by simp)]) N (Dg (GA m) 0 m.fd) (by omega) (by omega)
 have e3 : ∀ (i : Nat) (l : List Int), Dg (fun _ (x : Int) => [x]) i l = l := by
  intro i l
  induction l generalizing i with
  | nil => rfl
  | cons x l ih => rw [Dg, ih]; rfl
 refine l2.trans ?_
 rw [e3]; rfl
def RY (q : List Af) : List (ByteArray × Bool) := q.map fun x => (C0 (Lw x), true)
theorem U5 {p : Ah} (hp : BB p) {x y : Af} (hx : B3 p x) (hy : B3 p y) : (C0 (Lw x) == C0 (Lw y)) = decide (x = y) := by
 by_cases h : x = y
 ·rw [decide_eq_true h, h, Qc]
 ·rw [decide_eq_false h]
  cases hb : C0 (Lw x) == C0 (Lw y)
  ·rfl
  ·exact absurd (WV hp hx hy hb) h
theorem MW {p : Ah} (hp : BB p) {x : Af} (hx : B3 p x) : ∀ {q : List Af}, (∀ e, e ∈ q → B3 p e) → LA (C0 (Lw x)) (RY q) = if q.any (fun y => decide (y = x)) = true then some true else none
 | [], _ => rfl
 | e :: q, h => by
  have ih := MW hp hx (q := q) fun e he => h e (List.mem_cons_of_mem _ he)
  show (if (C0 (Lw x) == C0 (Lw e)) = true then some true else LA (C0 (Lw x)) (RY q)) = _
  rw [U5 hp hx (h e (by simp)), ih, List.any_cons]
  by_cases h : x = e
  ·rw [decide_eq_true h, if_pos rfl, decide_eq_true h.symm, Bool.true_or, if_pos rfl]
  ·rw [decide_eq_false h, if_neg (by simp), decide_eq_false (fun e' => h e'.symm), Bool.false_or]
theorem Vh (q : List Af) (x : Af) : RY (q ++ [x]) = RY q ++ [(C0 (Lw x), true)] := by simp [RY]
theorem Vf {N : Nat} (hN : N ≤ 1000000) (h20 : 100 ≤ N) {p : Ah} (hp : BB p) {m : Af} {most i : Nat} (hmo : most ≤ 20000) (ss : List As) (qs : List (As × Af)) (hqs : ∀ q, q ∈ qs → B3 p q.2 ∧ Br p q.2 = true) (hsl : qs.length ≤ 1000) (j : List Af × List (ByteArray × Bool) → Option (List Af × Int)) :
  ∀ (n k : Nat) (l l' : List Pb), k ≤ qs.length → qs.length - k < n → (∀ n, n ∈ l → B3 p n.1 ∧ Br p n.1 = true) → l.length ≤ most → Bfs.inner most i (qs.drop k) l = some l' →
   En N (ss, qs.map (·.2)) j n (DB l, RY (DB l), (k : Int)) = j (DB l', RY (DB l'))
 | 0, k, l, l', _, h, _, _, _ => by omega
 | n + 1, k, l, l', hk, h, hA, hlm, hin => by
  rw [En]
  by_cases h1 : k < qs.length
  ·have hs : qs[k]? = some qs[k] := by simp [h1]
   obtain ⟨hxo, hxr⟩ := hqs _ (lM hs)
   rw [Df hs] at hin
   simp only [Bfs.inner] at hin
   rw [AG (by simp only; rw [List.length_map]; omega)]
   simp only [Bf, Bc, List.getElem?_map, hs, Option.map_some, oS]
   rw [Mb N hN h20 hp hxo]
   simp only [oS]
   have hok : ∀ x, x ∈ DB l → B3 p x := fun x hx => by obtain ⟨q, h1, rfl⟩ := H5.1 hx; exact (hA q h1).1
   rw [MW hp hxo hok]
   have hany : ((DB l).any fun y => decide (y = qs[k].2)) = l.any fun n => decide (n.1 = qs[k].2) := by
    unfold DB; rw [List.any_map]; rfl
   rw [hany]
   have hput : Bfs.put i l qs[k] = if (l.any fun n => decide (n.1 = qs[k].2)) = true then l else l ++ [(qs[k].2, (i : Int), qs[k].1)] := rfl
   split at hin
   ·cases hin
   ·rename_i hb
    have hA2 : ∀ n, n ∈ Bfs.put i l qs[k] → B3 p n.1 ∧ Br p n.1 = true := fun n hn => by
     rcases Qs hn with h | h
     ·exact hA n h
     ·rw [h]; exact ⟨hxo, hxr⟩
    have main := Vf hN h20 hp (m := m) hmo ss qs hqs hsl j n (k + 1) (Bfs.put i l qs[k]) l' (by omega) (by omega) hA2 (by omega) hin
    cases ha : (l.any fun n => decide (n.1 = qs[k].2))
    ·rw [ha] at hput
     rw [if_neg (by simp)] at hput ⊢
     simp only [Option.getD_none, Bool.not_false, AN]
     rw [AI (by rw [Gk]; simp [Eg]; omega), AT (by omega)]
     have e : DB l ++ [qs[k].2] = DB (Bfs.put i l qs[k]) := by rw [hput]; simp [DB]
     rw [Lo _ _ (by rw [MW hp hxo hok, hany, ha, if_neg (by simp)]), ← Vh, e]
     exact main
    ·rw [ha] at hput
     rw [if_pos rfl] at hput ⊢
     simp only [Option.getD_some, Bool.not_true, Aw]
     rw [AT (by omega)]
     rw [hput] at main
     exact main
  ·have : k = qs.length := by omega
   subst this
   rw [List.drop_eq_nil_of_le (Nat.le_refl _)] at hin
   cases hin
   rw [AC (by simp)]
theorem RV {N : Nat} (hN : N ≤ 1000000) (h20 : 100 ≤ N) {p : Ah} (hv : CR p = 0) {most : Nat} (hmo : most ≤ 20000) (j : List Af → Option (List Af × Int)) :
  ∀ (n i : Nat) (l l' : List Pb), i ≤ l.length → (∀ n, n ∈ l → B3 p n.1 ∧ Br p n.1 = true) → l.length ≤ most → Bfs.go (Kq p) most n i l = some l' →
   D0 N p j n (DB l, RY (DB l), (i : Int)) = j (DB l')
 | 0, i, l, l', hi, _, hlm, hg => by cases hg
 | n + 1, i, l, l', hi, hA, hlm, hg => by
  obtain ⟨hp, _⟩ := DA hv
  simp only [Bfs.go] at hg
  rw [D0]
  by_cases h1 : i < l.length
  ·obtain ⟨⟨m, f, t⟩, hx⟩ := Bfs.get_ex h1
   have hm := (hA _ (lM hx)).1
   rw [hx] at hg
   simp only at hg
   cases hin : Bfs.inner most i (Kq p m) l with
   | none => rw [hin] at hg; cases hg
   | some l1 =>
    rw [hin] at hg
    simp only [oS] at hg
    rw [AG (by simp only; rw [Gk]; omega)]
    simp only [Bc, OD hx, oS]
    rw [W8 N hN h20 hv hm]
    simp only [oS]
    have hsl := WK hp m
    have e := Vf hN h20 hp (m := m) hmo ((Kq p m).map (·.1)) (Kq p m) (fun q hq => Oe hp hm hq) (by omega) (fun (v12 : (List Af) × (List (ByteArray × Bool))) =>
     AW ((decide (20000 < (v12.1.length : Int)))) (some (([] : List Af), 3)) (D0 N p j n (v12.1, v12.2, (wI .i64 ((i : Int) + 1))))) N 0 l l1 (Nat.zero_le _) (by omega) hA hlm (by rw [List.drop_zero]; exact hin)
    refine e.trans ?_
    have hk := Kl hin (fun q hq => Oe hp hm hq) hA
    have hl1 := Bfs.inner_len _ _ _ hlm hin
    simp only
    rw [AC (by rw [Gk]; omega), AT (by omega)]
    exact RV hN h20 hv hmo j n (i + 1) l1 l' (by have := Bfs.lt_get (hk.2 i _ hx); omega) hk.1 hl1 hg
  ·have : l[i]? = none := by rw [List.getElem?_eq_none]; omega
   rw [this] at hg
   cases hg
   rw [AC (by simp only; rw [Gk]; omega)]
theorem T9 {p : Ah} {m : Af} {l : List Pb} {ws : List (List As)} (h : aY p m l ws) : (DB l).Nodup := by
 rw [List.Nodup, List.pairwise_iff_getElem]
 intro a b ha hb hab e
 have h1 : (DB l)[a]? = some (DB l)[a] := by simp [ha]
 have h2 : (DB l)[b]? = some (DB l)[b] := by simp [hb]
 unfold DB at h1 h2
 rw [List.getElem?_map] at h1 h2
 cases ha' : l[a]? with
 | none => rw [ha'] at h1; cases h1
 | some x =>
  cases hb' : l[b]? with
  | none => rw [hb'] at h2; cases h2
  | some y =>
   rw [ha'] at h1; rw [hb'] at h2
   simp only [Option.map_some, Option.some.injEq] at h1 h2
   obtain ⟨x1, x2, x3⟩ := x
   obtain ⟨y1, y2, y3⟩ := y
   simp only at h1 h2
   have : x1 = y1 := by rw [h1, h2]; exact e
   subst this
   exact absurd (h.inv.nodup a b _ _ _ _ _ ha' hb') (by omega)
theorem SY {p : Ah} {m : Af} {l : List Pb} {ws : List (List As)} (h : aY p m l ws) {r : List Af} (hp1 : r.Perm (DB l)) (hp2 : r.Pairwise (fun x y => EU x y ≤ 0)) : r = CQ [] (DB l) := by
 have hn : r.Nodup := hp1.nodup_iff.2 (T9 h)
 refine O4 LS _ _ (Un LS (fun x y h => I5 h) r hp2 hn) (Iq List.Pairwise.nil) fun x => ?_
 rw [hp1.mem_iff, Jc]
 simp
theorem NL {N : Nat} (hN : N ≤ 1000000) (h20 : 1010 ≤ N) {p : Ah} (hv : CR p = 0) {most : Nat} (h1 : 1 ≤ most) (hmo : most ≤ 1000) :
  (Br p (El p) = false → E4 N p = some ([], 0)) ∧
  (Br p (El p) = true → ∀ l, L2 p (El p) most N = some l → E4 N p = some (CQ [] (DB l), 0)) := by
 obtain ⟨hp, _⟩ := DA hv
 have hs := Lj hv
 have est : GK N p = some (El p, Br p (El p), 0) := by
  unfold GK
  rw [Mw N p hN (by omega), if_pos hv, hv]
  simp only [oS, bne_self_eq_false, Aw]
  rw [Hm N p _ hN (by omega) (Kb hs) (H0 hv hs)]
  rfl
 unfold E4
 rw [est]
 simp only [oS, Bf, bne_self_eq_false, Aw]
 refine ⟨fun hr => by rw [hr]; rfl, fun hr l hg => ?_⟩
 rw [hr]
 simp only [Bool.not_true, Aw]
 rw [Mb N hN (by omega) hp hs]
 simp only [oS]
 have e := RV hN (by omega) hv (by omega : most ≤ 20000) (fun (v7 : (List Af)) =>
    (BU N v7 ((fun (x : Af × Af) => BR N x.1 x.2))).bind fun v21 =>
    some (v21, 0)) N 0 [(El p, -1, RS)] l (Nat.zero_le _) (Me hs hr) (by simpa using h1) hg
 refine Eq.trans e ?_
 obtain ⟨ws, hreg⟩ := V9 hp hs hr hg
 have hA := Ln hp _ _ _ _ hg (Me hs hr)
 have hl := Bfs.go_len _ _ _ _ (by simpa using h1) hg
 obtain ⟨r, e1, e2, e3⟩ := U1 hN h20 hp (DB l) (by rw [Gk]; omega) (fun x hx => by obtain ⟨q, h1, rfl⟩ := H5.1 hx; exact (hA q h1).1)
 rw [e1]
 simp only [oS]
 rw [SY hreg e2 e3]
structure TY (m : Af) : Prop where
 base : m.fd.length ≤ 100
 next : m.fa.length ≤ 100
 held : m.fe.length ≤ 100
 u8 : MO KH m.fe
theorem B3.lok {p : Ah} (hp : BB p) {m : Af} (h : B3 p m) : TY m := by
 have hnv := hp.nv
 have hnt := hp.nt
 exact ⟨by rw [h.base]; omega, by rw [h.next]; omega, by rw [h.held]; omega, Kb h⟩
theorem Vx {N : Nat} (hN : N ≤ 1000000) (h20 : 1010 ≤ N) {a b : Af} (ha : TY a) (hb : TY b) : Ca N a b = some (EU a b) :=
 Nq hN (by have := ha.base; omega) (by have := ha.next; omega) (by have := ha.held; omega) (by have := hb.held; omega) ha.u8 hb.u8
theorem S7 {N : Nat} (hN : N ≤ 1000000) (h20 : 1010 ≤ N) {a b : Af} (ha : TY a) : BR N a b = some (EU a b) :=
 Ny hN (by have := ha.base; omega) (by have := ha.next; omega) (by have := ha.held; omega) (by omega)
def Fl (x : Af) : List Af → Nat
 | [] => 0
 | y :: ys => if EU y x < 0 then Fl x ys + 1 else 0
def L7 (x : Af) : List Af → Bool
 | [] => false
 | y :: ys => if EU y x < 0 then L7 x ys else EU y x == 0
theorem PO (x : Af) : ∀ l : List Af, Fl x l ≤ l.length
 | [] => Nat.le_refl _
 | y :: ys => by
  have := PO x ys
  simp only [Fl]; split
  ·simp only [List.length_cons]; omega
  ·omega
theorem Ol (x : Af) : ∀ l : List Af, L7 x l = match l[Fl x l]? with
  | none => false
  | some y => EU y x == 0
 | [] => rfl
 | y :: ys => by
  simp only [Fl, L7]
  split
  ·rw [List.getElem?_cons_succ]; exact Ol x ys
  ·rfl
theorem JS {x : Af} : ∀ {l : List Af}, GH EU l → L7 x l = decide (x ∈ l)
 | [], _ => by simp [L7]
 | y :: ys, h => by
  obtain ⟨h1, h2⟩ := List.pairwise_cons.1 h
  simp only [L7]
  split
  ·rename_i hy
   rw [JS h2]
   have : y ≠ x := fun e => by rw [e, Lm] at hy; omega
   rw [Bool.eq_iff_iff, decide_eq_true_eq, decide_eq_true_eq, List.mem_cons]
   exact ⟨.inr, fun h => h.resolve_left fun e => this e.symm⟩
  ·rename_i hy
   rw [Bool.eq_iff_iff, beq_iff_eq, decide_eq_true_eq, List.mem_cons]
   constructor
   ·intro e; exact .inl (I5 e).symm
   ·rintro (rfl | hx)
    ·exact Lm _
    ·exact absurd (h1 x hx) hy
theorem PT {x : Af} : ∀ {l : List Af}, GH EU l → x ∉ l → l.take (Fl x l) ++ [x] ++ l.drop (Fl x l) = KK x l
 | [], _, _ => rfl
 | y :: ys, h, hx => by
  obtain ⟨h1, h2⟩ := List.pairwise_cons.1 h
  have hne : EU y x ≠ 0 := fun e => hx (by rw [I5 e]; simp)
  simp only [Fl, KK]
  rw [if_neg hne]
  split
  ·rename_i hy
   rw [if_neg (by omega)]
   simp only [List.take_succ_cons, List.drop_succ_cons, List.cons_append]
   rw [PT h2 fun h => hx (by simp [h])]
  ·rename_i hy
   rw [if_pos (by omega)]; rfl
theorem OU {N : Nat} (hN : N ≤ 1000000) (h20 : 1010 ≤ N) {x : Af} (hx : TY x) (l : List Af) (hl : l.length ≤ 100000) (hA : ∀ y, y ∈ l → TY y) (J : Int → Option (Int × Bool)) : ∀ (n i : Nat), l.length - i < n → i ≤ l.length →
  Dq N l x J n (i : Int) = J (((i + Fl x (l.drop i) : Nat)) : Int)
 | 0, i, h, _ => by omega
 | n + 1, i, h, hi => by
  rw [Dq]
  simp only [Bf]
  by_cases h1 : i < l.length
  ·have hy : l[i]? = some l[i] := by simp [h1]
   rw [AG (by omega), Df hy]
   simp only [Bc, hy, oS]
   rw [Vx hN h20 (hA _ (lM hy)) hx]
   simp only [oS, Fl]
   by_cases e : EU l[i] x < 0
   ·rw [AG e, if_pos e, AT (by omega), OU hN h20 hx l hl hA J n (i + 1) (by omega) (by omega)]
    rw [show i + 1 + Fl x (l.drop (i + 1)) = i + (Fl x (l.drop (i + 1)) + 1) from by omega]
   ·rw [AC e, if_neg e]; rfl
  ·rw [AC (by omega), Aw, List.drop_eq_nil_of_le (by omega)]
   rfl
theorem Vo {N : Nat} (hN : N ≤ 1000000) (h20 : 1010 ≤ N) {x : Af} (hx : TY x) (l : List Af) (hl : l.length ≤ 100000) (hl2 : l.length < N) (hA : ∀ y, y ∈ l → TY y) : ET N l x = some (((Fl x l : Nat) : Int), L7 x l) := by
 unfold ET
 have e := OU hN h20 hx l hl hA (fun (v2 : Int) =>
  Bh (fun (v8 : Bool) =>
   some (v2, v8))
  fun j8 =>
  AW ((decide (v2 < (l.length : Int))))
   ((Bg l v2).bind fun v10 =>
   (Ca N v10 x).bind fun v11 =>
   j8 (v11 == 0))
   (j8 false)) N 0 (by omega) (Nat.zero_le _)
 refine Eq.trans e ?_
 simp only [Bf, List.drop_zero, Nat.zero_add]
 rw [Ol]
 cases hx2 : l[Fl x l]? with
 | none =>
  have : l.length ≤ Fl x l := List.getElem?_eq_none_iff.1 hx2
  rw [AC (by omega)]
 | some y =>
  have := (lI.1 hx2).1
  rw [AG (by omega)]
  simp only [Bc, hx2, oS]
  rw [Vx hN h20 (hA _ (lM hx2)) hx]
  rfl
theorem Vm {n : Nat} : Eh .u64 (n : Int) 1 = ((n / 2 : Nat) : Int) := by
 unfold Eh
 have : (2 : Int) ^ min (1 : Int).toNat (IntKind.bits .u64) = 2 := by decide
 rw [this, Int.fdiv_eq_ediv_of_nonneg _ (by omega)]
 omega
theorem Wy {i j : Nat} (h : i + j ≤ 1000000) : wI .i64 (Eh .u64 (wI .u64 (wI .i64 ((i : Int) + (j : Int)))) 1) = (((i + j) / 2 : Nat) : Int) := by
 rw [CM (n := (i : Int) + j) (by omega) (by omega), show (i : Int) + (j : Int) = ((i + j : Nat) : Int) from by omega, JH (by omega), Vm, CM (by omega) (by omega)]
theorem P9 {N : Nat} (hN : N ≤ 1000000) (h20 : 1010 ≤ N) {x : Af} (l : List Af) (hl : l.length ≤ 100000) (hA : ∀ y, y ∈ l → TY y) (hs : GH EU l) (J : Int → Option (Int × Bool)) : ∀ (n i j : Nat), j - i < n → i ≤ j → j ≤ l.length → (∀ k y, k < i → l[k]? = some y → EU y x < 0) → (∀ k y, j ≤ k → l[k]? = some y → ¬ EU y x < 0) →
  A0 N l x (fun (x : Af × Af) => BR N x.1 x.2) J n ((i : Int), (j : Int)) = J ((Fl x l : Nat) : Int)
 | 0, i, j, h, _, _, _, _ => by omega
 | n + 1, i, j, h, hij, hj, h1, h2 => by
  rw [A0]
  by_cases hlt : i < j
  ·have hh : (i + j) / 2 < l.length := by omega
   have hy : l[(i + j) / 2]? = some l[(i + j) / 2] := by simp [hh]
   rw [AG (by simp only; omega)]
   simp only [Wy (show i + j ≤ 1000000 by omega), Bc, hy, oS]
   rw [S7 hN h20 (hA _ (lM hy))]
   simp only [oS]
   have hlt2 : ∀ (a b : Nat) u v, a < b → l[a]? = some u → l[b]? = some v → EU u v < 0 := fun a b u v hab ha hb => by
    obtain ⟨ha1, rfl⟩ := lI.1 ha
    obtain ⟨hb1, rfl⟩ := lI.1 hb
    exact List.pairwise_iff_getElem.1 hs a b ha1 hb1 hab
   by_cases e : EU l[(i + j) / 2] x < 0
   ·rw [AG e, AT (by omega)]
    exact P9 hN h20 l hl hA hs J n ((i + j) / 2 + 1) j (by omega) (by omega) hj (fun k y hk hky => by
     by_cases hk2 : k = (i + j) / 2
     ·subst hk2; rw [hy] at hky; cases hky; exact e
     ·exact LS.lt1 (hlt2 k _ _ _ (by omega) hky hy) (by omega)) h2
   ·rw [AC e]
    exact P9 hN h20 l hl hA hs J n i ((i + j) / 2) (by omega) (by omega) (by omega) h1 (fun k y hk hky => by
     by_cases hk2 : k = (i + j) / 2
     ·subst hk2; rw [hy] at hky; cases hky; exact e
     ·intro hc
      exact e (LS.lt1 (hlt2 _ k _ _ (by omega) hy hky) (by omega)))
  ·have : i = j := by omega
   subst this
   rw [AC (by simp only; omega)]
   have key : ∀ (l : List Af) (i : Nat), i ≤ l.length → (∀ k y, k < i → l[k]? = some y → EU y x < 0) → (∀ k y, i ≤ k → l[k]? = some y → ¬ EU y x < 0) → Fl x l = i := by
    intro l
    induction l with
    | nil => intro i hi _ _; simp at hi; subst hi; rfl
    | cons y ys ih =>
     intro i hi g1 g2
     simp only [Fl]
     cases i with
     | zero => rw [if_neg (g2 0 y (Nat.le_refl _) rfl)]
     | succ i =>
      rw [if_pos (g1 0 y (by omega) rfl), ih i (by simpa using hi) (fun k z hk hz => g1 (k + 1) z (by omega) (by simpa using hz)) (fun k z hk hz => g2 (k + 1) z (by omega) (by simpa using hz))]
   rw [key l i hj h1 h2]
theorem PD {N : Nat} (hN : N ≤ 1000000) (h20 : 1010 ≤ N) {x : Af} (l : List Af) (hl : l.length ≤ 100000) (hl2 : l.length < N) (hA : ∀ y, y ∈ l → TY y) (hs : GH EU l) : Fj N l x = some (decide (x ∈ l)) := by
 unfold Fj BF
 have e := P9 hN h20 (x := x) l hl hA hs (fun (v2 : Int) =>
  Bh (fun (v7 : Bool) =>
   some (v2, v7))
  fun j7 =>
  AW ((decide (v2 < (l.length : Int))))
   ((Bg l v2).bind fun v9 =>
   (BR N v9 x).bind fun v10 =>
   j7 (v10 == 0))
   (j7 false)) N 0 l.length (by omega) (Nat.zero_le _) (Nat.le_refl _) (fun k y hk => by omega) (fun k y hk hy => by
    have := (lI.1 hy).1; omega)
 have e' : A0 N l x (fun (x : Af × Af) => BR N x.1 x.2) (fun (v2 : Int) =>
  Bh (fun (v7 : Bool) =>
   some (v2, v7))
  fun j7 =>
  AW ((decide (v2 < (l.length : Int))))
   ((Bg l v2).bind fun v9 =>
   (BR N v9 x).bind fun v10 =>
   j7 (v10 == 0))
   (j7 false)) N (0, (l.length : Int)) = _ := e
 rw [e']
 rw [← JS hs, Ol]
 simp only [Bf]
 cases hx2 : l[Fl x l]? with
 | none =>
  have : l.length ≤ Fl x l := List.getElem?_eq_none_iff.1 hx2
  rw [AC (by omega)]; rfl
 | some y =>
  have := (lI.1 hx2).1
  rw [AG (by omega)]
  simp only [Bc, hx2, oS]
  rw [S7 hN h20 (hA _ (lM hx2))]
  rfl
theorem OW {N : Nat} (hN : N ≤ 1000000) (h20 : 100 ≤ N) {p : Ah} {m : Af} (hw : MO KH m.fe) : DW N p m = some (if B7 p m = 0 then (Br p m, 0) else (false, B7 p m)) := by
 by_cases hv : B7 p m = 0
 ·rw [if_pos hv]; exact Hm N p m hN h20 hw hv
 ·have hb : (B7 p m == 0) = false := beq_eq_false_iff_ne.2 hv
  have hn : (B7 p m != 0) = true := bne_iff_ne.2 hv
  have c3 : FO N p m = some ([], B7 p m) := by
   unfold FO; rw [H1 N p m hN (by omega) hw]; simp only [oS, hn, AN]
  have c4 : FB N p m = some (Hi, TC, B7 p m) := by
   unfold FB; rw [c3]; simp only [oS, hn, AN]; rfl
  rw [if_neg hv]
  unfold DW; rw [c4]; simp only [oS, hb, Aw]
  rw [beq_eq_false_iff_ne.2 (by have := Qb p m; omega : B7 p m ≠ 15)]; rfl
def Si (p : Ah) (o : Option Af) (m : Af) : Bool := (match o with | none => true | some y => decide (EU y m < 0)) && (B7 p m == 0 && (Br p m && !H3 p m))
def JD (p : Ah) : Option Af → List Af → Bool
 | _, [] => true
 | o, m :: ms => Si p o m && JD p (some m) ms
def PR (p : Ah) (q : Af → Bool) (m : Af) : Bool := (F0 p m).all fun s => !Br p (BV p m s).1 || q (BV p m s).1
theorem T6 {p : Ah} {o : Option Af} {m : Af} (h : Si p o m = true) : (∀ y, o = some y → EU y m < 0) ∧ B7 p m = 0 ∧ Br p m = true ∧ H3 p m = false := by
 unfold Si at h
 rw [Bool.and_eq_true, Bool.and_eq_true, Bool.and_eq_true] at h
 obtain ⟨h1, h2, h3, h4⟩ := h
 refine ⟨fun y hy => ?_, beq_iff_eq.1 h2, h3, by simpa using h4⟩
 subst hy
 exact of_decide_eq_true h1
theorem RZ {p : Ah} : ∀ {ms : List Af} {o : Option Af}, JD p o ms = true → GH EU ms ∧ (∀ y, o = some y → ∀ z, z ∈ ms → EU y z < 0) ∧ ∀ m, m ∈ ms → B7 p m = 0 ∧ Br p m = true ∧ H3 p m = false
 | [], _, _ => ⟨List.Pairwise.nil, fun _ _ _ hz => (List.not_mem_nil hz).elim, fun _ hm => (List.not_mem_nil hm).elim⟩
 | m :: ms, o, h => by
  simp only [JD] at h
  rw [Bool.and_eq_true] at h
  obtain ⟨h1, h2⟩ := h
  obtain ⟨g1, g2, g3, g4⟩ := T6 h1
  obtain ⟨k1, k2, k3⟩ := RZ h2
  refine ⟨List.pairwise_cons.2 ⟨k2 m rfl, k1⟩, fun y hy z hz => ?_, fun x hx => ?_⟩
  ·rcases List.mem_cons.1 hz with rfl | hz
   ·exact g1 y hy
   ·have a1 := g1 y hy
    have a2 := k2 m rfl z hz
    exact LS.lt1 a1 (by omega)
  ·rcases List.mem_cons.1 hx with rfl | hx
   ·exact ⟨g2, g3, g4⟩
   ·exact k3 x hx
theorem Tv {p : Ah} : ∀ {ms : List Af} {o : Option Af}, GH EU ms → (∀ y, o = some y → ∀ z, z ∈ ms → EU y z < 0) → (∀ m, m ∈ ms → B7 p m = 0 ∧ Br p m = true ∧ H3 p m = false) → JD p o ms = true
 | [], _, _, _, _ => rfl
 | m :: ms, o, h, ho, ha => by
  obtain ⟨h1, h2⟩ := List.pairwise_cons.1 h
  obtain ⟨g2, g3, g4⟩ := ha m (by simp)
  simp only [JD]
  rw [Tv h2 (fun y hy z hz => by cases hy; exact h1 z hz) fun x hx => ha x (by simp [hx]), Bool.and_true]
  unfold Si
  rw [g2, g3, g4]
  cases o with
  | none => rfl
  | some y => simp only [decide_eq_true (ho y rfl m (by simp))]; rfl
def Rn (p : Ah) (l : List Af) : Bool :=
 if Br p (El p) = true then JD p none l && (decide (El p ∈ l) && l.all (PR p fun x => decide (x ∈ l))) else l.isEmpty
def Vg (l : List Af) : Nat → Option Af
 | 0 => none
 | i + 1 => l[i]?
theorem Sp {N : Nat} (hN : N ≤ 1000000) (h20 : 1010 ≤ N) (p : Ah) (l : List Af) (hl : l.length ≤ 100000) (hA : ∀ y, y ∈ l → TY y) (J : Unit → Option Bool) : ∀ (n i : Nat), l.length - i < n → i ≤ l.length →
  EH N p l J n (i : Int) = AW (JD p (Vg l i) (l.drop i)) (J ()) (some false)
 | 0, i, h, _ => by omega
 | n + 1, i, h, hi => by
  rw [EH]
  simp only [Bf]
  by_cases h1 : i < l.length
  ·have hy : l[i]? = some l[i] := by simp [h1]
   have hyo := hA _ (lM hy)
   rw [AG (by omega), Df hy]
   simp only [Bc, hy, oS, JD]
   rw [OW hN (by omega) hyo.u8, Ni N p _ hN (by omega) hyo.u8]
   have ih := Sp hN h20 p l hl hA J n (i + 1) (by omega) (by omega)
   have hp1 : Vg l (i + 1) = some l[i] := hy
   rw [hp1] at ih
   rw [AT (by omega), ih]
   have body : (if B7 p l[i] = 0 then (Br p l[i], (0 : Int)) else (false, B7 p l[i])).1 = (B7 p l[i] == 0 && Br p l[i]) := by
    by_cases hv : B7 p l[i] = 0
    ·rw [if_pos hv, hv]; rfl
    ·rw [if_neg hv, beq_eq_false_iff_ne.2 hv]; rfl
   have body2 : (B7 p l[i] == 0) = true → (if B7 p l[i] = 0 then (Br p l[i], (0 : Int)) else (false, B7 p l[i])).2 = 0 := fun hv => by
    rw [if_pos (beq_iff_eq.1 hv)]
   have fin : ∀ b : Bool, (AW b (some false) ((some (if B7 p l[i] = 0 then (Br p l[i], (0 : Int)) else (false, B7 p l[i]))).bind fun v14 =>
     AW (!v14.1) (AW true (some false) (AW (JD p (some l[i]) (l.drop (i + 1))) (J ()) (some false)))
      (AW (v14.2 != 0) (AW true (some false) (AW (JD p (some l[i]) (l.drop (i + 1))) (J ()) (some false)))
       ((some (H3 p l[i])).bind fun v18 => AW v18 (some false) (AW (JD p (some l[i]) (l.drop (i + 1))) (J ()) (some false)))))) =
     AW (!b && (B7 p l[i] == 0 && (Br p l[i] && !H3 p l[i])) && JD p (some l[i]) (l.drop (i + 1))) (J ()) (some false) := by
    intro b
    simp only [oS]
    rw [body]
    cases b
    ·cases hv : B7 p l[i] == 0
     ·simp [AW]
     ·rw [body2 hv]
      cases Br p l[i] <;> cases H3 p l[i] <;> simp [AW]
    ·simp [AW]
   cases i with
   | zero =>
    rw [AC (by omega)]
    refine Eq.trans (fin false) ?_
    rfl
   | succ q =>
    have hq : l[q]? = some l[q] := by simp [show q < l.length by omega]
    rw [AG (by omega), Um (by omega)]
    simp only [Bc, hq, oS]
    rw [S7 hN h20 (hA _ (lM hq))]
    simp only [oS]
    refine Eq.trans (fin (decide (0 ≤ EU l[q] l[q + 1]))) ?_
    have hp2 : Vg l (q + 1) = some l[q] := hq
    rw [hp2]
    unfold Si
    simp only
    by_cases hc : EU l[q] l[q + 1] < 0
    ·rw [decide_eq_true hc, decide_eq_false (by omega)]; rfl
    ·rw [decide_eq_false hc, decide_eq_true (by omega)]; rfl
  ·rw [AC (by omega), List.drop_eq_nil_of_le (by omega)]; rfl
theorem TS {N : Nat} (hN : N ≤ 1000000) (h20 : 1010 ≤ N) {p : Ah} (hv : CR p = 0) (l : List Af) (hl : l.length ≤ 100000) (hl2 : l.length < N) (hA : ∀ y, y ∈ l → TY y) (hs : GH EU l) {m : Af} (hm : B3 p m) (ss : List As) (e : Int) (hss : ∀ s, s ∈ ss → s ∈ F0 p m) (hsl : ss.length ≤ 1000) (J : Unit → Option Bool) : ∀ (n i : Nat), ss.length - i < n → i ≤ ss.length →
  Eo N p l m (ss, e) J n (i : Int) = AW ((ss.drop i).all fun s => !Br p (BV p m s).1 || decide ((BV p m s).1 ∈ l)) (J ()) (some false)
 | 0, i, h, _ => by omega
 | n + 1, i, h, hi => by
  obtain ⟨hp, _⟩ := DA hv
  rw [Eo]
  simp only [Bf]
  by_cases h1 : i < ss.length
  ·have hy : ss[i]? = some ss[i] := by simp [h1]
   have hsm := hss _ (lM hy)
   have hxo := Lk hp hm (Ke hsm).2
   rw [AG (by first | omega | (simp only; omega)), Df hy]
   simp only [Bc, hy, oS, List.all_cons]
   rw [LI N hN (by omega) (Kb hm), if_pos (H0 hv hm)]
   simp only [oS]
   rw [Hm N p _ hN (by omega) (Kb hxo) (H0 hv hxo)]
   simp only [oS]
   rw [AT (by omega), TS hN h20 hv l hl hl2 hA hs hm ss e hss hsl J n (i + 1) (by omega) (by omega)]
   cases Br p (BV p m ss[i]).1
   ·rw [Aw, Aw]; simp
   ·rw [AN, PD hN h20 l hl hl2 hA hs]
    simp only [oS]
    cases decide ((BV p m ss[i]).1 ∈ l) <;> simp [AW]
  ·rw [AC (by first | omega | (simp only; omega)), List.drop_eq_nil_of_le (by omega)]; rfl
theorem R9 {N : Nat} (hN : N ≤ 1000000) (h20 : 1010 ≤ N) {p : Ah} (hv : CR p = 0) (l : List Af) (hl : l.length ≤ 100000) (hl2 : l.length < N) (hA : ∀ y, y ∈ l → TY y) (hs : GH EU l) (hM : ∀ y, y ∈ l → B7 p y = 0) (J : Unit → Option Bool) : ∀ (n i : Nat), l.length - i < n → i ≤ l.length →
  Ep N p l J n (i : Int) = AW ((l.drop i).all (PR p fun x => decide (x ∈ l))) (J ()) (some false)
 | 0, i, h, _ => by omega
 | n + 1, i, h, hi => by
  obtain ⟨hp, _⟩ := DA hv
  rw [Ep]
  by_cases h1 : i < l.length
  ·have hy : l[i]? = some l[i] := by simp [h1]
   have hyl := lM hy
   have hm := (Ju (hA _ hyl).u8 (hM _ hyl)).2
   rw [AG (by omega), Df hy]
   simp only [Bc, hy, oS, List.all_cons]
   rw [OM N hN (by omega) hv hm]
   simp only [oS]
   have hsl := Px hp l[i]
   rw [show (0 : Int) = ((0 : Nat) : Int) from rfl, TS hN h20 hv l hl hl2 hA hs hm (F0 p l[i]) _ (fun s hs => hs) (by omega) _ N 0 (by omega) (Nat.zero_le _), List.drop_zero, AT (by omega), R9 hN h20 hv l hl hl2 hA hs hM J n (i + 1) (by omega) (by omega)]
   show AW (PR p (fun x => decide (x ∈ l)) l[i]) _ _ = _
   cases PR p (fun x => decide (x ∈ l)) l[i] <;> simp
  ·rw [AC (by omega), List.drop_eq_nil_of_le (by omega)]; rfl
theorem KA {N : Nat} (hN : N ≤ 1000000) (h20 : 1010 ≤ N) {p : Ah} (hv : CR p = 0) (l : List Af) (hl : l.length ≤ 100000) (hl2 : l.length < N) (hA : ∀ y, y ∈ l → TY y) : Ey N p l = some (Rn p l) := by
 have hs := Lj hv
 unfold Ey Rn
 rw [Mw N p hN (by omega), if_pos hv, hv]
 simp only [oS, bne_self_eq_false, Aw]
 rw [Hm N p _ hN (by omega) (Kb hs) (H0 hv hs)]
 simp only [oS]
 cases hr : Br p (El p)
 ·rw [Bool.not_false, AN, if_neg (by simp)]
  cases l with
  | nil => rfl
  | cons x l => rw [beq_eq_false_iff_ne.2 (by simp only [List.length_cons]; omega)]; rfl
 ·rw [Bool.not_true, Aw, if_pos rfl, show (0 : Int) = ((0 : Nat) : Int) from rfl, Sp hN h20 p l hl hA _ N 0 (by omega) (Nat.zero_le _)]
  show AW (JD p none (l.drop 0)) _ _ = _
  rw [List.drop_zero]
  cases hg : JD p none l
  ·rfl
  ·obtain ⟨g1, _, g3⟩ := RZ hg
   rw [AN, PD hN h20 l hl hl2 hA g1, Bool.true_and]
   simp only [oS]
   cases decide (El p ∈ l)
   ·rfl
   ·rw [Bool.not_true, Aw, Bool.true_and, R9 hN h20 hv l hl hl2 hA g1 (fun y hy => (g3 y hy).1) _ N 0 (by omega) (Nat.zero_le _), List.drop_zero]
    cases l.all (PR p fun x => decide (x ∈ l)) <;> rfl
theorem Q7 (a xs : List Af) (x : Af) : CQ a (xs ++ [x]) = KK x (CQ a xs) := by
 induction xs generalizing a with
 | nil => rfl
 | cons y xs ih => exact ih (KK y a)
theorem Vc {N : Nat} (hN : N ≤ 1000000) (h20 : 1010 ≤ N) {p : Ah} (hp : BB p) {m : Af} (hm : B3 p m) {f : Int} {t : As} {most i : Nat} (hmo : most ≤ 20000) (hmN : most < N) {v4 : List Af × List Af × Int} (hv4 : v4.2.2 = (i : Int)) (ss : List As) (hss : ∀ s, s ∈ ss → s ∈ F0 p m) (hsl : ss.length ≤ 1000) (j : List Af × List Af → Option (List Af × Bool)) :
  ∀ (n k : Nat) (l : List Pb), k ≤ ss.length → ss.length - k < n → l[i]? = some (m, f, t) → (∀ n, n ∈ l → B3 p n.1 ∧ Br p n.1 = true) → l.length ≤ most →
   Cj N p (most : Int) v4 ss j n (DB l, CQ [] (DB l), (k : Int)) = match Bfs.inner most i (Ss p m (ss.drop k)) l with
    | none => some ([], false)
    | some l' => j (DB l', CQ [] (DB l'))
 | 0, k, l, _, h, _, _, _ => by omega
 | n + 1, k, l, hk, h, hi, hA, hlm => by
  have hlen : (CQ [] (DB l)).length ≤ l.length := by
   have := L1 (DB l) []
   rw [Gk] at this; simpa using this
  have hmem : ∀ x, x ∈ CQ [] (DB l) ↔ x ∈ DB l := fun x => by rw [Jc]; simp
  have hok : ∀ x, x ∈ DB l → B3 p x := fun x hx => by obtain ⟨q, h1, rfl⟩ := H5.1 hx; exact (hA q h1).1
  have hstr : GH EU (CQ [] (DB l)) := Iq List.Pairwise.nil
  by_cases h1 : k < ss.length
  ·have hs : ss[k]? = some ss[k] := by simp [h1]
   have hsm := hss _ (lM hs)
   have hxo := Lk hp hm (Ke hsm).2
   obtain ⟨b, ea⟩ := QK N hN (by omega) hp hm hsm
   rw [Cj, AG (by simp only; omega)]
   simp only [Bf, hv4, Bc, OD hi, hs, oS]
   rw [ea]
   simp only [oS]
   rw [Vo hN h20 (hxo.lok hp) (CQ [] (DB l)) (by omega) (by omega) (fun y hy => (hok y ((hmem y).1 hy)).lok hp), JS hstr]
   simp only [oS]
   rw [Df hs, Ro]
   have hput : Bfs.put i l (ss[k], (BV p m ss[k]).1) = if (l.any fun n => decide (n.1 = (BV p m ss[k]).1)) = true then l else l ++ [((BV p m ss[k]).1, (i : Int), ss[k])] := rfl
   have hany : (l.any fun n => decide (n.1 = (BV p m ss[k]).1)) = decide ((BV p m ss[k]).1 ∈ CQ [] (DB l)) := by
    rw [Bool.eq_iff_iff, decide_eq_true_eq, hmem, List.any_eq_true, H5]
    exact ⟨fun ⟨n, h1, h2⟩ => ⟨n, h1, of_decide_eq_true h2⟩, fun ⟨n, h1, h2⟩ => ⟨n, h1, decide_eq_true h2⟩⟩
   have next : ∀ (l' : List Pb), l'[i]? = some (m, f, t) → (∀ n, n ∈ l' → B3 p n.1 ∧ Br p n.1 = true) → l'.length ≤ most →
     Cj N p (most : Int) v4 ss j n (DB l', CQ [] (DB l'), wI .i64 ((k : Int) + 1)) = match Bfs.inner most i (Ss p m (ss.drop (k + 1))) l' with
     | none => some ([], false)
     | some l' => j (DB l', CQ [] (DB l')) := fun l' a1 a2 a3 => by
    rw [AT (by omega)]
    exact Vc hN h20 hp hm hmo hmN hv4 ss hss hsl j n (k + 1) l' (by omega) (by omega) a1 a2 a3
   rw [hany] at hput
   by_cases hin : (BV p m ss[k]).1 ∈ CQ [] (DB l)
   ·rw [decide_eq_true hin, AN, AN]
    rw [decide_eq_true hin, if_pos rfl] at hput
    rw [next l hi hA hlm]
    cases Br p (BV p m ss[k]).1
    ·rfl
    ·rw [if_pos rfl]
     simp only [Bfs.inner]
     rw [hput, if_neg (by omega)]
   ·rw [decide_eq_false hin, Aw, LD N p _ hN (by omega) hp hxo]
    simp only [oS]
    rw [decide_eq_false hin, if_neg (by simp)] at hput
    cases hr : Br p (BV p m ss[k]).1
    ·rw [Bool.not_false, AN, if_neg (by simp)]
     exact next l hi hA hlm
    ·rw [Bool.not_true, Aw, if_pos rfl]
     have hpl := PO (BV p m ss[k]).1 (CQ [] (DB l))
     simp only [Int.toNat_natCast, Nat.sub_zero, List.drop_zero, List.nil_append]
     rw [AI (by rw [Gk]; simp [Eg]; omega), AI ⟨by omega, by omega, hpl⟩, AI (by simp [Eg]; omega), AI (by simp [Eg]; omega), AI ⟨by omega, hpl, Nat.le_refl _⟩, AI (by simp [Eg]; omega)]
     have ht : ((CQ [] (DB l)).drop (Fl (BV p m ss[k]).1 (CQ [] (DB l)))).take ((CQ [] (DB l)).length - Fl (BV p m ss[k]).1 (CQ [] (DB l))) = (CQ [] (DB l)).drop (Fl (BV p m ss[k]).1 (CQ [] (DB l))) := List.take_of_length_le (by rw [List.length_drop]; omega)
     rw [ht, PT hstr hin]
     have e : DB l ++ [(BV p m ss[k]).1] = DB (Bfs.put i l (ss[k], (BV p m ss[k]).1)) := by rw [hput]; simp [DB]
     have e2 : KK (BV p m ss[k]).1 (CQ [] (DB l)) = CQ [] (DB (Bfs.put i l (ss[k], (BV p m ss[k]).1))) := by rw [← e, Q7]
     rw [e, e2]
     simp only [Bfs.inner]
     by_cases hb : most < (Bfs.put i l (ss[k], (BV p m ss[k]).1)).length
     ·rw [if_pos hb, AG (by rw [Gk]; omega)]
     ·rw [if_neg hb, AC (by rw [Gk]; omega)]
      refine next _ (Rj hi) (fun n hn => ?_) (by omega)
      rcases Qs hn with h | h
      ·exact hA n h
      ·rw [h]; exact ⟨hxo, hr⟩
  ·have : k = ss.length := by omega
   subst this
   rw [Cj, AC (by simp), List.drop_eq_nil_of_le (Nat.le_refl _)]
   rfl
theorem Q6 {N : Nat} (hN : N ≤ 1000000) (h20 : 1010 ≤ N) {p : Ah} (hv : CR p = 0) {most : Nat} (hmo : most ≤ 20000) (hmN : most < N) (j : List Af → Option (List Af × Bool)) :
  ∀ (n i : Nat) (l : List Pb), i ≤ l.length → (∀ n, n ∈ l → B3 p n.1 ∧ Br p n.1 = true) → l.length ≤ most → most < n + i →
   CK N p (most : Int) j n (DB l, CQ [] (DB l), (i : Int)) = match Bfs.go (Kq p) most n i l with
    | none => some ([], false)
    | some l' => j (CQ [] (DB l'))
 | 0, i, l, hi, _, hlm, hfu => by omega
 | n + 1, i, l, hi, hA, hlm, hfu => by
  obtain ⟨hp, _⟩ := DA hv
  simp only [Bfs.go]
  rw [CK]
  by_cases h1 : i < l.length
  ·obtain ⟨⟨m, f, t⟩, hx⟩ := Bfs.get_ex h1
   have hm := (hA _ (lM hx)).1
   rw [hx]
   simp only
   rw [AG (by rw [Gk]; omega)]
   simp only [Bc, OD hx, oS]
   rw [Qa N hN (by omega) hv hm]
   simp only [oS]
   have hsl := Px hp m
   have e := Vc hN h20 hp hm hmo hmN (v4 := (DB l, CQ [] (DB l), (i : Int))) rfl (F0 p m) (fun s hs => hs) (by omega) (fun (v10 : (List Af) × (List Af)) => CK N p (most : Int) j n (v10.1, v10.2, (wI .i64 ((i : Int) + 1)))) N 0 l (Nat.zero_le _) (by omega) hx hA hlm
   rw [List.drop_zero, show Ss p m (F0 p m) = Kq p m from rfl] at e
   refine e.trans ?_
   cases hin : Bfs.inner most i (Kq p m) l with
   | none => rfl
   | some l1 =>
    simp only [oS]
    rw [AT (by omega)]
    have hk := Kl hin (fun q hq => Oe hp hm hq) hA
    exact Q6 hN h20 hv hmo hmN j n (i + 1) l1 (by have := Bfs.lt_get (hk.2 i _ hx); omega) hk.1 (Bfs.inner_len _ _ _ hlm hin) (by omega)
  ·have : l[i]? = none := by rw [List.getElem?_eq_none]; omega
   rw [this, AC (by simp only; rw [Gk]; omega)]
theorem Q0 {N : Nat} (hN : N ≤ 1000000) (h20 : 1010 ≤ N) {p : Ah} (hv : CR p = 0) {most : Nat} (h1 : 1 ≤ most) (hmo : most ≤ 20000) (hmN : most < N) :
  EF N p (most : Int) = some (if Br p (El p) = true then (match L2 p (El p) most N with
   | none => ([], false)
   | some l => (CQ [] (DB l), true)) else ([], true)) := by
 obtain ⟨hp, _⟩ := DA hv
 have hs := Lj hv
 unfold EF
 rw [QN N p hN (by omega), if_pos hv]
 simp only [oS]
 rw [LD N p _ hN (by omega) hp hs]
 simp only [oS]
 cases hr : Br p (El p)
 ·rfl
 ·rw [Bool.not_true, Aw, if_pos rfl]
  have e := Q6 hN h20 hv hmo hmN (fun (v5 : (List Af)) => some (v5, true)) N 0 [(El p, -1, RS)] (Nat.zero_le _) (Me hs hr) (by simpa using h1) (by omega)
  refine e.trans ?_
  show (match L2 p (El p) most N with | none => _ | some l' => _) = _
  cases L2 p (El p) most N <;> rfl
theorem Mf {N : Nat} (hN : N ≤ 1000000) (h20 : 100 ≤ N) {p : Ah} (l : List Af) (hl : l.length ≤ 100000) (hA : ∀ x, x ∈ l → MO KH x.fe) : ∀ (n i : Nat), l.length - i < n → i ≤ l.length →
  C5 N p l (fun _ => some false) n (i : Int) = some ((l.drop i).any (H3 p))
 | 0, i, h, _ => by omega
 | n + 1, i, h, hi => by
  rw [C5]
  by_cases h1 : i < l.length
  ·have hy : l[i]? = some l[i] := by simp [h1]
   rw [AG (by omega), Df hy]
   simp only [Bc, hy, oS, List.any_cons]
   rw [R3 N p _ hN h20 (hA _ (lM hy))]
   simp only [oS]
   cases H3 p l[i]
   ·rw [Aw, AT (by omega), Mf hN h20 l hl hA n (i + 1) (by omega) (by omega), Bool.false_or]
   ·rfl
  ·rw [AC (by omega), List.drop_eq_nil_of_le (by omega)]; rfl
theorem OF {N : Nat} (hN : N ≤ 1000000) (h20 : 100 ≤ N) {p : Ah} (l : List Af) (hl : l.length ≤ 100000) (hl2 : l.length < N) (hA : ∀ x, x ∈ l → MO KH x.fe) : Em N p l = some (l.any (H3 p)) := by
 unfold Em
 have := Mf hN h20 (p := p) l hl hA N 0 (by omega) (Nat.zero_le _)
 rw [List.drop_zero] at this
 exact this
theorem QX {N : Nat} (hN : N ≤ 1000000) (l : List Af) (hl : l.length ≤ 100000) (hl2 : l.length < N) (f : Af → Option Bool) (g : Af → Bool) (hf : ∀ x, x ∈ l → f x = some (g x)) : B1 N l f = some (l.any g) := by
 have key : ∀ (n i : Nat), l.length - i < n → i ≤ l.length → ∃ r, Bp N l f (fun _ => some (-1)) n (i : Int) = some r ∧ decide (0 ≤ r) = (l.drop i).any g := by
  intro n
  induction n with
  | zero => intro i h; omega
  | succ n ih =>
   intro i h hi
   rw [Bp]
   by_cases h1 : i < l.length
   ·have hy : l[i]? = some l[i] := by simp [h1]
    rw [AG (by omega), Df hy]
    simp only [Bc, hy, oS, List.any_cons]
    rw [hf _ (lM hy)]
    simp only [oS]
    cases g l[i]
    ·rw [Aw, AT (by omega)]
     obtain ⟨r, e1, e2⟩ := ih (i + 1) (by omega) (by omega)
     exact ⟨r, e1, by rw [e2, Bool.false_or]⟩
    ·exact ⟨(i : Int), rfl, by rw [decide_eq_true (by omega)]; rfl⟩
   ·rw [AC (by omega), List.drop_eq_nil_of_le (by omega)]
    exact ⟨-1, rfl, rfl⟩
 obtain ⟨r, e1, e2⟩ := key N 0 (by omega) (Nat.zero_le _)
 unfold B1 CZ
 have e1' : Bp N l f (fun _ => some (-1)) N 0 = some r := e1
 rw [e1']
 simp only [oS]
 rw [e2, List.drop_zero]
theorem R4 {p : Ah} (hv : CR p = 0) (hr : Br p (El p) = true) {most n : Nat} {l : List Pb} (hg : L2 p (El p) most n = some l) (hno : (CQ [] (DB l)).any (H3 p) = false) : Rn p (CQ [] (DB l)) = true := by
 obtain ⟨hp, _⟩ := DA hv
 have hs := Lj hv
 obtain ⟨ws, hreg⟩ := V9 hp hs hr hg
 have hA := Ln hp _ _ _ _ hg (Me hs hr)
 have hmem : ∀ x, x ∈ CQ [] (DB l) ↔ x ∈ DB l := fun x => by rw [Jc]; simp
 have hA2 : ∀ x, x ∈ CQ [] (DB l) → B3 p x ∧ Br p x = true := fun x hx => by
  obtain ⟨n, h1, rfl⟩ := H5.1 ((hmem x).1 hx)
  exact hA n h1
 unfold Rn
 rw [if_pos hr, Tv (Iq List.Pairwise.nil) (fun y hy => by cases hy) fun m hm => ⟨H0 hv (hA2 m hm).1, (hA2 m hm).2, by
  rw [List.any_eq_false] at hno
  simpa using hno m hm⟩]
 rw [Bool.true_and, Bool.and_eq_true]
 refine ⟨decide_eq_true ((hmem _).2 ?_), List.all_eq_true.2 fun m hm => ?_⟩
 ·obtain ⟨s, hs⟩ := hreg.inv.root
  exact H5.2 ⟨_, lM hs, rfl⟩
 ·unfold PR
  rw [List.all_eq_true]
  intro s hs
  cases hrs : Br p (BV p m s).1
  ·rfl
  ·rw [Bool.not_true, Bool.false_or, decide_eq_true_eq, hmem]
   obtain ⟨n, hn, rfl⟩ := H5.1 ((hmem m).1 hm)
   obtain ⟨j, hj⟩ := List.mem_iff_getElem?.1 hn
   obtain ⟨y, f, s0⟩ := n
   have hjl := Bfs.lt_get hj
   obtain ⟨w, hw⟩ := Bfs.get_ex (l := ws) (k := j) (by rw [hreg.inv.len]; exact hjl)
   obtain ⟨k, f', s', w', h1, _⟩ := hreg.inv.closed j y f s0 w hj hw (s, (BV p y s).1) (.inl ⟨hjl, QV.2 ⟨hs, rfl, hrs⟩⟩)
   exact H5.2 ⟨_, lM h1, rfl⟩
theorem RN {N : Nat} (hN : N ≤ 1000000) (h20 : 1010 ≤ N) {p : Ah} (hv : CR p = 0) {A : List Af} (hr : E4 N p = some (A, 0)) (hA : ∀ x, x ∈ A → B3 p x) (hl : A.length ≤ 1000) : Fy N p = some (if A.any (H3 p) = true then ([], 15) else (A, 0)) := by
 unfold Fy
 rw [hr]
 simp only [oS, bne_self_eq_false, Aw]
 rw [QX hN A (by omega) (by omega) _ (H3 p) (fun x hx => by
  show Ei N x p.fb p.ff p.fh p.fc = _
  unfold Ei
  have e := Ni N p x hN (by omega) (Kb (hA x hx))
  rw [show (Ah.mk p.fb p.ff p.fh p.fc) = p from rfl, e]; rfl)]
 simp only [oS]
 cases A.any (H3 p) <;> rfl
theorem Pi (N : Nat) (hN : N ≤ 1000000) (h20 : 1010 ≤ N) (haw : Eb N = some true) (d : B5) (wd : FG d) : CV N d = some true := by
 obtain ⟨p, ok, e, hok⟩ := ba N d (by omega) (by omega) wd
 unfold CV FI
 rw [e]
 simp only [oS, Bf, haw, Bool.not_true, Aw]
 cases ok
 ·simp only [Bool.not_false, AN, oS]
 simp only [Bool.not_true, Aw]
 have hv := (hok rfl).valid
 obtain ⟨hp, _⟩ := DA hv
 have hs := Lj hv
 have e1 := Q0 hN h20 hv (most := 300) (by omega) (by omega) (by omega)
 obtain ⟨e2, e3⟩ := NL hN h20 hv (most := 300) (by omega) (by omega)
 rw [show (300 : Int) = ((300 : Nat) : Int) from rfl, e1]
 simp only [oS]
 cases hr : Br p (El p)
 ·rw [if_neg (by simp)]
  simp only [Bool.not_true, Aw]
  rw [RN hN h20 hv (e2 hr) (fun x hx => by cases hx) (by simp), OF hN (by omega) [] (by simp) (by simp only [List.length_nil]; omega) (fun x hx => by cases hx)]
  simp only [oS, List.any_nil, Bool.false_eq_true, if_false, Aw, beq_self_eq_true, AN]
  rw [P6 N [] hN (by simp only [List.length_nil]; omega) (fun x hx => by cases hx), KA hN h20 hv [] (by simp) (by simp only [List.length_nil]; omega) (fun x hx => by cases hx)]
  simp only [oS, AN]
  unfold Rn
  rw [hr]; rfl
 ·rw [if_pos rfl]
  cases hg : L2 p (El p) 300 N with
  | none => simp only [Bool.not_false, AN]
  | some l =>
   simp only [Bool.not_true, Aw]
   have hA := Ln hp _ _ _ _ hg (Me hs hr)
   have hl := Bfs.go_len _ _ _ _ (by simp) hg
   have hl2 : (CQ [] (DB l)).length ≤ l.length := by
    have := L1 (DB l) []
    rw [Gk] at this; simpa using this
   have hA2 : ∀ x, x ∈ CQ [] (DB l) → B3 p x := fun x hx => by
    rw [Jc] at hx
    obtain ⟨n, h1, rfl⟩ := H5.1 (hx.resolve_left (by simp))
    exact (hA n h1).1
   rw [RN hN h20 hv (e3 hr l hg) hA2 (by omega), OF hN (by omega) _ (by omega) (by omega) (fun x hx => Kb (hA2 x hx))]
   simp only [oS]
   cases hno : (CQ [] (DB l)).any (H3 p)
   ·simp only [Bool.false_eq_true, if_false, Aw, beq_self_eq_true, AN]
    rw [P6 N _ hN (by omega) (fun x hx => by
     rw [Ux hN (by omega) hp (hA2 x hx) (hA2 x hx), decide_eq_true rfl]), KA hN h20 hv _ (by omega) (by omega) (fun x hx => (hA2 x hx).lok hp), R4 hv hr hg hno]
    rfl
   ·simp only [if_true, AN, beq_self_eq_true]
    rfl
theorem Mc (d : B5) (wd : FG d) : CV 2000 d = some true := Pi 2000 (by omega) (by omega) Qp d wd
end Go.Lift
