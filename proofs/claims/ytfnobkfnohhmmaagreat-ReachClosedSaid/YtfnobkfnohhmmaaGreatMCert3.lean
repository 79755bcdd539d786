/- Lemmas for ReachClosedSaid, which YtfnobkfnohhmmaaGreatFinZ6 proves. -/
import Derived.Test.YtfnobkfnohhmmaaGreatMSort3
import Derived.KernelRfl
import Derived.Sort.AssemblyPlain
namespace Go.Lift
open IntKind renaming wrap → wI
open Option renaming bind_some → oS
open Go
open Go.Sort (swp order2 median medianAdjacent choosePivot Hint xorNext bitsLen breakStep breakPatterns pdq insertionSort heapSort reverseRange partialInsertionSort partitionEqual partition)
theorem Jl {n : Nat} (h : n < 18446744073709551616) : wI .u64 (n : Int) = (n : Int) := by
 show ((n : Int) % (18446744073709551616 : Int)) = n
 exact Int.emod_eq_of_lt (by omega) (by omega)
theorem U1 (n : Nat) : wI .u64 (n : Int) = ((n % 18446744073709551616 : Nat) : Int) := by
 show ((n : Int) % (18446744073709551616 : Int)) = _
 omega
theorem Ua (r : UInt64) : r.toNat < 18446744073709551616 := UInt64.toNat_lt r
theorem Xc (r : UInt64) : BitVec.ofInt 64 (r.toNat : Int) = r.toBitVec := by
 rw [BitVec.ofInt_natCast]
 apply BitVec.eq_of_toNat_eq
 rw [BitVec.toNat_ofNat]
 exact Nat.mod_eq_of_lt (Ua r)
theorem VM (r s : UInt64) : Gw .u64 (r.toNat : Int) (s.toNat : Int) = ((r ^^^ s).toNat : Int) := by
 show wI .u64 (((BitVec.ofInt 64 (r.toNat : Int) ^^^ BitVec.ofInt 64 (s.toNat : Int)).toNat : Nat) : Int) = _
 rw [Xc, Xc]
 exact Jl (BitVec.isLt _)
theorem R6 (r k : UInt64) (q : Nat) (hq : k.toNat = q) (h64 : q < 64) (hs : Cp .u64 (r.toNat : Int) (q : Int) = wI .u64 ((r.toNat : Int) * 2 ^ q)) : Cp .u64 (r.toNat : Int) (q : Int) = ((r <<< k).toNat : Int) := by
 rw [hs, UInt64.toNat_shiftLeft, hq, Nat.mod_eq_of_lt h64, Nat.shiftLeft_eq]
 rw [show ((r.toNat : Int) * 2 ^ q) = ((r.toNat * 2 ^ q : Nat) : Int) from by simp, U1]
theorem X8 (r : UInt64) : Cp .u64 (r.toNat : Int) 13 = ((r <<< 13).toNat : Int) := R6 r 13 13 rfl (by decide) rfl
theorem X2 (r : UInt64) : Cp .u64 (r.toNat : Int) 17 = ((r <<< 17).toNat : Int) := R6 r 17 17 rfl (by decide) rfl
theorem Zq (r : UInt64) : Em .u64 (r.toNat : Int) 7 = ((r >>> 7).toNat : Int) := by
 show (r.toNat : Int).fdiv (128 : Int) = _
 rw [UInt64.toNat_shiftRight, show (7 : UInt64).toNat % 64 = 7 from rfl, Nat.shiftRight_eq_div_pow]
 rw [Int.fdiv_eq_ediv_of_nonneg _ (by omega)]
 omega
theorem T4 (N : Nat) (r : UInt64) : DL N (r.toNat : Int) = some (((xorNext r).toNat : Int), ((xorNext r).toNat : Int)) := by
 unfold DL xorNext
 simp only [X8, VM, Zq, X2]
theorem Vq (r : UInt64) {m : Nat} (h : m < 18446744073709551616) : FF .u64 (r.toNat : Int) (m : Int) = ((r.toNat &&& m : Nat) : Int) := by
 show wI .u64 (((BitVec.ofInt 64 (r.toNat : Int) &&& BitVec.ofInt 64 (m : Int)).toNat : Nat) : Int) = _
 rw [Xc, BitVec.ofInt_natCast, BitVec.toNat_and, BitVec.toNat_ofNat, Nat.mod_eq_of_lt h]
 exact Jl (Nat.lt_of_le_of_lt Nat.and_le_left (Ua r))
theorem UX : ((List.range 1001).all fun n => decide (Dz 0 (n : Int) = some ((bitsLen n : Nat) : Int))) = true := by kernel_rfl
theorem X1 (N : Nat) : Dz N = Dz 0 := rfl
theorem Tx (N : Nat) {n : Nat} (h : n ≤ 1000) : Dz N (n : Int) = some ((bitsLen n : Nat) : Int) := by
 rw [X1]
 exact of_decide_eq_true (List.all_eq_true.1 UX n (List.mem_range.2 (by omega)))
theorem Sm {n : Nat} (h : n ≤ 1000) : bitsLen n ≤ 10 := by
 have : ((List.range 1001).all fun n => decide (bitsLen n ≤ 10)) = true := by kernel_rfl
 exact of_decide_eq_true (List.all_eq_true.1 this n (List.mem_range.2 (by omega)))
theorem RX {n : Nat} (h : n ≤ 1000) (h1 : 1 ≤ n) : n < 1 <<< bitsLen n ∧ 1 <<< bitsLen n ≤ 2 * n ∧ 2 ≤ 1 <<< bitsLen n := by
 have : ((List.range 1001).all fun n => decide (1 ≤ n → n < 1 <<< bitsLen n ∧ 1 <<< bitsLen n ≤ 2 * n ∧ 2 ≤ 1 <<< bitsLen n)) = true := by kernel_rfl
 exact of_decide_eq_true (List.all_eq_true.1 this n (List.mem_range.2 (by omega))) h1
theorem UE (N : Nat) {n : Nat} (h : n ≤ 1000) (h1 : 1 ≤ n) : Dt N (n : Int) = some ((1 <<< bitsLen n : Nat) : Int) := by
 unfold Dt
 rw [Jl (by omega), Tx N h]
 simp only [oS]
 rw [AA (by omega)]
 have hb := Sm h
 have := RX h h1
 have e : Cp .u64 1 ((bitsLen n : Nat) : Int) = wI .u64 (((1 <<< bitsLen n : Nat)) : Int) := by
  unfold Cp
  rw [show min (((bitsLen n : Nat) : Int)).toNat (IntKind.bits .u64) = bitsLen n from by
   rw [Int.toNat_natCast]; show min _ 64 = _; omega]
  rw [Nat.shiftLeft_eq]
  simp
 rw [e, Jl (by omega)]
section
variable {α : Type} [Inhabited α] {P : α → Prop} {cmp : α × α → Option Int} {c : α → α → Int}
theorem KP (N a b m : Nat) (hm : m < 1000000) {d : Array α} {r : UInt64} {idx0 : Nat} (hab : a + 8 ≤ b) (hb : b ≤ d.size) (hs : d.size ≤ 1000) (hml : b - a < m ∧ m ≤ 2 * (b - a)) (h0 : idx0 < d.size) (h1 : idx0 ≤ a + (b - a) / 4 * 2 + 1) (_h2 : a ≤ idx0) (J : List α → Option (List α)) (n : Nat) (hA : C0 P d) :
  Gs.breakPatterns_L3 N (a : Int) (b : Int) (m : Int) J (n + 1) (d.toList, (r.toNat : Int), (idx0 : Int)) = Gs.breakPatterns_L3 N (a : Int) (b : Int) (m : Int) J n ((breakStep a (b - a) m (r, d) idx0).2.toList, ((breakStep a (b - a) m (r, d) idx0).1.toNat : Int), ((idx0 + 1 : Nat) : Int)) ∧ (breakStep a (b - a) m (r, d) idx0).2.size = d.size ∧ C0 P (breakStep a (b - a) m (r, d) idx0).2 := by
 rw [Gs.breakPatterns_L3]
 have el : wI .i64 ((b : Int) - (a : Int)) = ((b - a : Nat) : Int) := wn (by omega) (by omega)
 have e4 : wI .i64 (Int.tdiv ((b - a : Nat) : Int) 4) = (((b - a) / 4 : Nat) : Int) := wn (by rw [Int.tdiv_eq_ediv_of_nonneg (by omega)]; omega) (by omega)
 have f2x : wI .i64 ((((b - a) / 4 : Nat) : Int) * 2) = (((b - a) / 4 * 2 : Nat) : Int) := wn (by omega) (by omega)
 have g2x : wI .i64 ((a : Int) + (((b - a) / 4 * 2 : Nat) : Int)) = ((a + (b - a) / 4 * 2 : Nat) : Int) := wn (by omega) (by omega)
 have e1 : wI .i64 (((a + (b - a) / 4 * 2 : Nat) : Int) + 1) = ((a + (b - a) / 4 * 2 + 1 : Nat) : Int) := wn (by omega) (by omega)
 simp only [el, e4, f2x, g2x, e1]
 rw [AC (by omega), T4]
 simp only [oS, A6]
 rw [show wI .u64 ((m : Int) - 1) = ((m - 1 : Nat) : Int) from by rw [show ((m : Int) - 1) = ((m - 1 : Nat) : Int) from by omega]; exact Jl (by omega)]
 rw [Vq _ (by omega)]
 have hle : (xorNext r).toNat &&& (m - 1) ≤ m - 1 := Nat.and_le_right
 unfold breakStep
 simp only
 generalize ho : (xorNext r).toNat &&& (m - 1) = o at hle
 rw [wn (e := ((o : Nat) : Int)) (n := o) rfl (by omega)]
 have fin : ∀ q : Nat, q < b - a → ((A9 d.toList (wI .i64 ((a : Int) + (q : Int)))).bind fun v9 => (A9 d.toList (idx0 : Int)).bind fun v10 => (A9 d.toList (idx0 : Int)).bind fun _ =>
   (A9 (d.toList.set ((idx0 : Int)).toNat v9) (wI .i64 ((a : Int) + (q : Int)))).bind fun _ =>
    Gs.breakPatterns_L3 N (a : Int) (b : Int) (m : Int) J n ((d.toList.set ((idx0 : Int)).toNat v9).set ((wI .i64 ((a : Int) + (q : Int)))).toNat v10, ((xorNext r).toNat : Int), (wI .i64 ((idx0 : Int) + 1)))) =
   Gs.breakPatterns_L3 N (a : Int) (b : Int) (m : Int) J n ((swp d idx0 (a + q)).toList, ((xorNext r).toNat : Int), ((idx0 + 1 : Nat) : Int)) ∧ (swp d idx0 (a + q)).size = d.size ∧ C0 P (swp d idx0 (a + q)) := by
  intro q hq
  have k1 : a + q < d.size := by omega
  rw [wn (e := (a : Int) + (q : Int)) (n := a + q) (by omega) (by omega), wn (e := (idx0 : Int) + 1) (n := idx0 + 1) (by omega) (by omega)]
  simp only [gi k1, gi h0, oS, Int.toNat_natCast]
  rw [Ip (by simp; omega), ← EB]
  exact ⟨rfl, Bi _ _ _, hA.swp h0 k1⟩
 by_cases hge : b - a ≤ o
 ·rw [AC (by omega), if_pos hge, wn (e := ((o : Nat) : Int) - ((b - a : Nat) : Int)) (n := o - (b - a)) (by omega) (by omega)]
  exact fin (o - (b - a)) (by omega)
 ·rw [Az (by omega), if_neg hge]
  exact fin o (by omega)
theorem Uz {N a b : Nat} {d : Array α} (hab : a + 8 ≤ b) (hb : b ≤ d.size) (hN : d.size < N) (hs : d.size ≤ 1000) (h6 : 6 ≤ N) (hA : C0 P d) :
  Gs.breakPatterns N d.toList (a : Int) (b : Int) cmp = some (breakPatterns d a b).toList ∧ (breakPatterns d a b).size = d.size ∧ C0 P (breakPatterns d a b) := by
 unfold Gs.breakPatterns breakPatterns
 simp only
 rw [wn (e := (b : Int) - (a : Int)) (n := b - a) (by omega) (by omega), AC (by omega), if_pos (by omega), UE N (by omega) (by omega)]
 simp only [oS]
 have hp := RX (n := b - a) (by omega) (by omega)
 rw [Jl (by omega)]
 have e4 : wI .i64 (Int.tdiv ((b - a : Nat) : Int) 4) = (((b - a) / 4 : Nat) : Int) := wn (by rw [Int.tdiv_eq_ediv_of_nonneg (by omega)]; omega) (by omega)
 have f2x : wI .i64 ((((b - a) / 4 : Nat) : Int) * 2) = (((b - a) / 4 * 2 : Nat) : Int) := wn (by omega) (by omega)
 have g2x : wI .i64 ((a : Int) + (((b - a) / 4 * 2 : Nat) : Int)) = ((a + (b - a) / 4 * 2 : Nat) : Int) := wn (by omega) (by omega)
 have e1y : wI .i64 (((a + (b - a) / 4 * 2 : Nat) : Int) - 1) = ((a + (b - a) / 4 * 2 - 1 : Nat) : Int) := wn (by omega) (by omega)
 simp only [e4, f2x, g2x, e1y]
 generalize hm : 1 <<< bitsLen (b - a) = m at hp
 have hr0 : ((b - a : Nat) : Int) = ((UInt64.ofNat (b - a)).toNat : Int) := by
  rw [UInt64.toNat_ofNat', Nat.mod_eq_of_lt (by omega)]
 rw [hr0]
 generalize hi : a + (b - a) / 4 * 2 - 1 = i0
 generalize UInt64.ofNat (b - a) = r0
 obtain ⟨N', rfl⟩ : ∃ q, N = q + 4 := ⟨N - 4, by omega⟩
 obtain ⟨f1, f2, f3⟩ := KP (N' + 4) a b m (by omega) (r := r0) (idx0 := i0) hab hb hs ⟨hp.1, hp.2.1⟩ (by omega) (by omega) (by omega) (fun v4 => some v4) (N' + 3) hA
 rw [f1]
 generalize hs1 : breakStep a (b - a) m (r0, d) i0 = s1 at f2 f3
 obtain ⟨r1, d1⟩ := s1
 simp only at f2 f3 ⊢
 obtain ⟨g1, g2, g3⟩ := KP (N' + 4) a b m (by omega) (r := r1) (d := d1) (idx0 := i0 + 1) hab (by omega) (by omega) ⟨hp.1, hp.2.1⟩ (by omega) (by omega) (by omega) (fun v4 => some v4) (N' + 2) f3
 rw [g1]
 generalize hs2 : breakStep a (b - a) m (r1, d1) (i0 + 1) = s2 at g2 g3
 obtain ⟨r2, d2⟩ := s2
 simp only at g2 g3 ⊢
 obtain ⟨k1, k2, k3⟩ := KP (N' + 4) a b m (by omega) (r := r2) (d := d2) (idx0 := i0 + 1 + 1) hab (by omega) (by omega) ⟨hp.1, hp.2.1⟩ (by omega) (by omega) (by omega) (fun v4 => some v4) (N' + 1) g3
 rw [k1, Gs.breakPatterns_L3]
 have el : wI .i64 ((b : Int) - (a : Int)) = ((b - a : Nat) : Int) := wn (by omega) (by omega)
 have e4 : wI .i64 (Int.tdiv ((b - a : Nat) : Int) 4) = (((b - a) / 4 : Nat) : Int) := wn (by rw [Int.tdiv_eq_ediv_of_nonneg (by omega)]; omega) (by omega)
 have f2x : wI .i64 ((((b - a) / 4 : Nat) : Int) * 2) = (((b - a) / 4 * 2 : Nat) : Int) := wn (by omega) (by omega)
 have g2x : wI .i64 ((a : Int) + (((b - a) / 4 * 2 : Nat) : Int)) = ((a + (b - a) / 4 * 2 : Nat) : Int) := wn (by omega) (by omega)
 have e1 : wI .i64 (((a + (b - a) / 4 * 2 : Nat) : Int) + 1) = ((a + (b - a) / 4 * 2 + 1 : Nat) : Int) := wn (by omega) (by omega)
 simp only [el, e4, f2x, g2x, e1]
 rw [Az (by omega)]
 exact ⟨rfl, k2.trans (g2.trans f2), k3⟩
theorem Ru (hc : ∀ x y, P x → P y → cmp (x, y) = some (c x y)) (N : Nat) {d : Array α} {a b s : Nat} (ha : a < d.size) (hb : b < d.size) (hs : s < 1000) (hA : C0 P d) : Gs.order2 N d.toList (a : Int) (b : Int) (s : Int) cmp = some (((order2 (B7 c) d a b s).1 : Int), ((order2 (B7 c) d a b s).2.1 : Int), ((order2 (B7 c) d a b s).2.2 : Int)) ∧
  (order2 (B7 c) d a b s).1 < d.size ∧ (order2 (B7 c) d a b s).2.1 < d.size ∧ (order2 (B7 c) d a b s).2.2 ≤ s + 1 := by
 unfold Gs.order2 order2
 simp only [gi ha, gi hb, oS]
 rw [hc _ _ (hA.get hb) (hA.get ha)]
 simp only [oS]
 rw [wn (e := (s : Int) + 1) (n := s + 1) (by omega) (by omega)]
 cases hl : decide (c d[b]! d[a]! < 0)
 ·rw [As, if_neg (by simp [B7, hl])]
  exact ⟨rfl, ha, hb, by simp⟩
 ·rw [AN, if_pos (by simp [B7, hl])]
  exact ⟨rfl, hb, ha, by simp⟩
theorem Rn (hc : ∀ x y, P x → P y → cmp (x, y) = some (c x y)) (N : Nat) {d : Array α} {a b e s : Nat} (ha : a < d.size) (hb : b < d.size) (he : e < d.size) (hs : s < 900) (hA : C0 P d) : Gs.median N d.toList (a : Int) (b : Int) (e : Int) (s : Int) cmp = some (((median (B7 c) d a b e s).1 : Int), ((median (B7 c) d a b e s).2 : Int)) ∧ (median (B7 c) d a b e s).1 < d.size ∧ (median (B7 c) d a b e s).2 ≤ s + 3 := by
 unfold Gs.median median
 simp only
 obtain ⟨f1, f2, f3, f4⟩ := Ru hc N ha hb (show s < 1000 by omega) hA
 rw [f1]
 simp only [oS]
 obtain ⟨g1, g2, g3, g4⟩ := Ru hc N f3 he (show (order2 (B7 c) d a b s).2.2 < 1000 by omega) hA
 rw [g1]
 simp only [oS]
 obtain ⟨k1, k2, k3, k4⟩ := Ru hc N f2 g2 (show (order2 (B7 c) d (order2 (B7 c) d a b s).2.1 e (order2 (B7 c) d a b s).2.2).2.2 < 1000 by omega) hA
 rw [k1]
 exact ⟨rfl, k3, by omega⟩
theorem Rs (hc : ∀ x y, P x → P y → cmp (x, y) = some (c x y)) (N : Nat) {d : Array α} {a s : Nat} (h1 : 1 ≤ a) (ha : a + 1 < d.size) (hs : s < 900) (hz : d.size ≤ 100000) (hA : C0 P d) : Gs.medianAdjacent N d.toList (a : Int) (s : Int) cmp = some (((medianAdjacent (B7 c) d a s).1 : Int), ((medianAdjacent (B7 c) d a s).2 : Int)) ∧ (medianAdjacent (B7 c) d a s).1 < d.size ∧ (medianAdjacent (B7 c) d a s).2 ≤ s + 3 := by
 unfold Gs.medianAdjacent medianAdjacent
 rw [wn (e := (a : Int) - 1) (n := a - 1) (by omega) (by omega), wn (e := (a : Int) + 1) (n := a + 1) (by omega) (by omega)]
 obtain ⟨f1, f2, f3⟩ := Rn hc N (d := d) (a := a - 1) (b := a) (e := a + 1) (by omega) (by omega) ha hs hA
 rw [f1]
 exact ⟨rfl, f2, f3⟩
def Mi : Hint → Int
 | .unknown => 0
 | .increasing => 1
 | .decreasing => 2
theorem TJ (hc : ∀ x y, P x → P y → cmp (x, y) = some (c x y)) (N : Nat) {d : Array α} {a b : Nat} (hab : a + 12 < b) (hb : b ≤ d.size) (hz : d.size ≤ 100000) (hA : C0 P d) : Gs.choosePivot N d.toList (a : Int) (b : Int) cmp = some (((choosePivot (B7 c) d a b).1 : Int), Mi (choosePivot (B7 c) d a b).2) := by
 unfold Gs.choosePivot choosePivot
 simp only [A6]
 have el : wI .i64 ((b : Int) - (a : Int)) = ((b - a : Nat) : Int) := wn (by omega) (by omega)
 have e4 : wI .i64 (Int.tdiv ((b - a : Nat) : Int) 4) = (((b - a) / 4 : Nat) : Int) := wn (by rw [Int.tdiv_eq_ediv_of_nonneg (by omega)]; omega) (by omega)
 have f1 : wI .i64 ((((b - a) / 4 : Nat) : Int) * 1) = (((b - a) / 4 * 1 : Nat) : Int) := wn (by omega) (by omega)
 have f2 : wI .i64 ((((b - a) / 4 : Nat) : Int) * 2) = (((b - a) / 4 * 2 : Nat) : Int) := wn (by omega) (by omega)
 have f3 : wI .i64 ((((b - a) / 4 : Nat) : Int) * 3) = (((b - a) / 4 * 3 : Nat) : Int) := wn (by omega) (by omega)
 have g1 : wI .i64 ((a : Int) + (((b - a) / 4 * 1 : Nat) : Int)) = ((a + (b - a) / 4 * 1 : Nat) : Int) := wn (by omega) (by omega)
 have g2 : wI .i64 ((a : Int) + (((b - a) / 4 * 2 : Nat) : Int)) = ((a + (b - a) / 4 * 2 : Nat) : Int) := wn (by omega) (by omega)
 have g3 : wI .i64 ((a : Int) + (((b - a) / 4 * 3 : Nat) : Int)) = ((a + (b - a) / 4 * 3 : Nat) : Int) := wn (by omega) (by omega)
 simp only [el, e4, f1, f2, f3, g1, g2, g3]
 generalize hi : a + (b - a) / 4 * 1 = i
 generalize hj : a + (b - a) / 4 * 2 = j
 generalize hk : a + (b - a) / 4 * 3 = k
 have hsw : ∀ (p s : Nat), (AV (((s : Nat) : Int) == 0) (some ((p : Int), (1 : Int))) (AV (((s : Nat) : Int) == 12) (some ((p : Int), (2 : Int))) (some ((p : Int), (0 : Int))))) = some ((p : Int), Mi (if s = 0 then .increasing else if s = 12 then .decreasing else .unknown)) := by
  intro p s
  by_cases h0 : s = 0
  ·subst h0; rfl
  ·rw [if_neg h0, show (((s : Nat) : Int) == 0) = false from beq_eq_false_iff_ne.2 (by omega), As]
   by_cases h12 : s = 12
   ·subst h12; rfl
   ·rw [if_neg h12, show (((s : Nat) : Int) == 12) = false from beq_eq_false_iff_ne.2 (by omega), As]; rfl
 rw [AC (by omega), if_pos (show b - a ≥ 8 by omega)]
 by_cases h50 : b - a ≥ 50
 ·rw [AC (by omega), if_pos h50]
  obtain ⟨a1, a2, a3⟩ := Rs hc N (d := d) (a := i) (s := 0) (by omega) (by omega) (by omega) hz hA
  have a1' : Gs.medianAdjacent N d.toList (i : Int) 0 cmp = _ := a1
  rw [a1']
  simp only [oS]
  obtain ⟨b1, b2, b3⟩ := Rs hc N (d := d) (a := j) (s := (medianAdjacent (B7 c) d i 0).2) (by omega) (by omega) (by omega) hz hA
  rw [b1]
  simp only [oS]
  obtain ⟨c1, c2, c3⟩ := Rs hc N (d := d) (a := k) (s := (medianAdjacent (B7 c) d j (medianAdjacent (B7 c) d i 0).2).2) (by omega) (by omega) (by omega) hz hA
  rw [c1]
  simp only [oS]
  obtain ⟨d1, d2, d3⟩ := Rn hc N a2 b2 c2 (show (medianAdjacent (B7 c) d k (medianAdjacent (B7 c) d j (medianAdjacent (B7 c) d i 0).2).2).2 < 900 by omega) hA
  rw [d1]
  simp only [oS]
  exact hsw _ _
 ·rw [Az (by omega), if_neg h50]
  obtain ⟨d1, d2, d3⟩ := Rn hc N (d := d) (a := i) (b := j) (e := k) (s := 0) (by omega) (by omega) (by omega) (by omega) hA
  have d1' : Gs.median N d.toList (i : Int) (j : Int) (k : Int) 0 cmp = _ := d1
  rw [d1']
  simp only [oS]
  exact hsw _ _
end
end Go.Lift
namespace Go.Lift
open IntKind renaming wrap → wI
open Option renaming bind_some → oS
open Go
open Go.Sort (swp Hint bitsLen pdq insertionSort heapSort reverseRange partialInsertionSort partitionEqual partition choosePivot breakPatterns SWO PermIn SortedIn Below)
section
variable {α : Type} [Inhabited α] {P : α → Prop} {cmp : α × α → Option Int} {c : α → α → Int}
theorem T5 (h : Hint) : (Mi h == 1) = decide (h = .increasing) := by cases h <;> rfl
theorem T0 (h : Hint) : (Mi h == 2) = decide (h = .decreasing) := by cases h <;> rfl
theorem Uo {N a b limit : Nat} {d : Array α} (wb : Bool) (hab : a + 12 < b) (hb : b ≤ d.size) (hN : d.size < N) (hs : d.size ≤ 1000) (h6 : 6 ≤ N) (hl : 1 ≤ limit ∧ limit ≤ 100) (hA : C0 P d) (F : List α × Int → Option (List α)) :
  Bb F (fun j7 => AV (!wb) ((Gs.breakPatterns N d.toList (a : Int) (b : Int) cmp).bind fun v9 => j7 (v9, wI .i64 ((limit : Int) - 1))) (j7 (d.toList, (limit : Int)))) = F ((if !wb then breakPatterns d a b else d).toList, ((if !wb then limit - 1 else limit : Nat) : Int)) ∧ (if !wb then breakPatterns d a b else d).size = d.size ∧ C0 P (if !wb then breakPatterns d a b else d) := by
 rw [A6]
 cases wb
 ·obtain ⟨f1, f2, f3⟩ := Uz (cmp := cmp) (N := N) (show a + 8 ≤ b by omega) hb hN hs h6 hA
  rw [f1, wn (e := (limit : Int) - 1) (n := limit - 1) (by omega) (by omega)]
  exact ⟨rfl, f2, f3⟩
 ·exact ⟨rfl, rfl, hA⟩
theorem Ub {N a b p : Nat} {d : Array α} (h : Hint) (hab : a + 12 < b) (hp : a ≤ p) (hpb : p < b) (hb : b ≤ d.size) (hN : d.size < N) (hs : d.size ≤ 1000) (hA : C0 P d) (F : List α × Int × Int → Option (List α)) :
  Bb F (fun j11 => AV (Mi h == 2) ((Gs.reverseRange N d.toList (a : Int) (b : Int) cmp).bind fun v13 => j11 (v13, wI .i64 (wI .i64 ((b : Int) - 1) - wI .i64 ((p : Int) - (a : Int))), 1)) (j11 (d.toList, (p : Int), Mi h))) =
   F ((if h = .decreasing then reverseRange d a b else d).toList, ((if h = .decreasing then (b - 1) - (p - a) else p : Nat) : Int), Mi (if h = .decreasing then Hint.increasing else h)) ∧ (if h = .decreasing then reverseRange d a b else d).size = d.size ∧ C0 P (if h = .decreasing then reverseRange d a b else d) := by
 rw [A6, T0]
 by_cases hd : h = .decreasing
 ·obtain ⟨f1, f2, f3⟩ := Xh (cmp := cmp) (N := N) (show a < b by omega) hb hN (by omega) hA
  rw [f1, wn (e := (b : Int) - 1) (n := b - 1) (by omega) (by omega), wn (e := (p : Int) - (a : Int)) (n := p - a) (by omega) (by omega), wn (n := (b - 1) - (p - a)) (by omega) (by omega)]
  simp only [hd, decide_true, AN, if_true, oS]
  exact ⟨rfl, f2, f3⟩
 ·simp only [hd, decide_false, As, if_false]
  exact ⟨trivial, trivial, hA⟩
def PU (c : α → α → Int) (wb wp : Bool) (h : Hint) (d : Array α) (a b : Nat) : Array α × Bool := if wb && wp && h = .increasing then partialInsertionSort (B7 c) d a b else (d, false)
theorem TE (hc : ∀ x y, P x → P y → cmp (x, y) = some (c x y)) {N a b : Nat} {d : Array α} (wb wp : Bool) (h : Hint) (hab : a + 12 < b) (hb : b ≤ d.size) (hN : d.size < N) (hs : d.size ≤ 1000) (h6 : 6 ≤ N) (hA : C0 P d) (F : List α → Option (List α)) :
  Bb F (fun j14 => Bb (fun (v15 : Bool) => AV v15 ((Gs.partialInsertionSort N d.toList (a : Int) (b : Int) cmp).bind fun v19 => AV v19.1 (some v19.2) (j14 v19.2)) (j14 d.toList)) fun j15 => AV wb (AV wp (j15 (Mi h == 1)) (j15 false)) (j15 false)) =
   (if (PU c wb wp h d a b).2 then some (PU c wb wp h d a b).1.toList else F (PU c wb wp h d a b).1.toList) ∧ (PU c wb wp h d a b).1.size = d.size ∧ C0 P (PU c wb wp h d a b).1 := by
 rw [A6, A6, T5]
 unfold PU
 have hno : ∀ q : Bool, q = false → (F d.toList) = (if (if q = true then partialInsertionSort (B7 c) d a b else (d, false)).2 then some (if q = true then partialInsertionSort (B7 c) d a b else (d, false)).1.toList else F (if q = true then partialInsertionSort (B7 c) d a b else (d, false)).1.toList) ∧ (if q = true then partialInsertionSort (B7 c) d a b else (d, false)).1.size = d.size ∧ C0 P (if q = true then partialInsertionSort (B7 c) d a b else (d, false)).1 := by
  intro q hq; subst hq; exact ⟨rfl, rfl, hA⟩
 cases wb
 ·exact hno _ rfl
 cases wp
 ·exact hno _ rfl
 by_cases hd : h = .increasing
 ·simp only [hd, decide_true, AN, Bool.and_self, if_true]
  obtain ⟨f1, f2, f3⟩ := Rw hc (N := N) (show a < b by omega) hb hN h6 (by omega) hA
  rw [f1]
  simp only [oS]
  refine ⟨?_, f2, f3⟩
  cases (partialInsertionSort (B7 c) d a b).2 <;> rfl
 ·simp only [hd, decide_false, As, AN]
  exact hno _ rfl
theorem US (hc : ∀ x y, P x → P y → cmp (x, y) = some (c x y)) {a p : Nat} {d : Array α} (hb : a ≤ d.size) (hs : d.size ≤ 1000) (hp : p < d.size) (hA : C0 P d) (F : Bool → Option (List α)) :
  Bb F (fun j21 => AV (decide (0 < (a : Int))) ((A9 d.toList (wI .i64 ((a : Int) - 1))).bind fun v23 => (A9 d.toList (p : Int)).bind fun v24 => (cmp (v23, v24)).bind fun v25 => j21 (!decide (v25 < 0))) (j21 false)) = F (decide (a > 0) && !B7 c d[a - 1]! d[p]!) := by
 rw [A6]
 by_cases h0 : 0 < a
 ·rw [AC (by omega), wn (e := (a : Int) - 1) (n := a - 1) (by omega) (by omega), gi (show a - 1 < d.size by omega), gi hp]
  simp only [oS]
  rw [hc _ _ (hA.get (by omega)) (hA.get hp)]
  simp only [oS, B7, h0, decide_true, Bool.true_and]
 ·rw [Az (by omega)]
  simp [h0]
theorem Ui (hc : ∀ x y, P x → P y → cmp (x, y) = some (c x y)) {N : Nat} (hN : 1010 ≤ N) : ∀ (w : Nat) (k n : Nat) (d : Array α) (a b limit : Nat) (wb wp : Bool) (J : Unit → Option (List α)), b - a ≤ w → w < n → w ≤ k → a ≤ b → b ≤ d.size → d.size ≤ 1000 → limit ≤ 100 → C0 P d →
  Gs.pdqsort_L1 N cmp (Gs.pdqsort_R N k) J n (d.toList, (a : Int), (b : Int), (limit : Int), wb, wp) = some (pdq (B7 c) d a b limit wb wp).toList ∧ (pdq (B7 c) d a b limit wb wp).size = d.size ∧ C0 P (pdq (B7 c) d a b limit wb wp) := by
 intro w
 induction w using Nat.strongRecOn with
 | _ w ih =>
 intro k n d a b limit wb wp J hw hn hk hab hb hs hl hA
 obtain ⟨n, rfl⟩ : ∃ q, n = q + 1 := ⟨n - 1, by omega⟩
 rw [Gs.pdqsort_L1, pdq]
 have el : wI .i64 ((b : Int) - (a : Int)) = ((b - a : Nat) : Int) := wn (by omega) (by omega)
 simp only [el]
 by_cases h12 : b - a ≤ 12
 ·rw [AC (by omega), if_pos h12]
  obtain ⟨f1, f2, f3⟩ := Xg hc (N := N) hab hb (by omega) (by omega) hA
  rw [f1]
  exact ⟨rfl, f2, f3⟩
 rw [Az (by omega), if_neg h12]
 by_cases h0 : limit = 0
 ·rw [if_pos h0, show ((limit : Int) == 0) = true from beq_iff_eq.2 (by omega), AN]
  obtain ⟨f1, f2, f3⟩ := VC hc (N := N) (show a < b by omega) hb (by omega) (by omega) hA
  rw [f1]
  exact ⟨rfl, f2, f3⟩
 rw [if_neg h0, show ((limit : Int) == 0) = false from beq_eq_false_iff_ne.2 (by omega), As]
 -- the recursion
 have rec_ : ∀ (q : Nat) (d : Array α) (a b limit : Nat), b - a ≤ q → q < w → a ≤ b → b ≤ d.size → d.size ≤ 1000 → limit ≤ 100 → C0 P d → Gs.pdqsort_R N k d.toList (a : Int) (b : Int) (limit : Int) cmp = some (pdq (B7 c) d a b limit true true).toList ∧ (pdq (B7 c) d a b limit true true).size = d.size ∧ C0 P (pdq (B7 c) d a b limit true true) := by
  intro q d a b limit h1 h2 h3 h4 h5 h6 h7
  obtain ⟨k', rfl⟩ : ∃ q, k = q + 1 := ⟨k - 1, by omega⟩
  rw [Gs.pdqsort_R]
  unfold Gs.pdqsort_B
  exact ih (min q 1000) (by omega) k' N d a b limit true true _ (by omega) (by omega) (by omega) h3 h4 h5 h6 h7
 obtain ⟨e1, e2, e3⟩ := Uo (cmp := cmp) (N := N) (a := a) (b := b) (limit := limit) wb (by omega) hb (by omega) hs (by omega) ⟨by omega, hl⟩ hA _
 rw [e1]
 clear e1
 generalize (if !wb then breakPatterns d a b else d) = d1 at e2 e3 ⊢
 generalize hl1 : (if !wb then limit - 1 else limit) = l1
 have hl2 : l1 ≤ 100 := by rw [← hl1]; split <;> omega
 clear hl1
 simp only
 rw [TJ hc N (by omega) (by omega) (by omega) e3]
 obtain ⟨p1, p2⟩ := Go.Sort.choosePivot_holds (B7 c) d1 a b (by omega)
 generalize choosePivot (B7 c) d1 a b = cp at p1 p2 ⊢
 obtain ⟨p, h⟩ := cp
 simp only [oS] at p1 p2 ⊢
 obtain ⟨e4, e5, e6⟩ := Ub (cmp := cmp) (N := N) (a := a) (b := b) h (by omega) p1 p2 (by omega) (by omega) (by omega) e3 _
 rw [e4]
 clear e4
 generalize (if h = .decreasing then reverseRange d1 a b else d1) = d2 at e5 e6 ⊢
 generalize hq : (if h = .decreasing then (b - 1) - (p - a) else p) = q
 have hq1 : a ≤ q ∧ q < b := by rw [← hq]; split <;> omega
 clear hq
 generalize (if h = .decreasing then Hint.increasing else h) = h'
 simp only
 obtain ⟨e7, e8, e9⟩ := TE hc (N := N) (a := a) (b := b) wb wp h' (by omega) (show b ≤ d2.size by omega) (by omega) (by omega) (by omega) e6 _
 rw [e7]
 clear e7
 have hpr : (if (wb && wp && decide (h' = Hint.increasing)) = true then partialInsertionSort (B7 c) d2 a b else (d2, false)) = PU c wb wp h' d2 a b := rfl
 rw [hpr]
 by_cases hpi : (PU c wb wp h' d2 a b).2 = true
 ·simp only [hpi, if_true]
  exact ⟨trivial, by omega, e9⟩
 simp only [hpi]
 generalize (PU c wb wp h' d2 a b).1 = d3 at e8 e9 ⊢
 rw [US hc (by omega) (by omega) (by omega) e9]
 cases (decide (a > 0) && !B7 c d3[a - 1]! d3[q]!)
 ·simp only [As, Bool.false_eq_true, if_false]
  obtain ⟨f1, f2, f3, f4, f5⟩ := XH hc (N := N) (show a < b by omega) hq1.1 hq1.2 (show b ≤ d3.size by omega) (by omega) (by omega) e9
  rw [f1]
  generalize partition (B7 c) d3 a b q = r at f2 f3 f4 f5 ⊢
  obtain ⟨mid, al, d4⟩ := r
  simp only [oS] at f2 f3 f4 f5 ⊢
  have m1 : wI .i64 ((mid : Int) - (a : Int)) = ((mid - a : Nat) : Int) := wn (by omega) (by omega)
  have m2 : wI .i64 ((b : Int) - (mid : Int)) = ((b - mid : Nat) : Int) := wn (by omega) (by omega)
  have m3 : wI .i64 ((mid : Int) + 1) = ((mid + 1 : Nat) : Int) := wn (by omega) (by omega)
  have m4 : wI .i64 (Int.tdiv ((b - a : Nat) : Int) 8) = (((b - a) / 8 : Nat) : Int) := wn (by rw [Int.tdiv_eq_ediv_of_nonneg (by omega)]; omega) (by omega)
  have m5 : decide ((((b - a) / 8 : Nat) : Int) ≤ ((mid - a : Nat) : Int)) = decide (mid - a ≥ (b - a) / 8) := by rw [decide_eq_decide]; omega
  have m6 : decide ((((b - a) / 8 : Nat) : Int) ≤ ((b - mid : Nat) : Int)) = decide (b - mid ≥ (b - a) / 8) := by rw [decide_eq_decide]; omega
  simp only [m1, m2, m3, m4, m5, m6, dif_pos (show a ≤ mid ∧ mid < b from ⟨f4, f5⟩)]
  by_cases hsm : mid - a < b - mid
  ·rw [AC (by omega)]
   simp only [hsm, if_true]
   obtain ⟨g1, g2, g3⟩ := rec_ (mid - a) d4 a mid l1 (Nat.le_refl _) (by omega) f4 (by omega) (by omega) hl2 f3
   rw [g1]
   simp only [oS]
   obtain ⟨k1, k2, k3⟩ := ih (b - (mid + 1)) (by omega) k n (pdq (B7 c) d4 a mid l1 true true) (mid + 1) b l1 (decide (mid - a ≥ (b - a) / 8)) al J (Nat.le_refl _) (by omega) (by omega) (by omega) (by omega) (by omega) hl2 g3
   exact ⟨k1, by omega, k3⟩
  ·rw [Az (by omega)]
   simp only [hsm, if_false]
   obtain ⟨g1, g2, g3⟩ := rec_ (b - (mid + 1)) d4 (mid + 1) b l1 (Nat.le_refl _) (by omega) (by omega) (by omega) (by omega) hl2 f3
   rw [g1]
   simp only [oS]
   obtain ⟨k1, k2, k3⟩ := ih (mid - a) (by omega) k n (pdq (B7 c) d4 (mid + 1) b l1 true true) a mid l1 (decide (b - mid ≥ (b - a) / 8)) al J (Nat.le_refl _) (by omega) (by omega) (by omega) (by omega) (by omega) hl2 g3
   exact ⟨k1, by omega, k3⟩
 ·simp only [AN, if_true]
  obtain ⟨f1, f2, f3, f4, f5⟩ := XV hc (N := N) (show a < b by omega) hq1.1 hq1.2 (show b ≤ d3.size by omega) (by omega) (by omega) e9
  rw [f1]
  generalize partitionEqual (B7 c) d3 a b q = r at f2 f3 f4 f5 ⊢
  obtain ⟨mid, d4⟩ := r
  simp only [oS] at f2 f3 f4 f5 ⊢
  simp only [dif_pos (show a < mid ∧ mid ≤ b from ⟨f4, f5⟩)]
  obtain ⟨k1, k2, k3⟩ := ih (b - mid) (by omega) k n d4 mid b l1 wb wp J (Nat.le_refl _) (by omega) (by omega) (by omega) (by omega) (by omega) hl2 f3
  simp only [Bool.false_eq_true, if_false]
  exact ⟨k1, by omega, k3⟩
end
end Go.Lift
namespace Go.Lift
open Go
open Go.Sort (bitsLen pdq SWO PermIn SortedIn)
structure JN {α : Type} (c : α → α → Int) : Prop where
 anti : ∀ x y, c y x = - c x y
 le : ∀ x y z, c x y ≤ 0 → c y z ≤ 0 → c x z ≤ 0
namespace JN
variable {α : Type} {c : α → α → Int}
theorem self (O : JN c) (x : α) : c x x = 0 := by have := O.anti x x; omega
theorem lt1 (O : JN c) {x y z : α} (h : c x y < 0) (h2 : c y z ≤ 0) : c x z < 0 := by
 have h3 := O.le x y z (by omega) h2
 by_cases h0 : c x z = 0
 ·have h4 := O.anti x z
  have h5 := O.le y z x h2 (by omega)
  have h6 := O.anti x y
  omega
 ·omega
theorem lt2 (O : JN c) {x y z : α} (h : c x y ≤ 0) (h2 : c y z < 0) : c x z < 0 := by
 have h3 := O.le x y z h (by omega)
 by_cases h0 : c x z = 0
 ·have h4 := O.anti x z
  have h5 := O.le z x y (by omega) h
  have h6 := O.anti y z
  omega
 ·omega
theorem or {d : α → α → Int} (O : JN c) (Q : JN d) : JN (fun x y => if c x y = 0 then d x y else c x y) := by
 refine ⟨fun x y => ?_, fun x y z => ?_⟩
 ·have := O.anti x y
  by_cases h : c x y = 0
  ·simp only [h, show c y x = 0 by omega, if_true]; exact Q.anti x y
  ·simp only [h, show ¬ c y x = 0 by omega, if_false]; exact this
 ·intro h1 h2
  have a1 : c x y ≤ 0 := by revert h1; split <;> omega
  have a2 : c y z ≤ 0 := by revert h2; split <;> omega
  have a3 := O.le x y z a1 a2
  by_cases h0 : c x z = 0
  ·have b1 : c x y = 0 := by
    by_cases q : c x y = 0
    ·exact q
    ·have := O.lt1 (show c x y < 0 by omega) a2; omega
   have b2 : c y z = 0 := by
    by_cases q : c y z = 0
    ·exact q
    ·have := O.lt2 a1 (show c y z < 0 by omega); omega
   simp only [b1, b2, h0, if_true] at h1 h2 ⊢
   exact Q.le x y z h1 h2
  ·simp only [h0, if_false]; exact a3
theorem swo (O : JN c) : SWO (B7 c) := by
 refine ⟨fun x => ?_, fun x y z => ?_, fun x y z => ?_⟩
 ·unfold B7; rw [O.self x]; rfl
 ·unfold B7; intro h1 h2
  exact decide_eq_true (O.lt1 (of_decide_eq_true h1) (by have := of_decide_eq_true h2; omega))
 ·unfold B7; intro h1 h2
  have := of_decide_eq_false h1
  have := of_decide_eq_false h2
  have := O.anti x y
  have := O.anti y z
  have := O.anti x z
  have := O.le z y x (by omega) (by omega)
  exact decide_eq_false (by omega)
end JN
section
variable {α : Type} [Inhabited α] {P : α → Prop} {cmp : α × α → Option Int} {c : α → α → Int}
theorem SU (O : JN c) (hc : ∀ x y, P x → P y → cmp (x, y) = some (c x y)) {N : Nat} (hN : 1010 ≤ N) (l : List α) (hl : l.length ≤ 1000) (hP : ∀ x, x ∈ l → P x) :
  ∃ r : List α, Gs.pdqsort N l 0 ((l.length : Nat) : Int) ((bitsLen l.length : Nat) : Int) cmp = some r ∧ r.Perm l ∧ r.Pairwise (fun x y => c x y ≤ 0) := by
 have hb := Sm hl
 have hA : C0 P l.toArray := fun x hx => hP x hx
 obtain ⟨k, rfl⟩ : ∃ q, N = q + 1 := ⟨N - 1, by omega⟩
 obtain ⟨f1, f2, f3⟩ := Ui hc hN 1000 k (k + 1) l.toArray 0 l.length (bitsLen l.length) true true (fun _ => none) (by omega) (by omega) (by omega) (by omega) (by simp) (by simpa using hl) (by omega) hA
 obtain ⟨⟨g0, _, g1⟩, g2⟩ := Go.Sort.sort_sorts (B7 c) O.swo l.toArray
 unfold Go.Sort.sort at g0 g1 g2
 simp only [List.size_toArray] at g0 g1 g2
 refine ⟨_, f1, ?_, ?_⟩
 ·generalize pdq (B7 c) l.toArray 0 l.length (bitsLen l.length) true true = d at g0 g1
  have e1 : (d.extract 0 l.length).toList = d.toList := by rw [← g0]; simp
  have e2 : (l.toArray.extract 0 l.length).toList = l := by simp
  rw [e1, e2] at g1
  exact g1
 ·generalize pdq (B7 c) l.toArray 0 l.length (bitsLen l.length) true true = d at g0 g2
  rw [List.pairwise_iff_getElem]
  intro i j hi hj hij
  have := of_decide_eq_false (g2 i j (Nat.zero_le _) hij (by rw [← g0]; simpa using hj))
  rw [getElem!_pos d i (by simpa using hi), getElem!_pos d j (by simpa using hj)] at this
  have h2 := O.anti d[i] d[j]
  simp only [Array.getElem_toList]
  omega
end
section
variable {α : Type} {c : α → α → Int}
abbrev JY (c : α → α → Int) (l : List α) : Prop := l.Pairwise (fun x y => c x y < 0)
theorem Nj (O : JN c) : ∀ (a b : List α), JY c a → JY c b → (∀ x, x ∈ a ↔ x ∈ b) → a = b
 | [], [], _, _, _ => rfl
 | [], y :: ys, _, _, h => by have := (h y).2 (by simp); simp at this
 | x :: xs, [], _, _, h => by have := (h x).1 (by simp); simp at this
 | x :: xs, y :: ys, ha, hb, h => by
  obtain ⟨a1, a2⟩ := List.pairwise_cons.1 ha
  obtain ⟨b1, b2⟩ := List.pairwise_cons.1 hb
  have exy : x = y := by
   rcases List.mem_cons.1 ((h x).1 (by simp)) with e | e
   ·exact e
   rcases List.mem_cons.1 ((h y).2 (by simp)) with f | f
   ·exact f.symm
   have := b1 x e
   have := a1 y f
   have := O.anti x y
   omega
  subst exy
  rw [Nj O xs ys a2 b2 fun z => ?_]
  constructor
  ·intro hz
   rcases List.mem_cons.1 ((h z).1 (by simp [hz])) with e | e
   ·subst e; have := a1 z hz; have := O.self z; omega
   ·exact e
  ·intro hz
   rcases List.mem_cons.1 ((h z).2 (by simp [hz])) with e | e
   ·subst e; have := b1 z hz; have := O.self z; omega
   ·exact e
theorem SE (_O : JN c) (h0 : ∀ x y, c x y = 0 → x = y) : ∀ (l : List α), l.Pairwise (fun x y => c x y ≤ 0) → l.Nodup → JY c l := by
 intro l h hn
 exact List.Pairwise.imp₂ (fun x y h1 h2 => by
  by_cases q : c x y = 0
  ·exact absurd (h0 x y q) h2
  ·omega) h hn
end
theorem RP : JN Ex := ⟨fun a b => Ja a b, R2⟩
theorem JN.pull {α β : Type} {c : α → α → Int} (O : JN c) (f : β → α) : JN (fun x y => c (f x) (f y)) := ⟨fun _x _y => O.anti _ _, fun _x _y _z => O.le _ _ _⟩
theorem PX : JN Hm := by
 have := (RP.pull Ae.fBase).or ((RP.pull Ae.fNext).or (RP.pull Ae.fHeld))
 have e : Hm = fun (x y : Ae) => if Ex x.fBase y.fBase = 0 then (if Ex x.fNext y.fNext = 0 then Ex x.fHeld y.fHeld else Ex x.fNext y.fNext) else Ex x.fBase y.fBase := by
  funext x y
  unfold Hm Re Re Re Re
  repeat' split
  all_goals (first | rfl | omega | simp_all)
 rw [e]; exact this
end Go.Lift
namespace Go.Lift
open Go
variable {α : Type}
end Go.Lift
namespace Go.Lift
open Go
section
variable {α : Type} {c : α → α → Int}
variable {P : α → Prop} {eq : α × α → Option Bool} {b : α → α → Bool}
end
end Go.Lift
namespace Go.Lift
open Go
instance : Inhabited Aw := ⟨⟨0, 0, 0⟩⟩
def Y7 (a b : Aw) : Bool := (a.fTable == b.fTable) && ((a.fWriter == b.fWriter) && ((a.fReader == b.fReader) && true))
theorem R3 (a b : Aw) : Y7 a b = true ↔ a = b := by
 cases a; cases b
 simp [Y7]
instance YL : DecidableEq Aw := fun a b => if h : Y7 a b = true then isTrue ((R3 a b).1 h) else isFalse fun e => h ((R3 a b).2 e)
end Go.Lift
namespace Go.Lift
open Option renaming bind_some → oS
open List renaming mem_of_getElem? → lM
open Go
theorem L3 (N : Nat) (hN : N ≤ 1000000) (h20 : 100 ≤ N) {p : Ag} (hv : CF p = 0) {m : Ae} (hm : Bt p m) (l : List Ak) (hl : l.length ≤ 54) (hs : ∀ s, s ∈ l → s ∈ FQ p m) (e : Int) : ∀ (n i : Nat) (a : List Ak) (b : List Ae), i ≤ l.length → l.length - i < n → a.length ≤ i → b.length ≤ i →
  EJ N p m (l, e) (fun v3 => some (v3.1, v3.2)) n (a, b, (i : Int)) = some (a ++ (Oy p m (l.drop i)).map (·.1), b ++ (Oy p m (l.drop i)).map (·.2))
 | 0, i, _, _, _, h, _, _ => by omega
 | n + 1, i, a, b, hi, h, ha, hb => by
  obtain ⟨hp, _⟩ := C1 hv
  rw [EJ]
  by_cases h1 : i < l.length
  ·have hx : l[i]? = some l[i] := by simp [h1]
   have hmem := hs _ (lM hx)
   have h0 := (I4 hmem).2
   have hk := Kh hp hm h0
   rw [AC (by first | omega | (simp only; omega)), CP hx, JX]
   simp only [A6, A5, hx, oS]
   rw [Oe N hN h20 (Ld hm), JT hv hm, if_pos rfl]
   simp only [oS]
   rw [h0, bne_self_eq_false, As, KE N p _ hN h20 (Ld hk) (JT hv hk)]
   simp only [oS]
   cases hr : Cn p (B2 p m l[i]).1
   ·rw [As, if_neg (by simp), AR (by omega)]
    exact L3 N hN h20 hv hm l hl hs e n (i + 1) a b (by omega) (by omega) (by omega) (by omega)
   ·rw [AN, if_pos rfl, AA (by simp [Du]; omega), AA (by simp [Du]; omega), AR (by omega)]
    rw [L3 N hN h20 hv hm l hl hs e n (i + 1) _ _ (by omega) (by omega) (by simp; omega) (by simp; omega)]
    simp
  ·rw [Az (by first | omega | (simp only; omega)), List.drop_eq_nil_of_le (by omega)]
   simp [Oy]
theorem U2 (N : Nat) (hN : N ≤ 1000000) (h20 : 100 ≤ N) {p : Ag} (hv : CF p = 0) {m : Ae} (hm : Bt p m) : FJ N p m = some ((HG p m).map (·.1), (HG p m).map (·.2)) := by
 obtain ⟨hp, _⟩ := C1 hv
 unfold FJ
 rw [Rm N hN h20 hv hm]
 simp only [oS]
 have hl : (FQ p m).length ≤ 54 := Nat.le_trans (List.length_filter_le _ _) (MQ hp)
 have := L3 N hN h20 hv hm (FQ p m) hl (fun _ h => h) 0 N 0 [] [] (Nat.zero_le _) (by omega) (Nat.le_refl _) (Nat.le_refl _)
 simpa [HG] using this
theorem KZ (N : Nat) (hN : N ≤ 1000000) (h20 : 100 ≤ N) {p : Ag} (hv : CF p = 0) {m : Ae} (hm : Bt p m) (l : List Ak) (hl : l.length ≤ 54) (hs : ∀ s, s ∈ l → s ∈ FQ p m) : ∀ (n i : Nat) (a : List Ak), i ≤ l.length → l.length - i < n → a.length ≤ i →
  Df N p m l (fun v3 => some v3) n (a, (i : Int)) = some (a ++ (Oy p m (l.drop i)).map (·.1))
 | 0, i, _, _, h, _ => by omega
 | n + 1, i, a, hi, h, ha => by
  obtain ⟨hp, _⟩ := C1 hv
  rw [Df]
  by_cases h1 : i < l.length
  ·have hx : l[i]? = some l[i] := by simp [h1]
   have hmem := hs _ (lM hx)
   have h0 := (I4 hmem).2
   have hk := Kh hp hm h0
   rw [AC (by first | omega | (simp only; omega)), CP hx, JX]
   simp only [A6, A5, hx, oS]
   obtain ⟨b, e⟩ := Jv N hN h20 hp hm hmem
   rw [e]
   simp only [oS]
   rw [HB N p _ hN h20 hp hk]
   simp only [oS]
   cases hr : Cn p (B2 p m l[i]).1
   ·rw [As, if_neg (by simp), AR (by omega)]
    exact KZ N hN h20 hv hm l hl hs n (i + 1) a (by omega) (by omega) (by omega)
   ·rw [AN, if_pos rfl, AA (by simp [Du]; omega), AR (by omega)]
    rw [KZ N hN h20 hv hm l hl hs n (i + 1) _ (by omega) (by omega) (by simp; omega)]
    simp
  ·rw [Az (by first | omega | (simp only; omega)), List.drop_eq_nil_of_le (by omega)]
   simp [Oy]
theorem Q1 (N : Nat) (hN : N ≤ 1000000) (h20 : 100 ≤ N) {p : Ag} (hv : CF p = 0) {m : Ae} (hm : Bt p m) : DU N p m = some ((HG p m).map (·.1)) := by
 obtain ⟨hp, _⟩ := C1 hv
 unfold DU
 rw [PZ N hN h20 hv hm]
 simp only [oS]
 have hl : (FQ p m).length ≤ 54 := Nat.le_trans (List.length_filter_le _ _) (MQ hp)
 have := KZ N hN h20 hv hm (FQ p m) hl (fun _ h => h) N 0 [] (Nat.zero_le _) (by omega) (Nat.le_refl _)
 simpa [HG] using this
theorem P7 {p : Ag} (hp : Bl p) (m : Ae) : (HG p m).length ≤ 54 := by
 unfold HG Oy
 exact Nat.le_trans (List.length_filterMap_le _ _) (Nat.le_trans (List.length_filter_le _ _) (MQ hp))
def Ki (x : Ae) : List Ae → List Ae
 | [] => [x]
 | y :: ys => if Hm y x = 0 then y :: ys else if 0 < Hm y x then x :: y :: ys else y :: Ki x ys
theorem K8 {x : Ae} : ∀ {l : List Ae} {z : Ae}, z ∈ Ki x l ↔ z = x ∨ z ∈ l
 | [], z => by simp [Ki]
 | y :: ys, z => by
  simp only [Ki]
  split
  ·rename_i h
   have h := Kg h
   constructor
   ·exact fun hz => .inr hz
   ·rintro (rfl | hz)
    ·rw [h]; simp
    ·exact hz
  ·split
   ·simp
   ·rw [List.mem_cons, K8, List.mem_cons]
    constructor
    ·rintro (h | h | h)
     ·exact .inr (.inl h)
     ·exact .inl h
     ·exact .inr (.inr h)
    ·rintro (h | h | h)
     ·exact .inr (.inl h)
     ·exact .inl h
     ·exact .inr (.inr h)
theorem Nt (x : Ae) : ∀ (l : List Ae), (Ki x l).length ≤ l.length + 1 ∧ l.length ≤ (Ki x l).length
 | [] => by simp [Ki]
 | y :: ys => by
  have := Nt x ys
  simp only [Ki]
  split
  ·simp
  ·split
   ·simp
   ·simp only [List.length_cons]; omega
theorem MB {x : Ae} : ∀ {l : List Ae}, JY Hm l → JY Hm (Ki x l)
 | [], _ => by simp [Ki, JY]
 | y :: ys, h => by
  obtain ⟨h1, h2⟩ := List.pairwise_cons.1 h
  simp only [Ki]
  split
  ·exact h
  ·split
   ·rename_i h0 hx
    have hxy : Hm x y < 0 := by rw [SF y x]; omega
    refine List.pairwise_cons.2 ⟨fun z hz => ?_, h⟩
    rcases List.mem_cons.1 hz with rfl | hz
    ·exact hxy
    ·have := h1 z hz
     exact PX.lt1 hxy (by omega)
   ·rename_i h0 hx
    refine List.pairwise_cons.2 ⟨fun z hz => ?_, MB h2⟩
    rcases K8.1 hz with rfl | hz
    ·omega
    ·exact h1 z hz
theorem Rq {N : Nat} {p : Ag} {a b : Ae} (hN : N ≤ 1000000) (h20 : 100 ≤ N) (hp : Bl p) (ha : Bt p a) (hb : Bt p b) : CJ N a b = some (Hm a b) := by
 have hnv := hp.nv
 have hnt := hp.nt
 exact Mo hN (by rw [ha.base]; omega) (by rw [ha.next]; omega) (by rw [ha.held]; omega) (by rw [hb.held]; omega) (Ld ha) (Ld hb)
theorem Qv (N : Nat) (hN : N ≤ 1000000) (h20 : 100 ≤ N) {p : Ag} (hp : Bl p) {l : List Ae} (hl : l.length ≤ 100000) (hA : ∀ x, x ∈ l → Bt p x) {x : Ae} (hx : Bt p x) : ∀ (n i : Nat), l.length - i < n → i ≤ l.length →
  Dp N l x (fun (_ : Unit) => (DT (l.length + (([x] : List Ae)).length ≤ Du)).bind fun _ => some (l ++ (([x] : List Ae)))) n (i : Int) = some (l.take i ++ Ki x (l.drop i))
 | 0, i, h, _ => by omega
 | n + 1, i, h, hi => by
  rw [Dp]
  by_cases h1 : i < l.length
  ·have hy : l[i]? = some l[i] := by simp [h1]
   have hyo := hA _ (lM hy)
   rw [AC (by omega), CP hy]
   simp only [A5, hy, oS]
   rw [Rq hN h20 hp hyo hx]
   simp only [oS, Ki]
   by_cases e : Hm l[i] x = 0
   ·rw [e, if_pos rfl, show ((0:Int) == 0) = true from rfl, AN, ← CP hy, List.take_append_drop]
   ·rw [show (Hm l[i] x == 0) = false from by simpa using e, As, if_neg e]
    by_cases e2 : 0 < Hm l[i] x
    ·rw [AC e2, if_pos e2]
     simp only [Int.toNat_natCast, Nat.zero_le, Nat.zero_add, List.drop_zero, List.nil_append, List.length_nil, Int.natCast_nonneg, Nat.le_refl, and_true, true_and]
     rw [AA (by omega), AA (by simp [Du]; omega), AA (by simp [Du]; omega), AA (by omega), AA (by simp [Du]; omega)]
     have ht : (l.drop i).take (l.length - i) = l.drop i := List.take_of_length_le (by rw [List.length_drop]; omega)
     rw [← CP hy, ht, List.append_assoc]
     rfl
    ·rw [Az e2, if_neg e2, AR (by omega), Qv N hN h20 hp hl hA hx n (i + 1) (by omega) (by omega)]
     rw [List.take_add_one, hy, List.append_assoc]; rfl
  ·have : i = l.length := by omega
   subst this
   rw [Az (by omega), AA (by simp [Du]; omega), List.drop_length, List.take_length]
   rfl
theorem WK (N : Nat) (hN : N ≤ 1000000) (h20 : 100 ≤ N) {p : Ag} (hp : Bl p) {l : List Ae} (hl : l.length ≤ 100000) (hl2 : l.length < N) (hA : ∀ x, x ∈ l → Bt p x) {x : Ae} (hx : Bt p x) : EK N l x = some (Ki x l) := by
 unfold EK
 have := Qv N hN h20 hp hl hA hx N 0 (by omega) (Nat.zero_le _)
 rw [List.take_zero, List.drop_zero, List.nil_append] at this
 exact this
def zFS (a : List Ae) : List Ae → List Ae
 | [] => a
 | x :: xs => zFS (Ki x a) xs
theorem K0 {z : Ae} : ∀ {xs a : List Ae}, z ∈ zFS a xs ↔ z ∈ a ∨ z ∈ xs
 | [], a => by simp [zFS]
 | x :: xs, a => by
  simp only [zFS]
  rw [K0, K8, List.mem_cons]
  constructor
  ·rintro ((h | h) | h)
   ·exact .inr (.inl h)
   ·exact .inl h
   ·exact .inr (.inr h)
  ·rintro (h | h | h)
   ·exact .inl (.inr h)
   ·exact .inl (.inl h)
   ·exact .inr h
theorem KA : ∀ {xs a : List Ae}, JY Hm a → JY Hm (zFS a xs)
 | [], _, h => h
 | _ :: xs, _, h => KA (xs := xs) (MB h)
theorem N2 : ∀ (xs a : List Ae), (zFS a xs).length ≤ a.length + xs.length
 | [], a => by simp [zFS]
 | x :: xs, a => by
  have h1 := N2 xs (Ki x a)
  have h2 := Nt x a
  simp only [zFS, List.length_cons]; omega
end Go.Lift
namespace Go.Lift
open IntKind renaming wrap → wI
open Option renaming bind_some → oS
open List renaming mem_of_getElem? → lM
open Go
def Ez (l : List MR) : List Ae := l.map (·.1)
theorem MZ {l : List MR} {i : Nat} {m : Ae} {f : Int} {t : Ak} (h : l[i]? = some (m, f, t)) : (Ez l)[i]? = some m := by
 unfold Ez; rw [List.getElem?_map, h]; rfl
theorem EM (l : List MR) : (Ez l).length = l.length := List.length_map _
theorem HI {l : List MR} {x : Ae} : x ∈ Ez l ↔ ∃ n, n ∈ l ∧ n.1 = x := List.mem_map
theorem Ps (p : Ag) (m : Ae) : ∀ ss : List Ak, Oy p m ((Oy p m ss).map (·.1)) = Oy p m ss
 | [] => rfl
 | s :: ss => by
  rw [JX]
  split
  ·rename_i h
   rw [List.map_cons, JX, if_pos h, Ps p m ss]
  ·exact Ps p m ss
theorem P3 {N : Nat} (hN : N ≤ 1000000) (h20 : 100 ≤ N) {p : Ag} (hp : Bl p) {A : List Ae} (hA : ∀ x, x ∈ A → Bt p x) (hl : A.length < N) {x : Ae} (hx : Bt p x) : DS N A x = some (A.any fun y => decide (y = x)) := by
 have key : ∀ (n i : Nat), A.length - i < n → i ≤ A.length → DB N A x (fun _ => some false) n (i : Int) = some ((A.drop i).any fun y => decide (y = x)) := by
  intro n
  induction n with
  | zero => intro i h; omega
  | succ n ih =>
   intro i h hi
   rw [DB]
   by_cases h1 : i < A.length
   ·have hy : A[i]? = some A[i] := by simp [h1]
    rw [CP hy, AC (by omega)]
    simp only [A5, hy, oS, List.any_cons]
    rw [T3 hN h20 hp (hA _ (lM hy)) hx]
    simp only [oS]
    by_cases e : A[i] = x
    ·rw [decide_eq_true e, AN]; rfl
    ·rw [decide_eq_false e, As, AR (by omega), ih (i + 1) (by omega) (by omega), Bool.false_or]
   ·rw [Az (by omega), List.drop_eq_nil_of_le (by omega)]; rfl
 exact key N 0 (by omega) (Nat.zero_le _)
theorem Sv {N : Nat} (hN : N ≤ 1000000) (h20 : 100 ≤ N) {p : Ag} (hp : Bl p) {m : Ae} (hm : Bt p m) {f : Int} {t : Ak} {most i : Nat} (hmo : most ≤ 20000) (hmN : most < N) {v4 : List Ae × Int} (hv4 : v4.2 = (i : Int)) (ss : List Ak) (hss : ∀ s, s ∈ ss → s ∈ FQ p m ∧ Cn p (B2 p m s).1 = true) (hsl : ss.length ≤ 1000) (j : List Ae → Option (List Ae × Bool)) :
  ∀ (n k : Nat) (l : List MR), k ≤ ss.length → ss.length - k < n → l[i]? = some (m, f, t) → (∀ n, n ∈ l → Bt p n.1 ∧ Cn p n.1 = true) → l.length ≤ most →
   BX N p (most : Int) v4 ss j n (Ez l, (k : Int)) = match Bfs.inner most i (Oy p m (ss.drop k)) l with
    | none => some ([], false)
    | some l' => j (Ez l')
 | 0, k, l, _, h, _, _, _ => by omega
 | n + 1, k, l, hk, h, hi, hA, hlm => by
  by_cases h1 : k < ss.length
  ·have hs : ss[k]? = some ss[k] := by simp [h1]
   obtain ⟨hsm, hsr⟩ := hss _ (lM hs)
   have hxo := Kh hp hm (I4 hsm).2
   obtain ⟨b, ea⟩ := Jv N hN h20 hp hm hsm
   rw [BX, AC (by simp only; omega)]
   simp only [A6, hv4, A5, MZ hi, hs, oS]
   rw [ea]
   simp only [oS]
   rw [P3 hN h20 hp (fun x hx => by obtain ⟨q, h1, rfl⟩ := HI.1 hx; exact (hA q h1).1) (by rw [EM]; omega) hxo]
   simp only [oS]
   rw [CP hs, JX, if_pos hsr]
   have hany : ((Ez l).any fun y => decide (y = (B2 p m ss[k]).1)) = l.any fun n => decide (n.1 = (B2 p m ss[k]).1) := by
    unfold Ez; rw [List.any_map]; rfl
   rw [hany]
   have hput : Bfs.put i l (ss[k], (B2 p m ss[k]).1) = if (l.any fun n => decide (n.1 = (B2 p m ss[k]).1)) = true then l else l ++ [((B2 p m ss[k]).1, (i : Int), ss[k])] := rfl
   simp only [Bfs.inner]
   have hA2 : ∀ n, n ∈ Bfs.put i l (ss[k], (B2 p m ss[k]).1) → Bt p n.1 ∧ Cn p n.1 = true := fun n hn => by
    rcases PM hn with h | h
    ·exact hA n h
    ·rw [h]; exact ⟨hxo, hsr⟩
   have hi2 : (Bfs.put i l (ss[k], (B2 p m ss[k]).1))[i]? = some (m, f, t) := Ql hi
   have main : (AV (decide ((most : Int) < ((Ez (Bfs.put i l (ss[k], (B2 p m ss[k]).1))).length : Int))) (some (([] : List Ae), false)) (BX N p (most : Int) v4 ss j n (Ez (Bfs.put i l (ss[k], (B2 p m ss[k]).1)), (wI .i64 ((k : Int) + 1))))) =
     match (if most < (Bfs.put i l (ss[k], (B2 p m ss[k]).1)).length then none else Bfs.inner most i (Oy p m (ss.drop (k + 1))) (Bfs.put i l (ss[k], (B2 p m ss[k]).1))) with
     | none => some ([], false)
     | some l' => j (Ez l') := by
    by_cases hb : most < (Bfs.put i l (ss[k], (B2 p m ss[k]).1)).length
    ·rw [if_pos hb, AC (by rw [EM]; omega)]
    ·rw [if_neg hb, Az (by rw [EM]; omega), AR (by omega)]
     exact Sv hN h20 hp hm hmo hmN hv4 ss hss hsl j n (k + 1) _ (by omega) (by omega) hi2 hA2 (by omega)
   cases hin : (l.any fun n => decide (n.1 = (B2 p m ss[k]).1))
   ·rw [hin] at hput
    rw [Bool.not_false, AN, AA (by rw [EM]; simp [Du]; omega)]
    rw [if_neg (by simp)] at hput
    have e : Ez l ++ [(B2 p m ss[k]).1] = Ez (Bfs.put i l (ss[k], (B2 p m ss[k]).1)) := by rw [hput]; simp [Ez]
    rw [e]
    exact main
   ·rw [hin] at hput
    rw [Bool.not_true, As]
    rw [if_pos rfl] at hput
    rw [hput] at main
    rw [hput]
    exact main
  ·have : k = ss.length := by omega
   subst this
   rw [BX, Az (by simp), List.drop_eq_nil_of_le (Nat.le_refl _)]
   rfl
theorem O1 {N : Nat} (hN : N ≤ 1000000) (h20 : 100 ≤ N) {p : Ag} (hv : CF p = 0) {most : Nat} (hmo : most ≤ 20000) (hmN : most < N) (j : List Ae → Option (List Ae × Bool)) :
  ∀ (n i : Nat) (l : List MR), i ≤ l.length → (∀ n, n ∈ l → Bt p n.1 ∧ Cn p n.1 = true) → l.length ≤ most → most < n + i →
   Cr N p (most : Int) j n (Ez l, (i : Int)) = match Bfs.go (HG p) most n i l with
    | none => some ([], false)
    | some l' => j (Ez l')
 | 0, i, l, hi, _, hlm, hfu => by omega
 | n + 1, i, l, hi, hA, hlm, hfu => by
  obtain ⟨hp, _⟩ := C1 hv
  simp only [Bfs.go]
  rw [Cr]
  by_cases h1 : i < l.length
  ·obtain ⟨⟨m, f, t⟩, hx⟩ := Bfs.get_ex h1
   have hm := (hA _ (lM hx)).1
   rw [hx]
   simp only
   rw [AC (by rw [EM]; omega)]
   simp only [A5, MZ hx, oS]
   rw [Q1 N hN h20 hv hm]
   simp only [oS]
   have hsl := P7 hp m
   have e := Sv hN h20 hp hm hmo hmN (v4 := (Ez l, (i : Int))) rfl ((HG p m).map (·.1)) (fun s hs => by
    obtain ⟨q, hq, rfl⟩ := List.mem_map.1 hs
    obtain ⟨g1, g2, g3⟩ := MS.1 hq
    exact ⟨g1, by rw [← g2]; exact g3⟩) (by rw [List.length_map]; omega) (fun (v10 : (List Ae)) => Cr N p (most : Int) j n (v10, (wI .i64 ((i : Int) + 1)))) N 0 l (Nat.zero_le _) (by rw [List.length_map]; omega) hx hA hlm
   rw [List.drop_zero, show Oy p m ((HG p m).map (·.1)) = HG p m from Ps p m _] at e
   refine e.trans ?_
   cases hin : Bfs.inner most i (HG p m) l with
   | none => rfl
   | some l1 =>
    simp only [oS]
    rw [AR (by omega)]
    have hk := Jg hin (fun q hq => MX hp hm hq) hA
    exact O1 hN h20 hv hmo hmN j n (i + 1) l1 (by have := Bfs.lt_get (hk.2 i _ hx); omega) hk.1 (Bfs.inner_len _ _ _ hlm hin) (by omega)
  ·have : l[i]? = none := by rw [List.getElem?_eq_none]; omega
   rw [this, Az (by rw [EM]; omega)]
theorem OQ {N : Nat} (hN : N ≤ 1000000) (h20 : 100 ≤ N) {p : Ag} (hp : Bl p) {v : List Ae} (hv : ∀ x, x ∈ v → Bt p x) (hvl : v.length < N) (hvl2 : v.length ≤ 100000) (j : List Ae → Option (List Ae × Bool)) : ∀ (n i : Nat) (a : List Ae), v.length - i < n → i ≤ v.length → a.length ≤ i → (∀ x, x ∈ a → Bt p x) →
  Cf N v j n (a, (i : Int)) = j (zFS a (v.drop i))
 | 0, i, a, h, _, _, _ => by omega
 | n + 1, i, a, h, hi, ha, hA => by
  rw [Cf]
  by_cases h1 : i < v.length
  ·have hy : v[i]? = some v[i] := by simp [h1]
   have hyo := hv _ (lM hy)
   rw [AC (by simp only; omega), CP hy]
   simp only [A5, hy, oS]
   rw [WK N hN h20 hp (by omega) (by omega) hA hyo]
   simp only [oS]
   rw [AR (by omega), OQ hN h20 hp hv hvl hvl2 j n (i + 1) _ (by omega) (by omega) (by have := (Nt v[i] a).1; omega) (fun x hx => by
    rcases K8.1 hx with rfl | hx
    ·exact hyo
    ·exact hA x hx)]
   rfl
  ·rw [Az (by simp only; omega), List.drop_eq_nil_of_le (by omega)]; rfl
theorem Kf {p : Ag} (hp : Bl p) {most : Nat} : ∀ (n i : Nat) (l l' : List MR), Bfs.go (HG p) most n i l = some l' → (∀ n, n ∈ l → Bt p n.1 ∧ Cn p n.1 = true) → ∀ n, n ∈ l' → Bt p n.1 ∧ Cn p n.1 = true
 | 0, i, l, l', h, _ => by cases h
 | n + 1, i, l, l', h, hA => by
  simp only [Bfs.go] at h
  split at h
  ·cases h; exact hA
  ·rename_i nd hx
   cases hin : Bfs.inner most i (HG p nd.1) l with
   | none => rw [hin] at h; cases h
   | some l1 =>
    rw [hin] at h
    exact Kf hp n (i + 1) l1 l' h (Jg hin (fun q hq => MX hp (hA _ (lM hx)).1 hq) hA).1
theorem PK {N : Nat} (hN : N ≤ 1000000) (h20 : 100 ≤ N) {p : Ag} (hv : CF p = 0) {most : Nat} (h1 : 1 ≤ most) (hmo : most ≤ 20000) (hmN : most < N) :
  Ec N p (most : Int) = some (if Cn p (EF p) = true then (match LZ p (EF p) most N with
   | none => ([], false)
   | some l => (zFS [] (Ez l), true)) else ([], true)) := by
 obtain ⟨hp, _⟩ := C1 hv
 have hs := Nk hv
 unfold Ec
 rw [Jp N p hN h20, if_pos hv]
 simp only [oS]
 rw [HB N p _ hN h20 hp hs]
 simp only [oS]
 cases hr : Cn p (EF p)
 ·rfl
 ·rw [Bool.not_true, As, if_pos rfl]
  have e := O1 hN h20 hv hmo hmN (fun (v5 : (List Ae)) => Cf N v5 (fun (v21 : (List Ae)) => some (v21, true)) N (([] : List Ae), 0)) N 0 [(EF p, -1, QO)] (Nat.zero_le _) (Ly hs hr) (by simpa using h1) (by omega)
  refine e.trans ?_
  show (match LZ p (EF p) most N with | none => _ | some l' => _) = _
  cases hg : LZ p (EF p) most N with
  | none => rfl
  | some l =>
   have hA := Kf hp _ _ _ _ hg (Ly hs hr)
   have hl := Bfs.go_len _ _ _ _ (by simpa using h1) hg
   simp only
   rw [show ((0 : Int)) = ((0 : Nat) : Int) from rfl]
   rw [OQ hN h20 hp (fun x hx => by obtain ⟨q, h1, rfl⟩ := HI.1 hx; exact (hA q h1).1) (by rw [EM]; omega) (by rw [EM]; omega) _ N 0 [] (by rw [EM]; omega) (Nat.zero_le _) (Nat.le_refl _) (fun x hx => by cases hx)]
   rfl
instance Yc : Inhabited Ae := ⟨GZ⟩
theorem VK : Gs.pdqsort = @Gs.pdqsort Ae := by kernel_rfl
theorem QN {N : Nat} (hN : N ≤ 1000000) {a b : Ae} (h1 : a.fBase.length < N) (h2 : a.fNext.length < N) (h3 : a.fHeld.length < N) (h4 : 3 < N) : Cz N a b = some (Hm a b) := by
 unfold Cz
 rw [Nn h1 hN, Nn h2 hN, Rb h3 hN]
 simp only [oS]
 rw [WG (by simp; omega) hN]
 rfl
theorem T8 {N : Nat} (hN : N ≤ 1000000) (h20 : 1010 ≤ N) {p : Ag} (hp : Bl p) (l : List Ae) (hl : l.length ≤ 1000) (hm : ∀ x, x ∈ l → Bt p x) :
  ∃ r : List Ae, Bm N l (fun (x : Ae × Ae) => Cz N x.1 x.2) = some r ∧ r.Perm l ∧ r.Pairwise (fun x y => Hm x y ≤ 0) := by
 have hcmp : ∀ x y : Ae, Bt p x → Bt p y → (fun (x : Ae × Ae) => Cz N x.1 x.2) (x, y) = some (Hm x y) := fun x y hx _ => by
  have := hp.nv
  have := hp.nt
  exact QN hN (by rw [hx.base]; omega) (by rw [hx.next]; omega) (by rw [hx.held]; omega) (by omega)
 obtain ⟨r1, s1, s2, s3⟩ := SU (cmp := fun (x : Ae × Ae) => Cz N x.1 x.2) PX hcmp (N := N) h20 l hl hm
 unfold Bm
 rw [Jl (by omega), Tx N hl, VK]
 simp only [oS]
 rw [s1]
 exact ⟨r1, rfl, s2, s3⟩
theorem Pp : DC 2000 = some true := by kernel_rfl
end Go.Lift
namespace Go.Lift
open IntKind renaming wrap → wI
open Option renaming bind_some → oS
open List renaming mem_of_getElem? → lM
open List renaming getElem?_eq_some_iff → lI
open List renaming getD_eq_getElem?_getD → lD
open Go
theorem Lo (N : Nat) (hN : N ≤ 1000000) (h20 : 100 ≤ N) {p : Ag} {m : Ae} (hp : Bl p) (hm : Bt p m) : Fv N m = some (CE (Kj m)) := by
 have hnv := hp.nv
 have hnt := hp.nt
 have hb := hm.base
 have hn := hm.next
 have hh := hm.held
 unfold Fv
 have l1 := Gf (D2 N m fun v2 => C4 N m (fun v8 => some (CE v8)) N (v2, 0)) (fun a i => (a, i)) m.fBase (fun v2 => C4 N m (fun v8 => some (CE v8)) N (v2, 0)) (FV m) 2 100
  (fun i x hx => by simp [FV])
  (fun n i x a hx hl => by
   have hi := (lI.1 hx).1
   rw [D2, AC (by simp only; omega)]
   simp only [A5, hx, oS, AR (show i < 1000000 by omega)]
   have e2 : m.fNext[i]? = some (m.fNext.getD i 0) := by rw [lD]; simp [show i < m.fNext.length by omega]
   rw [e2]
   simp only [oS]
   rw [AA (by simp [Du]; simp [FV] at hl; omega)]
   rfl)
  (fun n a => by rw [D2, Az (by simp)]) N [] (by omega) (by simp; omega)
 have l1' : D2 N m (fun v2 => C4 N m (fun v8 => some (CE v8)) N (v2, 0)) N ([], 0) = _ := l1
 rw [l1', List.nil_append]
 have hfl : (CQ (FV m) 0 m.fBase).length ≤ 2 * m.fBase.length := FL fun j x hx => by simp [FV]
 have l2 := Gf (C4 N m fun v9 => some (CE v9)) (fun a i => (a, i)) m.fHeld (fun v9 => some (CE v9)) (fun _ x => [x]) 1 100
  (fun i x hx => by simp)
  (fun n i x a hx hl => by
   have hi := (lI.1 hx).1
   rw [C4, AC (by simp only; omega)]
   simp only [A5, hx, oS, AR (show i < 1000000 by omega)]
   rw [AA (by simp [Du]; simp at hl; omega)])
  (fun n a => by rw [C4, Az (by simp)]) N (CQ (FV m) 0 m.fBase) (by omega) (by omega)
 have e3 : ∀ (i : Nat) (l : List Int), CQ (fun _ (x : Int) => [x]) i l = l := by
  intro i l
  induction l generalizing i with
  | nil => rfl
  | cons x l ih => rw [CQ, ih]; rfl
 refine l2.trans ?_
 rw [e3]; rfl
def QI (q : List Ae) : List (ByteArray × Bool) := q.map fun x => (CE (Kj x), true)
theorem UG {p : Ag} (hp : Bl p) {x y : Ae} (hx : Bt p x) (hy : Bt p y) : (CE (Kj x) == CE (Kj y)) = decide (x = y) := by
 by_cases h : x = y
 ·rw [decide_eq_true h, h, PW]
 ·rw [decide_eq_false h]
  cases hb : CE (Kj x) == CE (Kj y)
  ·rfl
  ·exact absurd (Vl hp hx hy hb) h
theorem LX {p : Ag} (hp : Bl p) {x : Ae} (hx : Bt p x) : ∀ {q : List Ae}, (∀ e, e ∈ q → Bt p e) → Ks (CE (Kj x)) (QI q) = if q.any (fun y => decide (y = x)) = true then some true else none
 | [], _ => rfl
 | e :: q, h => by
  have ih := LX hp hx (q := q) fun e he => h e (List.mem_cons_of_mem _ he)
  show (if (CE (Kj x) == CE (Kj e)) = true then some true else Ks (CE (Kj x)) (QI q)) = _
  rw [UG hp hx (h e (by simp)), ih, List.any_cons]
  by_cases h : x = e
  ·rw [decide_eq_true h, if_pos rfl, decide_eq_true h.symm, Bool.true_or, if_pos rfl]
  ·rw [decide_eq_false h, if_neg (by simp), decide_eq_false (fun e' => h e'.symm), Bool.false_or]
theorem Tp (q : List Ae) (x : Ae) : QI (q ++ [x]) = QI q ++ [(CE (Kj x), true)] := by simp [QI]
theorem TV {N : Nat} (hN : N ≤ 1000000) (h20 : 100 ≤ N) {p : Ag} (hp : Bl p) {m : Ae} {most i : Nat} (hmo : most ≤ 20000) (ss : List Ak) (qs : List (Ak × Ae)) (hqs : ∀ q, q ∈ qs → Bt p q.2 ∧ Cn p q.2 = true) (hsl : qs.length ≤ 1000) (j : List Ae × List (ByteArray × Bool) → Option (List Ae × Int)) :
  ∀ (n k : Nat) (l l' : List MR), k ≤ qs.length → qs.length - k < n → (∀ n, n ∈ l → Bt p n.1 ∧ Cn p n.1 = true) → l.length ≤ most → Bfs.inner most i (qs.drop k) l = some l' →
   DV N (ss, qs.map (·.2)) j n (Ez l, QI (Ez l), (k : Int)) = j (Ez l', QI (Ez l'))
 | 0, k, l, l', _, h, _, _, _ => by omega
 | n + 1, k, l, l', hk, h, hA, hlm, hin => by
  rw [DV]
  by_cases h1 : k < qs.length
  ·have hs : qs[k]? = some qs[k] := by simp [h1]
   obtain ⟨hxo, hxr⟩ := hqs _ (lM hs)
   rw [CP hs] at hin
   simp only [Bfs.inner] at hin
   rw [AC (by simp only; rw [List.length_map]; omega)]
   simp only [A6, A5, List.getElem?_map, hs, Option.map_some, oS]
   rw [Lo N hN h20 hp hxo]
   simp only [oS]
   have hok : ∀ x, x ∈ Ez l → Bt p x := fun x hx => by obtain ⟨q, h1, rfl⟩ := HI.1 hx; exact (hA q h1).1
   rw [LX hp hxo hok]
   have hany : ((Ez l).any fun y => decide (y = qs[k].2)) = l.any fun n => decide (n.1 = qs[k].2) := by
    unfold Ez; rw [List.any_map]; rfl
   rw [hany]
   have hput : Bfs.put i l qs[k] = if (l.any fun n => decide (n.1 = qs[k].2)) = true then l else l ++ [(qs[k].2, (i : Int), qs[k].1)] := rfl
   split at hin
   ·cases hin
   ·rename_i hb
    have hA2 : ∀ n, n ∈ Bfs.put i l qs[k] → Bt p n.1 ∧ Cn p n.1 = true := fun n hn => by
     rcases PM hn with h | h
     ·exact hA n h
     ·rw [h]; exact ⟨hxo, hxr⟩
    have main := TV hN h20 hp (m := m) hmo ss qs hqs hsl j n (k + 1) (Bfs.put i l qs[k]) l' (by omega) (by omega) hA2 (by omega) hin
    cases ha : (l.any fun n => decide (n.1 = qs[k].2))
    ·rw [ha] at hput
     rw [if_neg (by simp)] at hput ⊢
     simp only [Option.getD_none, Bool.not_false, AN]
     rw [AA (by rw [EM]; simp [Du]; omega), AR (by omega)]
     have e : Ez l ++ [qs[k].2] = Ez (Bfs.put i l qs[k]) := by rw [hput]; simp [Ez]
     rw [Kb _ _ (by rw [LX hp hxo hok, hany, ha, if_neg (by simp)]), ← Tp, e]
     exact main
    ·rw [ha] at hput
     rw [if_pos rfl] at hput ⊢
     simp only [Option.getD_some, Bool.not_true, As]
     rw [AR (by omega)]
     rw [hput] at main
     exact main
  ·have : k = qs.length := by omega
   subst this
   rw [List.drop_eq_nil_of_le (Nat.le_refl _)] at hin
   cases hin
   rw [Az (by simp)]
theorem Qi {N : Nat} (hN : N ≤ 1000000) (h20 : 100 ≤ N) {p : Ag} (hv : CF p = 0) {most : Nat} (hmo : most ≤ 20000) (j : List Ae → Option (List Ae × Int)) :
  ∀ (n i : Nat) (l l' : List MR), i ≤ l.length → (∀ n, n ∈ l → Bt p n.1 ∧ Cn p n.1 = true) → l.length ≤ most → Bfs.go (HG p) most n i l = some l' →
   Dy N p j n (Ez l, QI (Ez l), (i : Int)) = j (Ez l')
 | 0, i, l, l', hi, _, hlm, hg => by cases hg
 | n + 1, i, l, l', hi, hA, hlm, hg => by
  obtain ⟨hp, _⟩ := C1 hv
  simp only [Bfs.go] at hg
  rw [Dy]
  by_cases h1 : i < l.length
  ·obtain ⟨⟨m, f, t⟩, hx⟩ := Bfs.get_ex h1
   have hm := (hA _ (lM hx)).1
   rw [hx] at hg
   simp only at hg
   cases hin : Bfs.inner most i (HG p m) l with
   | none => rw [hin] at hg; cases hg
   | some l1 =>
    rw [hin] at hg
    simp only [oS] at hg
    rw [AC (by simp only; rw [EM]; omega)]
    simp only [A5, MZ hx, oS]
    rw [U2 N hN h20 hv hm]
    simp only [oS]
    have hsl := P7 hp m
    have e := TV hN h20 hp (m := m) hmo ((HG p m).map (·.1)) (HG p m) (fun q hq => MX hp hm hq) (by omega) (fun (v12 : (List Ae) × (List (ByteArray × Bool))) =>
     AV ((decide (20000 < (v12.1.length : Int)))) (some (([] : List Ae), 3)) (Dy N p j n (v12.1, v12.2, (wI .i64 ((i : Int) + 1))))) N 0 l l1 (Nat.zero_le _) (by omega) hA hlm (by rw [List.drop_zero]; exact hin)
    refine e.trans ?_
    have hk := Jg hin (fun q hq => MX hp hm hq) hA
    have hl1 := Bfs.inner_len _ _ _ hlm hin
    simp only
    rw [Az (by rw [EM]; omega), AR (by omega)]
    exact Qi hN h20 hv hmo j n (i + 1) l1 l' (by have := Bfs.lt_get (hk.2 i _ hx); omega) hk.1 hl1 hg
  ·have : l[i]? = none := by rw [List.getElem?_eq_none]; omega
   rw [this] at hg
   cases hg
   rw [Az (by simp only; rw [EM]; omega)]
theorem SY {p : Ag} {m : Ae} {l : List MR} {ws : List (List Ak)} (h : Xy p m l ws) : (Ez l).Nodup := by
 rw [List.Nodup, List.pairwise_iff_getElem]
 intro a b ha hb hab e
 have h1 : (Ez l)[a]? = some (Ez l)[a] := by simp [ha]
 have h2 : (Ez l)[b]? = some (Ez l)[b] := by simp [hb]
 unfold Ez at h1 h2
 rw [List.getElem?_map] at h1 h2
 cases ha' : l[a]? with
 | none => rw [ha'] at h1; cases h1
 | some x =>
  cases hb' : l[b]? with
  | none => rw [hb'] at h2; cases h2
  | some y =>
   rw [ha'] at h1; rw [hb'] at h2
   simp only [Option.map_some, Option.some.injEq] at h1 h2
   obtain ⟨x1, x2, x3⟩ := x
   obtain ⟨y1, y2, y3⟩ := y
   simp only at h1 h2
   have : x1 = y1 := by rw [h1, h2]; exact e
   subst this
   exact absurd (h.inv.nodup a b _ _ _ _ _ ha' hb') (by omega)
theorem RN {p : Ag} {m : Ae} {l : List MR} {ws : List (List Ak)} (h : Xy p m l ws) {r : List Ae} (hp1 : r.Perm (Ez l)) (hp2 : r.Pairwise (fun x y => Hm x y ≤ 0)) : r = zFS [] (Ez l) := by
 have hn : r.Nodup := hp1.nodup_iff.2 (SY h)
 refine Nj PX _ _ (SE PX (fun x y h => Kg h) r hp2 hn) (KA List.Pairwise.nil) fun x => ?_
 rw [hp1.mem_iff, K0]
 simp
theorem MG {N : Nat} (hN : N ≤ 1000000) (h20 : 1010 ≤ N) {p : Ag} (hv : CF p = 0) {most : Nat} (h1 : 1 ≤ most) (hmo : most ≤ 1000) :
  (Cn p (EF p) = false → D3 N p = some ([], 0)) ∧
  (Cn p (EF p) = true → ∀ l, LZ p (EF p) most N = some l → D3 N p = some (zFS [] (Ez l), 0)) := by
 obtain ⟨hp, _⟩ := C1 hv
 have hs := Nk hv
 have est : Fp N p = some (EF p, Cn p (EF p), 0) := by
  unfold Fp
  rw [P4 N p hN (by omega), if_pos hv, hv]
  simp only [oS, bne_self_eq_false, As]
  rw [KE N p _ hN (by omega) (Ld hs) (JT hv hs)]
  rfl
 unfold D3
 rw [est]
 simp only [oS, A6, bne_self_eq_false, As]
 refine ⟨fun hr => by rw [hr]; rfl, fun hr l hg => ?_⟩
 rw [hr]
 simp only [Bool.not_true, As]
 rw [Lo N hN (by omega) hp hs]
 simp only [oS]
 have e := Qi hN (by omega) hv (by omega : most ≤ 20000) (fun (v7 : (List Ae)) =>
    (Bm N v7 ((fun (x : Ae × Ae) => Cz N x.1 x.2))).bind fun v21 =>
    some (v21, 0)) N 0 [(EF p, -1, QO)] l (Nat.zero_le _) (Ly hs hr) (by simpa using h1) hg
 refine Eq.trans e ?_
 obtain ⟨ws, hreg⟩ := Ti hp hs hr hg
 have hA := Kf hp _ _ _ _ hg (Ly hs hr)
 have hl := Bfs.go_len _ _ _ _ (by simpa using h1) hg
 obtain ⟨r, e1, e2, e3⟩ := T8 hN h20 hp (Ez l) (by rw [EM]; omega) (fun x hx => by obtain ⟨q, h1, rfl⟩ := HI.1 hx; exact (hA q h1).1)
 rw [e1]
 simp only [oS]
 rw [RN hreg e2 e3]
theorem RA {p : Ag} {m : Ae} {l : List MR} {ws : List (List Ak)} (h : Xy p m l ws) {x : Ae} (hx : x ∈ Ez l) {q : Ak × Ae} (hq : q ∈ HG p x) : q.2 ∈ Ez l := by
 obtain ⟨n, hn, rfl⟩ := HI.1 hx
 obtain ⟨j, hj⟩ := List.mem_iff_getElem?.1 hn
 obtain ⟨y, f, s⟩ := n
 have hjl := Bfs.lt_get hj
 obtain ⟨w, hw⟩ := Bfs.get_ex (l := ws) (k := j) (by rw [h.inv.len]; exact hjl)
 obtain ⟨k, f', s', w', h1, _⟩ := h.inv.closed j y f s w hj hw q (.inl ⟨hjl, hq⟩)
 exact HI.2 ⟨_, lM h1, rfl⟩
theorem Tj {p : Ag} {m : Ae} {l : List MR} {ws : List (List Ak)} (h : Xy p m l ws) : m ∈ Ez l := by
 obtain ⟨s, hs⟩ := h.inv.root
 exact HI.2 ⟨_, lM hs, rfl⟩
theorem Sr {A : List Ae} {x : Ae} : (A.any fun y => decide (y = x)) = decide (x ∈ A) := by
 by_cases h : x ∈ A
 ·rw [decide_eq_true h]
  exact List.any_eq_true.2 ⟨x, h, decide_eq_true rfl⟩
 ·rw [decide_eq_false h, List.any_eq_false]
  intro y hy e
  exact h (of_decide_eq_true e ▸ hy)
theorem MP {l : List MR} {x : Ae} : x ∈ zFS [] (Ez l) ↔ x ∈ Ez l := by rw [K0]; simp
theorem VD (l : List MR) : (zFS [] (Ez l)).length ≤ l.length := by
 have := N2 (Ez l) []
 rw [EM] at this; simpa using this
theorem OG {N : Nat} (hN : N ≤ 1000000) (h20 : 100 ≤ N) {p : Ag} (hp : Bl p) (ok : Bool) (A : List Ae) (e : Int) (hA : ∀ x, x ∈ A → Bt p x) (hl : A.length < N) {m : Ae} (hm : Bt p m) (ss : List Ak) (hsl : ss.length ≤ 1000) (hss : ∀ s, s ∈ ss → s ∈ FQ p m ∧ (B2 p m s).1 ∈ A) (j : Unit → Option Bool) : ∀ (n i : Nat), ss.length - i < n → i ≤ ss.length →
  B1 N (p, ok) (A, e) m ss j n (i : Int) = j ()
 | 0, i, h, _ => by omega
 | n + 1, i, h, hi => by
  rw [B1]
  by_cases h1 : i < ss.length
  ·have hy : ss[i]? = some ss[i] := by simp [h1]
   obtain ⟨h2, h3⟩ := hss _ (lM hy)
   rw [AC (by first | omega | (simp only; omega))]
   simp only [A5, hy, oS]
   obtain ⟨b, ea⟩ := Jv N hN h20 hp hm h2
   rw [ea]
   simp only [oS]
   rw [P3 hN h20 hp hA hl (hA _ h3), Sr, decide_eq_true h3]
   simp only [oS, Bool.not_true, As]
   rw [AR (by omega)]
   exact OG hN h20 hp ok A e hA hl hm ss hsl hss j n (i + 1) (by omega) (by omega)
  ·rw [Az (by first | omega | (simp only; omega))]
theorem KV {N : Nat} (hN : N ≤ 1000000) (h20 : 100 ≤ N) {p : Ag} (hv : CF p = 0) (ok : Bool) (A : List Ae) (e : Int) (hA : ∀ x, x ∈ A → Bt p x) (hl : A.length < N) (hc : ∀ x, x ∈ A → ∀ q, q ∈ HG p x → q.2 ∈ A) (j : Unit → Option Bool) : ∀ (n i : Nat), A.length - i < n → i ≤ A.length →
  BF N (p, ok) (A, e) j n (i : Int) = j ()
 | 0, i, h, _ => by omega
 | n + 1, i, h, hi => by
  obtain ⟨hp, _⟩ := C1 hv
  rw [BF]
  by_cases h1 : i < A.length
  ·have hy : A[i]? = some A[i] := by simp [h1]
   have hm := hA _ (lM hy)
   rw [AC (by first | omega | (simp only; omega))]
   simp only [A5, hy, oS]
   rw [Q1 N hN h20 hv hm]
   simp only [oS]
   have hsl := P7 hp A[i]
   have := OG hN h20 hp ok A e hA hl hm ((HG p A[i]).map (·.1)) (by rw [List.length_map]; omega) (fun s hs => by
    obtain ⟨q, hq, rfl⟩ := List.mem_map.1 hs
    have h3 := hc _ (lM hy) q hq
    obtain ⟨g1, g2, _⟩ := MS.1 hq
    exact ⟨g1, g2 ▸ h3⟩) (fun (_ : Unit) => BF N (p, ok) (A, e) j n (wI .i64 ((i : Int) + 1))) N 0 (by rw [List.length_map]; omega) (Nat.zero_le _)
   refine Eq.trans this ?_
   rw [AR (by omega)]
   exact KV hN h20 hv ok A e hA hl hc j n (i + 1) (by omega) (by omega)
  ·rw [Az (by first | omega | (simp only; omega))]
theorem Og (N : Nat) (hN : N ≤ 1000000) (h20 : 1010 ≤ N) (haw : DC N = some true) (d : Ci) (wd : E4 d) : CC N d = some true := by
 obtain ⟨p, ok, e, hok⟩ := Zp N d (by omega) (by omega) wd
 unfold CC
 rw [e]
 simp only [oS, A6, haw, Bool.not_true, As]
 cases ok
 ·rfl
 simp only [Bool.not_true, As]
 have hv := (hok rfl).valid
 obtain ⟨hp, _⟩ := C1 hv
 have hs := Nk hv
 have e1 := PK (N := N) (by omega) (by omega) hv (most := 400) (by omega) (by omega) (by omega)
 obtain ⟨e2, e3⟩ := MG (N := N) (by omega) (by omega) hv (most := 400) (by omega) (by omega)
 rw [show (400 : Int) = ((400 : Nat) : Int) from rfl, e1]
 simp only [oS]
 cases hr : Cn p (EF p)
 ·rw [e2 hr]
  rw [if_neg (by first | omega | (simp; done) | (simp; omega))]
  simp only [Bool.not_true, As, oS]
  rw [Jp N p (by omega) (by omega), if_pos hv, hv]
  simp only [oS, bne_self_eq_false, As]
  rw [P3 (by omega) (by omega) hp (fun x hx => by cases hx) (by first | omega | (simp; done) | (simp; omega)) hs, HB N p _ (by omega) (by omega) hp hs, hr]
  simp only [oS, List.any_nil, beq_self_eq_true, Bool.not_true, As]
  rw [Az (by first | omega | (simp; done) | (simp; omega))]
  exact KV (N := N) (by omega) (by omega) hv true [] 0 (fun x hx => by cases hx) (by first | omega | (simp; done) | (simp; omega)) (fun x hx => by cases hx) (fun _ => some true) N 0 (by first | omega | (simp; done) | (simp; omega)) (by first | omega | (simp; done) | (simp; omega))
 ·rw [if_pos rfl]
  cases hg : LZ p (EF p) 400 N with
  | none => rfl
  | some l =>
   simp only [Bool.not_true, As]
   rw [e3 hr l hg]
   simp only [oS]
   obtain ⟨ws, hreg⟩ := Ti hp hs hr hg
   have hA := Kf hp _ _ _ _ hg (Ly hs hr)
   have hl := Bfs.go_len _ _ _ _ (by first | omega | (simp; done) | (simp; omega)) hg
   have hl2 := VD l
   have hA2 : ∀ x, x ∈ zFS [] (Ez l) → Bt p x := fun x hx => by
    obtain ⟨n, h1, rfl⟩ := HI.1 (MP.1 hx)
    exact (hA n h1).1
   have hin : EF p ∈ zFS [] (Ez l) := MP.2 (Tj hreg)
   rw [Jp N p (by omega) (by omega), if_pos hv, hv]
   simp only [oS, bne_self_eq_false, As]
   rw [P3 (by omega) (by omega) hp hA2 (by omega) hs, HB N p _ (by omega) (by omega) hp hs, hr, Sr, decide_eq_true hin]
   simp only [oS, beq_self_eq_true, Bool.not_true, As]
   have hcl := KV (N := N) (by omega) (by omega) hv true (zFS [] (Ez l)) 0 hA2 (by omega) (fun x hx q hq => MP.2 (RA hreg (MP.1 hx) hq)) (fun _ => some true) N 0 (by omega) (by first | omega | (simp; done) | (simp; omega))
   have h9 : (0 : Int) < ((zFS [] (Ez l)).length : Int) := by
    have := List.length_pos_of_mem hin; omega
   rw [AC h9]
   exact hcl
theorem Lv (d : Ci) (wd : E4 d) : CC 2000 d = some true := Og 2000 (by omega) (by omega) Pp d wd
end Go.Lift
