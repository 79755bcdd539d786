/- Lemmas for WavesErrorsCardSaid, which YtncnphcfgojgmaaDoorFinV6 proves. -/
import Derived.Test.YtncnphcfgojgmaaDoorDec
import Derived.KernelRfl
import Derived.Lib.ItoaLen
namespace Go.Lift
open IntKind renaming wrap → wI
open List renaming getElem?_eq_some_iff → lI
theorem Cb {α : Type} (xs : List α) (i : Nat) : BY xs (i : Int) = xs[i]? := by
 unfold BY; simp
theorem Lh {n : Int} (h0 : -9223372036854775808 ≤ n) (h1 : n ≤ 9223372036854775807) : wI .i64 n = n := by
 simp [wI, IntKind.signed, IntKind.bits]; omega
theorem Ch {i : Nat} (h : i < 1000000) : wI .i64 ((i : Int) + 1) = ((i + 1 : Nat) : Int) := by
 rw [Lh (by omega) (by omega)]; simp
@[simp] theorem Cy {α : Type} {a b : Option α} : AG true a b = a := rfl
@[simp] theorem AW {α : Type} {a b : Option α} : AG false a b = b := rfl
theorem BD {α : Type} {p : Prop} [Decidable p] {a b : Option α} (h : p) : AG (decide p) a b = a := by simp [h]
theorem Bj {α : Type} {p : Prop} [Decidable p] {a b : Option α} (h : ¬ p) : AG (decide p) a b = b := by simp [h]
def H6 : List Int → List Int → Int
 | [], [] => 0
 | [], _ :: _ => -1
 | _ :: _, [] => 1
 | a :: as1, b :: bs => if a < b then -1 else if b < a then 1 else H6 as1 bs
theorem Ma {α : Type} {xs : List α} {i : Nat} {x : α} (h : xs[i]? = some x) : xs.drop i = x :: xs.drop (i + 1) := by
 obtain ⟨hi, rfl⟩ := lI.1 h
 exact List.drop_eq_getElem_cons hi
theorem JG : ∀ a : List Int, H6 a a = 0
 | [] => rfl
 | a :: as1 => by simp [H6, JG as1]
theorem IH : ∀ a b : List Int, H6 a b = 0 → a = b
 | [], [], _ => rfl
 | [], _ :: _, h => by simp [H6] at h
 | _ :: _, [], h => by simp [H6] at h
 | a :: as1, b :: bs, h => by
  unfold H6 at h
  split at h
  ·omega
  ·split at h
   ·omega
   ·rw [IH as1 bs h, show a = b from by omega]
def Qb : List Int → Int
 | [] => 0
 | x :: xs => if x = 0 then Qb xs else x
def RG (a : Ah) : Prop := a.fe.length ≤ 8 ∧ a.fc.length ≤ 8 ∧ a.ff.length ≤ 14
def Ol (a b : Ah) : Int := Qb [H6 a.fe b.fe, H6 a.fc b.fc, H6 a.ff b.ff]
theorem Mk (a : Ah) : Ol a a = 0 := by unfold Ol; simp [JG, Qb]
open Option renaming bind_some → oS
def Dk {α R : Type} (f : Nat → α → Option R) : Nat → List α → Option R
 | _, [] => none
 | i, x :: xs => match f i x with
  | some r => some r
  | none => Dk f (i + 1) xs
theorem Ha {α R : Type} (f : Nat → α → Option R) (i : Nat) (x : α) (xs : List α) : Dk f i (x :: xs) = match f i x with
  | some r => some r
  | none => Dk f (i + 1) xs := rfl
def A1 {R : Type} (a : Option R) (b : Option R) : Option R := match a with
 | some r => some r
 | none => b
theorem Ct {α R : Type} (L : Nat → Int → Option R) (xs : List α) (j : Option R) (f : Nat → α → Option R)
  (hs : ∀ (n i : Nat) (x : α), xs[i]? = some x → L (n + 1) (i : Int) = A1 (f i x) (L n ((i + 1 : Nat) : Int))) (he : ∀ n : Nat, L (n + 1) (xs.length : Int) = j) :
  ∀ n i : Nat, i ≤ xs.length → xs.length - i < n → L n (i : Int) = A1 (Dk f i (xs.drop i)) j
 | 0, i, _, h => by omega
 | n + 1, i, hi, h => by
  by_cases h1 : i < xs.length
  ·have hx : xs[i]? = some xs[i] := by simp [h1]
   rw [hs n i _ hx, Ma hx, Ct L xs j f hs he n (i + 1) (by omega) (by omega)]
   rw [Ha]
   cases f i xs[i] <;> rfl
  ·have : i = xs.length := by omega
   subst this
   rw [he n, List.drop_eq_nil_of_le (Nat.le_refl _)]
   rfl
theorem JI (N : Nat) (k n : Int) : BX N k n = some (decide (0 ≤ k) && decide (k < n)) := by
 unfold BX
 simp only [Bh]
 by_cases h : 0 ≤ k
 ·rw [BD h]; simp [h]
 ·rw [Bj h]; simp [h]
theorem Mg (N : Nat) (t : Au) : Bx N t = some (t.fd == 3 || t.fd == 4) := by
 unfold Bx
 simp only [Bh]
 cases h : t.fd == 3 <;> simp
def sq (l : List (List Bool)) (n m : Int) : Bool := decide ((l.length : Int) = n) && l.all fun r => decide ((r.length : Int) = m)
theorem Jf {α : Type} (p : α → Bool) {R : Type} (r : Nat → R) : ∀ (i : Nat) (xs : List α), (Dk (fun i x => if p x then none else some (r i)) i xs).isNone = xs.all p
 | i, [] => rfl
 | i, x :: xs => by
  unfold Dk
  cases h : p x <;> simp [h, Jf p r (i + 1) xs]
theorem JJ (N : Nat) (l : List (List Bool)) (n m : Int) (h : n < (N : Int)) (hN : N ≤ 1000000) : Bw N l n m = some (sq l n m) := by
 unfold Bw sq
 by_cases h1 : (l.length : Int) = n
 ·subst h1
  simp only [bne_self_eq_false, AW, decide_true, Bool.true_and]
  have := Ct (A4 N l (l.length : Int) m (fun _ => some true)) l (some true) (fun _ r => if decide ((r.length : Int) = m) then none else some false)
   (fun n i x hx => by
    have hi := (lI.1 hx).1
    rw [A4, BD (by omega), Cb, hx]
    simp only [oS]
    rw [Ch (by omega)]
    by_cases h2 : (x.length : Int) = m
    ·simp [h2, A1]
    ·have : ((x.length : Int) != m) = true := by simpa using h2
     simp [h2, this, A1])
   (fun n => by rw [A4, Bj (by omega)]) N 0 (by omega) (by omega)
  simp only [Int.ofNat_zero, List.drop_zero] at this
  rw [this]
  have h3 := Jf (fun r : List Bool => decide ((r.length : Int) = m)) (fun _ => false) 0 l
  cases hsc : Dk (fun (_ : Nat) (r : List Bool) => if decide ((r.length : Int) = m) = true then none else some false) 0 l with
  | none => rw [hsc] at h3; rw [← h3]; rfl
  | some b =>
   rw [hsc] at h3
   rw [← h3]
   have : ∀ (i : Nat) (xs : List (List Bool)) b, Dk (fun (_ : Nat) (r : List Bool) => if decide ((r.length : Int) = m) = true then none else some false) i xs = some b → b = false := by
    intro i xs
    induction xs generalizing i with
    | nil => intro b hb; cases hb
    | cons x xs ih =>
     intro b hb
     unfold Dk at hb
     split at hb
     ·rename_i r hr; cases hb; split at hr <;> simp at hr; exact hr
     ·exact ih _ b hb
   rw [this 0 l b hsc]; rfl
 ·have : ((l.length : Int) != n) = true := by simpa using h1
  simp [this, h1]
theorem JX (N : Nat) (l : List (List Bool)) (n m : Int) (h : n < (N : Int)) (hN : N ≤ 1000000) : CD N l n m = some (sq l n m) := by
 unfold CD sq
 simp only [Bh]
 by_cases h1 : (l.length : Int) = n
 ·subst h1
  simp only [beq_self_eq_true, Cy, decide_true, Bool.true_and]
  have := Ct (AM N l (fun x => BQ N x m) (fun _ => some (-1))) l (some (-1)) (fun i r => if decide ((r.length : Int) = m) then none else some (i : Int))
   (fun n i x hx => by
    have hi := (lI.1 hx).1
    rw [AM, BD (by omega), Cb, hx]
    simp only [oS, BQ]
    rw [Ch (by omega)]
    by_cases h2 : (x.length : Int) = m
    ·simp [h2, A1]
    ·have : ((x.length : Int) != m) = true := by simpa using h2
     simp [h2, this, A1])
   (fun n => by rw [AM, Bj (by omega)]) N 0 (by omega) (by omega)
  simp only [Int.ofNat_zero, List.drop_zero] at this
  unfold Bk Bu
  rw [this]
  have h3 := Jf (fun r : List Bool => decide ((r.length : Int) = m)) (fun i : Nat => (i : Int)) 0 l
  cases hsc : Dk (fun (i : Nat) (r : List Bool) => if decide ((r.length : Int) = m) = true then none else some (i : Int)) 0 l with
  | none => rw [hsc] at h3; rw [← h3]; rfl
  | some b =>
   rw [hsc] at h3
   rw [← h3]
   have : ∀ (i : Nat) (xs : List (List Bool)) b, Dk (fun (i : Nat) (r : List Bool) => if decide ((r.length : Int) = m) = true then none else some (i : Int)) i xs = some b → 0 ≤ b := by
    intro i xs
    induction xs generalizing i with
    | nil => intro b hb; cases hb
    | cons x xs ih =>
     intro b hb
     rw [Ha] at hb
     split at hb
     ·rename_i r hr
      cases hb
      split at hr
      ·cases hr
      ·cases hr; omega
     ·exact ih _ b hb
   have := this 0 l b hsc
   simp [A1, this]
 ·have : ((l.length : Int) == n) = false := by simpa using h1
  simp [this, h1]
open List renaming mem_of_getElem? → lM
open List renaming getD_eq_getElem?_getD → lD
def GP (l : List (List Bool)) : Option Int := Dk (fun i row => if row.getD i false then none else some 1) 0 l
theorem Le {row : List Bool} {i : Nat} (h : i < row.length) : BY row (i : Int) = some (row.getD i false) := by
 rw [Cb, lD]; simp [h]
theorem NR (N : Nat) (t : Au) (h : t.fi.length < N) (hN : N ≤ 1000000) (hsq : ∀ row, row ∈ t.fi → row.length = t.fi.length) (j : Option Int) :
  AT N t (fun _ => j) N 0 = A1 (GP t.fi) j := by
 have := Ct (AT N t (fun _ => j)) t.fi j (fun i row => if row.getD i false then none else some 1)
  (fun n i x hx => by
   have hi := (lI.1 hx).1
   have hl := hsq x (lM hx)
   rw [AT, BD (by omega), Cb, hx]
   simp only [oS]
   rw [Le (by omega), Ch (by omega)]
   simp only [oS]
   cases x.getD i false <;> rfl)
  (fun n => by rw [AT, Bj (by omega)]) N 0 (by omega) (by omega)
 simpa [GP] using this
theorem JL (N : Nat) (t : Au) (h : t.fi.length < N) (hN : N ≤ 1000000) (hsq : ∀ row, row ∈ t.fi → row.length = t.fi.length) (j : Option Int) :
  Bp N t (fun _ => j) N 0 = A1 (GP t.fi) j := by
 have := Ct (Bp N t (fun _ => j)) t.fi j (fun i row => if row.getD i false then none else some 1)
  (fun n i x hx => by
   have hi := (lI.1 hx).1
   have hl := hsq x (lM hx)
   rw [Bp, BD (by omega), Cb, hx]
   simp only [oS]
   rw [Le (by omega), Ch (by omega)]
   simp only [oS]
   cases x.getD i false <;> rfl)
  (fun n => by rw [Bp, Bj (by omega)]) N 0 (by omega) (by omega)
 simpa [GP] using this
theorem L5 {l : List (List Bool)} {n m : Int} (h : sq l n m = true) : (l.length : Int) = n ∧ ∀ row, row ∈ l → (row.length : Int) = m := by
 unfold sq at h
 simp only [Bool.and_eq_true, decide_eq_true_eq, List.all_eq_true] at h
 exact h
def DO (p : Ab) (t : Au) : Int :=
 if t.fd < 1 ∨ 4 < t.fd ∨ (t.fq = true ∧ (t.fd = 3 ∨ t.fd = 4)) then 1
 else if t.fg < 0 ∨ (p.fa.length : Int) ≤ t.fg ∨ t.fm < 0 ∨ (p.fa.length : Int) ≤ t.fm then 4
 else
  let f := p.fa.getD t.fg.toNat 0
  let g := p.fa.getD t.fm.toNat 0
  if sq t.fo f g = false then 6
  else if t.fd = 4 then (if sq t.fi f f = false then 6 else (GP t.fi).getD 0)
  else if t.fi.length = 0 then 0 else 6
theorem Hw {α : Type} {xs : List α} {i : Int} {d : α} (h0 : 0 ≤ i) (h1 : i < (xs.length : Int)) : BY xs i = some (xs.getD i.toNat d) := by
 obtain ⟨k, rfl⟩ := Int.eq_ofNat_of_zero_le h0
 rw [Cb, lD, Int.toNat_natCast]
 simp [show k < xs.length from by omega]
theorem MA {t : Au} (A B : Option Int) (hk : ¬ (t.fq = true ∧ (t.fd = 3 ∨ t.fd = 4))) : AG t.fq (AG (t.fd == 3 || t.fd == 4) A B) B = B := by
 cases ha : t.fq
 ·rfl
 ·have : (t.fd == 3 || t.fd == 4) = false := by
   rw [Bool.or_eq_false_iff]
   constructor
   ·simp only [beq_eq_false_iff_ne]; intro h; exact hk ⟨ha, .inl h⟩
   ·simp only [beq_eq_false_iff_ne]; intro h; exact hk ⟨ha, .inr h⟩
  rw [this]; rfl
theorem I7 {p : Ab} {i : Int} (hv : ∀ v, v ∈ p.fa → 1 ≤ v ∧ v ≤ 6) (h0 : 0 ≤ i) (h1 : i < (p.fa.length : Int)) : 1 ≤ p.fa.getD i.toNat 0 ∧ p.fa.getD i.toNat 0 ≤ 6 := by
 refine hv _ ?_
 rw [lD, List.getElem?_eq_getElem (by omega)]
 exact List.getElem_mem _
theorem L8 (N : Nat) (p : Ab) (t : Au) (hN : N ≤ 1000000) (h6 : 7 ≤ N) (hv : ∀ v, v ∈ p.fa → 1 ≤ v ∧ v ≤ 6) : Cc N p t = some (DO p t) := by
 unfold Cc DO
 simp only [Bh, Mg, oS]
 by_cases k1 : t.fd < 1
 ·simp [k1]
 by_cases k2 : 4 < t.fd
 ·simp [k1, k2]
 rw [Bj k1, Bj k2]
 by_cases hk : t.fq = true ∧ (t.fd = 3 ∨ t.fd = 4)
 ·obtain ⟨ha, k | k⟩ := hk <;> simp [ha, k]
 rw [AW, MA _ _ hk, if_neg (fun h => h.elim k1 fun h => h.elim k2 hk)]
 by_cases f1 : t.fg < 0
 ·simp [f1]
 by_cases f2 : (p.fa.length : Int) ≤ t.fg
 ·simp [f1, f2]
 by_cases f3 : t.fm < 0
 ·simp [f1, f2, f3]
 by_cases f4 : (p.fa.length : Int) ≤ t.fm
 ·simp [f1, f2, f3, f4]
 rw [Bj f1, Bj f2, Bj f3, if_neg (fun h => h.elim f1 fun h => h.elim f2 fun h => h.elim f3 f4)]
 have hf := I7 hv (i := t.fg) (by omega) (by omega)
 rw [decide_eq_false f4, AW, Hw (d := 0) (by omega : 0 ≤ t.fg) (by omega), Hw (d := 0) (by omega : 0 ≤ t.fm) (by omega)]
 simp only [oS]
 generalize p.fa.getD t.fg.toNat 0 = f at *
 generalize p.fa.getD t.fm.toNat 0 = g at *
 rw [JJ N t.fo f g (by omega) hN, JJ N t.fi f f (by omega) hN]
 simp only [oS]
 cases hq : sq t.fo f g
 ·rfl
 simp only [Bool.not_true, AW]
 by_cases k4 : t.fd = 4
 ·have : (t.fd != 4) = false := by simp [k4]
  rw [this, AW]
  simp only [k4, if_true]
  cases hr : sq t.fi f f
  ·rfl
  ·have h7 := L5 hr
   simp only [Bool.not_true, AW]
   rw [NR N t (by omega) hN (fun row hm => by have := h7.2 row hm; omega)]
   cases GP t.fi <;> simp [A1]
 ·have : (t.fd != 4) = true := by simpa using k4
  rw [this, Cy]
  simp only [k4, if_false]
  by_cases hr : t.fi.length = 0
  ·simp [hr]
  ·have : ((t.fi.length : Int) != 0) = true := bne_iff_ne.2 (by omega)
   rw [this]; simp [hr]
theorem N9 (N : Nat) (k : Int) (a : Bool) : DV N k a = some (k == 1 || (k == 2 || ((k == 3 || k == 4) && !a))) := by
 unfold DV
 simp only [Bh]
 cases h1 : k == 1 <;> cases h2 : k == 2 <;> cases h3 : k == 3 <;> cases h4 : k == 4 <;> cases a <;> rfl
theorem IM (N : Nat) (p : Ab) (t : Au) (hN : N ≤ 1000000) (h6 : 7 ≤ N) (hv : ∀ v, v ∈ p.fa → 1 ≤ v ∧ v ≤ 6) : DA N p t = some (DO p t) := by
 unfold DA DO
 simp only [Bh, N9, JI, oS]
 by_cases hb : t.fd < 1 ∨ 4 < t.fd ∨ (t.fq = true ∧ (t.fd = 3 ∨ t.fd = 4))
 ·have : (t.fd == 1 || (t.fd == 2 || ((t.fd == 3 || t.fd == 4) && !t.fq))) = false := by
   rcases hb with h | h | ⟨ha, h | h⟩
   ·rw [beq_eq_false_iff_ne.2 (by omega : t.fd ≠ 1), beq_eq_false_iff_ne.2 (by omega : t.fd ≠ 2), beq_eq_false_iff_ne.2 (by omega : t.fd ≠ 3), beq_eq_false_iff_ne.2 (by omega : t.fd ≠ 4)]; rfl
   ·rw [beq_eq_false_iff_ne.2 (by omega : t.fd ≠ 1), beq_eq_false_iff_ne.2 (by omega : t.fd ≠ 2), beq_eq_false_iff_ne.2 (by omega : t.fd ≠ 3), beq_eq_false_iff_ne.2 (by omega : t.fd ≠ 4)]; rfl
   ·simp [ha, h]
   ·simp [ha, h]
  rw [this, if_pos hb]; rfl
 ·have : (t.fd == 1 || (t.fd == 2 || ((t.fd == 3 || t.fd == 4) && !t.fq))) = true := by
   have hk : t.fd = 1 ∨ t.fd = 2 ∨ t.fd = 3 ∨ t.fd = 4 := by
    have h1 : ¬ t.fd < 1 := fun h => hb (.inl h)
    have h2 : ¬ 4 < t.fd := fun h => hb (.inr (.inl h))
    omega
   rcases hk with h | h | h | h
   ·simp [h]
   ·simp [h]
   ·cases ha : t.fq
    ·simp [h]
    ·exact (hb (.inr (.inr ⟨ha, .inl h⟩))).elim
   ·cases ha : t.fq
    ·simp [h]
    ·exact (hb (.inr (.inr ⟨ha, .inr h⟩))).elim
  rw [this, if_neg hb]
  simp only [Bool.not_true, AW]
  by_cases f1 : t.fg < 0
  ·simp [f1, show ¬ (0 ≤ t.fg) from by omega]
  by_cases f2 : (p.fa.length : Int) ≤ t.fg
  ·simp [f2, show ¬ (t.fg < (p.fa.length : Int)) from by omega]
  by_cases f3 : t.fm < 0
  ·simp [f3, show 0 ≤ t.fg from by omega, show t.fg < (p.fa.length : Int) from by omega, show ¬ (0 ≤ t.fm) from by omega]
  by_cases f4 : (p.fa.length : Int) ≤ t.fm
  ·simp [f4, show 0 ≤ t.fg from by omega, show t.fg < (p.fa.length : Int) from by omega, show ¬ (t.fm < (p.fa.length : Int)) from by omega]
  rw [if_neg (fun h => h.elim f1 fun h => h.elim f2 fun h => h.elim f3 f4)]
  have hf := I7 hv (i := t.fg) (by omega) (by omega)
  have hg := I7 hv (i := t.fm) (by omega) (by omega)
  rw [decide_eq_true (by omega : 0 ≤ t.fg), decide_eq_true (by omega : t.fg < (p.fa.length : Int)), decide_eq_true (by omega : 0 ≤ t.fm), decide_eq_true (by omega : t.fm < (p.fa.length : Int)), Hw (d := 0) (by omega : 0 ≤ t.fg) (by omega), Hw (d := 0) (by omega : 0 ≤ t.fm) (by omega)]
  simp only [Bool.and_self, Bool.not_true, AW, oS]
  generalize p.fa.getD t.fg.toNat 0 = f at *
  generalize p.fa.getD t.fm.toNat 0 = g at *
  rw [JX N t.fo f g (by omega) hN, JX N t.fi f f (by omega) hN]
  simp only [oS]
  cases hq : sq t.fo f g
  ·rfl
  simp only [Bool.not_true, AW]
  by_cases k4 : t.fd = 4
  ·simp only [k4, beq_self_eq_true, Cy, if_true]
   cases hr : sq t.fi f f
   ·rfl
   ·have h7 := L5 hr
    simp only [Bool.not_true, AW]
    rw [JL N t (by omega) hN (fun row hm => by have := h7.2 row hm; omega)]
    cases GP t.fi <;> simp [A1]
  ·have : (t.fd == 4) = false := beq_eq_false_iff_ne.2 k4
   rw [this, AW]
   simp only [k4, if_false, Bool.not_false, Cy]
   by_cases hr : t.fi.length = 0
   ·rw [JL N t (by omega) hN (fun row hm => by rw [List.eq_nil_of_length_eq_zero hr] at hm; cases hm), List.eq_nil_of_length_eq_zero hr]
    simp [GP, Dk, A1]
   ·rw [decide_eq_true (by omega : 0 < (t.fi.length : Int))]
    simp [hr]
def DM (p : Ab) (i : Nat) (v : Int) : Option Int :=
 if v < 1 ∨ 6 < v ∨ p.fh.getD i 0 < 0 ∨ v ≤ p.fh.getD i 0 ∨ p.fp.getD i 0 < 0 ∨ v ≤ p.fp.getD i 0 then some 7 else none
def IF (p : Ab) (_ : Nat) (t : Au) : Option Int := if DO p t = 0 then none else some (DO p t)
def BP (p : Ab) : Int :=
 if 6 < p.fa.length ∨ 12 < p.fb.length then 3
 else if p.fh.length ≠ p.fa.length ∨ p.fp.length ≠ p.fa.length then 6
 else ((A1 (Dk (DM p) 0 p.fa) (Dk (IF p) 0 p.fb)).getD 0)
theorem F6 {α R : Type} {f : Nat → α → Option R} : ∀ {i : Nat} {xs : List α}, Dk f i xs = none → ∀ j x, xs[j]? = some x → f (i + j) x = none
 | _, [], _, j, x, hx => by simp at hx
 | i, y :: ys, h, j, x, hx => by
  rw [Ha] at h
  split at h
  ·cases h
  ·rename_i h0
   cases j with
   | zero => simp at hx; subst hx; exact h0
   | succ j =>
    have := F6 h j x (by simpa using hx)
    rwa [show i + 1 + j = i + (j + 1) from by omega] at this
theorem IY {p : Ab} (h : Dk (DM p) 0 p.fa = none) : ∀ v, v ∈ p.fa → 1 ≤ v ∧ v ≤ 6 := by
 intro v hv
 obtain ⟨i, hi⟩ := List.mem_iff_getElem?.1 hv
 have := F6 h i v hi
 unfold DM at this
 split at this
 ·cases this
 ·rename_i hn
  constructor
  ·exact Int.not_lt.1 fun h => hn (.inl h)
  ·exact Int.not_lt.1 fun h => hn (.inr (.inl h))
theorem GS {α : Type} {xs : List α} {i : Nat} {d : α} (h : i < xs.length) : BY xs (i : Int) = some (xs.getD i d) := by
 rw [Cb, lD]; simp [h]
theorem Lt (N : Nat) (p : Ab) (hN : N ≤ 1000000) (h1 : p.fa.length < N) (h2 : p.fh.length = p.fa.length) (h3 : p.fp.length = p.fa.length) (j : Option Int) :
  AJ N p (fun _ => j) N 0 = A1 (Dk (DM p) 0 p.fa) j := by
 have := Ct (AJ N p (fun _ => j)) p.fa j (DM p)
  (fun n i x hx => by
   have hi := (lI.1 hx).1
   rw [AJ, BD (by omega), Cb, hx]
   simp only [oS, Bh]
   rw [GS (d := 0) (by omega), GS (d := 0) (by omega), Ch (by omega)]
   simp only [oS]
   unfold DM
   generalize p.fh.getD i 0 = a
   generalize p.fp.getD i 0 = b
   by_cases k1 : x < 1 <;> by_cases k2 : 6 < x <;> by_cases k3 : a < 0 <;> by_cases k4 : x ≤ a <;> by_cases k5 : b < 0 <;> by_cases k6 : x ≤ b <;> simp [k1, k2, k3, k4, k5, k6, A1])
  (fun n => by rw [AJ, Bj (by omega)]) N 0 (by omega) (by omega)
 simpa using this
theorem Kc (N : Nat) (p : Ab) (hN : N ≤ 1000000) (h1 : p.fa.length < N) (h2 : p.fh.length = p.fa.length) (h3 : p.fp.length = p.fa.length) (j : Option Int) :
  AV N p (fun _ => j) N 0 = A1 (Dk (DM p) 0 p.fa) j := by
 have := Ct (AV N p (fun _ => j)) p.fa j (DM p)
  (fun n i x hx => by
   have hi := (lI.1 hx).1
   rw [AV, BD (by omega), Cb, hx]
   simp only [oS, Bh, JI]
   rw [GS (d := 0) (by omega), GS (d := 0) (by omega), Ch (by omega)]
   simp only [oS]
   unfold DM
   generalize p.fh.getD i 0 = a
   generalize p.fp.getD i 0 = b
   have e1 : decide (0 ≤ a) = !decide (a < 0) := by rw [← decide_not]; congr 1; simp
   have e2 : decide (a < x) = !decide (x ≤ a) := by rw [← decide_not]; congr 1; simp
   have e3 : decide (0 ≤ b) = !decide (b < 0) := by rw [← decide_not]; congr 1; simp
   have e4 : decide (b < x) = !decide (x ≤ b) := by rw [← decide_not]; congr 1; simp
   rw [e1, e2, e3, e4]
   by_cases k1 : x < 1 <;> by_cases k2 : 6 < x <;> by_cases k3 : a < 0 <;> by_cases k4 : x ≤ a <;> by_cases k5 : b < 0 <;> by_cases k6 : x ≤ b <;> simp [k1, k2, k3, k4, k5, k6, A1])
  (fun n => by rw [AV, Bj (by omega)]) N 0 (by omega) (by omega)
 simpa using this
theorem MT (N : Nat) (p : Ab) (hN : N ≤ 1000000) (h6 : 7 ≤ N) (h1 : p.fb.length < N) (hv : ∀ v, v ∈ p.fa → 1 ≤ v ∧ v ≤ 6) (j : Option Int) :
  AF N p (fun _ => j) N 0 = A1 (Dk (IF p) 0 p.fb) j := by
 have := Ct (AF N p (fun _ => j)) p.fb j (IF p)
  (fun n i x hx => by
   have hi := (lI.1 hx).1
   rw [AF, BD (by omega), Cb, hx]
   simp only [oS]
   rw [L8 N p x hN h6 hv, Ch (by omega)]
   simp only [oS]
   unfold IF
   by_cases k : DO p x = 0
   ·simp [k, A1]
   ·rw [bne_iff_ne.2 k, if_neg k]; rfl)
  (fun n => by rw [AF, Bj (by omega)]) N 0 (by omega) (by omega)
 simpa using this
theorem Lw (N : Nat) (p : Ab) (hN : N ≤ 1000000) (h6 : 7 ≤ N) (h1 : p.fb.length < N) (hv : ∀ v, v ∈ p.fa → 1 ≤ v ∧ v ≤ 6) (j : Option Int) :
  AS N p (fun _ => j) N 0 = A1 (Dk (IF p) 0 p.fb) j := by
 have := Ct (AS N p (fun _ => j)) p.fb j (IF p)
  (fun n i x hx => by
   have hi := (lI.1 hx).1
   rw [AS, BD (by omega), Cb, hx]
   simp only [oS]
   rw [IM N p x hN h6 hv, Ch (by omega)]
   simp only [oS]
   unfold IF
   by_cases k : DO p x = 0
   ·simp [k, A1]
   ·rw [bne_iff_ne.2 k, if_neg k]; rfl)
  (fun n => by rw [AS, Bj (by omega)]) N 0 (by omega) (by omega)
 simpa using this
theorem Ln (N : Nat) (p : Ab) (hN : N ≤ 1000000) (h : 20 ≤ N) : A5 N p = some (BP p) := by
 unfold A5 BP
 simp only [Bh]
 by_cases k1 : 6 < p.fa.length
 ·rw [BD (by omega)]; simp [k1]
 rw [Bj (by omega)]
 by_cases k2 : 12 < p.fb.length
 ·rw [decide_eq_true (by omega : (12 : Int) < (p.fb.length : Int))]; simp [k2]
 rw [decide_eq_false (by omega : ¬ (12 : Int) < (p.fb.length : Int)), AW, if_neg (by omega)]
 by_cases k3 : p.fh.length = p.fa.length
 ·by_cases k4 : p.fp.length = p.fa.length
  ·rw [k3, k4]
   simp only [bne_self_eq_false, AW, ne_eq, not_true_eq_false, or_self, if_false]
   rw [Lt N p hN (by omega) k3 k4]
   cases hs : Dk (DM p) 0 p.fa with
   | some r => rfl
   | none =>
    simp only [A1]
    rw [MT N p hN (by omega) (by omega) (IY hs)]
    cases Dk (IF p) 0 p.fb <;> rfl
  ·have : ((p.fp.length : Int) != (p.fa.length : Int)) = true := bne_iff_ne.2 (by omega)
   rw [this, k3]; simp [k4]
 ·have : ((p.fh.length : Int) != (p.fa.length : Int)) = true := bne_iff_ne.2 (by omega)
  rw [this]; simp [k3]
theorem Gg (N : Nat) (p : Ab) (hN : N ≤ 1000000) (h : 20 ≤ N) : Bi N p = some (BP p) := by
 unfold Bi BP
 simp only [Bh]
 by_cases k1 : 6 < p.fa.length
 ·rw [BD (by omega)]; simp [k1]
 rw [Bj (by omega)]
 by_cases k2 : 12 < p.fb.length
 ·rw [decide_eq_true (by omega : (12 : Int) < (p.fb.length : Int))]; simp [k2]
 rw [decide_eq_false (by omega : ¬ (12 : Int) < (p.fb.length : Int)), AW, if_neg (by omega)]
 by_cases k3 : p.fh.length = p.fa.length
 ·by_cases k4 : p.fp.length = p.fa.length
  ·rw [k3, k4]
   simp only [bne_self_eq_false, AW, ne_eq, not_true_eq_false, or_self, if_false]
   rw [Kc N p hN (by omega) k3 k4]
   cases hs : Dk (DM p) 0 p.fa with
   | some r => rfl
   | none =>
    simp only [A1]
    rw [Lw N p hN (by omega) (by omega) (IY hs)]
    cases Dk (IF p) 0 p.fb <;> rfl
  ·have : ((p.fp.length : Int) != (p.fa.length : Int)) = true := bne_iff_ne.2 (by omega)
   rw [this, k3]; simp [k4]
 ·have : ((p.fh.length : Int) != (p.fa.length : Int)) = true := bne_iff_ne.2 (by omega)
  rw [this]; simp [k3]
theorem K9 {n : Int} (h : NC n) : 0 ≤ n ∧ n ≤ 255 := by
 unfold NC at h
 simpa [Lit.wf, IntKind.min, IntKind.max, IntKind.signed, IntKind.bits] using h
theorem Jy : ∀ k : Fin 256, C9 .u8 0 (k.val : Int) = 0 := by decide +kernel
theorem JD : ∀ k : Fin 256, C9 .u8 (k.val : Int) 0 = (k.val : Int) := by decide +kernel
theorem MQ {n : Int} (h : NC n) : C9 .u8 0 n = 0 := by
 have := K9 h
 obtain ⟨k, rfl⟩ := Int.eq_ofNat_of_zero_le this.1
 exact Jy ⟨k, by omega⟩
theorem Np {n : Int} (h : NC n) : C9 .u8 n 0 = n := by
 have := K9 h
 obtain ⟨k, rfl⟩ := Int.eq_ofNat_of_zero_le this.1
 exact JD ⟨k, by omega⟩
theorem ED {α R : Type} {f : Nat → α → Option R} : ∀ {i : Nat} {xs : List α} {r : R}, Dk f i xs = some r → ∃ j x, xs[j]? = some x ∧ f (i + j) x = some r
 | _, [], _, h => by cases h
 | i, y :: ys, r, h => by
  rw [Ha] at h
  split at h
  ·rename_i r' h0
   cases h
   exact ⟨0, y, rfl, h0⟩
  ·obtain ⟨j, x, h1, h2⟩ := ED h
   exact ⟨j + 1, x, by simpa using h1, by rwa [show i + (j + 1) = i + 1 + j from by omega]⟩
structure H4 (p : Ab) : Prop where
 nv : p.fa.length ≤ 6
 nt : p.fb.length ≤ 12
 now : p.fh.length = p.fa.length
 tgt : p.fp.length = p.fa.length
 ver : ∀ v, v ∈ p.fa → 1 ≤ v ∧ v ≤ 6
 tab : ∀ t, t ∈ p.fb → DO p t = 0
theorem LD (l : List (List Bool)) : (GP l).getD 0 = 0 ∨ (GP l).getD 0 = 1 := by
 cases h : GP l with
 | none => exact .inl rfl
 | some r =>
  obtain ⟨j, x, _, h⟩ := ED h
  split at h
  ·cases h
  ·cases h; exact .inr rfl
theorem J8 (p : Ab) (t : Au) : DO p t = 0 ∨ DO p t = 1 ∨ DO p t = 4 ∨ DO p t = 6 := by
 unfold DO
 split
 ·exact .inr (.inl rfl)
 split
 ·exact .inr (.inr (.inl rfl))
 simp only
 split
 ·exact .inr (.inr (.inr rfl))
 split
 ·split
  ·exact .inr (.inr (.inr rfl))
  ·rcases LD t.fi with h | h
   ·exact .inl h
   ·exact .inr (.inl h)
 ·split
  ·exact .inl rfl
  ·exact .inr (.inr (.inr rfl))
theorem Gu (p : Ab) : (BP p = 0 ∧ H4 p) ∨ (BP p = 1 ∨ BP p = 3 ∨ BP p = 4 ∨ BP p = 6 ∨ BP p = 7) := by
 unfold BP
 split
 ·simp
 rename_i k1
 split
 ·simp
 rename_i k2
 cases hs : Dk (DM p) 0 p.fa with
 | some r =>
  obtain ⟨j, x, _, h⟩ := ED hs
  unfold DM at h
  split at h
  ·cases h; simp [A1]
  ·cases h
 | none =>
  cases ht : Dk (IF p) 0 p.fb with
  | some r =>
   obtain ⟨j, t, _, h⟩ := ED ht
   unfold IF at h
   split at h
   ·cases h
   ·rename_i hne
    cases h
    simp only [A1, Option.getD_some]
    right
    rcases J8 p t with h | h | h | h
    ·exact (hne h).elim
    ·exact .inl h
    ·exact .inr (.inr (.inl h))
    ·exact .inr (.inr (.inr (.inl h)))
  | none =>
   left
   refine ⟨rfl, by omega, by omega, by omega, by omega, IY hs, fun t hm => ?_⟩
   obtain ⟨j, hj⟩ := List.mem_iff_getElem?.1 hm
   have := F6 ht j t hj
   unfold IF at this
   split at this
   ·assumption
   ·cases this
def Mo (m : Ah) (s : Nat) : Int :=
 if 0 ≤ m.fc.getD s 0 then Oe .u8 (EF .u8 1 (m.fe.getD s 0)) (EF .u8 1 (m.fc.getD s 0)) else EF .u8 1 (m.fe.getD s 0)
def Kk (m : Ah) (i : Nat) (v : Int) : Option Int :=
 if m.fe.getD i 0 < 0 ∨ v ≤ m.fe.getD i 0 ∨ m.fc.getD i 0 < -1 ∨ v ≤ m.fc.getD i 0 then some 7
 else if m.fe.getD i 0 = m.fc.getD i 0 then some 1 else none
def Ew (t : Au) : Bool := t.fd == 3 || t.fd == 4
def Qe (p : Ab) (t : Au) : Int := wI .u8 (EF .u8 1 (p.fa.getD t.fg.toNat 0) - 1)
def Jo (p : Ab) (m : Ah) (i : Nat) (t : Au) : Option Int :=
 if Ew t = true then (if C9 .u8 (Mo m t.fg.toNat) (m.ff.getD i 0) ≠ 0 ∨ C9 .u8 (m.ff.getD i 0) (Qe p t) ≠ 0 then some 1 else none)
 else if m.ff.getD i 0 ≠ 0 then some 1 else none
def Da (p : Ab) (m : Ah) : Int :=
 if BP p ≠ 0 then BP p
 else if m.fe.length ≠ p.fa.length ∨ m.fc.length ≠ p.fa.length ∨ m.ff.length ≠ p.fb.length then 6
 else (A1 (Dk (Kk m) 0 p.fa) (Dk (Jo p m) 0 p.fb)).getD 0
theorem ME {p : Ab} {t : Au} (h : DO p t = 0) : 0 ≤ t.fg ∧ t.fg < (p.fa.length : Int) ∧ 0 ≤ t.fm ∧ t.fm < (p.fa.length : Int) := by
 unfold DO at h
 split at h
 ·cases h
 ·split at h
  ·cases h
  ·omega
theorem Lv (N : Nat) (m : Ah) (s : Int) (h0 : 0 ≤ s) (h1 : s < (m.fe.length : Int)) (h2 : s < (m.fc.length : Int)) (hb : 0 ≤ m.fe.getD s.toNat 0) : Cw N m s = some (Mo m s.toNat) := by
 unfold Cw Mo
 rw [Hw (d := 0) h0 h1, Hw (d := 0) h0 h2]
 simp only [oS, Bh]
 rw [show Ei (0 ≤ m.fe.getD s.toNat 0) = some () from by unfold Ei; rw [if_pos hb]]
 simp only [oS]
 by_cases h : 0 ≤ m.fc.getD s.toNat 0
 ·rw [BD h, if_pos h, show Ei (0 ≤ m.fc.getD s.toNat 0) = some () from by unfold Ei; rw [if_pos h]]; rfl
 ·rw [Bj h, if_neg h]
theorem J4 (N : Nat) (p : Ab) (m : Ah) (hN : N ≤ 1000000) (h1 : p.fa.length < N) (h2 : m.fe.length = p.fa.length) (h3 : m.fc.length = p.fa.length) (j : Option Int) :
  BW N p m (fun _ => j) N 0 = A1 (Dk (Kk m) 0 p.fa) j := by
 have := Ct (BW N p m (fun _ => j)) p.fa j (Kk m)
  (fun n i x hx => by
   have hi := (lI.1 hx).1
   rw [BW, BD (by omega), Cb, hx]
   simp only [oS, Bh]
   rw [GS (d := 0) (by omega), GS (d := 0) (by omega), Ch (by omega)]
   simp only [oS]
   unfold Kk
   generalize m.fe.getD i 0 = a
   generalize m.fc.getD i 0 = b
   by_cases k7 : a = b
   ·subst k7
    by_cases k3 : a < 0 <;> by_cases k4 : x ≤ a <;> by_cases k5 : a < -1 <;> simp [k3, k4, k5, A1]
   ·have k8 : (a == b) = false := beq_eq_false_iff_ne.2 k7
    by_cases k3 : a < 0 <;> by_cases k4 : x ≤ a <;> by_cases k5 : b < -1 <;> by_cases k6 : x ≤ b <;> simp [k3, k4, k5, k6, k7, k8, A1])
  (fun n => by rw [BW, Bj (by omega)]) N 0 (by omega) (by omega)
 simpa using this
structure LL (p : Ab) (m : Ah) : Prop where
 base : m.fe.length = p.fa.length
 next : m.fc.length = p.fa.length
 held : m.ff.length = p.fb.length
 b0 : ∀ i, i < p.fa.length → 0 ≤ m.fe.getD i 0 ∧ m.fe.getD i 0 < p.fa.getD i 0
 n0 : ∀ i, i < p.fa.length → -1 ≤ m.fc.getD i 0 ∧ m.fc.getD i 0 < p.fa.getD i 0
 ne : ∀ i, i < p.fa.length → m.fe.getD i 0 ≠ m.fc.getD i 0
theorem NY {p : Ab} {m : Ah} (h2 : m.fe.length = p.fa.length) (h3 : m.fc.length = p.fa.length) (h4 : m.ff.length = p.fb.length) (h : Dk (Kk m) 0 p.fa = none) : LL p m := by
 have key : ∀ i, i < p.fa.length → ¬ (m.fe.getD i 0 < 0 ∨ p.fa.getD i 0 ≤ m.fe.getD i 0 ∨ m.fc.getD i 0 < -1 ∨ p.fa.getD i 0 ≤ m.fc.getD i 0) ∧ ¬ m.fe.getD i 0 = m.fc.getD i 0 := by
  intro i hi
  have hx : p.fa[i]? = some (p.fa.getD i 0) := by rw [lD]; simp [hi]
  have := F6 h i _ hx
  rw [Nat.zero_add] at this
  unfold Kk at this
  split at this
  ·cases this
  ·split at this
   ·cases this
   ·rename_i k1 k2; exact ⟨k1, k2⟩
 exact ⟨h2, h3, h4, fun i hi => by have := (key i hi).1; omega, fun i hi => by have := (key i hi).1; omega, fun i hi => (key i hi).2⟩
theorem M1 {m : Ah} (hw : Jv NC m.ff) {i : Nat} (h : i < m.ff.length) : NC (m.ff.getD i 0) := by
 refine hw _ ?_
 rw [lD, List.getElem?_eq_getElem h]
 exact List.getElem_mem _
theorem Hm (N : Nat) (t : Au) : CL N t = some (Ew t) := by
 unfold CL Ew
 simp only [Bh]
 cases h : t.fd == 3 <;> simp
theorem Lo (N : Nat) (p : Ab) (m : Ah) (hN : N ≤ 1000000) (h1 : p.fb.length < N) (hp : H4 p) (hm : LL p m) (hw : Jv NC m.ff) (j : Option Int) :
  BC N p m (fun _ => j) N 0 = A1 (Dk (Jo p m) 0 p.fb) j := by
 have := Ct (BC N p m (fun _ => j)) p.fb j (Jo p m)
  (fun n i x hx => by
   have hi := (lI.1 hx).1
   have hin := ME (hp.tab x (lM hx))
   have hheld := M1 hw (show i < m.ff.length from by rw [hm.held]; exact hi)
   have hv := I7 hp.ver hin.1 hin.2.1
   rw [BC, BD (by omega), Cb, hx]
   simp only [oS, Bh, Hm]
   rw [Lv N m x.fg hin.1 (by rw [hm.base]; exact hin.2.1) (by rw [hm.next]; exact hin.2.1) (hm.b0 _ (by omega)).1, Hw (d := 0) hin.1 hin.2.1, GS (d := 0) (show i < m.ff.length from by rw [hm.held]; exact hi), Ch (by omega)]
   simp only [oS]
   rw [show Ei (0 ≤ p.fa.getD x.fg.toNat 0) = some () from by unfold Ei; rw [if_pos (by omega)]]
   simp only [oS]
   unfold Jo Qe
   rw [MQ hheld, Np hheld]
   generalize C9 .u8 (Mo m x.fg.toNat) (m.ff.getD i 0) = A
   generalize C9 .u8 (m.ff.getD i 0) (wI .u8 (EF .u8 1 (p.fa.getD x.fg.toNat 0) - 1)) = B
   generalize m.ff.getD i 0 = H
   cases Ew x
   ·simp only [AW, bne_self_eq_false]
    by_cases k : H = 0
    ·simp [k, A1]
    ·have : (H != 0) = true := bne_iff_ne.2 k
     simp [k, this, A1]
   ·simp only [Cy]
    by_cases k : A = 0
    ·by_cases k2 : B = 0
     ·simp [k, k2, A1]
     ·have : (B != 0) = true := bne_iff_ne.2 k2
      simp [k, k2, this, A1]
    ·have : (A != 0) = true := bne_iff_ne.2 k
     simp [k, this, A1])
  (fun n => by rw [BC, Bj (by omega)]) N 0 (by omega) (by omega)
 simpa using this
theorem HJ (N : Nat) (p : Ab) (m : Ah) (hN : N ≤ 1000000) (h : 20 ≤ N) (hw : Jv NC m.ff) : CK N p m = some (Da p m) := by
 unfold CK Da
 rw [Gg N p hN h]
 simp only [oS, Bh]
 by_cases k0 : BP p = 0
 ·have hp : H4 p := by
   rcases Gu p with h | h
   ·exact h.2
   ·omega
  have hnv := hp.nv
  have hnt := hp.nt
  rw [k0]
  simp only [bne_self_eq_false, AW, ne_eq, not_true_eq_false, if_false]
  by_cases k1 : m.fe.length = p.fa.length
  ·by_cases k2 : m.fc.length = p.fa.length
   ·by_cases k3 : m.ff.length = p.fb.length
    ·rw [k1, k2, k3]
     simp only [bne_self_eq_false, AW, not_true_eq_false, or_self, if_false]
     rw [J4 N p m hN (by omega) k1 k2]
     cases hs : Dk (Kk m) 0 p.fa with
     | some r => rfl
     | none =>
      simp only [A1]
      rw [Lo N p m hN (by omega) hp (NY k1 k2 k3 hs) hw]
      cases Dk (Jo p m) 0 p.fb <;> rfl
    ·have : ((m.ff.length : Int) != (p.fb.length : Int)) = true := bne_iff_ne.2 (by omega)
     rw [this, k1, k2]; simp [k3]
   ·have : ((m.fc.length : Int) != (p.fa.length : Int)) = true := bne_iff_ne.2 (by omega)
    rw [this, k1]; simp [k2]
  ·have : ((m.fe.length : Int) != (p.fa.length : Int)) = true := bne_iff_ne.2 (by omega)
   rw [this]; simp [k1]
 ·rw [bne_iff_ne.2 k0]; simp [k0]
theorem Kv (p : Ab) (m : Ah) : Da p m = 0 ∨ Da p m = 1 ∨ Da p m = 3 ∨ Da p m = 4 ∨ Da p m = 6 ∨ Da p m = 7 := by
 unfold Da
 split
 ·rename_i h
  rcases Gu p with h1 | h1
  ·exact (h h1.1).elim
  ·exact .inr h1
 split
 ·simp
 cases hs : Dk (Kk m) 0 p.fa with
 | some r =>
  obtain ⟨j, x, _, h⟩ := ED hs
  unfold Kk at h
  split at h
  ·cases h; simp [A1]
  ·split at h
   ·cases h; simp [A1]
   ·cases h
 | none =>
  cases ht : Dk (Jo p m) 0 p.fb with
  | some r =>
   obtain ⟨j, x, _, h⟩ := ED ht
   unfold Jo at h
   split at h
   ·split at h
    ·cases h; simp [A1]
    ·cases h
   ·split at h
    ·cases h; simp [A1]
    ·cases h
  | none => simp [A1]
@[simp] theorem IK {α β : Type} (k : α) (f : α → β) : Bh k f = f k := rfl
@[simp] theorem Nm {p : Prop} [Decidable p] (h : p) : Ei p = some () := by unfold Ei; rw [if_pos h]
theorem F3 {β : Type} {p : Prop} [Decidable p] (h : p) (f : Unit → Option β) : (Ei p).bind f = f () := by rw [Nm h]; rfl
def OM {α A : Type} (f : Nat → α → A → A) : Nat → List α → A → A
 | _, [], a => a
 | i, x :: xs, a => OM f (i + 1) xs (f i x a)
def Po (s : Int) (v : Nat) : Bool := s.toNat.testBit v
def Qs (m : Ah) (s v : Nat) : Bool := decide (m.fe.getD s 0 = (v : Int)) || decide (m.fc.getD s 0 = (v : Int))
theorem O0 {p : Ab} (hp : H4 p) {i : Nat} (hi : i < p.fa.length) : 1 ≤ p.fa.getD i 0 ∧ p.fa.getD i 0 ≤ 6 := by
 have := I7 (i := (i : Int)) hp.ver (by omega) (by omega)
 simpa using this
theorem I4 {p : Ab} (h : BP p = 0) : H4 p ∧ ∀ i, i < p.fa.length → 0 ≤ p.fh.getD i 0 ∧ p.fh.getD i 0 < p.fa.getD i 0 ∧ 0 ≤ p.fp.getD i 0 ∧ p.fp.getD i 0 < p.fa.getD i 0 := by
 have hp : H4 p := by
  rcases Gu p with h | h
  ·exact h.2
  ·omega
 refine ⟨hp, fun i hi => ?_⟩
 have h1 := hp.nv
 have h2 := hp.nt
 have h3 := hp.now
 have h4 := hp.tgt
 unfold BP at h
 rw [if_neg (by omega), if_neg (by omega)] at h
 cases hs : Dk (DM p) 0 p.fa with
 | some r =>
  obtain ⟨j, x, _, he⟩ := ED hs
  rw [hs] at h
  unfold DM at he
  split at he
  ·cases he; cases h
  ·cases he
 | none =>
  have hx : p.fa[i]? = some (p.fa.getD i 0) := by rw [lD]; simp [hi]
  have := F6 hs i _ hx
  rw [Nat.zero_add] at this
  unfold DM at this
  split at this
  ·cases this
  ·rename_i hn; omega
def hC (m : Ah) (t : Au) (v : Nat) (ok : Bool) : Bool := Qs m t.fm.toNat v && ok
theorem LK {A S R : Type} (L : Nat → S → Option R) (mk : A → Int → S) (len : Nat) (j : A → Option R) (I : Nat → A → Prop)
  (hs : ∀ (n i : Nat) (a : A), i < len → I i a → ∃ a', L (n + 1) (mk a (i : Int)) = L n (mk a' ((i + 1 : Nat) : Int)) ∧ I (i + 1) a')
  (he : ∀ (n : Nat) (a : A), I len a → L (n + 1) (mk a (len : Int)) = j a) :
  ∀ (n i : Nat) (a : A), i ≤ len → len - i < n → I i a → ∃ a', L n (mk a (i : Int)) = j a' ∧ I len a'
 | 0, i, _, _, h, _ => by omega
 | n + 1, i, a, hi, h, ha => by
  by_cases h1 : i < len
  ·obtain ⟨a', e1, e2⟩ := hs n i a h1 ha
   rw [e1]
   exact LK L mk len j I hs he n (i + 1) _ (by omega) (by omega) e2
  ·have : i = len := by omega
   subst this
   exact ⟨a, he n a ha, ha⟩
structure L7 (m x : Ah) : Prop where
 base : x.fe = m.fe
 held : x.ff = m.ff
 len : x.fc.length = m.fc.length
 next : ∀ q, q < m.fc.length → x.fc.getD q 0 = m.fc.getD q 0 ∨ (0 ≤ m.fc.getD q 0 ∧ x.fc.getD q 0 = -1)
theorem L7.refl (m : Ah) : L7 m m := ⟨rfl, rfl, rfl, fun _ _ => .inl rfl⟩
theorem L7.trans {a b c : Ah} (h1 : L7 a b) (h2 : L7 b c) : L7 a c :=
 ⟨h2.base.trans h1.base, h2.held.trans h1.held, h2.len.trans h1.len, fun q hq => by
  have e1 := h1.next q hq
  have e2 := h2.next q (by rw [h1.len]; exact hq)
  omega⟩
theorem Mi (N : Nat) (l : List Int) (h : l.length ≤ GD) : AR N l = some l := by
 unfold AR
 rw [F3 (by simpa using h)]; rfl
def Gz : Ah := ⟨[], [], []⟩
def P5 : Ar := ⟨0, 0, 0⟩
theorem Mj (N : Nat) (hN : N ≤ 1000000) (h20 : 100 ≤ N) (p : Ab) : ∃ b, Cz N p = some b := by
 unfold Cz
 simp only [IK]
 by_cases h1 : 8 < (p.fa.length : Int)
 ·rw [BD h1]; exact ⟨_, rfl⟩
 rw [Bj h1]
 by_cases h2 : 8 < (p.fh.length : Int)
 ·rw [BD h2]; exact ⟨_, rfl⟩
 rw [Bj h2]
 by_cases h3 : 8 < (p.fp.length : Int)
 ·rw [BD h3]; exact ⟨_, rfl⟩
 rw [Bj h3]
 by_cases h4 : 14 < (p.fb.length : Int)
 ·rw [decide_eq_true h4]; exact ⟨_, rfl⟩
 rw [decide_eq_false h4, AW]
 have inner1 : ∀ (i : Nat) (t : Au), p.fb[i]? = some t → t.fo.length ≤ 8 → ∀ j : Option Bool, ∃ r, A2 N p (i : Int) (fun _ => j) N 0 = A1 r j := by
  intro i t ht hl j
  refine ⟨_, Ct (A2 N p (i : Int) fun _ => j) t.fo j (fun _ row => if 8 < (row.length : Int) then some false else none) (fun n k x hx => ?_) (fun n => ?_) N 0 (Nat.zero_le _) (by omega)⟩
  ·have hk := (lI.1 hx).1
   rw [A2, Cb, ht]
   simp only [oS]
   rw [BD (by omega), Cb, hx, Ch (by omega)]
   simp only [oS]
   by_cases h : 8 < (x.length : Int)
   ·rw [BD h, if_pos h]; rfl
   ·rw [Bj h, if_neg h]; rfl
  ·rw [A2, Cb, ht]
   simp only [oS]
   rw [Bj (by simp)]
 have inner2 : ∀ (i : Nat) (t : Au), p.fb[i]? = some t → t.fi.length ≤ 8 → ∀ j : Option Bool, ∃ r, A3 N p (i : Int) (fun _ => j) N 0 = A1 r j := by
  intro i t ht hl j
  refine ⟨_, Ct (A3 N p (i : Int) fun _ => j) t.fi j (fun _ row => if 8 < (row.length : Int) then some false else none) (fun n k x hx => ?_) (fun n => ?_) N 0 (Nat.zero_le _) (by omega)⟩
  ·have hk := (lI.1 hx).1
   rw [A3, Cb, ht]
   simp only [oS]
   rw [BD (by omega), Cb, hx, Ch (by omega)]
   simp only [oS]
   by_cases h : 8 < (x.length : Int)
   ·rw [BD h, if_pos h]; rfl
   ·rw [Bj h, if_neg h]; rfl
  ·rw [A3, Cb, ht]
   simp only [oS]
   rw [Bj (by simp)]
 have outer : ∀ n i : Nat, i ≤ p.fb.length → p.fb.length - i < n → ∃ b, Bv N p (fun _ => some true) n (i : Int) = some b := by
  intro n
  induction n with
  | zero => intro i _ h; omega
  | succ n ih =>
   intro i hi hn
   rw [Bv]
   simp only [IK]
   by_cases h : i < p.fb.length
   ·have hx : p.fb[i]? = some p.fb[i] := by simp [h]
    generalize p.fb[i] = t at hx
    rw [BD (by omega), Cb, hx]
    simp only [oS]
    by_cases k1 : 8 < (t.fo.length : Int)
    ·rw [BD k1]; exact ⟨_, rfl⟩
    rw [Bj k1]
    by_cases k2 : 8 < (t.fi.length : Int)
    ·rw [decide_eq_true k2]; exact ⟨_, rfl⟩
    rw [decide_eq_false k2, AW, Ch (by omega)]
    obtain ⟨b, hb⟩ := ih (i + 1) (by omega) (by omega)
    rw [hb]
    obtain ⟨r2, e2⟩ := inner2 i t hx (by omega) (some b)
    obtain ⟨r1, e1⟩ := inner1 i t hx (by omega) (A1 r2 (some b))
    rw [e2, e1]
    cases r1 with
    | some r => exact ⟨_, rfl⟩
    | none => cases r2 <;> exact ⟨_, rfl⟩
   ·rw [Bj (by omega)]; exact ⟨_, rfl⟩
 exact outer N 0 (Nat.zero_le _) (by omega)
open Go
structure RB (x y : Au) : Prop where
 k : y.fd = x.fd
 f : y.fg = x.fg
 t : y.fm = x.fm
 a : y.fq = x.fq
 r : y.fi = x.fi
 l : y.fo.length = x.fo.length
 o : ∀ (u : Nat) (row : List Bool), x.fo[u]? = some row → ∃ row', y.fo[u]? = some row' ∧ row'.length = row.length ∧ ∀ v : Nat, row[v]? = some true → row'[v]? = some true
theorem RB.st {x y : Au} (h : RB x y) : Ew y = Ew x := by unfold Ew; rw [h.k]
structure PK (p : Ab) (m x : Ah) : Prop where
 base : m.fe = x.fe
 next : m.fc = x.fc
 held : ∀ i, i < p.fb.length → ∀ v, Po (m.ff.getD i 0) v = true → Po (x.ff.getD i 0) v = true
theorem PK.refl (p : Ab) (m : Ah) : PK p m m := ⟨rfl, rfl, fun _ _ _ h => h⟩
theorem PK.trans {p : Ab} {a b c : Ah} (h : PK p a b) (g : PK p b c) : PK p a c := ⟨h.base.trans g.base, h.next.trans g.next, fun i hi v hv => g.held i hi v (h.held i hi v hv)⟩
def Hk (p : Ab) (t : Au) : Int := if Ew t = true then EF .u8 1 (p.fh.getD t.fg.toNat 0) else 0
def Nk (p : Ab) : Ah := ⟨p.fh, List.replicate p.fh.length (-1), p.fb.map (Hk p)⟩
theorem L9 (N : Nat) (h : 100 ≤ N) (n : Nat) (hn : n ≤ 6) : B8 N [(-1)] (n : Int) = some (List.replicate n (-1)) := by
 obtain ⟨k, rfl⟩ : ∃ k, N = k + 100 := ⟨N - 100, by omega⟩
 have : n = 0 ∨ n = 1 ∨ n = 2 ∨ n = 3 ∨ n = 4 ∨ n = 5 ∨ n = 6 := by omega
 rcases this with rfl | rfl | rfl | rfl | rfl | rfl | rfl
 all_goals (show _ = _; kernel_rfl)
theorem KP (T : List Int) (i : Nat) (hi : i < T.length) : (T.take i ++ List.replicate (T.length - i) 0).set i (T.getD i 0) = T.take (i + 1) ++ List.replicate (T.length - (i + 1)) 0 := by
 have hl : (T.take i).length = i := by simp; omega
 rw [List.set_append_right _ _ (by omega), hl, Nat.sub_self, show T.length - i = (T.length - (i + 1)) + 1 from by omega, List.replicate_succ, List.set_cons_zero, List.take_add_one, List.append_assoc]
 have : T[i]? = some (T.getD i 0) := by rw [lD]; simp [hi]
 rw [this]; rfl
theorem Mv (T : List Int) (i : Nat) (hi : i < T.length) (h0 : T.getD i 0 = 0) : T.take i ++ List.replicate (T.length - i) 0 = T.take (i + 1) ++ List.replicate (T.length - (i + 1)) 0 := by
 rw [← KP T i hi, h0, List.set_append_right _ _ (by rw [List.length_take]; omega)]
 congr 1
 have hl : (T.take i).length = i := by simp; omega
 rw [hl, Nat.sub_self, show T.length - i = (T.length - (i + 1)) + 1 from by omega, List.replicate_succ, List.set_cons_zero]
theorem Pk {p : Ab} (hv : BP p = 0) {t : Au} (ht : t ∈ p.fb) : 0 ≤ t.fg ∧ t.fg.toNat < p.fh.length ∧ 0 ≤ p.fh.getD t.fg.toNat 0 ∧ p.fh.getD t.fg.toNat 0 < 6 ∧ p.fh.getD t.fg.toNat 0 < p.fa.getD t.fg.toNat 0 ∧ t.fg.toNat < p.fa.length := by
 obtain ⟨hp, hr⟩ := I4 hv
 have h1 := ME (hp.tab t ht)
 have h2 := hr t.fg.toNat (by omega)
 have h3 := O0 hp (i := t.fg.toNat) (by omega)
 have := hp.now
 refine ⟨h1.1, by omega, h2.1, by omega, h2.2.1, by omega⟩
theorem KA {p : Ab} {i : Nat} {t : Au} (ht : p.fb[i]? = some t) : (p.fb.map (Hk p)).getD i 0 = Hk p t := by
 rw [lD, List.getElem?_map, ht]; rfl
theorem Kf (N : Nat) (p : Ab) (hN : N ≤ 1000000) (h20 : 100 ≤ N) : Dg N p = some (if BP p = 0 then Nk p else ⟨[], [], []⟩, BP p) := by
 unfold Dg
 rw [Gg N p hN (by omega)]
 simp only [oS]
 by_cases hv : BP p = 0
 ·rw [if_pos hv, hv]
  obtain ⟨hp, _⟩ := I4 hv
  have hnv := hp.nv
  have hnt := hp.nt
  have hnow := hp.now
  rw [bne_self_eq_false, AW, Mi N _ (by simp only [GD]; omega)]
  simp only [oS]
  rw [L9 N h20 _ (by omega)]
  simp only [oS]
  rw [F3 (by simp only [GD]; omega)]
  obtain ⟨a', e, ha⟩ := LK (BV N p fun v7 => some (Ah.mk p.fh (List.replicate p.fh.length (-1)) v7, 0)) (fun a i => (a, i)) p.fb.length (fun v7 => some (Ah.mk p.fh (List.replicate p.fh.length (-1)) v7, 0))
   (fun i a => a = (p.fb.map (Hk p)).take i ++ List.replicate ((p.fb.map (Hk p)).length - i) 0)
   (fun n i a hi ha => by
    have hx : p.fb[i]? = some p.fb[i] := by simp [hi]
    have hm : p.fb[i] ∈ p.fb := List.getElem_mem hi
    obtain ⟨n1, n2, n3, n4, _⟩ := Pk hv hm
    rw [BV, BD (by simp only; omega)]
    simp only [IK, Cb, hx, oS, Hm, Ch (show i < 1000000 by omega)]
    have hal : i < (p.fb.map (Hk p)).length := by simpa using hi
    cases hs : Ew p.fb[i]
    ·rw [AW]
     refine ⟨a, rfl, ?_⟩
     rw [ha]
     exact Mv _ _ hal (by rw [KA hx]; unfold Hk; rw [hs]; rfl)
    ·rw [Cy]
     have e1 : BY p.fh p.fb[i].fg = some (p.fh.getD p.fb[i].fg.toNat 0) := by
      obtain ⟨q, hq⟩ := Int.eq_ofNat_of_zero_le n1
      rw [hq]; exact GS (by rw [hq] at n2; simpa using n2)
     rw [e1]
     simp only [oS]
     rw [F3 n3]
     have hl : i < a.length := by rw [ha]; simp; omega
     have e2 : a[i]? = some a[i] := by simp [hl]
     rw [e2]
     simp only [oS]
     refine ⟨_, rfl, ?_⟩
     rw [← KP _ _ hal, KA hx, ha]
     unfold Hk; rw [hs]; rfl)
   (fun n a ha => by rw [BV, Bj (by simp)]) N 0 (List.replicate p.fb.length 0) (Nat.zero_le _) (by omega) (by simp)
  have e' : BV N p (fun v7 => some (Ah.mk p.fh (List.replicate p.fh.length (-1)) v7, 0)) N (List.replicate ((p.fb.length : Int)).toNat (0 : Int), 0) = _ := e
  rw [e', ha]
  have e5 : (p.fb.map (Hk p)).take p.fb.length = p.fb.map (Hk p) := List.take_of_length_le (by simp)
  simp [Nk, e5]
 ·rw [if_neg hv, bne_iff_ne.2 hv, Cy]
def Qh (s : Ac) : Bool := decide (1 ≤ s.fd ∧ s.fd ≤ 4 ∧ 0 ≤ s.fj ∧ 0 ≤ s.fk) && (s.fd == 1 || s.fk == 0)
def P9 (p : Ab) (s : Ac) : Bool :=
 if s.fd = 3 then decide (s.fj < (p.fb.length : Int)) else decide (s.fj < (p.fa.length : Int)) && (s.fd != 1 || decide (s.fk < p.fa.getD s.fj.toNat 0))
def RK (s : Ac) (t : Au) : Bool := t.fg == s.fj && Ew t
def RE (s : Ac) (i : Nat) (t : Au) (a : List Int) : List Int := if RK s t = true then a.set i (Oe .u8 (a.getD i 0) (EF .u8 1 s.fk)) else a
def O4 (p : Ab) (s : Ac) (held : List Int) : List Int := OM (RE s) 0 p.fb held
def Qz (m : Ah) (t : Au) (u : Nat) : Bool := (t.fi.getD u []).getD (m.fe.getD t.fg.toNat 0).toNat false
def Rc (m : Ah) (i : Nat) (t : Au) (u : Nat) : Bool := Po (m.ff.getD i 0) u && !Qs m t.fg.toNat u
def Pq (_p : Ab) (m : Ah) (i : Nat) (t : Au) : Bool := t.fd == 4 && (List.range 8).any fun u => Rc m i t u && !Qz m t u
def PE (p : Ab) (m : Ah) (s : Ac) : Option Ah :=
 let i := s.fj.toNat
 if s.fd = 1 then (if 0 ≤ m.fc.getD i 0 ∨ m.fe.getD i 0 = s.fk then none else some ⟨m.fe, m.fc.set i s.fk, O4 p s m.ff⟩)
 else if s.fd = 3 then match p.fb[i]? with
  | none => none
  | some t => if Ew t = false ∨ m.ff.getD i 0 = Mo m t.fg.toNat ∨ Pq p m i t = true then none else some ⟨m.fe, m.fc, m.ff.set i (Mo m t.fg.toNat)⟩
 else if m.fc.getD i 0 < 0 then none
 else some ⟨if s.fd = 2 then m.fe.set i (m.fc.getD i 0) else m.fe, m.fc.set i (-1), m.ff⟩
def O9 (p : Ab) (m : Ah) (s : Ac) : Ah × Int :=
 if Qh s = false then (Gz, 1) else if P9 p s = false then (Gz, 4) else match PE p m s with
  | none => (Gz, 11)
  | some x => (x, 0)
end Go.Lift
namespace Go.Lift
open Go
section clear
variable {p : Ab} {m : Ah} {i : Nat} {t : Au}
end clear
end Go.Lift
namespace Go.Lift
open Go
end Go.Lift
namespace Go.Lift
open Go
section
variable {N : Nat} {p : Ab} {l : List Ac}
end
end Go.Lift
namespace Go.Lift
open Go
end Go.Lift
namespace Go.Lift
namespace Bfs
section
variable {α σ : Type}
def code (rk : σ → Nat) (K : Nat) (w : List σ) : Nat := w.foldl (fun c s => c * K + rk s) 0
def QE (rk : σ → Nat) (K : Nat) (w : List σ) : Prop := ∀ s, s ∈ w → 1 ≤ rk s ∧ rk s ≤ K
theorem QE.snoc {rk : σ → Nat} {K : Nat} {w : List σ} {s : σ} (h : QE rk K w) (hs : 1 ≤ rk s ∧ rk s ≤ K) : QE rk K (w ++ [s]) := by
 intro x hx; rcases List.mem_append.1 hx with h1 | h1
 ·exact h x h1
 ·rw [List.mem_singleton.1 h1]; exact hs
abbrev Nd (α σ : Type) := α × Int × σ
def put [DecidableEq α] (i : Nat) (l : List (Nd α σ)) (q : σ × α) : List (Nd α σ) := if (l.any fun n => decide (n.1 = q.2)) = true then l else l ++ [(q.2, (i : Int), q.1)]
def MV [DecidableEq α] (most i : Nat) : List (σ × α) → List (Nd α σ) → Option (List (Nd α σ))
 | [], l => some l
 | q :: qs, l => if most < (put i l q).length then none else MV most i qs (put i l q)
def go [DecidableEq α] (nxt : α → List (σ × α)) (most : Nat) : Nat → Nat → List (Nd α σ) → Option (List (Nd α σ))
 | 0, _, _ => none
 | n + 1, i, l => match l[i]? with
  | none => some l
  | some nd => (MV most i (nxt nd.1) l).bind fun l' => go nxt most n (i + 1) l'
def run (nxt : α → List (σ × α)) (x : α) : List σ → α → Prop
 | [], y => y = x
 | s :: w, y => ∃ z, (s, z) ∈ nxt x ∧ run nxt z w y
theorem Fu {nxt : α → List (σ × α)} : ∀ {u w : List σ} {x y : α}, run nxt x (u ++ w) y ↔ ∃ z, run nxt x u z ∧ run nxt z w y
 | [], w, x, y => by simp [run]
 | s :: u, w, x, y => by
  simp only [List.cons_append, run]
  constructor
  ·rintro ⟨z, h1, h2⟩
   obtain ⟨z', h3, h4⟩ := Fu.1 h2
   exact ⟨z', ⟨z, h1, h3⟩, h4⟩
  ·rintro ⟨z', ⟨z, h1, h3⟩, h4⟩
   exact ⟨z, h1, Fu.2 ⟨z', h3, h4⟩⟩
end
end Bfs
end Go.Lift
namespace Go.Lift
open Go
theorem K1 : ∀ {l : List Int}, Qb l = 0 → ∀ x, x ∈ l → x = 0
 | [], _, x, hx => by cases hx
 | y :: ys, h, x, hx => by
  unfold Qb at h
  split at h
  ·rename_i hy
   rcases List.mem_cons.1 hx with rfl | hx
   ·exact hy
   ·exact K1 h x hx
  ·rename_i hy; exact absurd h hy
theorem Md {a b : Ah} (h : Ol a b = 0) : a = b := by
 have := K1 h
 have h1 := IH _ _ (this (H6 a.fe b.fe) (by simp))
 have h2 := IH _ _ (this (H6 a.fc b.fc) (by simp))
 have h3 := IH _ _ (this (H6 a.ff b.ff) (by simp))
 cases a; cases b; simp only at h1 h2 h3; subst h1; subst h2; subst h3; rfl
instance QQ : DecidableEq Ah := fun a b => if h : Ol a b = 0 then isTrue (Md h) else isFalse (fun e => h (by rw [e]; exact Mk b))
end Go.Lift
namespace Go.Lift
open Go
section
variable {N : Nat} {p : Ab} {l : List Ac}
end
end Go.Lift
namespace Go.Lift
open Go
section
variable {α β : Type}
end
section
variable {N : Nat} {p : Ab} {m e : Ah}
end
end Go.Lift
namespace Go.Lift
open Go
section
variable {p : Ab} {m : Ah} {l : List Ac}
end
theorem Kq : Cd 1000 = some true := by show _ = _; kernel_rfl
end Go.Lift
namespace Go.Lift
open Option renaming bind_some → oS
open Go
theorem Lu {N : Nat} (hN : N ≤ 1000000) (h20 : 100 ≤ N) {p : Ab} {m : Ah} (hw : Jv NC m.ff) (hv : Da p m ≠ 0) : CN N p m = some (false, Da p m) := by
 have hb : (Da p m == 0) = false := beq_eq_false_iff_ne.2 hv
 have hn : (Da p m != 0) = true := bne_iff_ne.2 hv
 have c3 : DX N p m = some ([], Da p m) := by
  unfold DX; rw [HJ N p m hN (by omega) hw]; simp only [oS, hn, Cy]
 have c4 : Db N p m = some (Gz, P5, Da p m) := by
  unfold Db; rw [c3]; simp only [oS, hn, Cy]; rfl
 unfold CN; rw [c4]; simp only [oS, hb, AW]
 rw [beq_eq_false_iff_ne.2 (by have := Kv p m; omega : Da p m ≠ 15)]; rfl
theorem Mz {p : Ab} (hv : BP p ≠ 0) : Da p Gz = BP p := by
 unfold Da; rw [if_pos hv]
theorem HH (p : Ab) (l : List Ac) (_ : G4 p) (_ : Jv HO l) : Bq 1000 p l = some true := by
 unfold Bq
 rw [Ln 1000 p (by omega) (by omega)]
 simp only [oS, IK, Kq, Bool.not_true, AW]
 obtain ⟨b1, e1⟩ := Mj 1000 (by omega) (by omega) p
 rw [e1]
 simp only [oS]
 cases b1
 ·rfl
 rw [Bool.not_true, AW]
 by_cases h10 : (10 : Int) < (l.length : Int)
 ·rw [decide_eq_true h10]; rfl
 rw [decide_eq_false h10, AW]
 by_cases hv : BP p = 0
 ·rw [hv]; rfl
 rw [beq_eq_false_iff_ne.2 hv, AW]
 have hz := Mz hv
 have hw : Jv NC Gz.ff := fun x hx => by simp [Gz] at hx
 have hz' : Da p Gz ≠ 0 := by rw [hz]; exact hv
 have hn : (BP p != 0) = true := bne_iff_ne.2 hv
 have c1 : Ca 1000 p Gz l = some (false, BP p) := by
  unfold Ca
  rw [HJ 1000 p Gz (by omega) (by omega) hw, hz]
  simp only [oS, hn, Cy]
 have c2 : Ea 1000 p l = some ([], BP p) := by
  unfold Ea
  rw [Kf 1000 p (by omega) (by omega)]
  simp only [oS, hn, Cy]
 have c3 : CH 1000 p Gz l = some ([], BP p) := by
  unfold CH
  rw [Lu (by omega) (by omega) hw hz', hz]
  simp only [oS, hn, Cy]
 have c4 : ∀ q, Cv 1000 p q = some ([], BP p) := fun q => by
  unfold Cv
  rw [Gg 1000 p (by omega) (by omega)]
  simp only [oS, hn, Cy]
 have c5 : CX 1000 p [] = some false := by
  unfold CX
  rw [c4]
  simp only [oS, hn, Cy]
 show (Ca 1000 p Gz l).bind _ = _
 rw [c1]
 simp only [oS]
 rw [c2]
 simp only [oS]
 have c3' : CH 1000 p (Ah.mk [] [] []) l = some ([], BP p) := c3
 rw [c3']
 simp only [oS]
 rw [c4]
 simp only [oS, beq_self_eq_true, Cy, Bool.not_false]
 rw [c5]
 rfl
def gW : Nat → Nat → Int → Int
 | 0, _, A => A
 | c + 1, i, A => gW c (i + 1) (A * ((i + 1 : Nat) : Int))
def hW : List (List Ac) → Int → Int
 | [], A => A
 | w :: ws, A => hW ws (gW w.length 0 A)
end Go.Lift
