/- Lemmas for UnblockWithSaid, which YtjpgllmfenogoaaGreatFinU6 proves. -/
import Derived.Test.YtjpgllmfenogoaaGreatDec
import Derived.KernelRfl
namespace Go.Lift
open IntKind renaming wrap → wI
open List renaming getElem?_eq_some_iff → lI
theorem Bv {α : Type} (xs : List α) (i : Nat) : Bg xs (i : Int) = xs[i]? := by
 unfold Bg; simp
theorem PB {n : Int} (h0 : -9223372036854775808 ≤ n) (h1 : n ≤ 9223372036854775807) : wI .i64 n = n := by
 simp [wI, IntKind.signed, IntKind.bits]; omega
theorem Bl {i : Nat} (h : i < 1000000) : wI .i64 ((i : Int) + 1) = ((i + 1 : Nat) : Int) := by
 rw [PB (by omega) (by omega)]; simp
@[simp] theorem EJ {α : Type} {a b : Option α} : AR true a b = a := rfl
@[simp] theorem A1 {α : Type} {a b : Option α} : AR false a b = b := rfl
theorem BA {α : Type} {p : Prop} [Decidable p] {a b : Option α} (h : p) : AR (decide p) a b = a := by simp [h]
theorem Bk {α : Type} {p : Prop} [Decidable p] {a b : Option α} (h : ¬ p) : AR (decide p) a b = b := by simp [h]
def Lj : List Int → List Int → Int
 | [], [] => 0
 | [], _ :: _ => -1
 | _ :: _, [] => 1
 | a :: as1, b :: bs => if a < b then -1 else if b < a then 1 else Lj as1 bs
theorem IJ {α : Type} {xs : List α} {i : Nat} {x : α} (h : xs[i]? = some x) : xs.drop i = x :: xs.drop (i + 1) := by
 obtain ⟨hi, rfl⟩ := lI.1 h
 exact List.drop_eq_getElem_cons hi
theorem NF : ∀ a : List Int, Lj a a = 0
 | [] => rfl
 | a :: as1 => by simp [Lj, NF as1]
theorem LS : ∀ a b : List Int, Lj a b = 0 → a = b
 | [], [], _ => rfl
 | [], _ :: _, h => by simp [Lj] at h
 | _ :: _, [], h => by simp [Lj] at h
 | a :: as1, b :: bs, h => by
  unfold Lj at h
  split at h
  ·omega
  ·split at h
   ·omega
   ·rw [LS as1 bs h, show a = b from by omega]
def Ur : List Int → Int
 | [] => 0
 | x :: xs => if x = 0 then Ur xs else x
def Wd (a : AC) : Prop := a.fg.length ≤ 8 ∧ a.ff.length ≤ 8 ∧ a.fi.length ≤ 14
def RU (a b : AC) : Int := Ur [Lj a.fg b.fg, Lj a.ff b.ff, Lj a.fi b.fi]
theorem Qr (a : AC) : RU a a = 0 := by unfold RU; simp [NF, Ur]
open Option renaming bind_some → oS
def GX {α R : Type} (f : Nat → α → Option R) : Nat → List α → Option R
 | _, [] => none
 | i, x :: xs => match f i x with
  | some r => some r
  | none => GX f (i + 1) xs
theorem JW {α R : Type} (f : Nat → α → Option R) (i : Nat) (x : α) (xs : List α) : GX f i (x :: xs) = match f i x with
  | some r => some r
  | none => GX f (i + 1) xs := rfl
def DM {R : Type} (a : Option R) (b : Option R) : Option R := match a with
 | some r => some r
 | none => b
theorem ET {α R : Type} (L : Nat → Int → Option R) (xs : List α) (j : Option R) (f : Nat → α → Option R)
  (hs : ∀ (n i : Nat) (x : α), xs[i]? = some x → L (n + 1) (i : Int) = DM (f i x) (L n ((i + 1 : Nat) : Int))) (he : ∀ n : Nat, L (n + 1) (xs.length : Int) = j) :
  ∀ n i : Nat, i ≤ xs.length → xs.length - i < n → L n (i : Int) = DM (GX f i (xs.drop i)) j
 | 0, i, _, h => by omega
 | n + 1, i, hi, h => by
  by_cases h1 : i < xs.length
  ·have hx : xs[i]? = some xs[i] := by simp [h1]
   rw [hs n i _ hx, IJ hx, ET L xs j f hs he n (i + 1) (by omega) (by omega)]
   rw [JW]
   cases f i xs[i] <;> rfl
  ·have : i = xs.length := by omega
   subst this
   rw [he n, List.drop_eq_nil_of_le (Nat.le_refl _)]
   rfl
theorem NE (N : Nat) (k n : Int) : DK N k n = some (decide (0 ≤ k) && decide (k < n)) := by
 unfold DK
 simp only [BQ]
 by_cases h : 0 ≤ k
 ·rw [BA h]; simp [h]
 ·rw [Bk h]; simp [h]
theorem Qx (N : Nat) (t : Av) : DR N t = some (t.fe == 3 || t.fe == 4) := by
 unfold DR
 simp only [BQ]
 cases h : t.fe == 3 <;> simp
def sq (l : List (List Bool)) (n m : Int) : Bool := decide ((l.length : Int) = n) && l.all fun r => decide ((r.length : Int) = m)
theorem MG {α : Type} (p : α → Bool) {R : Type} (r : Nat → R) : ∀ (i : Nat) (xs : List α), (GX (fun i x => if p x then none else some (r i)) i xs).isNone = xs.all p
 | i, [] => rfl
 | i, x :: xs => by
  unfold GX
  cases h : p x <;> simp [h, MG p r (i + 1) xs]
theorem M6 (N : Nat) (l : List (List Bool)) (n m : Int) (h : n < (N : Int)) (hN : N ≤ 1000000) : Dl N l n m = some (sq l n m) := by
 unfold Dl sq
 by_cases h1 : (l.length : Int) = n
 ·subst h1
  simp only [bne_self_eq_false, A1, decide_true, Bool.true_and]
  have := ET (Cf N l (l.length : Int) m (fun _ => some true)) l (some true) (fun _ r => if decide ((r.length : Int) = m) then none else some false)
   (fun n i x hx => by
    have hi := (lI.1 hx).1
    rw [Cf, BA (by omega), Bv, hx]
    simp only [oS]
    rw [Bl (by omega)]
    by_cases h2 : (x.length : Int) = m
    ·simp [h2, DM]
    ·have : ((x.length : Int) != m) = true := by simpa using h2
     simp [h2, this, DM])
   (fun n => by rw [Cf, Bk (by omega)]) N 0 (by omega) (by omega)
  simp only [Int.ofNat_zero, List.drop_zero] at this
  rw [this]
  have h3 := MG (fun r : List Bool => decide ((r.length : Int) = m)) (fun _ => false) 0 l
  cases hsc : GX (fun (_ : Nat) (r : List Bool) => if decide ((r.length : Int) = m) = true then none else some false) 0 l with
  | none => rw [hsc] at h3; rw [← h3]; rfl
  | some b =>
   rw [hsc] at h3
   rw [← h3]
   have : ∀ (i : Nat) (xs : List (List Bool)) b, GX (fun (_ : Nat) (r : List Bool) => if decide ((r.length : Int) = m) = true then none else some false) i xs = some b → b = false := by
    intro i xs
    induction xs generalizing i with
    | nil => intro b hb; cases hb
    | cons x xs ih =>
     intro b hb
     unfold GX at hb
     split at hb
     ·rename_i r hr; cases hb; split at hr <;> simp at hr; exact hr
     ·exact ih _ b hb
   rw [this 0 l b hsc]; rfl
 ·have : ((l.length : Int) != n) = true := by simpa using h1
  simp [this, h1]
theorem Nk (N : Nat) (l : List (List Bool)) (n m : Int) (h : n < (N : Int)) (hN : N ≤ 1000000) : ED N l n m = some (sq l n m) := by
 unfold ED sq
 simp only [BQ]
 by_cases h1 : (l.length : Int) = n
 ·subst h1
  simp only [beq_self_eq_true, EJ, decide_true, Bool.true_and]
  have := ET (Bm N l (fun x => DH N x m) (fun _ => some (-1))) l (some (-1)) (fun i r => if decide ((r.length : Int) = m) then none else some (i : Int))
   (fun n i x hx => by
    have hi := (lI.1 hx).1
    rw [Bm, BA (by omega), Bv, hx]
    simp only [oS, DH]
    rw [Bl (by omega)]
    by_cases h2 : (x.length : Int) = m
    ·simp [h2, DM]
    ·have : ((x.length : Int) != m) = true := by simpa using h2
     simp [h2, this, DM])
   (fun n => by rw [Bm, Bk (by omega)]) N 0 (by omega) (by omega)
  simp only [Int.ofNat_zero, List.drop_zero] at this
  unfold CQ Dh
  rw [this]
  have h3 := MG (fun r : List Bool => decide ((r.length : Int) = m)) (fun i : Nat => (i : Int)) 0 l
  cases hsc : GX (fun (i : Nat) (r : List Bool) => if decide ((r.length : Int) = m) = true then none else some (i : Int)) 0 l with
  | none => rw [hsc] at h3; rw [← h3]; rfl
  | some b =>
   rw [hsc] at h3
   rw [← h3]
   have : ∀ (i : Nat) (xs : List (List Bool)) b, GX (fun (i : Nat) (r : List Bool) => if decide ((r.length : Int) = m) = true then none else some (i : Int)) i xs = some b → 0 ≤ b := by
    intro i xs
    induction xs generalizing i with
    | nil => intro b hb; cases hb
    | cons x xs ih =>
     intro b hb
     rw [JW] at hb
     split at hb
     ·rename_i r hr
      cases hb
      split at hr
      ·cases hr
      ·cases hr; omega
     ·exact ih _ b hb
   have := this 0 l b hsc
   simp [DM, this]
 ·have : ((l.length : Int) == n) = false := by simpa using h1
  simp [this, h1]
open List renaming mem_of_getElem? → lM
open List renaming getD_eq_getElem?_getD → lD
def IF (l : List (List Bool)) : Option Int := GX (fun i row => if row.getD i false then none else some 1) 0 l
theorem O5 {row : List Bool} {i : Nat} (h : i < row.length) : Bg row (i : Int) = some (row.getD i false) := by
 rw [Bv, lD]; simp [h]
theorem R8 (N : Nat) (t : Av) (h : t.fk.length < N) (hN : N ≤ 1000000) (hsq : ∀ row, row ∈ t.fk → row.length = t.fk.length) (j : Option Int) :
  BU N t (fun _ => j) N 0 = DM (IF t.fk) j := by
 have := ET (BU N t (fun _ => j)) t.fk j (fun i row => if row.getD i false then none else some 1)
  (fun n i x hx => by
   have hi := (lI.1 hx).1
   have hl := hsq x (lM hx)
   rw [BU, BA (by omega), Bv, hx]
   simp only [oS]
   rw [O5 (by omega), Bl (by omega)]
   simp only [oS]
   cases x.getD i false <;> rfl)
  (fun n => by rw [BU, Bk (by omega)]) N 0 (by omega) (by omega)
 simpa [IF] using this
theorem Nz (N : Nat) (t : Av) (h : t.fk.length < N) (hN : N ≤ 1000000) (hsq : ∀ row, row ∈ t.fk → row.length = t.fk.length) (j : Option Int) :
  CZ N t (fun _ => j) N 0 = DM (IF t.fk) j := by
 have := ET (CZ N t (fun _ => j)) t.fk j (fun i row => if row.getD i false then none else some 1)
  (fun n i x hx => by
   have hi := (lI.1 hx).1
   have hl := hsq x (lM hx)
   rw [CZ, BA (by omega), Bv, hx]
   simp only [oS]
   rw [O5 (by omega), Bl (by omega)]
   simp only [oS]
   cases x.getD i false <;> rfl)
  (fun n => by rw [CZ, Bk (by omega)]) N 0 (by omega) (by omega)
 simpa [IF] using this
theorem LU {l : List (List Bool)} {n m : Int} (h : sq l n m = true) : (l.length : Int) = n ∧ ∀ row, row ∈ l → (row.length : Int) = m := by
 unfold sq at h
 simp only [Bool.and_eq_true, decide_eq_true_eq, List.all_eq_true] at h
 exact h
def F4 (p : Ah) (t : Av) : Int :=
 if t.fe < 1 ∨ 4 < t.fe ∨ (t.fo = true ∧ (t.fe = 3 ∨ t.fe = 4)) then 1
 else if t.fh < 0 ∨ (p.fb.length : Int) ≤ t.fh ∨ t.fm < 0 ∨ (p.fb.length : Int) ≤ t.fm then 4
 else
  let f := p.fb.getD t.fh.toNat 0
  let g := p.fb.getD t.fm.toNat 0
  if sq t.fj f g = false then 6
  else if t.fe = 4 then (if sq t.fk f f = false then 6 else (IF t.fk).getD 0)
  else if t.fk.length = 0 then 0 else 6
theorem NR {α : Type} {xs : List α} {i : Int} {d : α} (h0 : 0 ≤ i) (h1 : i < (xs.length : Int)) : Bg xs i = some (xs.getD i.toNat d) := by
 obtain ⟨k, rfl⟩ := Int.eq_ofNat_of_zero_le h0
 rw [Bv, lD, Int.toNat_natCast]
 simp [show k < xs.length from by omega]
theorem Rt {t : Av} (A B : Option Int) (hk : ¬ (t.fo = true ∧ (t.fe = 3 ∨ t.fe = 4))) : AR t.fo (AR (t.fe == 3 || t.fe == 4) A B) B = B := by
 cases ha : t.fo
 ·rfl
 ·have : (t.fe == 3 || t.fe == 4) = false := by
   rw [Bool.or_eq_false_iff]
   constructor
   ·simp only [beq_eq_false_iff_ne]; intro h; exact hk ⟨ha, .inl h⟩
   ·simp only [beq_eq_false_iff_ne]; intro h; exact hk ⟨ha, .inr h⟩
  rw [this]; rfl
theorem Kr {p : Ah} {i : Int} (hv : ∀ v, v ∈ p.fb → 1 ≤ v ∧ v ≤ 6) (h0 : 0 ≤ i) (h1 : i < (p.fb.length : Int)) : 1 ≤ p.fb.getD i.toNat 0 ∧ p.fb.getD i.toNat 0 ≤ 6 := by
 refine hv _ ?_
 rw [lD, List.getElem?_eq_getElem (by omega)]
 exact List.getElem_mem _
theorem QG (N : Nat) (p : Ah) (t : Av) (hN : N ≤ 1000000) (h6 : 7 ≤ N) (hv : ∀ v, v ∈ p.fb → 1 ≤ v ∧ v ≤ 6) : DY N p t = some (F4 p t) := by
 unfold DY F4
 simp only [BQ, Qx, oS]
 by_cases k1 : t.fe < 1
 ·simp [k1]
 by_cases k2 : 4 < t.fe
 ·simp [k1, k2]
 rw [Bk k1, Bk k2]
 by_cases hk : t.fo = true ∧ (t.fe = 3 ∨ t.fe = 4)
 ·obtain ⟨ha, k | k⟩ := hk <;> simp [ha, k]
 rw [A1, Rt _ _ hk, if_neg (fun h => h.elim k1 fun h => h.elim k2 hk)]
 by_cases f1 : t.fh < 0
 ·simp [f1]
 by_cases f2 : (p.fb.length : Int) ≤ t.fh
 ·simp [f1, f2]
 by_cases f3 : t.fm < 0
 ·simp [f1, f2, f3]
 by_cases f4 : (p.fb.length : Int) ≤ t.fm
 ·simp [f1, f2, f3, f4]
 rw [Bk f1, Bk f2, Bk f3, if_neg (fun h => h.elim f1 fun h => h.elim f2 fun h => h.elim f3 f4)]
 have hf := Kr hv (i := t.fh) (by omega) (by omega)
 rw [decide_eq_false f4, A1, NR (d := 0) (by omega : 0 ≤ t.fh) (by omega), NR (d := 0) (by omega : 0 ≤ t.fm) (by omega)]
 simp only [oS]
 generalize p.fb.getD t.fh.toNat 0 = f at *
 generalize p.fb.getD t.fm.toNat 0 = g at *
 rw [M6 N t.fj f g (by omega) hN, M6 N t.fk f f (by omega) hN]
 simp only [oS]
 cases hq : sq t.fj f g
 ·rfl
 simp only [Bool.not_true, A1]
 by_cases k4 : t.fe = 4
 ·have : (t.fe != 4) = false := by simp [k4]
  rw [this, A1]
  simp only [k4, if_true]
  cases hr : sq t.fk f f
  ·rfl
  ·have h7 := LU hr
   simp only [Bool.not_true, A1]
   rw [R8 N t (by omega) hN (fun row hm => by have := h7.2 row hm; omega)]
   cases IF t.fk <;> simp [DM]
 ·have : (t.fe != 4) = true := by simpa using k4
  rw [this, EJ]
  simp only [k4, if_false]
  by_cases hr : t.fk.length = 0
  ·simp [hr]
  ·have : ((t.fk.length : Int) != 0) = true := bne_iff_ne.2 (by omega)
   rw [this]; simp [hr]
theorem Sr (N : Nat) (k : Int) (a : Bool) : F8 N k a = some (k == 1 || (k == 2 || ((k == 3 || k == 4) && !a))) := by
 unfold F8
 simp only [BQ]
 cases h1 : k == 1 <;> cases h2 : k == 2 <;> cases h3 : k == 3 <;> cases h4 : k == 4 <;> cases a <;> rfl
theorem L2 (N : Nat) (p : Ah) (t : Av) (hN : N ≤ 1000000) (h6 : 7 ≤ N) (hv : ∀ v, v ∈ p.fb → 1 ≤ v ∧ v ≤ 6) : Fy N p t = some (F4 p t) := by
 unfold Fy F4
 simp only [BQ, Sr, NE, oS]
 by_cases hb : t.fe < 1 ∨ 4 < t.fe ∨ (t.fo = true ∧ (t.fe = 3 ∨ t.fe = 4))
 ·have : (t.fe == 1 || (t.fe == 2 || ((t.fe == 3 || t.fe == 4) && !t.fo))) = false := by
   rcases hb with h | h | ⟨ha, h | h⟩
   ·rw [beq_eq_false_iff_ne.2 (by omega : t.fe ≠ 1), beq_eq_false_iff_ne.2 (by omega : t.fe ≠ 2), beq_eq_false_iff_ne.2 (by omega : t.fe ≠ 3), beq_eq_false_iff_ne.2 (by omega : t.fe ≠ 4)]; rfl
   ·rw [beq_eq_false_iff_ne.2 (by omega : t.fe ≠ 1), beq_eq_false_iff_ne.2 (by omega : t.fe ≠ 2), beq_eq_false_iff_ne.2 (by omega : t.fe ≠ 3), beq_eq_false_iff_ne.2 (by omega : t.fe ≠ 4)]; rfl
   ·simp [ha, h]
   ·simp [ha, h]
  rw [this, if_pos hb]; rfl
 ·have : (t.fe == 1 || (t.fe == 2 || ((t.fe == 3 || t.fe == 4) && !t.fo))) = true := by
   have hk : t.fe = 1 ∨ t.fe = 2 ∨ t.fe = 3 ∨ t.fe = 4 := by
    have h1 : ¬ t.fe < 1 := fun h => hb (.inl h)
    have h2 : ¬ 4 < t.fe := fun h => hb (.inr (.inl h))
    omega
   rcases hk with h | h | h | h
   ·simp [h]
   ·simp [h]
   ·cases ha : t.fo
    ·simp [h]
    ·exact (hb (.inr (.inr ⟨ha, .inl h⟩))).elim
   ·cases ha : t.fo
    ·simp [h]
    ·exact (hb (.inr (.inr ⟨ha, .inr h⟩))).elim
  rw [this, if_neg hb]
  simp only [Bool.not_true, A1]
  by_cases f1 : t.fh < 0
  ·simp [f1, show ¬ (0 ≤ t.fh) from by omega]
  by_cases f2 : (p.fb.length : Int) ≤ t.fh
  ·simp [f2, show ¬ (t.fh < (p.fb.length : Int)) from by omega]
  by_cases f3 : t.fm < 0
  ·simp [f3, show 0 ≤ t.fh from by omega, show t.fh < (p.fb.length : Int) from by omega, show ¬ (0 ≤ t.fm) from by omega]
  by_cases f4 : (p.fb.length : Int) ≤ t.fm
  ·simp [f4, show 0 ≤ t.fh from by omega, show t.fh < (p.fb.length : Int) from by omega, show ¬ (t.fm < (p.fb.length : Int)) from by omega]
  rw [if_neg (fun h => h.elim f1 fun h => h.elim f2 fun h => h.elim f3 f4)]
  have hf := Kr hv (i := t.fh) (by omega) (by omega)
  have hg := Kr hv (i := t.fm) (by omega) (by omega)
  rw [decide_eq_true (by omega : 0 ≤ t.fh), decide_eq_true (by omega : t.fh < (p.fb.length : Int)), decide_eq_true (by omega : 0 ≤ t.fm), decide_eq_true (by omega : t.fm < (p.fb.length : Int)), NR (d := 0) (by omega : 0 ≤ t.fh) (by omega), NR (d := 0) (by omega : 0 ≤ t.fm) (by omega)]
  simp only [Bool.and_self, Bool.not_true, A1, oS]
  generalize p.fb.getD t.fh.toNat 0 = f at *
  generalize p.fb.getD t.fm.toNat 0 = g at *
  rw [Nk N t.fj f g (by omega) hN, Nk N t.fk f f (by omega) hN]
  simp only [oS]
  cases hq : sq t.fj f g
  ·rfl
  simp only [Bool.not_true, A1]
  by_cases k4 : t.fe = 4
  ·simp only [k4, beq_self_eq_true, EJ, if_true]
   cases hr : sq t.fk f f
   ·rfl
   ·have h7 := LU hr
    simp only [Bool.not_true, A1]
    rw [Nz N t (by omega) hN (fun row hm => by have := h7.2 row hm; omega)]
    cases IF t.fk <;> simp [DM]
  ·have : (t.fe == 4) = false := beq_eq_false_iff_ne.2 k4
   rw [this, A1]
   simp only [k4, if_false, Bool.not_false, EJ]
   by_cases hr : t.fk.length = 0
   ·rw [Nz N t (by omega) hN (fun row hm => by rw [List.eq_nil_of_length_eq_zero hr] at hm; cases hm), List.eq_nil_of_length_eq_zero hr]
    simp [IF, GX, DM]
   ·rw [decide_eq_true (by omega : 0 < (t.fk.length : Int))]
    simp [hr]
def F3 (p : Ah) (i : Nat) (v : Int) : Option Int :=
 if v < 1 ∨ 6 < v ∨ p.fc.getD i 0 < 0 ∨ v ≤ p.fc.getD i 0 ∨ p.fd.getD i 0 < 0 ∨ v ≤ p.fd.getD i 0 then some 7 else none
def LP (p : Ah) (_ : Nat) (t : Av) : Option Int := if F4 p t = 0 then none else some (F4 p t)
def Ef (p : Ah) : Int :=
 if 6 < p.fb.length ∨ 12 < p.fa.length then 3
 else if p.fc.length ≠ p.fb.length ∨ p.fd.length ≠ p.fb.length then 6
 else ((DM (GX (F3 p) 0 p.fb) (GX (LP p) 0 p.fa)).getD 0)
theorem JO {α R : Type} {f : Nat → α → Option R} : ∀ {i : Nat} {xs : List α}, GX f i xs = none → ∀ j x, xs[j]? = some x → f (i + j) x = none
 | _, [], _, j, x, hx => by simp at hx
 | i, y :: ys, h, j, x, hx => by
  rw [JW] at h
  split at h
  ·cases h
  ·rename_i h0
   cases j with
   | zero => simp at hx; subst hx; exact h0
   | succ j =>
    have := JO h j x (by simpa using hx)
    rwa [show i + 1 + j = i + (j + 1) from by omega] at this
theorem Mo {p : Ah} (h : GX (F3 p) 0 p.fb = none) : ∀ v, v ∈ p.fb → 1 ≤ v ∧ v ≤ 6 := by
 intro v hv
 obtain ⟨i, hi⟩ := List.mem_iff_getElem?.1 hv
 have := JO h i v hi
 unfold F3 at this
 split at this
 ·cases this
 ·rename_i hn
  constructor
  ·exact Int.not_lt.1 fun h => hn (.inl h)
  ·exact Int.not_lt.1 fun h => hn (.inr (.inl h))
theorem NX {α : Type} {xs : List α} {i : Nat} {d : α} (h : i < xs.length) : Bg xs (i : Int) = some (xs.getD i d) := by
 rw [Bv, lD]; simp [h]
theorem PH (N : Nat) (p : Ah) (hN : N ≤ 1000000) (h1 : p.fb.length < N) (h2 : p.fc.length = p.fb.length) (h3 : p.fd.length = p.fb.length) (j : Option Int) :
  Bi N p (fun _ => j) N 0 = DM (GX (F3 p) 0 p.fb) j := by
 have := ET (Bi N p (fun _ => j)) p.fb j (F3 p)
  (fun n i x hx => by
   have hi := (lI.1 hx).1
   rw [Bi, BA (by omega), Bv, hx]
   simp only [oS, BQ]
   rw [NX (d := 0) (by omega), NX (d := 0) (by omega), Bl (by omega)]
   simp only [oS]
   unfold F3
   generalize p.fc.getD i 0 = a
   generalize p.fd.getD i 0 = b
   by_cases k1 : x < 1 <;> by_cases k2 : 6 < x <;> by_cases k3 : a < 0 <;> by_cases k4 : x ≤ a <;> by_cases k5 : b < 0 <;> by_cases k6 : x ≤ b <;> simp [k1, k2, k3, k4, k5, k6, DM])
  (fun n => by rw [Bi, Bk (by omega)]) N 0 (by omega) (by omega)
 simpa using this
theorem N9 (N : Nat) (p : Ah) (hN : N ≤ 1000000) (h1 : p.fb.length < N) (h2 : p.fc.length = p.fb.length) (h3 : p.fd.length = p.fb.length) (j : Option Int) :
  BS N p (fun _ => j) N 0 = DM (GX (F3 p) 0 p.fb) j := by
 have := ET (BS N p (fun _ => j)) p.fb j (F3 p)
  (fun n i x hx => by
   have hi := (lI.1 hx).1
   rw [BS, BA (by omega), Bv, hx]
   simp only [oS, BQ, NE]
   rw [NX (d := 0) (by omega), NX (d := 0) (by omega), Bl (by omega)]
   simp only [oS]
   unfold F3
   generalize p.fc.getD i 0 = a
   generalize p.fd.getD i 0 = b
   have e1 : decide (0 ≤ a) = !decide (a < 0) := by rw [← decide_not]; congr 1; simp
   have e2 : decide (a < x) = !decide (x ≤ a) := by rw [← decide_not]; congr 1; simp
   have e3 : decide (0 ≤ b) = !decide (b < 0) := by rw [← decide_not]; congr 1; simp
   have e4 : decide (b < x) = !decide (x ≤ b) := by rw [← decide_not]; congr 1; simp
   rw [e1, e2, e3, e4]
   by_cases k1 : x < 1 <;> by_cases k2 : 6 < x <;> by_cases k3 : a < 0 <;> by_cases k4 : x ≤ a <;> by_cases k5 : b < 0 <;> by_cases k6 : x ≤ b <;> simp [k1, k2, k3, k4, k5, k6, DM])
  (fun n => by rw [BS, Bk (by omega)]) N 0 (by omega) (by omega)
 simpa using this
theorem Rk (N : Nat) (p : Ah) (hN : N ≤ 1000000) (h6 : 7 ≤ N) (h1 : p.fa.length < N) (hv : ∀ v, v ∈ p.fb → 1 ≤ v ∧ v ≤ 6) (j : Option Int) :
  A9 N p (fun _ => j) N 0 = DM (GX (LP p) 0 p.fa) j := by
 have := ET (A9 N p (fun _ => j)) p.fa j (LP p)
  (fun n i x hx => by
   have hi := (lI.1 hx).1
   rw [A9, BA (by omega), Bv, hx]
   simp only [oS]
   rw [QG N p x hN h6 hv, Bl (by omega)]
   simp only [oS]
   unfold LP
   by_cases k : F4 p x = 0
   ·simp [k, DM]
   ·rw [bne_iff_ne.2 k, if_neg k]; rfl)
  (fun n => by rw [A9, Bk (by omega)]) N 0 (by omega) (by omega)
 simpa using this
theorem PT (N : Nat) (p : Ah) (hN : N ≤ 1000000) (h6 : 7 ≤ N) (h1 : p.fa.length < N) (hv : ∀ v, v ∈ p.fb → 1 ≤ v ∧ v ≤ 6) (j : Option Int) :
  BI N p (fun _ => j) N 0 = DM (GX (LP p) 0 p.fa) j := by
 have := ET (BI N p (fun _ => j)) p.fa j (LP p)
  (fun n i x hx => by
   have hi := (lI.1 hx).1
   rw [BI, BA (by omega), Bv, hx]
   simp only [oS]
   rw [L2 N p x hN h6 hv, Bl (by omega)]
   simp only [oS]
   unfold LP
   by_cases k : F4 p x = 0
   ·simp [k, DM]
   ·rw [bne_iff_ne.2 k, if_neg k]; rfl)
  (fun n => by rw [BI, Bk (by omega)]) N 0 (by omega) (by omega)
 simpa using this
theorem Mn (N : Nat) (p : Ah) (hN : N ≤ 1000000) (h : 20 ≤ N) : Cj N p = some (Ef p) := by
 unfold Cj Ef
 simp only [BQ]
 by_cases k1 : 6 < p.fb.length
 ·rw [BA (by omega)]; simp [k1]
 rw [Bk (by omega)]
 by_cases k2 : 12 < p.fa.length
 ·rw [decide_eq_true (by omega : (12 : Int) < (p.fa.length : Int))]; simp [k2]
 rw [decide_eq_false (by omega : ¬ (12 : Int) < (p.fa.length : Int)), A1, if_neg (by omega)]
 by_cases k3 : p.fc.length = p.fb.length
 ·by_cases k4 : p.fd.length = p.fb.length
  ·rw [k3, k4]
   simp only [bne_self_eq_false, A1, ne_eq, not_true_eq_false, or_self, if_false]
   rw [PH N p hN (by omega) k3 k4]
   cases hs : GX (F3 p) 0 p.fb with
   | some r => rfl
   | none =>
    simp only [DM]
    rw [Rk N p hN (by omega) (by omega) (Mo hs)]
    cases GX (LP p) 0 p.fa <;> rfl
  ·have : ((p.fd.length : Int) != (p.fb.length : Int)) = true := bne_iff_ne.2 (by omega)
   rw [this, k3]; simp [k4]
 ·have : ((p.fc.length : Int) != (p.fb.length : Int)) = true := bne_iff_ne.2 (by omega)
  rw [this]; simp [k3]
theorem HC (N : Nat) (p : Ah) (hN : N ≤ 1000000) (h : 20 ≤ N) : Br N p = some (Ef p) := by
 unfold Br Ef
 simp only [BQ]
 by_cases k1 : 6 < p.fb.length
 ·rw [BA (by omega)]; simp [k1]
 rw [Bk (by omega)]
 by_cases k2 : 12 < p.fa.length
 ·rw [decide_eq_true (by omega : (12 : Int) < (p.fa.length : Int))]; simp [k2]
 rw [decide_eq_false (by omega : ¬ (12 : Int) < (p.fa.length : Int)), A1, if_neg (by omega)]
 by_cases k3 : p.fc.length = p.fb.length
 ·by_cases k4 : p.fd.length = p.fb.length
  ·rw [k3, k4]
   simp only [bne_self_eq_false, A1, ne_eq, not_true_eq_false, or_self, if_false]
   rw [N9 N p hN (by omega) k3 k4]
   cases hs : GX (F3 p) 0 p.fb with
   | some r => rfl
   | none =>
    simp only [DM]
    rw [PT N p hN (by omega) (by omega) (Mo hs)]
    cases GX (LP p) 0 p.fa <;> rfl
  ·have : ((p.fd.length : Int) != (p.fb.length : Int)) = true := bne_iff_ne.2 (by omega)
   rw [this, k3]; simp [k4]
 ·have : ((p.fc.length : Int) != (p.fb.length : Int)) = true := bne_iff_ne.2 (by omega)
  rw [this]; simp [k3]
theorem HG {α R : Type} {f : Nat → α → Option R} : ∀ {i : Nat} {xs : List α} {r : R}, GX f i xs = some r → ∃ j x, xs[j]? = some x ∧ f (i + j) x = some r
 | _, [], _, h => by cases h
 | i, y :: ys, r, h => by
  rw [JW] at h
  split at h
  ·rename_i r' h0
   cases h
   exact ⟨0, y, rfl, h0⟩
  ·obtain ⟨j, x, h1, h2⟩ := HG h
   exact ⟨j + 1, x, by simpa using h1, by rwa [show i + (j + 1) = i + 1 + j from by omega]⟩
structure Io (p : Ah) : Prop where
 nv : p.fb.length ≤ 6
 nt : p.fa.length ≤ 12
 now : p.fc.length = p.fb.length
 tgt : p.fd.length = p.fb.length
 ver : ∀ v, v ∈ p.fb → 1 ≤ v ∧ v ≤ 6
 tab : ∀ t, t ∈ p.fa → F4 p t = 0
theorem Pr (l : List (List Bool)) : (IF l).getD 0 = 0 ∨ (IF l).getD 0 = 1 := by
 cases h : IF l with
 | none => exact .inl rfl
 | some r =>
  obtain ⟨j, x, _, h⟩ := HG h
  split at h
  ·cases h
  ·cases h; exact .inr rfl
theorem N1 (p : Ah) (t : Av) : F4 p t = 0 ∨ F4 p t = 1 ∨ F4 p t = 4 ∨ F4 p t = 6 := by
 unfold F4
 split
 ·exact .inr (.inl rfl)
 split
 ·exact .inr (.inr (.inl rfl))
 simp only
 split
 ·exact .inr (.inr (.inr rfl))
 split
 ·split
  ·exact .inr (.inr (.inr rfl))
  ·rcases Pr t.fk with h | h
   ·exact .inl h
   ·exact .inr (.inl h)
 ·split
  ·exact .inl rfl
  ·exact .inr (.inr (.inr rfl))
theorem NY (p : Ah) : (Ef p = 0 ∧ Io p) ∨ (Ef p = 1 ∨ Ef p = 3 ∨ Ef p = 4 ∨ Ef p = 6 ∨ Ef p = 7) := by
 unfold Ef
 split
 ·simp
 rename_i k1
 split
 ·simp
 rename_i k2
 cases hs : GX (F3 p) 0 p.fb with
 | some r =>
  obtain ⟨j, x, _, h⟩ := HG hs
  unfold F3 at h
  split at h
  ·cases h; simp [DM]
  ·cases h
 | none =>
  cases ht : GX (LP p) 0 p.fa with
  | some r =>
   obtain ⟨j, t, _, h⟩ := HG ht
   unfold LP at h
   split at h
   ·cases h
   ·rename_i hne
    cases h
    simp only [DM, Option.getD_some]
    right
    rcases N1 p t with h | h | h | h
    ·exact (hne h).elim
    ·exact .inl h
    ·exact .inr (.inr (.inl h))
    ·exact .inr (.inr (.inr (.inl h)))
  | none =>
   left
   refine ⟨rfl, by omega, by omega, by omega, by omega, Mo hs, fun t hm => ?_⟩
   obtain ⟨j, hj⟩ := List.mem_iff_getElem?.1 hm
   have := JO ht j t hj
   unfold LP at this
   split at this
   ·assumption
   ·cases this
def Uj (m : AC) (s : Nat) : Int :=
 if 0 ≤ m.ff.getD s 0 then Su .u8 (EA .u8 1 (m.fg.getD s 0)) (EA .u8 1 (m.ff.getD s 0)) else EA .u8 1 (m.fg.getD s 0)
def KQ (t : Av) : Bool := t.fe == 3 || t.fe == 4
@[simp] theorem Hl {α β : Type} (k : α) (f : α → β) : BQ k f = f k := rfl
@[simp] theorem RH {p : Prop} [Decidable p] (h : p) : Ft p = some () := by unfold Ft; rw [if_pos h]
theorem BC {β : Type} {p : Prop} [Decidable p] (h : p) (f : Unit → Option β) : (Ft p).bind f = f () := by rw [RH h]; rfl
def GD {α β : Type} (g : Nat → α → List β) : Nat → List α → List β
 | _, [] => []
 | i, x :: xs => g i x ++ GD g (i + 1) xs
def KA {α A : Type} (f : Nat → α → A → A) : Nat → List α → A → A
 | _, [], a => a
 | i, x :: xs, a => KA f (i + 1) xs (f i x a)
theorem JV {α β : Type} {g : Nat → α → List β} {y : β} : ∀ {i : Nat} {xs : List α}, y ∈ GD g i xs ↔ ∃ j x, xs[j]? = some x ∧ y ∈ g (i + j) x
 | _, [] => by simp [GD]
 | i, x :: xs => by
  rw [GD, List.mem_append, JV]
  constructor
  ·rintro (h | ⟨j, z, hz, h⟩)
   ·exact ⟨0, x, rfl, h⟩
   ·exact ⟨j + 1, z, by simpa using hz, by rwa [show i + (j + 1) = i + 1 + j from by omega]⟩
  ·rintro ⟨j, z, hz, h⟩
   cases j with
   | zero => simp at hz; subst hz; exact .inl h
   | succ j => exact .inr ⟨j, z, by simpa using hz, by rwa [show i + 1 + j = i + (j + 1) from by omega]⟩
theorem JR {α β : Type} {g : Nat → α → List β} {c : Nat} : ∀ {i : Nat} {xs : List α}, (∀ j x, xs[j]? = some x → (g (i + j) x).length ≤ c) → (GD g i xs).length ≤ c * xs.length
 | _, [], _ => by simp [GD]
 | i, x :: xs, h => by
  have h1 := h 0 x rfl
  have h2 := JR (g := g) (c := c) (i := i + 1) (xs := xs) fun j y hy => by
   have := h (j + 1) y (by simpa using hy)
   rwa [show i + (j + 1) = i + 1 + j from by omega] at this
  rw [GD, List.length_append, List.length_cons, Nat.mul_add]
  simp only [Nat.add_zero] at h1
  omega
theorem JP {α A S R : Type} (L : Nat → S → Option R) (mk : A → Int → S) (xs : List α) (j : A → Option R) (f : Nat → α → A → A) (I : Nat → A → Prop)
  (hs : ∀ (n i : Nat) (x : α) (a : A), xs[i]? = some x → I i a → L (n + 1) (mk a (i : Int)) = L n (mk (f i x a) ((i + 1 : Nat) : Int)) ∧ I (i + 1) (f i x a))
  (he : ∀ (n : Nat) (a : A), I xs.length a → L (n + 1) (mk a (xs.length : Int)) = j a) :
  ∀ (n i : Nat) (a : A), i ≤ xs.length → xs.length - i < n → I i a → L n (mk a (i : Int)) = j (KA f i (xs.drop i) a) ∧ I xs.length (KA f i (xs.drop i) a)
 | 0, i, _, _, h, _ => by omega
 | n + 1, i, a, hi, h, ha => by
  by_cases h1 : i < xs.length
  ·have hx : xs[i]? = some xs[i] := by simp [h1]
   obtain ⟨e1, e2⟩ := hs n i _ a hx ha
   rw [e1, IJ hx, KA]
   exact JP L mk xs j f I hs he n (i + 1) _ (by omega) (by omega) e2
  ·have : i = xs.length := by omega
   subst this
   rw [List.drop_eq_nil_of_le (Nat.le_refl _), KA]
   exact ⟨he n a ha, ha⟩
theorem MM {α β : Type} (g : Nat → α → List β) : ∀ (i : Nat) (xs : List α) (acc : List β), KA (fun i x a => a ++ g i x) i xs acc = acc ++ GD g i xs
 | _, [], acc => by simp [KA, GD]
 | i, x :: xs, acc => by rw [KA, MM g (i + 1) xs, GD, List.append_assoc]
theorem Fi {α β S R : Type} (L : Nat → S → Option R) (mk : List β → Int → S) (xs : List α) (j : List β → Option R) (g : Nat → α → List β) (c B : Nat)
  (hg : ∀ i x, xs[i]? = some x → (g i x).length ≤ c)
  (hs : ∀ (n i : Nat) (x : α) (a : List β), xs[i]? = some x → a.length + (g i x).length ≤ B → L (n + 1) (mk a (i : Int)) = L n (mk (a ++ g i x) ((i + 1 : Nat) : Int)))
  (he : ∀ (n : Nat) (a : List β), L (n + 1) (mk a (xs.length : Int)) = j a) (n : Nat) (a : List β) (hn : xs.length < n) (ha : a.length + c * xs.length ≤ B) :
  L n (mk a 0) = j (a ++ GD g 0 xs) := by
 have := JP L mk xs j (fun i x a => a ++ g i x) (fun i b => i ≤ xs.length ∧ b.length ≤ a.length + c * i)
  (fun n i x b hx hb => by
   have h1 := hg i x hx
   have hi := (lI.1 hx).1
   have h2 : c * (i + 1) ≤ c * xs.length := Nat.mul_le_mul_left c hi
   have h3 : c * (i + 1) = c * i + c := Nat.mul_succ c i
   refine ⟨hs n i x b hx (by have := hb.2; omega), hi, ?_⟩
   rw [List.length_append]
   have := hb.2
   omega)
  (fun n b _ => he n b) n 0 a (Nat.zero_le _) (by omega) ⟨Nat.zero_le _, by omega⟩
 have h2 := this.1
 rw [List.drop_zero, MM] at h2
 exact h2
def TK (s : Int) (v : Nat) : Bool := s.toNat.testBit v
def UW (m : AC) (s v : Nat) : Bool := decide (m.fg.getD s 0 = (v : Int)) || decide (m.ff.getD s 0 = (v : Int))
theorem Gs {p : Ah} (h : Ef p = 0) : Io p ∧ ∀ i, i < p.fb.length → 0 ≤ p.fc.getD i 0 ∧ p.fc.getD i 0 < p.fb.getD i 0 ∧ 0 ≤ p.fd.getD i 0 ∧ p.fd.getD i 0 < p.fb.getD i 0 := by
 have hp : Io p := by
  rcases NY p with h | h
  ·exact h.2
  ·omega
 refine ⟨hp, fun i hi => ?_⟩
 have h1 := hp.nv
 have h2 := hp.nt
 have h3 := hp.now
 have h4 := hp.tgt
 unfold Ef at h
 rw [if_neg (by omega), if_neg (by omega)] at h
 cases hs : GX (F3 p) 0 p.fb with
 | some r =>
  obtain ⟨j, x, _, he⟩ := HG hs
  rw [hs] at h
  unfold F3 at he
  split at he
  ·cases he; cases h
  ·cases he
 | none =>
  have hx : p.fb[i]? = some (p.fb.getD i 0) := by rw [lD]; simp [hi]
  have := JO hs i _ hx
  rw [Nat.zero_add] at this
  unfold F3 at this
  split at this
  ·cases this
  ·rename_i hn; omega
def hC (m : AC) (t : Av) (v : Nat) (ok : Bool) : Bool := UW m t.fm.toNat v && ok
structure Qj (p : Ah) (t : Av) : Prop where
 kind : 1 ≤ t.fe ∧ t.fe ≤ 4
 aware : t.fo = true → KQ t = false
 from0 : 0 ≤ t.fh ∧ t.fh < (p.fb.length : Int)
 to0 : 0 ≤ t.fm ∧ t.fm < (p.fb.length : Int)
 okL : (t.fj.length : Int) = p.fb.getD t.fh.toNat 0
 okR : ∀ row, row ∈ t.fj → (row.length : Int) = p.fb.getD t.fm.toNat 0
 reL : t.fe = 4 → (t.fk.length : Int) = p.fb.getD t.fh.toNat 0
 reR : ∀ row, row ∈ t.fk → (row.length : Int) = p.fb.getD t.fh.toNat 0
 reD : t.fe = 4 → IF t.fk = none
 reN : t.fe ≠ 4 → t.fk = []
theorem JM {p : Ah} {t : Av} (h : F4 p t = 0) : Qj p t := by
 unfold F4 at h
 split at h
 ·cases h
 rename_i h1
 split at h
 ·cases h
 rename_i h2
 simp only at h
 split at h
 ·cases h
 rename_i h3
 have h3 : sq t.fj (p.fb.getD t.fh.toNat 0) (p.fb.getD t.fm.toNat 0) = true := by simpa using h3
 have h3 := LU h3
 have ha : t.fo = true → KQ t = false := by
  intro ha
  unfold KQ
  rw [Bool.or_eq_false_iff, beq_eq_false_iff_ne, beq_eq_false_iff_ne]
  exact ⟨fun hk => h1 (.inr (.inr ⟨ha, .inl hk⟩)), fun hk => h1 (.inr (.inr ⟨ha, .inr hk⟩))⟩
 split at h
 ·rename_i h4
  split at h
  ·cases h
  rename_i h5
  have h5 : sq t.fk (p.fb.getD t.fh.toNat 0) (p.fb.getD t.fh.toNat 0) = true := by simpa using h5
  have h5 := LU h5
  refine ⟨by omega, ha, by omega, by omega, h3.1, h3.2, fun _ => h5.1, h5.2, fun _ => ?_, fun h => (h h4).elim⟩
  cases hd : IF t.fk with
  | none => rfl
  | some r =>
   obtain ⟨j, x, _, hx⟩ := HG hd
   rw [hd] at h
   split at hx
   ·cases hx
   ·cases hx; cases h
 ·rename_i h4
  split at h
  ·rename_i h5
   have h5 := List.eq_nil_of_length_eq_zero h5
   refine ⟨by omega, ha, by omega, by omega, h3.1, h3.2, fun h => (h4 h).elim, fun row hr => ?_, fun h => (h4 h).elim, fun _ => h5⟩
   rw [h5] at hr; cases hr
  ·cases h
theorem JT {p : Ah} {t : Av} (hp : Io p) (ht : Qj p t) : t.fj.length ≤ 6 ∧ ∀ row, row ∈ t.fj → row.length ≤ 6 := by
 have h1 := Kr hp.ver ht.from0.1 ht.from0.2
 have h2 := Kr hp.ver ht.to0.1 ht.to0.2
 have h3 := ht.okL
 exact ⟨by omega, fun row hr => by have := ht.okR row hr; omega⟩
theorem Oa {A S R : Type} (L : Nat → S → Option R) (mk : A → Int → S) (len : Nat) (j : A → Option R) (I : Nat → A → Prop)
  (hs : ∀ (n i : Nat) (a : A), i < len → I i a → ∃ a', L (n + 1) (mk a (i : Int)) = L n (mk a' ((i + 1 : Nat) : Int)) ∧ I (i + 1) a')
  (he : ∀ (n : Nat) (a : A), I len a → L (n + 1) (mk a (len : Int)) = j a) :
  ∀ (n i : Nat) (a : A), i ≤ len → len - i < n → I i a → ∃ a', L n (mk a (i : Int)) = j a' ∧ I len a'
 | 0, i, _, _, h, _ => by omega
 | n + 1, i, a, hi, h, ha => by
  by_cases h1 : i < len
  ·obtain ⟨a', e1, e2⟩ := hs n i a h1 ha
   rw [e1]
   exact Oa L mk len j I hs he n (i + 1) _ (by omega) (by omega) e2
  ·have : i = len := by omega
   subst this
   exact ⟨a, he n a ha, ha⟩
structure Qq (m x : AC) : Prop where
 base : x.fg = m.fg
 held : x.fi = m.fi
 len : x.ff.length = m.ff.length
 next : ∀ q, q < m.ff.length → x.ff.getD q 0 = m.ff.getD q 0 ∨ (0 ≤ m.ff.getD q 0 ∧ x.ff.getD q 0 = -1)
theorem Qq.refl (m : AC) : Qq m m := ⟨rfl, rfl, rfl, fun _ _ => .inl rfl⟩
theorem Qq.trans {a b c : AC} (h1 : Qq a b) (h2 : Qq b c) : Qq a c :=
 ⟨h2.base.trans h1.base, h2.held.trans h1.held, h2.len.trans h1.len, fun q hq => by
  have e1 := h1.next q hq
  have e2 := h2.next q (by rw [h1.len]; exact hq)
  omega⟩
def RJ : AC := ⟨[], [], []⟩
theorem Qv (N : Nat) (hN : N ≤ 1000000) (h20 : 100 ≤ N) (p : Ah) : ∃ b, Eo N p = some b := by
 unfold Eo
 simp only [Hl]
 by_cases h1 : 8 < (p.fb.length : Int)
 ·rw [BA h1]; exact ⟨_, rfl⟩
 rw [Bk h1]
 by_cases h2 : 8 < (p.fc.length : Int)
 ·rw [BA h2]; exact ⟨_, rfl⟩
 rw [Bk h2]
 by_cases h3 : 8 < (p.fd.length : Int)
 ·rw [BA h3]; exact ⟨_, rfl⟩
 rw [Bk h3]
 by_cases h4 : 14 < (p.fa.length : Int)
 ·rw [decide_eq_true h4]; exact ⟨_, rfl⟩
 rw [decide_eq_false h4, A1]
 have inner1 : ∀ (i : Nat) (t : Av), p.fa[i]? = some t → t.fj.length ≤ 8 → ∀ j : Option Bool, ∃ r, Cb N p (i : Int) (fun _ => j) N 0 = DM r j := by
  intro i t ht hl j
  refine ⟨_, ET (Cb N p (i : Int) fun _ => j) t.fj j (fun _ row => if 8 < (row.length : Int) then some false else none) (fun n k x hx => ?_) (fun n => ?_) N 0 (Nat.zero_le _) (by omega)⟩
  ·have hk := (lI.1 hx).1
   rw [Cb, Bv, ht]
   simp only [oS]
   rw [BA (by omega), Bv, hx, Bl (by omega)]
   simp only [oS]
   by_cases h : 8 < (x.length : Int)
   ·rw [BA h, if_pos h]; rfl
   ·rw [Bk h, if_neg h]; rfl
  ·rw [Cb, Bv, ht]
   simp only [oS]
   rw [Bk (by simp)]
 have inner2 : ∀ (i : Nat) (t : Av), p.fa[i]? = some t → t.fk.length ≤ 8 → ∀ j : Option Bool, ∃ r, Cc N p (i : Int) (fun _ => j) N 0 = DM r j := by
  intro i t ht hl j
  refine ⟨_, ET (Cc N p (i : Int) fun _ => j) t.fk j (fun _ row => if 8 < (row.length : Int) then some false else none) (fun n k x hx => ?_) (fun n => ?_) N 0 (Nat.zero_le _) (by omega)⟩
  ·have hk := (lI.1 hx).1
   rw [Cc, Bv, ht]
   simp only [oS]
   rw [BA (by omega), Bv, hx, Bl (by omega)]
   simp only [oS]
   by_cases h : 8 < (x.length : Int)
   ·rw [BA h, if_pos h]; rfl
   ·rw [Bk h, if_neg h]; rfl
  ·rw [Cc, Bv, ht]
   simp only [oS]
   rw [Bk (by simp)]
 have outer : ∀ n i : Nat, i ≤ p.fa.length → p.fa.length - i < n → ∃ b, Dk N p (fun _ => some true) n (i : Int) = some b := by
  intro n
  induction n with
  | zero => intro i _ h; omega
  | succ n ih =>
   intro i hi hn
   rw [Dk]
   simp only [Hl]
   by_cases h : i < p.fa.length
   ·have hx : p.fa[i]? = some p.fa[i] := by simp [h]
    generalize p.fa[i] = t at hx
    rw [BA (by omega), Bv, hx]
    simp only [oS]
    by_cases k1 : 8 < (t.fj.length : Int)
    ·rw [BA k1]; exact ⟨_, rfl⟩
    rw [Bk k1]
    by_cases k2 : 8 < (t.fk.length : Int)
    ·rw [decide_eq_true k2]; exact ⟨_, rfl⟩
    rw [decide_eq_false k2, A1, Bl (by omega)]
    obtain ⟨b, hb⟩ := ih (i + 1) (by omega) (by omega)
    rw [hb]
    obtain ⟨r2, e2⟩ := inner2 i t hx (by omega) (some b)
    obtain ⟨r1, e1⟩ := inner1 i t hx (by omega) (DM r2 (some b))
    rw [e2, e1]
    cases r1 with
    | some r => exact ⟨_, rfl⟩
    | none => cases r2 <;> exact ⟨_, rfl⟩
   ·rw [Bk (by omega)]; exact ⟨_, rfl⟩
 exact outer N 0 (Nat.zero_le _) (by omega)
open Go
def Uh (s : Ax) : Bool := decide (1 ≤ s.fe ∧ s.fe ≤ 4 ∧ 0 ≤ s.fp ∧ 0 ≤ s.fu) && (s.fe == 1 || s.fu == 0)
def Uw (p : Ah) (s : Ax) : Bool :=
 if s.fe = 3 then decide (s.fp < (p.fa.length : Int)) else decide (s.fp < (p.fb.length : Int)) && (s.fe != 1 || decide (s.fu < p.fb.getD s.fp.toNat 0))
def We (s : Ax) (t : Av) : Bool := t.fh == s.fp && KQ t
def Wc (s : Ax) (i : Nat) (t : Av) (a : List Int) : List Int := if We s t = true then a.set i (Su .u8 (a.getD i 0) (EA .u8 1 s.fu)) else a
def TI (p : Ah) (s : Ax) (held : List Int) : List Int := KA (Wc s) 0 p.fa held
def Va (m : AC) (t : Av) (u : Nat) : Bool := (t.fk.getD u []).getD (m.fg.getD t.fh.toNat 0).toNat false
def VQ (m : AC) (i : Nat) (t : Av) (u : Nat) : Bool := TK (m.fi.getD i 0) u && !UW m t.fh.toNat u
def TQ (_p : Ah) (m : AC) (i : Nat) (t : Av) : Bool := t.fe == 4 && (List.range 8).any fun u => VQ m i t u && !Va m t u
def Tu (p : Ah) (m : AC) (s : Ax) : Option AC :=
 let i := s.fp.toNat
 if s.fe = 1 then (if 0 ≤ m.ff.getD i 0 ∨ m.fg.getD i 0 = s.fu then none else some ⟨m.fg, m.ff.set i s.fu, TI p s m.fi⟩)
 else if s.fe = 3 then match p.fa[i]? with
  | none => none
  | some t => if KQ t = false ∨ m.fi.getD i 0 = Uj m t.fh.toNat ∨ TQ p m i t = true then none else some ⟨m.fg, m.ff, m.fi.set i (Uj m t.fh.toNat)⟩
 else if m.ff.getD i 0 < 0 then none
 else some ⟨if s.fe = 2 then m.fg.set i (m.ff.getD i 0) else m.fg, m.ff.set i (-1), m.fi⟩
def TU (p : Ah) (m : AC) (s : Ax) : AC × Int :=
 if Uh s = false then (RJ, 1) else if Uw p s = false then (RJ, 4) else match Tu p m s with
  | none => (RJ, 11)
  | some x => (x, 0)
end Go.Lift
namespace Go.Lift
open Go
section clear
variable {p : Ah} {m : AC} {i : Nat} {t : Av}
end clear
end Go.Lift
namespace Go.Lift
open Go
end Go.Lift
namespace Go.Lift
open Go
section
variable {N : Nat} {p : Ah} {l : List Ax}
end
end Go.Lift
namespace Go.Lift
open Go
structure TV (p : Ah) (m x : AC) : Prop where
 base : m.fg = x.fg
 next : m.ff = x.ff
 held : ∀ i, i < p.fa.length → ∀ v, TK (m.fi.getD i 0) v = true → TK (x.fi.getD i 0) v = true
theorem TV.refl (p : Ah) (m : AC) : TV p m m := ⟨rfl, rfl, fun _ _ _ h => h⟩
theorem TV.trans {p : Ah} {a b c : AC} (h : TV p a b) (g : TV p b c) : TV p a c := ⟨h.base.trans g.base, h.next.trans g.next, fun i hi v hv => g.held i hi v (h.held i hi v hv)⟩
end Go.Lift
namespace Go.Lift
namespace Bfs
section
variable {α σ : Type}
def code (rk : σ → Nat) (K : Nat) (w : List σ) : Nat := w.foldl (fun c s => c * K + rk s) 0
def VS (rk : σ → Nat) (K : Nat) (w : List σ) : Prop := ∀ s, s ∈ w → 1 ≤ rk s ∧ rk s ≤ K
theorem VS.snoc {rk : σ → Nat} {K : Nat} {w : List σ} {s : σ} (h : VS rk K w) (hs : 1 ≤ rk s ∧ rk s ≤ K) : VS rk K (w ++ [s]) := by
 intro x hx; rcases List.mem_append.1 hx with h1 | h1
 ·exact h x h1
 ·rw [List.mem_singleton.1 h1]; exact hs
abbrev Nd (α σ : Type) := α × Int × σ
def put [DecidableEq α] (i : Nat) (l : List (Nd α σ)) (q : σ × α) : List (Nd α σ) := if (l.any fun n => decide (n.1 = q.2)) = true then l else l ++ [(q.2, (i : Int), q.1)]
def D3 [DecidableEq α] (most i : Nat) : List (σ × α) → List (Nd α σ) → Option (List (Nd α σ))
 | [], l => some l
 | q :: qs, l => if most < (put i l q).length then none else D3 most i qs (put i l q)
def go [DecidableEq α] (nxt : α → List (σ × α)) (most : Nat) : Nat → Nat → List (Nd α σ) → Option (List (Nd α σ))
 | 0, _, _ => none
 | n + 1, i, l => match l[i]? with
  | none => some l
  | some nd => (D3 most i (nxt nd.1) l).bind fun l' => go nxt most n (i + 1) l'
def run (nxt : α → List (σ × α)) (x : α) : List σ → α → Prop
 | [], y => y = x
 | s :: w, y => ∃ z, (s, z) ∈ nxt x ∧ run nxt z w y
theorem Gm {nxt : α → List (σ × α)} : ∀ {u w : List σ} {x y : α}, run nxt x (u ++ w) y ↔ ∃ z, run nxt x u z ∧ run nxt z w y
 | [], w, x, y => by simp [run]
 | s :: u, w, x, y => by
  simp only [List.cons_append, run]
  constructor
  ·rintro ⟨z, h1, h2⟩
   obtain ⟨z', h3, h4⟩ := Gm.1 h2
   exact ⟨z', ⟨z, h1, h3⟩, h4⟩
  ·rintro ⟨z', ⟨z, h1, h3⟩, h4⟩
   exact ⟨z, h1, Gm.2 ⟨z', h3, h4⟩⟩
end
end Bfs
end Go.Lift
namespace Go.Lift
open Go
theorem OX : ∀ {l : List Int}, Ur l = 0 → ∀ x, x ∈ l → x = 0
 | [], _, x, hx => by cases hx
 | y :: ys, h, x, hx => by
  unfold Ur at h
  split at h
  ·rename_i hy
   rcases List.mem_cons.1 hx with rfl | hx
   ·exact hy
   ·exact OX h x hx
  ·rename_i hy; exact absurd h hy
theorem QE {a b : AC} (h : RU a b = 0) : a = b := by
 have := OX h
 have h1 := LS _ _ (this (Lj a.fg b.fg) (by simp))
 have h2 := LS _ _ (this (Lj a.ff b.ff) (by simp))
 have h3 := LS _ _ (this (Lj a.fi b.fi) (by simp))
 cases a; cases b; simp only at h1 h2 h3; subst h1; subst h2; subst h3; rfl
instance Vs : DecidableEq AC := fun a b => if h : RU a b = 0 then isTrue (QE h) else isFalse (fun e => h (by rw [e]; exact Qr b))
end Go.Lift
namespace Go.Lift
open IntKind renaming wrap → wI
open Option renaming bind_some → oS
open List renaming mem_of_getElem? → lM
open List renaming getElem?_eq_some_iff → lI
open Go
def L0 (t u v : Nat) (ok : Bool) : List Ab := if ok = true then [] else [⟨(t : Int), (u : Int), (v : Int)⟩]
def Lm (t u : Nat) (row : List Bool) : List Ab := GD (L0 t u) 0 row
def K9 (t : Nat) (x : Av) : List Ab := GD (Lm t) 0 x.fj
def FF (p : Ah) : List Ab := GD K9 0 p.fa
theorem Ma (t u v : Nat) (ok : Bool) : (L0 t u v ok).length ≤ 1 := by unfold L0; split <;> simp
theorem HV (t u : Nat) {row : List Bool} (h : row.length ≤ 6) : (Lm t u row).length ≤ 6 := by
 have := JR (g := L0 t u) (c := 1) (i := 0) (xs := row) (fun j x _ => Ma _ _ _ _)
 unfold Lm; omega
theorem HJ {p : Ah} {t : Av} (hp : Io p) (ht : Qj p t) (i : Nat) : (K9 i t).length ≤ 36 := by
 have h1 := JT hp ht
 have := JR (g := Lm i) (c := 6) (i := 0) (xs := t.fj) (fun j x hx => HV i _ (h1.2 x (lM hx)))
 unfold K9; omega
theorem IW {p : Ah} (hp : Io p) : (FF p).length ≤ 432 := by
 have := JR (g := K9) (c := 36) (i := 0) (xs := p.fa) (fun j x hx => HJ hp (JM (hp.tab x (lM hx))) _)
 have := hp.nt
 unfold FF; omega
theorem Jt {N : Nat} (hN : N ≤ 1000000) (h20 : 100 ≤ N) {p : Ah} (hp : Io p) : C4 N p = some (FF p) := by
 unfold C4
 have hnt := hp.nt
 rw [Fi (Bq N p _) (fun a k => (a, k)) p.fa some K9 36 9000
  (fun i t hx => HJ hp (JM (hp.tab t (lM hx))) i)
  (fun n i t a hx ha => by
   have hi := (lI.1 hx).1
   have ht := JM (hp.tab t (lM hx))
   have hv := JT hp ht
   have het := HJ hp ht i
   rw [Bq]
   rw [BA (by omega), Fi (BH N p (a, (i : Int)) _) (fun a k => (a, k)) t.fj (fun b => Bq N p (fun v2 => some v2) n (b, wI .i64 ((i : Int) + 1))) (Lm i) 6 10000
    (fun u row hu => HV i u (hv.2 row (lM hu)))
    (fun n2 u row b hu hb => by
     have hui := (lI.1 hu).1
     have hrl := hv.2 row (lM hu)
     rw [BH]
     simp only [Bv, hx, oS]
     rw [BA (by omega), Fi (B6 N p (a, (i : Int)) (b, (u : Int)) _) (fun a k => (a, k)) row (fun c => BH N p (a, (i : Int)) (fun v5 => Bq N p (fun v2 => some v2) n (v5, wI .i64 ((i : Int) + 1))) n2 (c, wI .i64 ((u : Int) + 1))) (L0 i u) 1 20000
      (fun v ok _ => Ma i u v ok)
      (fun n3 v ok c hv hc => by
       have hvi := (lI.1 hv).1
       rw [B6]
       simp only [Bv, hx, hu, hv, oS, Hl]
       rw [BA (by omega), Bl (i := v) (by omega)]
       cases ok
       ·simp only [Bool.not_false, EJ]
        rw [BC (by simp only [L0, Bool.false_eq_true, if_false, List.length_singleton] at hc ⊢; unfold FQ; omega)]
        rfl
       ·simp only [Bool.not_true, A1, L0, if_true, List.append_nil])
      (fun n3 c => by
       rw [B6]
       simp only [Bv, hx, hu, oS, Hl]
       rw [Bk (by omega)]) N b (by omega) (by have := HV i u hrl; omega), Bl (i := u) (by omega)]
     rfl)
    (fun n2 b => by
     rw [BH]
     simp only [Bv, hx, oS]
     rw [Bk (by omega)]) N a (by omega) (by omega), Bl (i := i) (by omega)]
   rfl)
  (fun n a => by
   rw [Bq]
   rw [Bk (by omega)]) N [] (by omega) (by simp; omega)]
 rfl
theorem Jz {N : Nat} (hN : N ≤ 1000000) (h20 : 100 ≤ N) {p : Ah} (hp : Io p) : Dr N p = some (FF p) := by
 unfold Dr
 have hnt := hp.nt
 rw [Fi (B1 N p _) (fun a k => (a, k)) p.fa some K9 36 9000
  (fun i t hx => HJ hp (JM (hp.tab t (lM hx))) i)
  (fun n i t a hx ha => by
   have hi := (lI.1 hx).1
   have ht := JM (hp.tab t (lM hx))
   have hv := JT hp ht
   have het := HJ hp ht i
   rw [B1]
   simp only [Bv, hx, oS]
   rw [BA (by omega), Fi (Cm N (a, (i : Int)) t _) (fun a k => (a, k)) t.fj (fun b => B1 N p (fun v2 => some v2) n (b, wI .i64 ((i : Int) + 1))) (Lm i) 6 10000
    (fun u row hu => HV i u (hv.2 row (lM hu)))
    (fun n2 u row b hu hb => by
     have hui := (lI.1 hu).1
     have hrl := hv.2 row (lM hu)
     rw [Cm]
     simp only [Bv, hu, oS]
     rw [BA (by omega), Fi (CM N (a, (i : Int)) (b, (u : Int)) row _) (fun a k => (a, k)) row (fun c => Cm N (a, (i : Int)) t (fun v5 => B1 N p (fun v2 => some v2) n (v5, wI .i64 ((i : Int) + 1))) n2 (c, wI .i64 ((u : Int) + 1))) (L0 i u) 1 20000
      (fun v ok _ => Ma i u v ok)
      (fun n3 v ok c hv hc => by
       have hvi := (lI.1 hv).1
       rw [CM]
       simp only [Bv, hv, oS, Hl]
       rw [BA (by omega), Bl (i := v) (by omega)]
       cases ok
       ·simp only [Bool.not_false, EJ]
        rw [BC (by simp only [L0, Bool.false_eq_true, if_false, List.length_singleton] at hc ⊢; unfold FQ; omega)]
        rfl
       ·simp only [Bool.not_true, A1, L0, if_true, List.append_nil])
      (fun n3 c => by
       rw [CM]
       simp only [Hl]
       rw [Bk (by omega)]) N b (by omega) (by have := HV i u hrl; omega), Bl (i := u) (by omega)]
     rfl)
    (fun n2 b => by
     rw [Cm]
     rw [Bk (by omega)]) N a (by omega) (by omega), Bl (i := i) (by omega)]
   rfl)
  (fun n a => by
   rw [B1]
   rw [Bk (by omega)]) N [] (by omega) (by simp; omega)]
 rfl
def Qz (a b : Ab) : Bool := (a.ft == b.ft) && ((a.fr == b.fr) && ((a.fq == b.fq) && true))
theorem JX (a b : Ab) : Qz a b = true ↔ a = b := by
 unfold Qz
 cases a; cases b
 simp
theorem RP (a b : Ab) : Qz a b = Qz b a := by
 rw [Bool.eq_iff_iff, JX, JX]; exact eq_comm
def Pq (l : List Ab) (c : Ab) : Bool := l.any fun x => Qz x c
theorem RV {l : List Ab} {c : Ab} : Pq l c = true ↔ c ∈ l := by
 unfold Pq
 rw [List.any_eq_true]
 constructor
 ·rintro ⟨x, h1, h2⟩; rw [JX] at h2; exact h2 ▸ h1
 ·intro h; exact ⟨c, h, (JX c c).2 rfl⟩
theorem Pn (x : Ab) (l : List Ab) (c : Ab) : Pq (x :: l) c = (Qz x c || Pq l c) := rfl
theorem P7 (N : Nat) (l : List Ab) (c : Ab) (hl : l.length < 1000000) : ∀ (n i : Nat), i ≤ l.length → l.length - i < n → Dw N l c (fun _ => some false) n (i : Int) = some (Pq (l.drop i) c)
 | 0, i, _, h => by omega
 | n + 1, i, hi, h => by
  rw [Dw]
  by_cases h1 : i < l.length
  ·have hx : l[i]? = some l[i] := by simp [h1]
   rw [BA (by omega), Bv, hx, IJ hx, Pn, Bl (by omega), P7 N l c hl n (i + 1) (by omega) (by omega)]
   simp only [oS]
   show AR (Qz l[i] c) _ _ = _
   cases Qz l[i] c <;> rfl
  ·rw [Bk (by omega), List.drop_eq_nil_of_le (by omega)]; rfl
theorem Nf {N : Nat} {l : List Ab} (hN : N ≤ 1000000) (hl : l.length < N) (c : Ab) : D2 N l c = some (Pq l c) := by
 unfold D2
 have := P7 N l c (by omega) N 0 (by omega) (by omega)
 simpa using this
theorem J5 (N : Nat) (l : List Ab) (c : Ab) (hl : l.length < 1000000) : ∀ (n i : Nat), i ≤ l.length → l.length - i < n → ∃ k : Int, AU N l c (fun _ => some (-1)) n (i : Int) = some k ∧ decide (0 ≤ k) = Pq (l.drop i) c
 | 0, i, _, h => by omega
 | n + 1, i, hi, h => by
  rw [AU]
  by_cases h1 : i < l.length
  ·have hx : l[i]? = some l[i] := by simp [h1]
   obtain ⟨k, e1, e2⟩ := J5 N l c hl n (i + 1) (by omega) (by omega)
   rw [BA (by omega), Bv, hx, IJ hx, Pn, Bl (by omega), e1]
   simp only [oS]
   have : ((c.ft == l[i].ft) && ((c.fr == l[i].fr) && ((c.fq == l[i].fq) && true))) = Qz l[i] c := RP c l[i]
   rw [this]
   cases Qz l[i] c
   ·exact ⟨k, rfl, e2⟩
   ·exact ⟨_, rfl, by simp⟩
  ·rw [Bk (by omega), List.drop_eq_nil_of_le (by omega)]
   exact ⟨-1, rfl, rfl⟩
theorem OI {N : Nat} {l : List Ab} (hN : N ≤ 1000000) (hl : l.length < N) (c : Ab) : Bj N l c = some (Pq l c) := by
 unfold Bj BW
 obtain ⟨k, e1, e2⟩ := J5 N l c (by omega) N 0 (by omega) (by omega)
 have e1' : AU N l c (fun _ => some (-1)) N 0 = some k := by simpa using e1
 rw [e1', oS, e2, List.drop_zero]
def QM (l : List Ab) (t u v : Nat) (ok : Bool) : Bool := ok || Pq l ⟨(t : Int), (u : Int), (v : Int)⟩
def Is (l : List Ab) (t u : Nat) (row : List Bool) : List Bool := row.mapIdx (QM l t u)
def Jj (l : List Ab) (t : Nat) (x : Av) : Av := ⟨x.fe, x.fh, x.fm, x.fo, x.fj.mapIdx (Is l t), x.fk⟩
def LV (p : Ah) (l : List Ab) : Ah := ⟨p.fb, p.fc, p.fd, p.fa.mapIdx (Jj l)⟩
theorem M8 {α β : Type} (f : Nat → α → β) : ∀ (k : Nat) (xs : List α), GD (fun i x => [f i x]) k xs = xs.mapIdx fun i x => f (k + i) x
 | _, [] => rfl
 | k, x :: xs => by
  rw [GD, M8 f (k + 1) xs, List.mapIdx_cons]
  simp only [List.singleton_append, Nat.add_zero, Nat.add_assoc, Nat.add_comm 1]
theorem Jb {α β : Type} (f : Nat → α → β) (xs : List α) : GD (fun i x => [f i x]) 0 xs = xs.mapIdx f := by
 rw [M8]; simp only [Nat.zero_add]
theorem Ir {α β : Type} {f g : Nat → α → β} {xs : List α} {k : Nat} {x : α} (hx : xs[k]? = some x) (h : ∀ j y, xs[j]? = some y → j ≠ k → g j y = f j y) : xs.mapIdx g = (xs.mapIdx f).set k (g k x) := by
 apply List.ext_getElem?
 intro j
 rw [List.getElem?_mapIdx, List.getElem?_set, List.getElem?_mapIdx]
 have hk := (lI.1 hx).1
 by_cases e : k = j
 ·subst e; rw [if_pos rfl, if_pos (by simpa using hk), hx]; rfl
 ·rw [if_neg e]
  cases hy : xs[j]? with
  | none => rfl
  | some y => simp only [Option.map_some]; rw [h j y hy (fun e' => e e'.symm)]
theorem Re {N : Nat} (hN : N ≤ 1000000) {l : List Ab} (hl : l.length < N) (v4 : List Av × Int) (v8 : List (List Bool) × Int) (t u : Nat) (h4 : v4.2 = (t : Int)) (h8 : v8.2 = (u : Int)) (row : List Bool) (hr : row.length ≤ 6) (h20 : 100 ≤ N) (j : List Bool → Option Ah) :
  B3 N l v4 v8 j N (row, 0) = j (Is l t u row) := by
 obtain ⟨a, e, h⟩ := Oa (A := List Bool) (B3 N l v4 v8 j) (fun a k => (a, k)) row.length j (fun i a => a.length = row.length ∧ (∀ k, i ≤ k → a[k]? = row[k]?) ∧ ∀ k, k < i → a[k]? = (row[k]?).map (QM l t u k))
  (fun n i a hi h => by
   obtain ⟨h1, h2, h3⟩ := h
   have hx : row[i]? = some row[i] := by simp [hi]
   have ha : a[i]? = some row[i] := by rw [h2 i (Nat.le_refl _), hx]
   refine ⟨a.set i (QM l t u i row[i]), ?_, by simpa using h1, fun k hk => ?_, fun k hk => ?_⟩
   ·rw [B3]
    simp only [Hl, Bv, ha, oS]
    rw [BA (by omega), Bl (by omega), h4, h8, Nf hN hl]
    simp only [oS, QM, Int.toNat_natCast]
    cases row[i]
    ·rw [A1, Bool.false_or]
    ·rw [EJ, Bool.true_or]
   ·rw [List.getElem?_set, if_neg (by omega)]; exact h2 k (by omega)
   ·rw [List.getElem?_set]
    by_cases e : i = k
    ·subst e; rw [if_pos rfl, if_pos (by omega), hx]; rfl
    ·rw [if_neg e]; exact h3 k (by omega))
  (fun n a h => by
   rw [B3, Bk (by simp only; omega)]) N 0 row (Nat.zero_le _) (by omega) ⟨rfl, fun _ _ => rfl, fun k hk => by omega⟩
 have : a = Is l t u row := by
  apply List.ext_getElem?
  intro k
  rw [Is, List.getElem?_mapIdx]
  by_cases hk : k < row.length
  ·exact h.2.2 k hk
  ·rw [h.2.1 k (by omega), List.getElem?_eq_none (by omega)]; rfl
 rw [← this]
 exact e
theorem OP {N : Nat} (hN : N ≤ 1000000) (h20 : 100 ≤ N) {p : Ah} (hp : Io p) {l : List Ab} (hl : l.length < N) : DJ N p l = some (LV p l) := by
 unfold DJ
 have hnt := hp.nt
 have hnv := hp.nv
 have hnow := hp.now
 have htg := hp.tgt
 rw [BC (by simp only [List.length_nil]; unfold FQ; omega), BC (by simp only [List.length_nil]; unfold FQ; omega), BC (by simp only [List.length_nil]; unfold FQ; omega)]
 rw [Fi (BO N p l _) (fun a k => (a, k)) p.fa (fun v5 => some (Ah.mk ([] ++ p.fb) ([] ++ p.fc) ([] ++ p.fd) v5)) (fun t x => [Jj l t x]) 1 1000
  (fun i t hx => by simp)
  (fun n i t a hx ha => by
   have hi := (lI.1 hx).1
   have ht := JM (hp.tab t (lM hx))
   have hv := JT hp ht
   have hrw : t.fk.length ≤ 6 ∧ ∀ row, row ∈ t.fk → row.length ≤ 6 := by
    have h1 := Kr hp.ver ht.from0.1 ht.from0.2
    refine ⟨?_, fun row hr => by have := ht.reR row hr; omega⟩
    by_cases hk : t.fe = 4
    ·have := ht.reL hk; omega
    ·rw [ht.reN hk]; simp
   rw [BO]
   simp only [Bv, hx, oS]
   rw [BA (by omega), Fi (CH N p l (a, (i : Int)) _) (fun a k => (a, k)) t.fj (fun v9 => B4 N p (a, (i : Int)) (fun v26 => (Ft (a.length + ([(Av.mk t.fe t.fh t.fm t.fo v9 v26)] : List Av).length ≤ FQ)).bind fun _ => BO N p l (fun v5 => some (Ah.mk ([] ++ p.fb) ([] ++ p.fc) ([] ++ p.fd) v5)) n (a ++ [(Av.mk t.fe t.fh t.fm t.fo v9 v26)], wI .i64 ((i : Int) + 1))) N ([], 0)) (fun u row => [Is l i u row]) 1 1000
    (fun u row hu => by simp)
    (fun n2 u row b hu hb => by
     have hui := (lI.1 hu).1
     have hrl := hv.2 row (lM hu)
     rw [CH]
     simp only [Bv, hx, hu, oS]
     rw [BA (by omega), BC (by simp only [List.length_nil]; unfold FQ; omega)]
     simp only [List.nil_append]
     rw [Re hN hl _ _ i u rfl rfl row hrl h20, BC (by simp only [List.length_singleton] at hb ⊢; unfold FQ; omega), Bl (i := u) (by omega)])
    (fun n2 b => by
     rw [CH]
     simp only [Bv, hx, oS]
     rw [Bk (by omega)]) N [] (by omega) (by simp only [List.length_nil]; omega)]
   rw [Fi (B4 N p (a, (i : Int)) _) (fun a k => (a, k)) t.fk (fun v26 => (Ft (a.length + ([(Av.mk t.fe t.fh t.fm t.fo ([] ++ GD (fun u row => [Is l i u row]) 0 t.fj) v26)] : List Av).length ≤ FQ)).bind fun _ => BO N p l (fun v5 => some (Ah.mk ([] ++ p.fb) ([] ++ p.fc) ([] ++ p.fd) v5)) n (a ++ [(Av.mk t.fe t.fh t.fm t.fo ([] ++ GD (fun u row => [Is l i u row]) 0 t.fj) v26)], wI .i64 ((i : Int) + 1))) (fun _ row => [row]) 1 1000
    (fun u row hu => by simp)
    (fun n2 u row b hu hb => by
     have hui := (lI.1 hu).1
     have hrl := hrw.2 row (lM hu)
     rw [B4]
     simp only [Bv, hx, hu, oS]
     rw [BA (by omega), BC (by simp only [List.length_nil]; unfold FQ; omega), BC (by simp only [List.length_singleton] at hb ⊢; unfold FQ; omega), Bl (i := u) (by omega)]
     rfl)
    (fun n2 b => by
     rw [B4]
     simp only [Bv, hx, oS]
     rw [Bk (by omega)]) N [] (by omega) (by simp only [List.length_nil]; omega)]
   rw [BC (by simp only [List.length_singleton] at ha ⊢; unfold FQ; omega), Bl (i := i) (by omega), Jb, Jb (fun _ row => row)]
   simp only [List.nil_append, Jj]
   have : t.fk.mapIdx (fun _ row => row) = t.fk := by
    apply List.ext_getElem?; intro k; rw [List.getElem?_mapIdx]; cases t.fk[k]? <;> rfl
   rw [this])
  (fun n a => by
   rw [BO]
   rw [Bk (by omega)]) N [] (by omega) (by simp only [List.length_nil]; omega), Jb]
 rfl
theorem Ra {p : Ah} {t : Av} (hp : Io p) (ht : Qj p t) : t.fk.length ≤ 6 ∧ ∀ row, row ∈ t.fk → row.length ≤ 6 := by
 have h1 := Kr hp.ver ht.from0.1 ht.from0.2
 refine ⟨?_, fun row hr => by have := ht.reR row hr; omega⟩
 by_cases hk : t.fe = 4
 ·have := ht.reL hk; omega
 ·rw [ht.reN hk]; simp
theorem OL (N : Nat) {l : List (List Bool)} (h : l.length ≤ 100000) : CC N l = some l := by
 unfold CC
 rw [BC (by simp only [List.length_nil]; unfold FQ; omega)]; rfl
theorem Qi (N : Nat) {l : List Bool} (h : l.length ≤ 100000) : Ci N l = some l := by
 unfold Ci
 rw [BC (by simp only [List.length_nil]; unfold FQ; omega)]; rfl
theorem N3 (N : Nat) {l : List Int} (h : l.length ≤ 100000) : A4 N l = some l := by
 unfold A4
 rw [BC (by simp only [List.length_nil]; unfold FQ; omega)]; rfl
theorem Ss (N : Nat) {l : List Ab} (h : l.length ≤ 100000) : AZ N l = some l := by
 unfold AZ
 rw [BC (by simp only [List.length_nil]; unfold FQ; omega)]; rfl
theorem LF {α : Type} {l : List α} {i : Nat} {x : α} (h : l[i]? = some x) : l.set i x = l := by
 apply List.ext_getElem?
 intro k
 rw [List.getElem?_set]
 have := (lI.1 h).1
 by_cases e : i = k
 ·subst e; rw [if_pos rfl, if_pos this, h]
 ·rw [if_neg e]
theorem QA {N : Nat} (h20 : 100 ≤ N) (t : Av) (h1 : t.fj.length ≤ 6) (h2 : ∀ row, row ∈ t.fj → row.length ≤ 6) (h3 : t.fk.length ≤ 6) (h4 : ∀ row, row ∈ t.fk → row.length ≤ 6) : EI N t = some t := by
 unfold EI
 rw [OL N (by omega), OL N (by omega)]
 simp only [oS]
 have l1 := JP (C1 N t.fj fun v4 => BG N t.fk (fun v12 => some ⟨t.fe, t.fh, t.fm, t.fo, v4, v12⟩) N (t.fk, 0)) (fun a i => (a, i)) t.fj (fun v4 => BG N t.fk (fun v12 => some ⟨t.fe, t.fh, t.fm, t.fo, v4, v12⟩) N (t.fk, 0)) (fun _ _ a => a) (fun _ a => a = t.fj)
  (fun n i x a hx ha => by
   subst ha
   have hi := (lI.1 hx).1
   refine ⟨?_, rfl⟩
   rw [C1]
   simp only [Bv, hx, oS]
   rw [BA (by omega), Qi N (by have := h2 x (lM hx); omega)]
   simp only [oS]
   rw [Bl (by omega), BC (by omega), Int.toNat_natCast, LF hx])
  (fun n a ha => by
   subst ha
   rw [C1, Bk (by omega), BC (by simp only [Int.toNat_natCast])]) N 0 t.fj (Nat.zero_le _) (by omega) rfl
 have l2 := JP (BG N t.fk fun v12 => some ⟨t.fe, t.fh, t.fm, t.fo, t.fj, v12⟩) (fun a i => (a, i)) t.fk (fun v12 => some ⟨t.fe, t.fh, t.fm, t.fo, t.fj, v12⟩) (fun _ _ a => a) (fun _ a => a = t.fk)
  (fun n i x a hx ha => by
   subst ha
   have hi := (lI.1 hx).1
   refine ⟨?_, rfl⟩
   rw [BG]
   simp only [Bv, hx, oS]
   rw [BA (by omega), Qi N (by have := h4 x (lM hx); omega)]
   simp only [oS]
   rw [Bl (by omega), BC (by omega), Int.toNat_natCast, LF hx])
  (fun n a ha => by
   subst ha
   rw [BG, Bk (by omega), BC (by simp only [Int.toNat_natCast])]) N 0 t.fk (Nat.zero_le _) (by omega) rfl
 have e1 := l1.1.trans (congrArg (fun v4 => BG N t.fk (fun v12 => some (Av.mk t.fe t.fh t.fm t.fo v4 v12)) N (t.fk, 0)) l1.2)
 have e2 := l2.1.trans (congrArg (fun v12 => some (Av.mk t.fe t.fh t.fm t.fo t.fj v12)) l2.2)
 exact e1.trans e2
theorem PV {N : Nat} (hN : N ≤ 1000000) (h20 : 100 ≤ N) {p : Ah} (hv : Ef p = 0) : Ep N p p.fc p.fd = some (p, 0) := by
 obtain ⟨hp, _⟩ := Gs hv
 have hnt := hp.nt
 have hnv := hp.nv
 have hnow := hp.now
 have htg := hp.tgt
 unfold Ep
 rw [HC N p hN (by omega), N3 N (by omega), N3 N (by omega), N3 N (by omega)]
 simp only [oS, hv, bne_self_eq_false, A1]
 rw [Fi (CO N p _) (fun a i => (a, i)) p.fa (fun v7 => (Br N (Ah.mk p.fb p.fc p.fd v7)).bind fun v12 => AR (v12 != 0) (some (Ah.mk [] [] [] [], v12)) (some (Ah.mk p.fb p.fc p.fd v7, 0))) (fun _ x => [x]) 1 1000
  (fun i x hx => by simp)
  (fun n i x a hx ha => by
   have hi := (lI.1 hx).1
   have ht := JM (hp.tab x (lM hx))
   have hl := JT hp ht
   have hr := Ra hp ht
   rw [CO]
   simp only [Bv, hx, oS]
   rw [BA (by omega), QA h20 x hl.1 hl.2 hr.1 hr.2]
   simp only [oS]
   rw [BC (by simp only [List.length_singleton] at ha ⊢; unfold FQ; omega), Bl (by omega)])
  (fun n a => by
   rw [CO, Bk (by omega)]) N [] (by omega) (by simp only [List.length_nil]; omega)]
 have e : ([] : List Av) ++ GD (fun _ x => [x]) 0 p.fa = p.fa := by
  rw [List.nil_append, Jb (fun _ x => x)]
  apply List.ext_getElem?; intro k; rw [List.getElem?_mapIdx]; cases p.fa[k]? <;> rfl
 simp only [e]
 rw [HC N _ hN (by omega)]
 simp only [oS, hv, bne_self_eq_false, A1]
theorem OG {p : Ah} {c : Ab} (h : c ∈ FF p) : ∃ (t u v : Nat) (x : Av) (row : List Bool), p.fa[t]? = some x ∧ x.fj[u]? = some row ∧ row[v]? = some false ∧ c = ⟨(t : Int), (u : Int), (v : Int)⟩ := by
 obtain ⟨t, x, hx, h⟩ := JV.1 h
 obtain ⟨u, row, hu, h⟩ := JV.1 h
 obtain ⟨v, ok, hv, h⟩ := JV.1 h
 simp only [Nat.zero_add, L0] at h
 cases ok
 ·simp only [Bool.false_eq_true, if_false, List.mem_singleton] at h
  exact ⟨t, u, v, x, row, hx, hu, hv, h⟩
 ·simp at h
theorem Pj (l : List Ab) (c : Ab) (t u v : Nat) (ok : Bool) : QM (l ++ [c]) t u v ok = (QM l t u v ok || Qz c ⟨(t : Int), (u : Int), (v : Int)⟩) := by
 unfold QM Pq
 rw [List.any_append, List.any_cons, List.any_nil, Bool.or_false, Bool.or_assoc]
theorem PM {l : List Ab} {t u v t' u' v' : Nat} (h : t ≠ t' ∨ u ≠ u' ∨ v ≠ v') (ok : Bool) : QM (l ++ [⟨(t : Int), (u : Int), (v : Int)⟩]) t' u' v' ok = QM l t' u' v' ok := by
 rw [Pj]
 have : Qz ⟨(t : Int), (u : Int), (v : Int)⟩ ⟨(t' : Int), (u' : Int), (v' : Int)⟩ = false := by
  cases hh : Qz ⟨(t : Int), (u : Int), (v : Int)⟩ ⟨(t' : Int), (u' : Int), (v' : Int)⟩
  ·rfl
  ·rw [JX] at hh
   simp only [Ab.mk.injEq] at hh
   omega
 rw [this, Bool.or_false]
theorem Qo {l : List Ab} {t u v : Nat} {x : Av} {row : List Bool} (hu : x.fj[u]? = some row) (hv : v < row.length) :
  Jj (l ++ [⟨(t : Int), (u : Int), (v : Int)⟩]) t x = ⟨x.fe, x.fh, x.fm, x.fo, (x.fj.mapIdx (Is l t)).set u ((Is l t u row).set v true), x.fk⟩ := by
 have hz : row[v]? = some row[v] := by simp [hv]
 unfold Jj
 congr 1
 rw [Ir (f := Is l t) hu (fun j y _ hj => by
  unfold Is
  exact congrArg (fun f => y.mapIdx f) (funext fun k => funext fun ok => PM (.inr (.inl (Ne.symm hj))) ok))]
 congr 1
 unfold Is
 rw [Ir (f := QM l t u) hz (fun j y _ hj => PM (.inr (.inr (Ne.symm hj))) y)]
 congr 1
 rw [Pj, (JX _ _).2 rfl, Bool.or_true]
theorem PZ {ts : List Av} {l : List Ab} {t u v : Nat} {x : Av} {row : List Bool} (hx : ts[t]? = some x) (hu : x.fj[u]? = some row) (hv : v < row.length) :
  ts.mapIdx (Jj (l ++ [⟨(t : Int), (u : Int), (v : Int)⟩])) = (ts.mapIdx (Jj l)).set t ⟨x.fe, x.fh, x.fm, x.fo, (x.fj.mapIdx (Is l t)).set u ((Is l t u row).set v true), x.fk⟩ := by
 rw [Ir (f := Jj l) hx (fun j y _ hj => by
  unfold Jj
  congr 1
  exact congrArg (fun f => y.fj.mapIdx f) (funext fun k => funext fun r => congrArg (fun f => r.mapIdx f) (funext fun q => funext fun ok => PM (.inl (Ne.symm hj)) ok))), Qo hu hv]
theorem Qw (ts : List Av) : ts.mapIdx (Jj []) = ts := by
 apply List.ext_getElem?
 intro k
 rw [List.getElem?_mapIdx]
 cases ts[k]? with
 | none => rfl
 | some x =>
  have : Jj [] k x = x := by
   unfold Jj
   have : x.fj.mapIdx (Is [] k) = x.fj := by
    apply List.ext_getElem?
    intro u
    rw [List.getElem?_mapIdx]
    cases x.fj[u]? with
    | none => rfl
    | some row =>
     simp only [Option.map_some, Option.some.injEq]
     apply List.ext_getElem?
     intro v
     rw [Is, List.getElem?_mapIdx]
     cases row[v]? with
     | none => rfl
     | some ok => simp [QM, Pq]
   rw [this]
  rw [Option.map_some, this]
theorem OQ {N : Nat} (hN : N ≤ 1000000) (h20 : 100 ≤ N) {p : Ah} (hv : Ef p = 0) {l : List Ab} (hl : l.length < N) (hm : ∀ c, c ∈ l → c ∈ FF p) : EB N p l = some (LV p l) := by
 unfold EB
 rw [PV hN h20 hv]
 simp only [oS]
 obtain ⟨a, e, h⟩ := Oa (A := List Av) (Du N l fun v3 => some ⟨p.fb, p.fc, p.fd, v3⟩) (fun a k => (a, k)) l.length (fun v3 => some ⟨p.fb, p.fc, p.fd, v3⟩) (fun i a => a = p.fa.mapIdx (Jj (l.take i)))
  (fun n i a hi ha => by
   subst ha
   have hc : l[i]? = some l[i] := by simp [hi]
   obtain ⟨t, u, v, x, row, hx, hu, hv, e⟩ := OG (hm l[i] (List.getElem_mem hi))
   have hvl := (lI.1 hv).1
   refine ⟨_, ?_, rfl⟩
   have e1 : (p.fa.mapIdx (Jj (l.take i)))[t]? = some (Jj (l.take i) t x) := by rw [List.getElem?_mapIdx, hx]; rfl
   have e2 : (Jj (l.take i) t x).fj[u]? = some (Is (l.take i) t u row) := by
    show (x.fj.mapIdx (Is (l.take i) t))[u]? = _
    rw [List.getElem?_mapIdx, hu]; rfl
   have e3 : (Is (l.take i) t u row)[v]? = some (QM (l.take i) t u v false) := by rw [Is, List.getElem?_mapIdx, hv]; rfl
   rw [Du]
   simp only [Bv, hc, oS, e, e1, e2, e3, Int.toNat_natCast]
   rw [BA (by omega), Bl (by omega)]
   have : l.take (i + 1) = l.take i ++ [⟨(t : Int), (u : Int), (v : Int)⟩] := by rw [List.take_add_one, hc, e]; rfl
   rw [this, PZ hx hu hvl]
   rfl)
  (fun n a h => by
   rw [Du, Bk (by simp only; omega)]) N 0 p.fa (Nat.zero_le _) (by omega) (by rw [List.take_zero, Qw])
 rw [List.take_length] at h
 subst h
 exact e
def Lw (p : Ah) (l : List Ab) : Int := if Ef p = 0 then (if l.all (Pq (FF p)) = true then 0 else 4) else Ef p
def Nt (p : Ah) (l : List Ab) : Ah × Int := if Lw p l = 0 then (LV p l, 0) else (⟨[], [], [], []⟩, Lw p l)
theorem J7 {l : List Ab} {f : Ab → Bool} {i : Nat} (h : i < l.length) : (l.drop i).all f = (f l[i] && (l.drop (i + 1)).all f) := by
 rw [IJ (show l[i]? = some l[i] by simp [h]), List.all_cons]
theorem Mt (N : Nat) (hN : N ≤ 1000000) (l e : List Ab) (he : e.length < N) (hl : l.length < 1000000) (j : Unit → Option Int) : ∀ (n i : Nat), i ≤ l.length → l.length - i < n → DI N l e j n (i : Int) = if (l.drop i).all (Pq e) = true then j () else some 4
 | 0, i, _, h => by omega
 | n + 1, i, hi, h => by
  rw [DI]
  by_cases h1 : i < l.length
  ·have hx : l[i]? = some l[i] := by simp [h1]
   rw [BA (by omega), Bv, hx]
   simp only [oS]
   rw [OI hN he, Bl (by omega), Mt N hN l e he hl j n (i + 1) (by omega) (by omega), J7 h1]
   simp only [oS]
   cases Pq e l[i]
   ·rfl
   ·simp only [Bool.not_true, A1, Bool.true_and]
  ·rw [Bk (by omega), List.drop_eq_nil_of_le (by omega)]; rfl
theorem N6 {N : Nat} (hN : N ≤ 1000000) (h20 : 500 ≤ N) (p : Ah) {l : List Ab} (hl : l.length < N) : En N p l = some (Lw p l) := by
 unfold En Lw
 rw [HC N p hN (by omega)]
 simp only [oS]
 by_cases hv : Ef p = 0
 ·obtain ⟨hp, _⟩ := Gs hv
  have he := IW hp
  rw [if_pos hv, hv, bne_self_eq_false, A1, Jz hN (by omega) hp]
  simp only [oS]
  have := Mt N hN l (FF p) (by omega) (by omega) (fun _ => some 0) N 0 (by omega) (by omega)
  simp only [List.drop_zero] at this
  refine Eq.trans this ?_
  split <;> rfl
 ·rw [if_neg hv, bne_iff_ne.2 hv, EJ]
theorem NH {p : Ah} {l : List Ab} (h : Lw p l = 0) : Ef p = 0 ∧ ∀ c, c ∈ l → c ∈ FF p := by
 unfold Lw at h
 split at h
 ·rename_i hv
  split at h
  ·rename_i ha
   exact ⟨hv, fun c hc => RV.1 (List.all_eq_true.1 ha c hc)⟩
  ·cases h
 ·rename_i hv; exact absurd h hv
theorem OD {N : Nat} (hN : N ≤ 1000000) (h20 : 500 ≤ N) (p : Ah) {l : List Ab} (hl : l.length < N) : Ff N p l = some (Nt p l) := by
 unfold Ff Nt
 rw [N6 hN h20 p hl]
 simp only [oS]
 by_cases h : Lw p l = 0
 ·obtain ⟨hv, hm⟩ := NH h
  rw [if_pos h, h, bne_self_eq_false, A1, OQ hN (by omega) hv hl hm]; rfl
 ·rw [if_neg h, bne_iff_ne.2 h, EJ]
theorem L4 (N : Nat) (hN : N ≤ 1000000) (l e : List Ab) (he : e.length < N) (hl : l.length < 1000000) (j : Unit → Option (Ah × Int)) : ∀ (n i : Nat), i ≤ l.length → l.length - i < n → Db N l e j n (i : Int) = if (l.drop i).all (Pq e) = true then j () else some (⟨[], [], [], []⟩, 4)
 | 0, i, _, h => by omega
 | n + 1, i, hi, h => by
  rw [Db]
  by_cases h1 : i < l.length
  ·have hx : l[i]? = some l[i] := by simp [h1]
   rw [BA (by omega), Bv, hx]
   simp only [oS]
   rw [Nf hN he, Bl (by omega), L4 N hN l e he hl j n (i + 1) (by omega) (by omega), J7 h1]
   simp only [oS]
   cases Pq e l[i]
   ·rfl
   ·simp only [Bool.not_true, A1, Bool.true_and]
  ·rw [Bk (by omega), List.drop_eq_nil_of_le (by omega)]; rfl
theorem OW {N : Nat} (hN : N ≤ 1000000) (h20 : 500 ≤ N) (p : Ah) {l : List Ab} (hl : l.length < N) : Eb N p l = some (Nt p l) := by
 unfold Eb Nt Lw
 rw [Mn N p hN (by omega)]
 simp only [oS]
 by_cases hv : Ef p = 0
 ·obtain ⟨hp, _⟩ := Gs hv
  have he := IW hp
  rw [if_pos hv, hv, bne_self_eq_false, A1, Jt hN (by omega) hp]
  simp only [oS]
  have := L4 N hN l (FF p) (by omega) (by omega) (fun _ => (DJ N p l).bind fun v10 => some (v10, 0)) N 0 (by omega) (by omega)
  simp only [List.drop_zero] at this
  refine Eq.trans this ?_
  rw [OP hN (by omega) hp hl]
  split <;> rfl
 ·rw [if_neg hv, if_neg hv, bne_iff_ne.2 hv, EJ]
theorem NQ : Dx 2000 = some true := by kernel_rfl
theorem Lc {N : Nat} (hN : N ≤ 1000000) {a : List Int} (h : a.length < N) : Dg N a a = some true := by
 have : ∀ n i, i ≤ a.length → a.length - i < n → C6 N a a (fun _ => some true) n (i : Int) = some true := by
  intro n
  induction n with
  | zero => intro i _ h; omega
  | succ n ih =>
   intro i hi hn
   rw [C6]
   by_cases h1 : i < a.length
   ·have hx : a[i]? = some a[i] := by simp [h1]
    rw [BA (by omega), Bv, hx, Bl (by omega)]
    simp only [oS, bne_self_eq_false, A1]
    exact ih (i + 1) (by omega) (by omega)
   ·rw [Bk (by omega)]
 unfold Dg
 rw [bne_self_eq_false, A1]
 exact this N 0 (by omega) (by omega)
theorem ND {N : Nat} (hN : N ≤ 1000000) {a : List (List Bool)} (h : a.length < N) (hr : ∀ row, row ∈ a → row.length < N) : CD N a a = some true := by
 have row : ∀ (k : Nat) (r : List Bool) (j : Unit → Option Bool), a[k]? = some r → ∀ n i, i ≤ r.length → r.length - i < n → B7 N a a (k : Int) j n (i : Int) = j () := by
  intro k r j hk n
  have hrl := hr r (lM hk)
  induction n with
  | zero => intro i _ h; omega
  | succ n ih =>
   intro i hi hn
   rw [B7]
   simp only [Bv, hk, oS]
   by_cases h1 : i < r.length
   ·have hx : r[i]? = some r[i] := by simp [h1]
    rw [BA (by omega), hx, Bl (by omega)]
    simp only [oS, beq_self_eq_true, Bool.not_true, A1]
    exact ih (i + 1) (by omega) (by omega)
   ·rw [Bk (by omega)]
 have all : ∀ n i, i ≤ a.length → a.length - i < n → B8 N a a (fun _ => some true) n (i : Int) = some true := by
  intro n
  induction n with
  | zero => intro i _ h; omega
  | succ n ih =>
   intro i hi hn
   rw [B8]
   by_cases h1 : i < a.length
   ·have hx : a[i]? = some a[i] := by simp [h1]
    rw [BA (by omega), Bv, hx, Bl (by omega)]
    simp only [oS, bne_self_eq_false, A1]
    have hrl := hr _ (lM hx)
    exact (row i _ _ hx N 0 (by omega) (by omega)).trans (ih (i + 1) (by omega) (by omega))
   ·rw [Bk (by omega)]
 unfold CD
 rw [bne_self_eq_false, A1]
 exact all N 0 (by omega) (by omega)
structure Rl (N : Nat) (p : Ah) : Prop where
 v : p.fb.length < N
 n : p.fc.length < N
 t : p.fd.length < N
 s : p.fa.length < N
 m : ∀ t, t ∈ p.fa → t.fj.length < N ∧ (∀ row, row ∈ t.fj → row.length < N) ∧ t.fk.length < N ∧ ∀ row, row ∈ t.fk → row.length < N
theorem PU {N : Nat} (hN : N ≤ 1000000) {p : Ah} (h : Rl N p) : DW N p p = some true := by
 have all : ∀ n i, i ≤ p.fa.length → p.fa.length - i < n → CX N p p (fun _ => some true) n (i : Int) = some true := by
  intro n
  induction n with
  | zero => intro i _ h; omega
  | succ n ih =>
   intro i hi hn
   have hs := h.s
   rw [CX]
   by_cases h1 : i < p.fa.length
   ·have hx : p.fa[i]? = some p.fa[i] := by simp [h1]
    obtain ⟨m1, m2, m3, m4⟩ := h.m _ (lM hx)
    rw [BA (by omega), Bv, hx, Bl (by omega)]
    simp only [oS, Hl, bne_self_eq_false, beq_self_eq_true, Bool.not_true, A1, ND hN m1 m2, ND hN m3 m4]
    exact ih (i + 1) (by omega) (by omega)
   ·rw [Bk (by omega)]
 unfold DW
 simp only [Hl, Lc hN h.v, Lc hN h.n, Lc hN h.t, oS, Bool.not_true, A1, bne_self_eq_false]
 exact all N 0 (by omega) (by have := h.s; omega)
theorem Pb {N : Nat} (hN : N ≤ 1000000) {a : List Ab} (h : a.length < N) : D9 N a a = some true := by
 have : ∀ n i, i ≤ a.length → a.length - i < n → Da N a a (fun _ => some true) n (i : Int) = some true := by
  intro n
  induction n with
  | zero => intro i _ h; omega
  | succ n ih =>
   intro i hi hn
   rw [Da]
   by_cases h1 : i < a.length
   ·have hx : a[i]? = some a[i] := by simp [h1]
    rw [BA (by omega), Bv, hx, Bl (by omega)]
    simp only [oS, beq_self_eq_true, Bool.and_true, Bool.not_true, A1]
    exact ih (i + 1) (by omega) (by omega)
   ·rw [Bk (by omega)]
 unfold D9
 rw [bne_self_eq_false, A1]
 exact this N 0 (by omega) (by omega)
def Qu (p : Ah) : List Ab × Int := if Ef p = 0 then (FF p, 0) else ([], Ef p)
theorem Rc (p : Ah) : (Qu p).1.length ≤ 432 := by
 unfold Qu
 split
 ·rename_i hv; exact IW (Gs hv).1
 ·simp
theorem My {N : Nat} (hN : N ≤ 1000000) (h20 : 500 ≤ N) (p : Ah) : DG N p = some (Qu p) := by
 unfold DG Qu
 rw [Mn N p hN (by omega)]
 simp only [oS]
 by_cases hv : Ef p = 0
 ·rw [if_pos hv, hv, bne_self_eq_false, A1, Jt hN (by omega) (Gs hv).1]; rfl
 ·rw [if_neg hv, bne_iff_ne.2 hv, EJ]
theorem Mj {N : Nat} (hN : N ≤ 1000000) (h20 : 500 ≤ N) (p : Ah) : Dq N p = some (Qu p) := by
 unfold Dq Qu
 rw [HC N p hN (by omega)]
 simp only [oS]
 by_cases hv : Ef p = 0
 ·rw [if_pos hv, hv, bne_self_eq_false, A1, Jz hN (by omega) (Gs hv).1]; rfl
 ·rw [if_neg hv, bne_iff_ne.2 hv, EJ]
theorem LG {α β : Type} {f : Nat → α → β} {xs : List α} {y : β} (h : y ∈ xs.mapIdx f) : ∃ i x, x ∈ xs ∧ y = f i x := by
 obtain ⟨i, hi, rfl⟩ := List.mem_mapIdx.1 h
 exact ⟨i, _, List.getElem_mem _, rfl⟩
theorem OR {N : Nat} (h20 : 500 ≤ N) (p : Ah) (l : List Ab) : Rl N (Nt p l).1 := by
 unfold Nt
 split
 ·rename_i h
  obtain ⟨hp, _⟩ := Gs (NH h).1
  have hnt := hp.nt
  have hnv := hp.nv
  have hnow := hp.now
  have htg := hp.tgt
  refine ⟨by simp only [LV]; omega, by simp only [LV]; omega, by simp only [LV]; omega, by simp only [LV, List.length_mapIdx]; omega, fun t ht => ?_⟩
  obtain ⟨i, x, hx, rfl⟩ := LG ht
  have hk := JM (hp.tab x hx)
  have h1 := JT hp hk
  have h2 := Ra hp hk
  refine ⟨by simp only [Jj, List.length_mapIdx]; omega, fun row hr => ?_, by simp only [Jj]; omega, fun row hr => by have := h2.2 row hr; omega⟩
  obtain ⟨u, r, hr2, rfl⟩ := LG hr
  have := h1.2 r hr2
  simp only [Is, List.length_mapIdx]; omega
 ·exact ⟨by simp only [List.length_nil]; omega, by simp only [List.length_nil]; omega, by simp only [List.length_nil]; omega, by simp only [List.length_nil]; omega, fun t ht => by cases ht⟩
theorem MT (N : Nat) (hN : N ≤ 1000000) (h20 : 500 ≤ N) (aw : Dx N = some true) (p : Ah) (l : List Ab) : Ct N p l = some true := by
 unfold Ct
 obtain ⟨b, hb⟩ := Qv N hN (by omega) p
 simp only [aw, Hl, oS, Bool.not_true, A1, hb]
 cases b
 ·rfl
 simp only [Bool.not_true, A1]
 by_cases h10 : (10 : Int) < (l.length : Int)
 ·rw [decide_eq_true h10, EJ]
 rw [decide_eq_false h10, A1, Ss N (by omega)]
 simp only [oS]
 rw [OD hN h20 p (by omega), OW hN h20 p (by omega), Mj hN h20, My hN h20]
 simp only [oS, beq_self_eq_true, EJ, PU hN (OR h20 p l)]
 rw [Pb hN (by have := Rc p; omega)]
 rfl
theorem KC (p : Ah) (l : List Ab) (_ : Ju p) (_ : Pp HE l) : Ct 2000 p l = some true := MT 2000 (by omega) (by omega) NQ p l
end Go.Lift
