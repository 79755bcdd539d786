/- Lemmas for CoreErrorsCardSaid, which YtbfklmmnpdifaaaGreatDoorFinC9 proves. -/
import Derived.Test.YtbfklmmnpdifaaaGreatDoorDec
import Derived.KernelRfl
open Bool renaming and_eq_true → zA5, not_true → zD9
open List renaming all_eq_true → zA2, eq_nil_of_length_eq_zero → zB7, getElem?_eq_getElem → zD6, getElem?_set → zE9, length_set → zE5, mem_append → zF7, mem_cons → zB6, mem_iff_getElem? → zB5, range → zD2
open Nat renaming le_refl → zC3
namespace Go.Lift
open IntKind renaming wrap → wI
open List renaming getElem?_eq_some_iff → lI
theorem DM {α : Type} (xs : List α) (i : Nat) : A5 xs (i : Int) = xs[i]? := by
 unfold A5; simp
theorem Ol {n : Int} (h0 : -9223372036854775808 ≤ n) (h1 : n ≤ 9223372036854775807) : wI .i64 n = n := by
 simp [wI, IntKind.signed, IntKind.bits]; omega
theorem EA {i : Nat} (h : i < 1000000) : wI .i64 ((i : Int) + 1) = ((i + 1 : Nat) : Int) := by
 rw [Ol (by omega) (by omega)]; simp
@[simp] theorem EV {α : Type} {a b : Option α} : AI true a b = a := rfl
@[simp] theorem Cb {α : Type} {a b : Option α} : AI false a b = b := rfl
theorem Dp {α : Type} {p : Prop} [Decidable p] {a b : Option α} (h : p) : AI (decide p) a b = a := by simp [h]
theorem CB {α : Type} {p : Prop} [Decidable p] {a b : Option α} (h : ¬ p) : AI (decide p) a b = b := by simp [h]
def Kx : List Int → List Int → Int
 | [], [] => 0
 | [], _ :: _ => -1
 | _ :: _, [] => 1
 | a :: as1, b :: bs => if a < b then -1 else if b < a then 1 else Kx as1 bs
theorem Pn {α : Type} {xs : List α} {i : Nat} {x : α} (h : xs[i]? = some x) : xs.drop i = x :: xs.drop (i + 1) := by
 obtain ⟨hi, rfl⟩ := lI.1 h
 exact List.drop_eq_getElem_cons hi
theorem Mk : ∀ a : List Int, Kx a a = 0
 | [] => rfl
 | a :: as1 => by simp [Kx, Mk as1]
theorem La : ∀ a b : List Int, Kx a b = 0 → a = b
 | [], [], _ => rfl
 | [], _ :: _, h => by simp [Kx] at h
 | _ :: _, [], h => by simp [Kx] at h
 | a :: as1, b :: bs, h => by
  unfold Kx at h
  split at h
  ·omega
  ·split at h
   ·omega
   ·rw [La as1 bs h, show a = b from by omega]
def Ug : List Int → Int
 | [] => 0
 | x :: xs => if x = 0 then Ug xs else x
def Ve (a : Ao) : Prop := a.fe.length ≤ 8 ∧ a.fc.length ≤ 8 ∧ a.ff.length ≤ 14
def Ra (a b : Ao) : Int := Ug [Kx a.fe b.fe, Kx a.fc b.fc, Kx a.ff b.ff]
theorem Ph (a : Ao) : Ra a a = 0 := by unfold Ra; simp [Mk, Ug]
open Option renaming bind_some → oS
def Hi {α R : Type} (f : Nat → α → Option R) : Nat → List α → Option R
 | _, [] => none
 | i, x :: xs => match f i x with
  | some r => some r
  | none => Hi f (i + 1) xs
theorem KF {α R : Type} (f : Nat → α → Option R) (i : Nat) (x : α) (xs : List α) : Hi f i (x :: xs) = match f i x with
  | some r => some r
  | none => Hi f (i + 1) xs := rfl
def Dj {R : Type} (a : Option R) (b : Option R) : Option R := match a with
 | some r => some r
 | none => b
theorem Ev {α R : Type} (L : Nat → Int → Option R) (xs : List α) (j : Option R) (f : Nat → α → Option R)
  (hs : ∀ (n i : Nat) (x : α), xs[i]? = some x → L (n + 1) (i : Int) = Dj (f i x) (L n ((i + 1 : Nat) : Int))) (he : ∀ n : Nat, L (n + 1) (xs.length : Int) = j) :
  ∀ n i : Nat, i ≤ xs.length → xs.length - i < n → L n (i : Int) = Dj (Hi f i (xs.drop i)) j
 | 0, i, _, h => by omega
 | n + 1, i, hi, h => by
  by_cases h1 : i < xs.length
  ·have hx : xs[i]? = some xs[i] := by simp [h1]
   rw [hs n i _ hx, Pn hx, Ev L xs j f hs he n (i + 1) (by omega) (by omega)]
   rw [KF]
   cases f i xs[i] <;> rfl
  ·have : i = xs.length := by omega
   subst this
   rw [he n, List.drop_eq_nil_of_le (zC3 _)]
   rfl
theorem Mp (N : Nat) (k n : Int) : CG N k n = some (decide (0 ≤ k) && decide (k < n)) := by
 unfold CG
 simp only [Bk]
 by_cases h : 0 ≤ k
 ·rw [Dp h]; simp [h]
 ·rw [CB h]; simp [h]
theorem OY (N : Nat) (t : Aw) : C9 N t = some (t.fd == 3 || t.fd == 4) := by
 unfold C9
 simp only [Bk]
 cases h : t.fd == 3 <;> simp
def sq (l : List (List Bool)) (n m : Int) : Bool := decide ((l.length : Int) = n) && l.all fun r => decide ((r.length : Int) = m)
theorem Lr {α : Type} (p : α → Bool) {R : Type} (r : Nat → R) : ∀ (i : Nat) (xs : List α), (Hi (fun i x => if p x then none else some (r i)) i xs).isNone = xs.all p
 | i, [] => rfl
 | i, x :: xs => by
  unfold Hi
  cases h : p x <;> simp [h, Lr p r (i + 1) xs]
theorem Ml (N : Nat) (l : List (List Bool)) (n m : Int) (h : n < (N : Int)) (hN : N ≤ 1000000) : Cv N l n m = some (sq l n m) := by
 unfold Cv sq
 by_cases h1 : (l.length : Int) = n
 ·subst h1
  simp only [bne_self_eq_false, Cb, decide_true, Bool.true_and]
  have := Ev (BF N l (l.length : Int) m (fun _ => some true)) l (some true) (fun _ r => if decide ((r.length : Int) = m) then none else some false)
   (fun n i x hx => by
    have hi := (lI.1 hx).1
    rw [BF, Dp (by omega), DM, hx]
    simp only [oS]
    rw [EA (by omega)]
    by_cases h2 : (x.length : Int) = m
    ·simp [h2, Dj]
    ·have : ((x.length : Int) != m) = true := by simpa using h2
     simp [h2, this, Dj])
   (fun n => by rw [BF, CB (by omega)]) N 0 (by omega) (by omega)
  simp only [Int.ofNat_zero, List.drop_zero] at this
  rw [this]
  have h3 := Lr (fun r : List Bool => decide ((r.length : Int) = m)) (fun _ => false) 0 l
  cases hsc : Hi (fun (_ : Nat) (r : List Bool) => if decide ((r.length : Int) = m) = true then none else some false) 0 l with
  | none => rw [hsc] at h3; rw [← h3]; rfl
  | some b =>
   rw [hsc] at h3
   rw [← h3]
   have : ∀ (i : Nat) (xs : List (List Bool)) b, Hi (fun (_ : Nat) (r : List Bool) => if decide ((r.length : Int) = m) = true then none else some false) i xs = some b → b = false := by
    intro i xs
    induction xs generalizing i with
    | nil => intro b hb; cases hb
    | cons x xs ih =>
     intro b hb
     unfold Hi at hb
     split at hb
     ·rename_i r hr; cases hb; split at hr <;> simp at hr; exact hr
     ·exact ih _ b hb
   rw [this 0 l b hsc]; rfl
 ·have : ((l.length : Int) != n) = true := by simpa using h1
  simp [this, h1]
theorem MF (N : Nat) (l : List (List Bool)) (n m : Int) (h : n < (N : Int)) (hN : N ≤ 1000000) : DY N l n m = some (sq l n m) := by
 unfold DY sq
 simp only [Bk]
 by_cases h1 : (l.length : Int) = n
 ·subst h1
  simp only [beq_self_eq_true, EV, decide_true, Bool.true_and]
  have := Ev (A1 N l (fun x => CY N x m) (fun _ => some (-1))) l (some (-1)) (fun i r => if decide ((r.length : Int) = m) then none else some (i : Int))
   (fun n i x hx => by
    have hi := (lI.1 hx).1
    rw [A1, Dp (by omega), DM, hx]
    simp only [oS, CY]
    rw [EA (by omega)]
    by_cases h2 : (x.length : Int) = m
    ·simp [h2, Dj]
    ·have : ((x.length : Int) != m) = true := by simpa using h2
     simp [h2, this, Dj])
   (fun n => by rw [A1, CB (by omega)]) N 0 (by omega) (by omega)
  simp only [Int.ofNat_zero, List.drop_zero] at this
  unfold B8 Cu
  rw [this]
  have h3 := Lr (fun r : List Bool => decide ((r.length : Int) = m)) (fun i : Nat => (i : Int)) 0 l
  cases hsc : Hi (fun (i : Nat) (r : List Bool) => if decide ((r.length : Int) = m) = true then none else some (i : Int)) 0 l with
  | none => rw [hsc] at h3; rw [← h3]; rfl
  | some b =>
   rw [hsc] at h3
   rw [← h3]
   have : ∀ (i : Nat) (xs : List (List Bool)) b, Hi (fun (i : Nat) (r : List Bool) => if decide ((r.length : Int) = m) = true then none else some (i : Int)) i xs = some b → 0 ≤ b := by
    intro i xs
    induction xs generalizing i with
    | nil => intro b hb; cases hb
    | cons x xs ih =>
     intro b hb
     rw [KF] at hb
     split at hb
     ·rename_i r hr
      cases hb
      split at hr
      ·cases hr
      ·cases hr; omega
     ·exact ih _ b hb
   have := this 0 l b hsc
   simp [Dj, this]
 ·have : ((l.length : Int) == n) = false := by simpa using h1
  simp [this, h1]
open List renaming mem_of_getElem? → lM
open List renaming getD_eq_getElem?_getD → lD
def KS (l : List (List Bool)) : Option Int := Hi (fun i row => if row.getD i false then none else some 1) 0 l
theorem NF {row : List Bool} {i : Nat} (h : i < row.length) : A5 row (i : Int) = some (row.getD i false) := by
 rw [DM, lD]; simp [h]
theorem QO (N : Nat) (t : Aw) (h : t.fh.length < N) (hN : N ≤ 1000000) (hsq : ∀ row, row ∈ t.fh → row.length = t.fh.length) (j : Option Int) :
  Bo N t (fun _ => j) N 0 = Dj (KS t.fh) j := by
 have := Ev (Bo N t (fun _ => j)) t.fh j (fun i row => if row.getD i false then none else some 1)
  (fun n i x hx => by
   have hi := (lI.1 hx).1
   have hl := hsq x (lM hx)
   rw [Bo, Dp (by omega), DM, hx]
   simp only [oS]
   rw [NF (by omega), EA (by omega)]
   simp only [oS]
   cases x.getD i false <;> rfl)
  (fun n => by rw [Bo, CB (by omega)]) N 0 (by omega) (by omega)
 simpa [KS] using this
theorem MB (N : Nat) (t : Aw) (h : t.fh.length < N) (hN : N ≤ 1000000) (hsq : ∀ row, row ∈ t.fh → row.length = t.fh.length) (j : Option Int) :
  Cg N t (fun _ => j) N 0 = Dj (KS t.fh) j := by
 have := Ev (Cg N t (fun _ => j)) t.fh j (fun i row => if row.getD i false then none else some 1)
  (fun n i x hx => by
   have hi := (lI.1 hx).1
   have hl := hsq x (lM hx)
   rw [Cg, Dp (by omega), DM, hx]
   simp only [oS]
   rw [NF (by omega), EA (by omega)]
   simp only [oS]
   cases x.getD i false <;> rfl)
  (fun n => by rw [Cg, CB (by omega)]) N 0 (by omega) (by omega)
 simpa [KS] using this
theorem OG {l : List (List Bool)} {n m : Int} (h : sq l n m = true) : (l.length : Int) = n ∧ ∀ row, row ∈ l → (row.length : Int) = m := by
 unfold sq at h
 simp only [zA5, decide_eq_true_eq, zA2] at h
 exact h
def I5 (p : Ae) (t : Aw) : Int :=
 if t.fd < 1 ∨ 4 < t.fd ∨ (t.fq = true ∧ (t.fd = 3 ∨ t.fd = 4)) then 1
 else if t.fg < 0 ∨ (p.fa.length : Int) ≤ t.fg ∨ t.fj < 0 ∨ (p.fa.length : Int) ≤ t.fj then 4
 else
  let f := p.fa.getD t.fg.toNat 0
  let g := p.fa.getD t.fj.toNat 0
  if sq t.fi f g = false then 6
  else if t.fd = 4 then (if sq t.fh f f = false then 6 else (KS t.fh).getD 0)
  else if t.fh.length = 0 then 0 else 6
theorem MI {α : Type} {xs : List α} {i : Int} {d : α} (h0 : 0 ≤ i) (h1 : i < (xs.length : Int)) : A5 xs i = some (xs.getD i.toNat d) := by
 obtain ⟨k, rfl⟩ := Int.eq_ofNat_of_zero_le h0
 rw [DM, lD, Int.toNat_natCast]
 simp [show k < xs.length from by omega]
theorem Qn {t : Aw} (A B : Option Int) (hk : ¬ (t.fq = true ∧ (t.fd = 3 ∨ t.fd = 4))) : AI t.fq (AI (t.fd == 3 || t.fd == 4) A B) B = B := by
 cases ha : t.fq
 ·rfl
 ·have : (t.fd == 3 || t.fd == 4) = false := by
   rw [Bool.or_eq_false_iff]
   constructor
   ·simp only [beq_eq_false_iff_ne]; intro h; exact hk ⟨ha, .inl h⟩
   ·simp only [beq_eq_false_iff_ne]; intro h; exact hk ⟨ha, .inr h⟩
  rw [this]; rfl
theorem Od {p : Ae} {i : Int} (hv : ∀ v, v ∈ p.fa → 1 ≤ v ∧ v ≤ 6) (h0 : 0 ≤ i) (h1 : i < (p.fa.length : Int)) : 1 ≤ p.fa.getD i.toNat 0 ∧ p.fa.getD i.toNat 0 ≤ 6 := by
 refine hv _ ?_
 rw [lD, zD6 (by omega)]
 exact List.getElem_mem _
theorem O2 (N : Nat) (p : Ae) (t : Aw) (hN : N ≤ 1000000) (h6 : 7 ≤ N) (hv : ∀ v, v ∈ p.fa → 1 ≤ v ∧ v ≤ 6) : Dh N p t = some (I5 p t) := by
 unfold Dh I5
 simp only [Bk, OY, oS]
 by_cases k1 : t.fd < 1
 ·simp [k1]
 by_cases k2 : 4 < t.fd
 ·simp [k1, k2]
 rw [CB k1, CB k2]
 by_cases hk : t.fq = true ∧ (t.fd = 3 ∨ t.fd = 4)
 ·obtain ⟨ha, k | k⟩ := hk <;> simp [ha, k]
 rw [Cb, Qn _ _ hk, if_neg (fun h => h.elim k1 fun h => h.elim k2 hk)]
 by_cases f1 : t.fg < 0
 ·simp [f1]
 by_cases f2 : (p.fa.length : Int) ≤ t.fg
 ·simp [f1, f2]
 by_cases f3 : t.fj < 0
 ·simp [f1, f2, f3]
 by_cases f4 : (p.fa.length : Int) ≤ t.fj
 ·simp [f1, f2, f3, f4]
 rw [CB f1, CB f2, CB f3, if_neg (fun h => h.elim f1 fun h => h.elim f2 fun h => h.elim f3 f4)]
 have hf := Od hv (i := t.fg) (by omega) (by omega)
 rw [decide_eq_false f4, Cb, MI (d := 0) (by omega : 0 ≤ t.fg) (by omega), MI (d := 0) (by omega : 0 ≤ t.fj) (by omega)]
 simp only [oS]
 generalize p.fa.getD t.fg.toNat 0 = f at *
 generalize p.fa.getD t.fj.toNat 0 = g at *
 rw [Ml N t.fi f g (by omega) hN, Ml N t.fh f f (by omega) hN]
 simp only [oS]
 cases hq : sq t.fi f g
 ·rfl
 simp only [zD9, Cb]
 by_cases k4 : t.fd = 4
 ·have : (t.fd != 4) = false := by simp [k4]
  rw [this, Cb]
  simp only [k4, if_true]
  cases hr : sq t.fh f f
  ·rfl
  ·have h7 := OG hr
   simp only [zD9, Cb]
   rw [QO N t (by omega) hN (fun row hm => by have := h7.2 row hm; omega)]
   cases KS t.fh <;> simp [Dj]
 ·have : (t.fd != 4) = true := by simpa using k4
  rw [this, EV]
  simp only [k4, if_false]
  by_cases hr : t.fh.length = 0
  ·simp [hr]
  ·have : ((t.fh.length : Int) != 0) = true := bne_iff_ne.2 (by omega)
   rw [this]; simp [hr]
theorem QU (N : Nat) (k : Int) (a : Bool) : FJ N k a = some (k == 1 || (k == 2 || ((k == 3 || k == 4) && !a))) := by
 unfold FJ
 simp only [Bk]
 cases h1 : k == 1 <;> cases h2 : k == 2 <;> cases h3 : k == 3 <;> cases h4 : k == 4 <;> cases a <;> rfl
theorem Ls (N : Nat) (p : Ae) (t : Aw) (hN : N ≤ 1000000) (h6 : 7 ≤ N) (hv : ∀ v, v ∈ p.fa → 1 ≤ v ∧ v ≤ 6) : Fa N p t = some (I5 p t) := by
 unfold Fa I5
 simp only [Bk, QU, Mp, oS]
 by_cases hb : t.fd < 1 ∨ 4 < t.fd ∨ (t.fq = true ∧ (t.fd = 3 ∨ t.fd = 4))
 ·have : (t.fd == 1 || (t.fd == 2 || ((t.fd == 3 || t.fd == 4) && !t.fq))) = false := by
   rcases hb with h | h | ⟨ha, h | h⟩
   ·rw [beq_eq_false_iff_ne.2 (by omega : t.fd ≠ 1), beq_eq_false_iff_ne.2 (by omega : t.fd ≠ 2), beq_eq_false_iff_ne.2 (by omega : t.fd ≠ 3), beq_eq_false_iff_ne.2 (by omega : t.fd ≠ 4)]; rfl
   ·rw [beq_eq_false_iff_ne.2 (by omega : t.fd ≠ 1), beq_eq_false_iff_ne.2 (by omega : t.fd ≠ 2), beq_eq_false_iff_ne.2 (by omega : t.fd ≠ 3), beq_eq_false_iff_ne.2 (by omega : t.fd ≠ 4)]; rfl
   ·simp [ha, h]
   ·simp [ha, h]
  rw [this, if_pos hb]; rfl
 ·have : (t.fd == 1 || (t.fd == 2 || ((t.fd == 3 || t.fd == 4) && !t.fq))) = true := by
   have hk : t.fd = 1 ∨ t.fd = 2 ∨ t.fd = 3 ∨ t.fd = 4 := by
    have h1 : ¬ t.fd < 1 := fun h => hb (.inl h)
    have h2 : ¬ 4 < t.fd := fun h => hb (.inr (.inl h))
    omega
   rcases hk with h | h | h | h
   ·simp [h]
   ·simp [h]
   ·cases ha : t.fq
    ·simp [h]
    ·exact (hb (.inr (.inr ⟨ha, .inl h⟩))).elim
   ·cases ha : t.fq
    ·simp [h]
    ·exact (hb (.inr (.inr ⟨ha, .inr h⟩))).elim
  rw [this, if_neg hb]
  simp only [zD9, Cb]
  by_cases f1 : t.fg < 0
  ·simp [f1, show ¬ (0 ≤ t.fg) from by omega]
  by_cases f2 : (p.fa.length : Int) ≤ t.fg
  ·simp [f2, show ¬ (t.fg < (p.fa.length : Int)) from by omega]
  by_cases f3 : t.fj < 0
  ·simp [f3, show 0 ≤ t.fg from by omega, show t.fg < (p.fa.length : Int) from by omega, show ¬ (0 ≤ t.fj) from by omega]
  by_cases f4 : (p.fa.length : Int) ≤ t.fj
  ·simp [f4, show 0 ≤ t.fg from by omega, show t.fg < (p.fa.length : Int) from by omega, show ¬ (t.fj < (p.fa.length : Int)) from by omega]
  rw [if_neg (fun h => h.elim f1 fun h => h.elim f2 fun h => h.elim f3 f4)]
  have hf := Od hv (i := t.fg) (by omega) (by omega)
  have hg := Od hv (i := t.fj) (by omega) (by omega)
  rw [decide_eq_true (by omega : 0 ≤ t.fg), decide_eq_true (by omega : t.fg < (p.fa.length : Int)), decide_eq_true (by omega : 0 ≤ t.fj), decide_eq_true (by omega : t.fj < (p.fa.length : Int)), MI (d := 0) (by omega : 0 ≤ t.fg) (by omega), MI (d := 0) (by omega : 0 ≤ t.fj) (by omega)]
  simp only [Bool.and_self, zD9, Cb, oS]
  generalize p.fa.getD t.fg.toNat 0 = f at *
  generalize p.fa.getD t.fj.toNat 0 = g at *
  rw [MF N t.fi f g (by omega) hN, MF N t.fh f f (by omega) hN]
  simp only [oS]
  cases hq : sq t.fi f g
  ·rfl
  simp only [zD9, Cb]
  by_cases k4 : t.fd = 4
  ·simp only [k4, beq_self_eq_true, EV, if_true]
   cases hr : sq t.fh f f
   ·rfl
   ·have h7 := OG hr
    simp only [zD9, Cb]
    rw [MB N t (by omega) hN (fun row hm => by have := h7.2 row hm; omega)]
    cases KS t.fh <;> simp [Dj]
  ·have : (t.fd == 4) = false := beq_eq_false_iff_ne.2 k4
   rw [this, Cb]
   simp only [k4, if_false, Bool.not_false, EV]
   by_cases hr : t.fh.length = 0
   ·rw [MB N t (by omega) hN (fun row hm => by rw [zB7 hr] at hm; cases hm), zB7 hr]
    simp [KS, Hi, Dj]
   ·rw [decide_eq_true (by omega : 0 < (t.fh.length : Int))]
    simp [hr]
def HD (p : Ae) (i : Nat) (v : Int) : Option Int :=
 if v < 1 ∨ 6 < v ∨ p.fk.getD i 0 < 0 ∨ v ≤ p.fk.getD i 0 ∨ p.fo.getD i 0 < 0 ∨ v ≤ p.fo.getD i 0 then some 7 else none
def Nc (p : Ae) (_ : Nat) (t : Aw) : Option Int := if I5 p t = 0 then none else some (I5 p t)
def FE (p : Ae) : Int :=
 if 6 < p.fa.length ∨ 12 < p.fb.length then 3
 else if p.fk.length ≠ p.fa.length ∨ p.fo.length ≠ p.fa.length then 6
 else ((Dj (Hi (HD p) 0 p.fa) (Hi (Nc p) 0 p.fb)).getD 0)
theorem Md {α R : Type} {f : Nat → α → Option R} : ∀ {i : Nat} {xs : List α}, Hi f i xs = none → ∀ j x, xs[j]? = some x → f (i + j) x = none
 | _, [], _, j, x, hx => by simp at hx
 | i, y :: ys, h, j, x, hx => by
  rw [KF] at h
  split at h
  ·cases h
  ·rename_i h0
   cases j with
   | zero => simp at hx; subst hx; exact h0
   | succ j =>
    have := Md h j x (by simpa using hx)
    rwa [show i + 1 + j = i + (j + 1) from by omega] at this
theorem ND {p : Ae} (h : Hi (HD p) 0 p.fa = none) : ∀ v, v ∈ p.fa → 1 ≤ v ∧ v ≤ 6 := by
 intro v hv
 obtain ⟨i, hi⟩ := zB5.1 hv
 have := Md h i v hi
 unfold HD at this
 split at this
 ·cases this
 ·rename_i hn
  constructor
  ·exact Int.not_lt.1 fun h => hn (.inl h)
  ·exact Int.not_lt.1 fun h => hn (.inr (.inl h))
theorem M0 {α : Type} {xs : List α} {i : Nat} {d : α} (h : i < xs.length) : A5 xs (i : Int) = some (xs.getD i d) := by
 rw [DM, lD]; simp [h]
theorem Oh (N : Nat) (p : Ae) (hN : N ≤ 1000000) (h1 : p.fa.length < N) (h2 : p.fk.length = p.fa.length) (h3 : p.fo.length = p.fa.length) (j : Option Int) :
  AZ N p (fun _ => j) N 0 = Dj (Hi (HD p) 0 p.fa) j := by
 have := Ev (AZ N p (fun _ => j)) p.fa j (HD p)
  (fun n i x hx => by
   have hi := (lI.1 hx).1
   rw [AZ, Dp (by omega), DM, hx]
   simp only [oS, Bk]
   rw [M0 (d := 0) (by omega), M0 (d := 0) (by omega), EA (by omega)]
   simp only [oS]
   unfold HD
   generalize p.fk.getD i 0 = a
   generalize p.fo.getD i 0 = b
   by_cases k1 : x < 1 <;> by_cases k2 : 6 < x <;> by_cases k3 : a < 0 <;> by_cases k4 : x ≤ a <;> by_cases k5 : b < 0 <;> by_cases k6 : x ≤ b <;> simp [k1, k2, k3, k4, k5, k6, Dj])
  (fun n => by rw [AZ, CB (by omega)]) N 0 (by omega) (by omega)
 simpa using this
theorem Nf (N : Nat) (p : Ae) (hN : N ≤ 1000000) (h1 : p.fa.length < N) (h2 : p.fk.length = p.fa.length) (h3 : p.fo.length = p.fa.length) (j : Option Int) :
  Bp N p (fun _ => j) N 0 = Dj (Hi (HD p) 0 p.fa) j := by
 have := Ev (Bp N p (fun _ => j)) p.fa j (HD p)
  (fun n i x hx => by
   have hi := (lI.1 hx).1
   rw [Bp, Dp (by omega), DM, hx]
   simp only [oS, Bk, Mp]
   rw [M0 (d := 0) (by omega), M0 (d := 0) (by omega), EA (by omega)]
   simp only [oS]
   unfold HD
   generalize p.fk.getD i 0 = a
   generalize p.fo.getD i 0 = b
   have e1 : decide (0 ≤ a) = !decide (a < 0) := by rw [← decide_not]; congr 1; simp
   have e2 : decide (a < x) = !decide (x ≤ a) := by rw [← decide_not]; congr 1; simp
   have e3 : decide (0 ≤ b) = !decide (b < 0) := by rw [← decide_not]; congr 1; simp
   have e4 : decide (b < x) = !decide (x ≤ b) := by rw [← decide_not]; congr 1; simp
   rw [e1, e2, e3, e4]
   by_cases k1 : x < 1 <;> by_cases k2 : 6 < x <;> by_cases k3 : a < 0 <;> by_cases k4 : x ≤ a <;> by_cases k5 : b < 0 <;> by_cases k6 : x ≤ b <;> simp [k1, k2, k3, k4, k5, k6, Dj])
  (fun n => by rw [Bp, CB (by omega)]) N 0 (by omega) (by omega)
 simpa using this
theorem PW (N : Nat) (p : Ae) (hN : N ≤ 1000000) (h6 : 7 ≤ N) (h1 : p.fb.length < N) (hv : ∀ v, v ∈ p.fa → 1 ≤ v ∧ v ≤ 6) (j : Option Int) :
  AW N p (fun _ => j) N 0 = Dj (Hi (Nc p) 0 p.fb) j := by
 have := Ev (AW N p (fun _ => j)) p.fb j (Nc p)
  (fun n i x hx => by
   have hi := (lI.1 hx).1
   rw [AW, Dp (by omega), DM, hx]
   simp only [oS]
   rw [O2 N p x hN h6 hv, EA (by omega)]
   simp only [oS]
   unfold Nc
   by_cases k : I5 p x = 0
   ·simp [k, Dj]
   ·rw [bne_iff_ne.2 k, if_neg k]; rfl)
  (fun n => by rw [AW, CB (by omega)]) N 0 (by omega) (by omega)
 simpa using this
theorem Oi (N : Nat) (p : Ae) (hN : N ≤ 1000000) (h6 : 7 ≤ N) (h1 : p.fb.length < N) (hv : ∀ v, v ∈ p.fa → 1 ≤ v ∧ v ≤ 6) (j : Option Int) :
  Bl N p (fun _ => j) N 0 = Dj (Hi (Nc p) 0 p.fb) j := by
 have := Ev (Bl N p (fun _ => j)) p.fb j (Nc p)
  (fun n i x hx => by
   have hi := (lI.1 hx).1
   rw [Bl, Dp (by omega), DM, hx]
   simp only [oS]
   rw [Ls N p x hN h6 hv, EA (by omega)]
   simp only [oS]
   unfold Nc
   by_cases k : I5 p x = 0
   ·simp [k, Dj]
   ·rw [bne_iff_ne.2 k, if_neg k]; rfl)
  (fun n => by rw [Bl, CB (by omega)]) N 0 (by omega) (by omega)
 simpa using this
theorem N7 (N : Nat) (p : Ae) (hN : N ≤ 1000000) (h : 20 ≤ N) : B7 N p = some (FE p) := by
 unfold B7 FE
 simp only [Bk]
 by_cases k1 : 6 < p.fa.length
 ·rw [Dp (by omega)]; simp [k1]
 rw [CB (by omega)]
 by_cases k2 : 12 < p.fb.length
 ·rw [decide_eq_true (by omega : (12 : Int) < (p.fb.length : Int))]; simp [k2]
 rw [decide_eq_false (by omega : ¬ (12 : Int) < (p.fb.length : Int)), Cb, if_neg (by omega)]
 by_cases k3 : p.fk.length = p.fa.length
 ·by_cases k4 : p.fo.length = p.fa.length
  ·rw [k3, k4]
   simp only [bne_self_eq_false, Cb, ne_eq, not_true_eq_false, or_self, if_false]
   rw [Oh N p hN (by omega) k3 k4]
   cases hs : Hi (HD p) 0 p.fa with
   | some r => rfl
   | none =>
    simp only [Dj]
    rw [PW N p hN (by omega) (by omega) (ND hs)]
    cases Hi (Nc p) 0 p.fb <;> rfl
  ·have : ((p.fo.length : Int) != (p.fa.length : Int)) = true := bne_iff_ne.2 (by omega)
   rw [this, k3]; simp [k4]
 ·have : ((p.fk.length : Int) != (p.fa.length : Int)) = true := bne_iff_ne.2 (by omega)
  rw [this]; simp [k3]
theorem IG (N : Nat) (p : Ae) (hN : N ≤ 1000000) (h : 20 ≤ N) : Bs N p = some (FE p) := by
 unfold Bs FE
 simp only [Bk]
 by_cases k1 : 6 < p.fa.length
 ·rw [Dp (by omega)]; simp [k1]
 rw [CB (by omega)]
 by_cases k2 : 12 < p.fb.length
 ·rw [decide_eq_true (by omega : (12 : Int) < (p.fb.length : Int))]; simp [k2]
 rw [decide_eq_false (by omega : ¬ (12 : Int) < (p.fb.length : Int)), Cb, if_neg (by omega)]
 by_cases k3 : p.fk.length = p.fa.length
 ·by_cases k4 : p.fo.length = p.fa.length
  ·rw [k3, k4]
   simp only [bne_self_eq_false, Cb, ne_eq, not_true_eq_false, or_self, if_false]
   rw [Nf N p hN (by omega) k3 k4]
   cases hs : Hi (HD p) 0 p.fa with
   | some r => rfl
   | none =>
    simp only [Dj]
    rw [Oi N p hN (by omega) (by omega) (ND hs)]
    cases Hi (Nc p) 0 p.fb <;> rfl
  ·have : ((p.fo.length : Int) != (p.fa.length : Int)) = true := bne_iff_ne.2 (by omega)
   rw [this, k3]; simp [k4]
 ·have : ((p.fk.length : Int) != (p.fa.length : Int)) = true := bne_iff_ne.2 (by omega)
  rw [this]; simp [k3]
def TR (m : Ao) (s : Nat) : Int :=
 if 0 ≤ m.fc.getD s 0 then Qw .u8 (DJ .u8 1 (m.fe.getD s 0)) (DJ .u8 1 (m.fc.getD s 0)) else DJ .u8 1 (m.fe.getD s 0)
def Kj (t : Aw) : Bool := t.fd == 3 || t.fd == 4
@[simp] theorem K8 {α β : Type} (k : α) (f : α → β) : Bk k f = f k := rfl
@[simp] theorem Up {p : Prop} [Decidable p] (h : p) : GZ p = some () := by unfold GZ; rw [if_pos h]
def Ri {α A : Type} (f : Nat → α → A → A) : Nat → List α → A → A
 | _, [], a => a
 | i, x :: xs, a => Ri f (i + 1) xs (f i x a)
def SB (s : Int) (v : Nat) : Bool := s.toNat.testBit v
def Tl (m : Ao) (s v : Nat) : Bool := decide (m.fe.getD s 0 = (v : Int)) || decide (m.fc.getD s 0 = (v : Int))
def hC (m : Ao) (t : Aw) (v : Nat) (ok : Bool) : Bool := Tl m t.fj.toNat v && ok
structure Pk (m x : Ao) : Prop where
 base : x.fe = m.fe
 held : x.ff = m.ff
 len : x.fc.length = m.fc.length
 next : ∀ q, q < m.fc.length → x.fc.getD q 0 = m.fc.getD q 0 ∨ (0 ≤ m.fc.getD q 0 ∧ x.fc.getD q 0 = -1)
theorem Pk.refl (m : Ao) : Pk m m := ⟨rfl, rfl, rfl, fun _ _ => .inl rfl⟩
theorem Pk.trans {a b c : Ao} (h1 : Pk a b) (h2 : Pk b c) : Pk a c :=
 ⟨h2.base.trans h1.base, h2.held.trans h1.held, h2.len.trans h1.len, fun q hq => by
  have e1 := h1.next q hq
  have e2 := h2.next q (by rw [h1.len]; exact hq)
  omega⟩
def Qe : Ao := ⟨[], [], []⟩
theorem Pe (N : Nat) (hN : N ≤ 1000000) (h20 : 100 ≤ N) (p : Ae) : ∃ b, DH N p = some b := by
 unfold DH
 simp only [K8]
 by_cases h1 : 8 < (p.fa.length : Int)
 ·rw [Dp h1]; exact ⟨_, rfl⟩
 rw [CB h1]
 by_cases h2 : 8 < (p.fk.length : Int)
 ·rw [Dp h2]; exact ⟨_, rfl⟩
 rw [CB h2]
 by_cases h3 : 8 < (p.fo.length : Int)
 ·rw [Dp h3]; exact ⟨_, rfl⟩
 rw [CB h3]
 by_cases h4 : 14 < (p.fb.length : Int)
 ·rw [decide_eq_true h4]; exact ⟨_, rfl⟩
 rw [decide_eq_false h4, Cb]
 have inner1 : ∀ (i : Nat) (t : Aw), p.fb[i]? = some t → t.fi.length ≤ 8 → ∀ j : Option Bool, ∃ r, BB N p (i : Int) (fun _ => j) N 0 = Dj r j := by
  intro i t ht hl j
  refine ⟨_, Ev (BB N p (i : Int) fun _ => j) t.fi j (fun _ row => if 8 < (row.length : Int) then some false else none) (fun n k x hx => ?_) (fun n => ?_) N 0 (Nat.zero_le _) (by omega)⟩
  ·have hk := (lI.1 hx).1
   rw [BB, DM, ht]
   simp only [oS]
   rw [Dp (by omega), DM, hx, EA (by omega)]
   simp only [oS]
   by_cases h : 8 < (x.length : Int)
   ·rw [Dp h, if_pos h]; rfl
   ·rw [CB h, if_neg h]; rfl
  ·rw [BB, DM, ht]
   simp only [oS]
   rw [CB (by simp)]
 have inner2 : ∀ (i : Nat) (t : Aw), p.fb[i]? = some t → t.fh.length ≤ 8 → ∀ j : Option Bool, ∃ r, BE N p (i : Int) (fun _ => j) N 0 = Dj r j := by
  intro i t ht hl j
  refine ⟨_, Ev (BE N p (i : Int) fun _ => j) t.fh j (fun _ row => if 8 < (row.length : Int) then some false else none) (fun n k x hx => ?_) (fun n => ?_) N 0 (Nat.zero_le _) (by omega)⟩
  ·have hk := (lI.1 hx).1
   rw [BE, DM, ht]
   simp only [oS]
   rw [Dp (by omega), DM, hx, EA (by omega)]
   simp only [oS]
   by_cases h : 8 < (x.length : Int)
   ·rw [Dp h, if_pos h]; rfl
   ·rw [CB h, if_neg h]; rfl
  ·rw [BE, DM, ht]
   simp only [oS]
   rw [CB (by simp)]
 have outer : ∀ n i : Nat, i ≤ p.fb.length → p.fb.length - i < n → ∃ b, Cw N p (fun _ => some true) n (i : Int) = some b := by
  intro n
  induction n with
  | zero => intro i _ h; omega
  | succ n ih =>
   intro i hi hn
   rw [Cw]
   simp only [K8]
   by_cases h : i < p.fb.length
   ·have hx : p.fb[i]? = some p.fb[i] := by simp [h]
    generalize p.fb[i] = t at hx
    rw [Dp (by omega), DM, hx]
    simp only [oS]
    by_cases k1 : 8 < (t.fi.length : Int)
    ·rw [Dp k1]; exact ⟨_, rfl⟩
    rw [CB k1]
    by_cases k2 : 8 < (t.fh.length : Int)
    ·rw [decide_eq_true k2]; exact ⟨_, rfl⟩
    rw [decide_eq_false k2, Cb, EA (by omega)]
    obtain ⟨b, hb⟩ := ih (i + 1) (by omega) (by omega)
    rw [hb]
    obtain ⟨r2, e2⟩ := inner2 i t hx (by omega) (some b)
    obtain ⟨r1, e1⟩ := inner1 i t hx (by omega) (Dj r2 (some b))
    rw [e2, e1]
    cases r1 with
    | some r => exact ⟨_, rfl⟩
    | none => cases r2 <;> exact ⟨_, rfl⟩
   ·rw [CB (by omega)]; exact ⟨_, rfl⟩
 exact outer N 0 (Nat.zero_le _) (by omega)
open Go
structure SF (x y : Aw) : Prop where
 k : y.fd = x.fd
 f : y.fg = x.fg
 t : y.fj = x.fj
 a : y.fq = x.fq
 r : y.fh = x.fh
 l : y.fi.length = x.fi.length
 o : ∀ (u : Nat) (row : List Bool), x.fi[u]? = some row → ∃ row', y.fi[u]? = some row' ∧ row'.length = row.length ∧ ∀ v : Nat, row[v]? = some true → row'[v]? = some true
theorem SF.st {x y : Aw} (h : SF x y) : Kj y = Kj x := by unfold Kj; rw [h.k]
structure SC (p : Ae) (m x : Ao) : Prop where
 base : m.fe = x.fe
 next : m.fc = x.fc
 held : ∀ i, i < p.fb.length → ∀ v, SB (m.ff.getD i 0) v = true → SB (x.ff.getD i 0) v = true
theorem SC.refl (p : Ae) (m : Ao) : SC p m m := ⟨rfl, rfl, fun _ _ _ h => h⟩
theorem SC.trans {p : Ae} {a b c : Ao} (h : SC p a b) (g : SC p b c) : SC p a c := ⟨h.base.trans g.base, h.next.trans g.next, fun i hi v hv => g.held i hi v (h.held i hi v hv)⟩
structure Oq (xs ys : List Aw) : Prop where
 l : ys.length = xs.length
 o : ∀ (i : Nat) (x : Aw), xs[i]? = some x → ∃ y, ys[i]? = some y ∧ SF x y
theorem SF.refl (x : Aw) : SF x x := ⟨rfl, rfl, rfl, rfl, rfl, rfl, fun _ row h => ⟨row, h, rfl, fun _ h => h⟩⟩
theorem Oq.refl (xs : List Aw) : Oq xs xs := ⟨rfl, fun _ x h => ⟨x, h, SF.refl x⟩⟩
theorem Oq.set {xs ys : List Aw} (h : Oq xs ys) {i u v : Nat} {y : Aw} {row : List Bool} {b b0 : Bool} (hy : ys[i]? = some y) (hu : y.fi[u]? = some row) (hv : row[v]? = some b0) (hb : b0 = true → b = true) :
  Oq xs (ys.set i ⟨y.fd, y.fg, y.fj, y.fq, y.fi.set u (row.set v b), y.fh⟩) := by
 refine ⟨by rw [zE5]; exact h.l, fun k x hx => ?_⟩
 obtain ⟨z, hz, ht⟩ := h.o k x hx
 by_cases e : i = k
 ·subst e
  rw [hy] at hz; cases hz
  have hi := (lI.1 hy).1
  refine ⟨⟨y.fd, y.fg, y.fj, y.fq, y.fi.set u (row.set v b), y.fh⟩, by rw [zE9, if_pos rfl, if_pos hi], ⟨ht.k, ht.f, ht.t, ht.a, ht.r, by show (y.fi.set u (row.set v b)).length = _; rw [zE5]; exact ht.l, fun w r hw => ?_⟩⟩
  obtain ⟨r', e1, e2, e3⟩ := ht.o w r hw
  by_cases eu : u = w
  ·subst eu
   rw [hu] at e1; cases e1
   have hul := (lI.1 hu).1
   refine ⟨row.set v b, by show (y.fi.set u (row.set v b))[u]? = _; rw [zE9, if_pos rfl, if_pos hul], by rw [zE5]; exact e2, fun q hq => ?_⟩
   have h1 := e3 q hq
   rw [zE9]
   by_cases ev : v = q
   ·subst ev
    rw [hv] at h1; cases h1
    rw [if_pos rfl, if_pos (lI.1 hv).1, hb rfl]
   ·rw [if_neg ev]; exact h1
  ·exact ⟨r', by show (y.fi.set u (row.set v b))[w]? = _; rw [zE9, if_neg eu]; exact e1, e2, e3⟩
 ·exact ⟨z, by rw [zE9, if_neg e]; exact hz, ht⟩
theorem Oq.row {xs ys : List Aw} (h : Oq xs ys) {i u : Nat} {x : Aw} {row : List Bool} (hx : xs[i]? = some x) (hu : x.fi[u]? = some row) : ∃ y r, ys[i]? = some y ∧ y.fi[u]? = some r ∧ r.length = row.length := by
 obtain ⟨y, hy, ht⟩ := h.o i x hx
 obtain ⟨r, e1, e2, _⟩ := ht.o u row hu
 exact ⟨y, r, hy, e1, e2⟩
def Tk (s : Am) : Bool := decide (1 ≤ s.fd ∧ s.fd ≤ 4 ∧ 0 ≤ s.fm ∧ 0 ≤ s.fr) && (s.fd == 1 || s.fr == 0)
def Tg (p : Ae) (s : Am) : Bool :=
 if s.fd = 3 then decide (s.fm < (p.fb.length : Int)) else decide (s.fm < (p.fa.length : Int)) && (s.fd != 1 || decide (s.fr < p.fa.getD s.fm.toNat 0))
def Vg (s : Am) (t : Aw) : Bool := t.fg == s.fm && Kj t
def Vf (s : Am) (i : Nat) (t : Aw) (a : List Int) : List Int := if Vg s t = true then a.set i (Qw .u8 (a.getD i 0) (DJ .u8 1 s.fr)) else a
def Sr (p : Ae) (s : Am) (held : List Int) : List Int := Ri (Vf s) 0 p.fb held
def TG (m : Ao) (t : Aw) (u : Nat) : Bool := (t.fh.getD u []).getD (m.fe.getD t.fg.toNat 0).toNat false
def UA (m : Ao) (i : Nat) (t : Aw) (u : Nat) : Bool := SB (m.ff.getD i 0) u && !Tl m t.fg.toNat u
def RP (_p : Ae) (m : Ao) (i : Nat) (t : Aw) : Bool := t.fd == 4 && (zD2 8).any fun u => UA m i t u && !TG m t u
def R1 (p : Ae) (m : Ao) (s : Am) : Option Ao :=
 let i := s.fm.toNat
 if s.fd = 1 then (if 0 ≤ m.fc.getD i 0 ∨ m.fe.getD i 0 = s.fr then none else some ⟨m.fe, m.fc.set i s.fr, Sr p s m.ff⟩)
 else if s.fd = 3 then match p.fb[i]? with
  | none => none
  | some t => if Kj t = false ∨ m.ff.getD i 0 = TR m t.fg.toNat ∨ RP p m i t = true then none else some ⟨m.fe, m.fc, m.ff.set i (TR m t.fg.toNat)⟩
 else if m.fc.getD i 0 < 0 then none
 else some ⟨if s.fd = 2 then m.fe.set i (m.fc.getD i 0) else m.fe, m.fc.set i (-1), m.ff⟩
def Sq (p : Ae) (m : Ao) (s : Am) : Ao × Int :=
 if Tk s = false then (Qe, 1) else if Tg p s = false then (Qe, 4) else match R1 p m s with
  | none => (Qe, 11)
  | some x => (x, 0)
end Go.Lift
namespace Go.Lift
open Go
section clear
variable {p : Ae} {m : Ao} {i : Nat} {t : Aw}
end clear
end Go.Lift
namespace Go.Lift
open Go
end Go.Lift
namespace Go.Lift
open Go
section
variable {N : Nat} {p : Ae} {l : List Am}
end
end Go.Lift
namespace Go.Lift
open Go
end Go.Lift
namespace Go.Lift
namespace Bfs
section
variable {α σ : Type}
def code (rk : σ → Nat) (K : Nat) (w : List σ) : Nat := w.foldl (fun c s => c * K + rk s) 0
def UY (rk : σ → Nat) (K : Nat) (w : List σ) : Prop := ∀ s, s ∈ w → 1 ≤ rk s ∧ rk s ≤ K
theorem UY.snoc {rk : σ → Nat} {K : Nat} {w : List σ} {s : σ} (h : UY rk K w) (hs : 1 ≤ rk s ∧ rk s ≤ K) : UY rk K (w ++ [s]) := by
 intro x hx; rcases zF7.1 hx with h1 | h1
 ·exact h x h1
 ·rw [List.mem_singleton.1 h1]; exact hs
abbrev Nd (α σ : Type) := α × Int × σ
def put [DecidableEq α] (i : Nat) (l : List (Nd α σ)) (q : σ × α) : List (Nd α σ) := if (l.any fun n => decide (n.1 = q.2)) = true then l else l ++ [(q.2, (i : Int), q.1)]
def Fy [DecidableEq α] (most i : Nat) : List (σ × α) → List (Nd α σ) → Option (List (Nd α σ))
 | [], l => some l
 | q :: qs, l => if most < (put i l q).length then none else Fy most i qs (put i l q)
def go [DecidableEq α] (nxt : α → List (σ × α)) (most : Nat) : Nat → Nat → List (Nd α σ) → Option (List (Nd α σ))
 | 0, _, _ => none
 | n + 1, i, l => match l[i]? with
  | none => some l
  | some nd => (Fy most i (nxt nd.1) l).bind fun l' => go nxt most n (i + 1) l'
def run (nxt : α → List (σ × α)) (x : α) : List σ → α → Prop
 | [], y => y = x
 | s :: w, y => ∃ z, (s, z) ∈ nxt x ∧ run nxt z w y
theorem FZ {nxt : α → List (σ × α)} : ∀ {u w : List σ} {x y : α}, run nxt x (u ++ w) y ↔ ∃ z, run nxt x u z ∧ run nxt z w y
 | [], w, x, y => by simp [run]
 | s :: u, w, x, y => by
  simp only [List.cons_append, run]
  constructor
  ·rintro ⟨z, h1, h2⟩
   obtain ⟨z', h3, h4⟩ := FZ.1 h2
   exact ⟨z', ⟨z, h1, h3⟩, h4⟩
  ·rintro ⟨z', ⟨z, h1, h3⟩, h4⟩
   exact ⟨z, h1, FZ.2 ⟨z', h3, h4⟩⟩
end
end Bfs
end Go.Lift
namespace Go.Lift
open Go
theorem Nw : ∀ {l : List Int}, Ug l = 0 → ∀ x, x ∈ l → x = 0
 | [], _, x, hx => by cases hx
 | y :: ys, h, x, hx => by
  unfold Ug at h
  split at h
  ·rename_i hy
   rcases zB6.1 hx with rfl | hx
   ·exact hy
   ·exact Nw h x hx
  ·rename_i hy; exact absurd h hy
theorem Pi {a b : Ao} (h : Ra a b = 0) : a = b := by
 have := Nw h
 have h1 := La _ _ (this (Kx a.fe b.fe) (by simp))
 have h2 := La _ _ (this (Kx a.fc b.fc) (by simp))
 have h3 := La _ _ (this (Kx a.ff b.ff) (by simp))
 cases a; cases b; simp only at h1 h2 h3; subst h1; subst h2; subst h3; rfl
instance UX : DecidableEq Ao := fun a b => if h : Ra a b = 0 then isTrue (Pi h) else isFalse (fun e => h (by rw [e]; exact Ph b))
structure Um (N : Nat) (p : Ae) : Prop where
 v : p.fa.length < N
 n : p.fk.length < N
 t : p.fo.length < N
 s : p.fb.length < N
 m : ∀ t, t ∈ p.fb → t.fi.length < N ∧ (∀ row, row ∈ t.fi → row.length < N) ∧ t.fh.length < N ∧ ∀ row, row ∈ t.fh → row.length < N
def zP : Ae := ⟨[], [], [], []⟩
end Go.Lift
namespace Go.Lift
open Option renaming bind_some → oS
open Go
theorem MJ : Df 2000 = some true := by kernel_rfl
theorem Pf {N : Nat} (hN : N ≤ 1000000) (h20 : 20 ≤ N) {p : Ae} (hv : FE p ≠ 0) : Eb N p = some ([], [], FE p) := by
 unfold Eb
 rw [IG N p hN h20]
 have : (FE p != 0) = true := by simpa using hv
 rw [oS, this, EV]
theorem KH (p : Ae) (_ : Ju p) : Cn 2000 p = some true := by
 unfold Cn
 rw [N7 2000 p (by omega) (by omega), MJ]
 simp only [oS, K8, zD9, Cb]
 by_cases hv : FE p = 0
 ·rw [hv]; rfl
 ·have h1 : (FE p == 0) = false := beq_eq_false_iff_ne.2 hv
  have h2 : (FE p != 0) = true := by simpa using hv
  rw [h1, Cb]
  obtain ⟨b, e⟩ := Pe 2000 (by omega) (by omega) p
  rw [e]
  simp only [oS]
  cases b
  ·rfl
  ·have ht := Pf (N := 2000) (by omega) (by omega) hv
   have ha : Fc 2000 p = some ([], FE p) := by unfold Fc; rw [ht, oS]; simp only [h2, EV]
   have hl : FH 2000 p = some ([], FE p) := by unfold FH; rw [ha, oS]; simp only [h2, EV]
   have hi : Et 2000 p = some ([], FE p) := by unfold Et; rw [ht, oS]; simp only [h2, EV]
   have hf : Fl 2000 p = some ([], FE p) := by unfold Fl; rw [ht, oS]; simp only [h2, EV]
   have hb : DI 2000 p [] = some (false, FE p) := by unfold DI; rw [IG 2000 p (by omega) (by omega), oS, h2, EV]
   have hr : Do 2000 p [] = some (zP, FE p) := by unfold Do; rw [IG 2000 p (by omega) (by omega), oS, h2, EV]; rfl
   have hc : FF 2000 p [] [] = some false := by unfold FF; rw [hr, oS]; simp only [K8, h1, Cb]
   rw [hb, hl, ha, hi, hf, hc]
   simp only [oS, beq_self_eq_true, EV]
   rfl
end Go.Lift
