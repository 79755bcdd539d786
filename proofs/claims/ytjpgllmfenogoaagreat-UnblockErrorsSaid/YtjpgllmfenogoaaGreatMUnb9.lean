/- Lemmas for UnblockErrorsSaid, which YtjpgllmfenogoaaGreatFinU9 proves. -/
import Derived.Test.YtjpgllmfenogoaaGreatDec
import Derived.KernelRfl
namespace Go.Lift
open IntKind renaming wrap → wI
open List renaming getElem?_eq_some_iff → lI
theorem BY {α : Type} (xs : List α) (i : Nat) : BP xs (i : Int) = xs[i]? := by
 unfold BP; simp
theorem Ny {n : Int} (h0 : -9223372036854775808 ≤ n) (h1 : n ≤ 9223372036854775807) : wI .i64 n = n := by
 simp [wI, IntKind.signed, IntKind.bits]; omega
theorem BX {i : Nat} (h : i < 1000000) : wI .i64 ((i : Int) + 1) = ((i + 1 : Nat) : Int) := by
 rw [Ny (by omega) (by omega)]; simp
@[simp] theorem CY {α : Type} {a b : Option α} : AJ true a b = a := rfl
@[simp] theorem A0 {α : Type} {a b : Option α} : AJ false a b = b := rfl
theorem BI {α : Type} {p : Prop} [Decidable p] {a b : Option α} (h : p) : AJ (decide p) a b = a := by simp [h]
theorem Bx {α : Type} {p : Prop} [Decidable p] {a b : Option α} (h : ¬ p) : AJ (decide p) a b = b := by simp [h]
def Ju : List Int → List Int → Int
 | [], [] => 0
 | [], _ :: _ => -1
 | _ :: _, [] => 1
 | a :: as1, b :: bs => if a < b then -1 else if b < a then 1 else Ju as1 bs
theorem Ii {α : Type} {xs : List α} {i : Nat} {x : α} (h : xs[i]? = some x) : xs.drop i = x :: xs.drop (i + 1) := by
 obtain ⟨hi, rfl⟩ := lI.1 h
 exact List.drop_eq_getElem_cons hi
theorem LS : ∀ a : List Int, Ju a a = 0
 | [] => rfl
 | a :: as1 => by simp [Ju, LS as1]
theorem Kg : ∀ a b : List Int, Ju a b = 0 → a = b
 | [], [], _ => rfl
 | [], _ :: _, h => by simp [Ju] at h
 | _ :: _, [], h => by simp [Ju] at h
 | a :: as1, b :: bs, h => by
  unfold Ju at h
  split at h
  ·omega
  ·split at h
   ·omega
   ·rw [Kg as1 bs h, show a = b from by omega]
def Sx : List Int → Int
 | [] => 0
 | x :: xs => if x = 0 then Sx xs else x
def UE (a : Ar) : Prop := a.fe.length ≤ 8 ∧ a.fd.length ≤ 8 ∧ a.fg.length ≤ 14
def Qr (a b : Ar) : Int := Sx [Ju a.fe b.fe, Ju a.fd b.fd, Ju a.fg b.fg]
theorem OH (a : Ar) : Qr a a = 0 := by unfold Qr; simp [LS, Sx]
open Option renaming bind_some → oS
def Fo {α R : Type} (f : Nat → α → Option R) : Nat → List α → Option R
 | _, [] => none
 | i, x :: xs => match f i x with
  | some r => some r
  | none => Fo f (i + 1) xs
theorem Is {α R : Type} (f : Nat → α → Option R) (i : Nat) (x : α) (xs : List α) : Fo f i (x :: xs) = match f i x with
  | some r => some r
  | none => Fo f (i + 1) xs := rfl
def CK {R : Type} (a : Option R) (b : Option R) : Option R := match a with
 | some r => some r
 | none => b
theorem DP {α R : Type} (L : Nat → Int → Option R) (xs : List α) (j : Option R) (f : Nat → α → Option R)
  (hs : ∀ (n i : Nat) (x : α), xs[i]? = some x → L (n + 1) (i : Int) = CK (f i x) (L n ((i + 1 : Nat) : Int))) (he : ∀ n : Nat, L (n + 1) (xs.length : Int) = j) :
  ∀ n i : Nat, i ≤ xs.length → xs.length - i < n → L n (i : Int) = CK (Fo f i (xs.drop i)) j
 | 0, i, _, h => by omega
 | n + 1, i, hi, h => by
  by_cases h1 : i < xs.length
  ·have hx : xs[i]? = some xs[i] := by simp [h1]
   rw [hs n i _ hx, Ii hx, DP L xs j f hs he n (i + 1) (by omega) (by omega)]
   rw [Is]
   cases f i xs[i] <;> rfl
  ·have : i = xs.length := by omega
   subst this
   rw [he n, List.drop_eq_nil_of_le (Nat.le_refl _)]
   rfl
theorem L1 (N : Nat) (k n : Int) : CI N k n = some (decide (0 ≤ k) && decide (k < n)) := by
 unfold CI
 simp only [BJ]
 by_cases h : 0 ≤ k
 ·rw [BI h]; simp [h]
 ·rw [Bx h]; simp [h]
theorem OC (N : Nat) (t : As) : CO N t = some (t.fc == 3 || t.fc == 4) := by
 unfold CO
 simp only [BJ]
 cases h : t.fc == 3 <;> simp
def sq (l : List (List Bool)) (n m : Int) : Bool := decide ((l.length : Int) = n) && l.all fun r => decide ((r.length : Int) = m)
theorem KX {α : Type} (p : α → Bool) {R : Type} (r : Nat → R) : ∀ (i : Nat) (xs : List α), (Fo (fun i x => if p x then none else some (r i)) i xs).isNone = xs.all p
 | i, [] => rfl
 | i, x :: xs => by
  unfold Fo
  cases h : p x <;> simp [h, KX p r (i + 1) xs]
theorem LE (N : Nat) (l : List (List Bool)) (n m : Int) (h : n < (N : Int)) (hN : N ≤ 1000000) : Cc N l n m = some (sq l n m) := by
 unfold Cc sq
 by_cases h1 : (l.length : Int) = n
 ·subst h1
  simp only [bne_self_eq_false, A0, decide_true, Bool.true_and]
  have := DP (Bs N l (l.length : Int) m (fun _ => some true)) l (some true) (fun _ r => if decide ((r.length : Int) = m) then none else some false)
   (fun n i x hx => by
    have hi := (lI.1 hx).1
    rw [Bs, BI (by omega), BY, hx]
    simp only [oS]
    rw [BX (by omega)]
    by_cases h2 : (x.length : Int) = m
    ·simp [h2, CK]
    ·have : ((x.length : Int) != m) = true := by simpa using h2
     simp [h2, this, CK])
   (fun n => by rw [Bs, Bx (by omega)]) N 0 (by omega) (by omega)
  simp only [Int.ofNat_zero, List.drop_zero] at this
  rw [this]
  have h3 := KX (fun r : List Bool => decide ((r.length : Int) = m)) (fun _ => false) 0 l
  cases hsc : Fo (fun (_ : Nat) (r : List Bool) => if decide ((r.length : Int) = m) = true then none else some false) 0 l with
  | none => rw [hsc] at h3; rw [← h3]; rfl
  | some b =>
   rw [hsc] at h3
   rw [← h3]
   have : ∀ (i : Nat) (xs : List (List Bool)) b, Fo (fun (_ : Nat) (r : List Bool) => if decide ((r.length : Int) = m) = true then none else some false) i xs = some b → b = false := by
    intro i xs
    induction xs generalizing i with
    | nil => intro b hb; cases hb
    | cons x xs ih =>
     intro b hb
     unfold Fo at hb
     split at hb
     ·rename_i r hr; cases hb; split at hr <;> simp at hr; exact hr
     ·exact ih _ b hb
   rw [this 0 l b hsc]; rfl
 ·have : ((l.length : Int) != n) = true := by simpa using h1
  simp [this, h1]
theorem LP (N : Nat) (l : List (List Bool)) (n m : Int) (h : n < (N : Int)) (hN : N ≤ 1000000) : Dv N l n m = some (sq l n m) := by
 unfold Dv sq
 simp only [BJ]
 by_cases h1 : (l.length : Int) = n
 ·subst h1
  simp only [beq_self_eq_true, CY, decide_true, Bool.true_and]
  have := DP (AX N l (fun x => Cs N x m) (fun _ => some (-1))) l (some (-1)) (fun i r => if decide ((r.length : Int) = m) then none else some (i : Int))
   (fun n i x hx => by
    have hi := (lI.1 hx).1
    rw [AX, BI (by omega), BY, hx]
    simp only [oS, Cs]
    rw [BX (by omega)]
    by_cases h2 : (x.length : Int) = m
    ·simp [h2, CK]
    ·have : ((x.length : Int) != m) = true := by simpa using h2
     simp [h2, this, CK])
   (fun n => by rw [AX, Bx (by omega)]) N 0 (by omega) (by omega)
  simp only [Int.ofNat_zero, List.drop_zero] at this
  unfold BL B9
  rw [this]
  have h3 := KX (fun r : List Bool => decide ((r.length : Int) = m)) (fun i : Nat => (i : Int)) 0 l
  cases hsc : Fo (fun (i : Nat) (r : List Bool) => if decide ((r.length : Int) = m) = true then none else some (i : Int)) 0 l with
  | none => rw [hsc] at h3; rw [← h3]; rfl
  | some b =>
   rw [hsc] at h3
   rw [← h3]
   have : ∀ (i : Nat) (xs : List (List Bool)) b, Fo (fun (i : Nat) (r : List Bool) => if decide ((r.length : Int) = m) = true then none else some (i : Int)) i xs = some b → 0 ≤ b := by
    intro i xs
    induction xs generalizing i with
    | nil => intro b hb; cases hb
    | cons x xs ih =>
     intro b hb
     rw [Is] at hb
     split at hb
     ·rename_i r hr
      cases hb
      split at hr
      ·cases hr
      ·cases hr; omega
     ·exact ih _ b hb
   have := this 0 l b hsc
   simp [CK, this]
 ·have : ((l.length : Int) == n) = false := by simpa using h1
  simp [this, h1]
open List renaming mem_of_getElem? → lM
open List renaming getD_eq_getElem?_getD → lD
def Hn (l : List (List Bool)) : Option Int := Fo (fun i row => if row.getD i false then none else some 1) 0 l
theorem Nr {row : List Bool} {i : Nat} (h : i < row.length) : BP row (i : Int) = some (row.getD i false) := by
 rw [BY, lD]; simp [h]
theorem QU (N : Nat) (t : As) (h : t.fi.length < N) (hN : N ≤ 1000000) (hsq : ∀ row, row ∈ t.fi → row.length = t.fi.length) (j : Option Int) :
  Bg N t (fun _ => j) N 0 = CK (Hn t.fi) j := by
 have := DP (Bg N t (fun _ => j)) t.fi j (fun i row => if row.getD i false then none else some 1)
  (fun n i x hx => by
   have hi := (lI.1 hx).1
   have hl := hsq x (lM hx)
   rw [Bg, BI (by omega), BY, hx]
   simp only [oS]
   rw [Nr (by omega), BX (by omega)]
   simp only [oS]
   cases x.getD i false <;> rfl)
  (fun n => by rw [Bg, Bx (by omega)]) N 0 (by omega) (by omega)
 simpa [Hn] using this
theorem LY (N : Nat) (t : As) (h : t.fi.length < N) (hN : N ≤ 1000000) (hsq : ∀ row, row ∈ t.fi → row.length = t.fi.length) (j : Option Int) :
  BS N t (fun _ => j) N 0 = CK (Hn t.fi) j := by
 have := DP (BS N t (fun _ => j)) t.fi j (fun i row => if row.getD i false then none else some 1)
  (fun n i x hx => by
   have hi := (lI.1 hx).1
   have hl := hsq x (lM hx)
   rw [BS, BI (by omega), BY, hx]
   simp only [oS]
   rw [Nr (by omega), BX (by omega)]
   simp only [oS]
   cases x.getD i false <;> rfl)
  (fun n => by rw [BS, Bx (by omega)]) N 0 (by omega) (by omega)
 simpa [Hn] using this
theorem Kh {l : List (List Bool)} {n m : Int} (h : sq l n m = true) : (l.length : Int) = n ∧ ∀ row, row ∈ l → (row.length : Int) = m := by
 unfold sq at h
 simp only [Bool.and_eq_true, decide_eq_true_eq, List.all_eq_true] at h
 exact h
def EE (p : Ae) (t : As) : Int :=
 if t.fc < 1 ∨ 4 < t.fc ∨ (t.fq = true ∧ (t.fc = 3 ∨ t.fc = 4)) then 1
 else if t.ff < 0 ∨ (p.fa.length : Int) ≤ t.ff ∨ t.fk < 0 ∨ (p.fa.length : Int) ≤ t.fk then 4
 else
  let f := p.fa.getD t.ff.toNat 0
  let g := p.fa.getD t.fk.toNat 0
  if sq t.fh f g = false then 6
  else if t.fc = 4 then (if sq t.fi f f = false then 6 else (Hn t.fi).getD 0)
  else if t.fi.length = 0 then 0 else 6
theorem Mx {α : Type} {xs : List α} {i : Int} {d : α} (h0 : 0 ≤ i) (h1 : i < (xs.length : Int)) : BP xs i = some (xs.getD i.toNat d) := by
 obtain ⟨k, rfl⟩ := Int.eq_ofNat_of_zero_le h0
 rw [BY, lD, Int.toNat_natCast]
 simp [show k < xs.length from by omega]
theorem Pf {t : As} (A B : Option Int) (hk : ¬ (t.fq = true ∧ (t.fc = 3 ∨ t.fc = 4))) : AJ t.fq (AJ (t.fc == 3 || t.fc == 4) A B) B = B := by
 cases ha : t.fq
 ·rfl
 ·have : (t.fc == 3 || t.fc == 4) = false := by
   rw [Bool.or_eq_false_iff]
   constructor
   ·simp only [beq_eq_false_iff_ne]; intro h; exact hk ⟨ha, .inl h⟩
   ·simp only [beq_eq_false_iff_ne]; intro h; exact hk ⟨ha, .inr h⟩
  rw [this]; rfl
theorem KI {p : Ae} {i : Int} (hv : ∀ v, v ∈ p.fa → 1 ≤ v ∧ v ≤ 6) (h0 : 0 ≤ i) (h1 : i < (p.fa.length : Int)) : 1 ≤ p.fa.getD i.toNat 0 ∧ p.fa.getD i.toNat 0 ≤ 6 := by
 refine hv _ ?_
 rw [lD, List.getElem?_eq_getElem (by omega)]
 exact List.getElem_mem _
theorem OY (N : Nat) (p : Ae) (t : As) (hN : N ≤ 1000000) (h6 : 7 ≤ N) (hv : ∀ v, v ∈ p.fa → 1 ≤ v ∧ v ≤ 6) : CZ N p t = some (EE p t) := by
 unfold CZ EE
 simp only [BJ, OC, oS]
 by_cases k1 : t.fc < 1
 ·simp [k1]
 by_cases k2 : 4 < t.fc
 ·simp [k1, k2]
 rw [Bx k1, Bx k2]
 by_cases hk : t.fq = true ∧ (t.fc = 3 ∨ t.fc = 4)
 ·obtain ⟨ha, k | k⟩ := hk <;> simp [ha, k]
 rw [A0, Pf _ _ hk, if_neg (fun h => h.elim k1 fun h => h.elim k2 hk)]
 by_cases f1 : t.ff < 0
 ·simp [f1]
 by_cases f2 : (p.fa.length : Int) ≤ t.ff
 ·simp [f1, f2]
 by_cases f3 : t.fk < 0
 ·simp [f1, f2, f3]
 by_cases f4 : (p.fa.length : Int) ≤ t.fk
 ·simp [f1, f2, f3, f4]
 rw [Bx f1, Bx f2, Bx f3, if_neg (fun h => h.elim f1 fun h => h.elim f2 fun h => h.elim f3 f4)]
 have hf := KI hv (i := t.ff) (by omega) (by omega)
 rw [decide_eq_false f4, A0, Mx (d := 0) (by omega : 0 ≤ t.ff) (by omega), Mx (d := 0) (by omega : 0 ≤ t.fk) (by omega)]
 simp only [oS]
 generalize p.fa.getD t.ff.toNat 0 = f at *
 generalize p.fa.getD t.fk.toNat 0 = g at *
 rw [LE N t.fh f g (by omega) hN, LE N t.fi f f (by omega) hN]
 simp only [oS]
 cases hq : sq t.fh f g
 ·rfl
 simp only [Bool.not_true, A0]
 by_cases k4 : t.fc = 4
 ·have : (t.fc != 4) = false := by simp [k4]
  rw [this, A0]
  simp only [k4, if_true]
  cases hr : sq t.fi f f
  ·rfl
  ·have h7 := Kh hr
   simp only [Bool.not_true, A0]
   rw [QU N t (by omega) hN (fun row hm => by have := h7.2 row hm; omega)]
   cases Hn t.fi <;> simp [CK]
 ·have : (t.fc != 4) = true := by simpa using k4
  rw [this, CY]
  simp only [k4, if_false]
  by_cases hr : t.fi.length = 0
  ·simp [hr]
  ·have : ((t.fi.length : Int) != 0) = true := bne_iff_ne.2 (by omega)
   rw [this]; simp [hr]
theorem Qm (N : Nat) (k : Int) (a : Bool) : EM N k a = some (k == 1 || (k == 2 || ((k == 3 || k == 4) && !a))) := by
 unfold EM
 simp only [BJ]
 cases h1 : k == 1 <;> cases h2 : k == 2 <;> cases h3 : k == 3 <;> cases h4 : k == 4 <;> cases a <;> rfl
theorem K4 (N : Nat) (p : Ae) (t : As) (hN : N ≤ 1000000) (h6 : 7 ≤ N) (hv : ∀ v, v ∈ p.fa → 1 ≤ v ∧ v ≤ 6) : En N p t = some (EE p t) := by
 unfold En EE
 simp only [BJ, Qm, L1, oS]
 by_cases hb : t.fc < 1 ∨ 4 < t.fc ∨ (t.fq = true ∧ (t.fc = 3 ∨ t.fc = 4))
 ·have : (t.fc == 1 || (t.fc == 2 || ((t.fc == 3 || t.fc == 4) && !t.fq))) = false := by
   rcases hb with h | h | ⟨ha, h | h⟩
   ·rw [beq_eq_false_iff_ne.2 (by omega : t.fc ≠ 1), beq_eq_false_iff_ne.2 (by omega : t.fc ≠ 2), beq_eq_false_iff_ne.2 (by omega : t.fc ≠ 3), beq_eq_false_iff_ne.2 (by omega : t.fc ≠ 4)]; rfl
   ·rw [beq_eq_false_iff_ne.2 (by omega : t.fc ≠ 1), beq_eq_false_iff_ne.2 (by omega : t.fc ≠ 2), beq_eq_false_iff_ne.2 (by omega : t.fc ≠ 3), beq_eq_false_iff_ne.2 (by omega : t.fc ≠ 4)]; rfl
   ·simp [ha, h]
   ·simp [ha, h]
  rw [this, if_pos hb]; rfl
 ·have : (t.fc == 1 || (t.fc == 2 || ((t.fc == 3 || t.fc == 4) && !t.fq))) = true := by
   have hk : t.fc = 1 ∨ t.fc = 2 ∨ t.fc = 3 ∨ t.fc = 4 := by
    have h1 : ¬ t.fc < 1 := fun h => hb (.inl h)
    have h2 : ¬ 4 < t.fc := fun h => hb (.inr (.inl h))
    omega
   rcases hk with h | h | h | h
   ·simp [h]
   ·simp [h]
   ·cases ha : t.fq
    ·simp [h]
    ·exact (hb (.inr (.inr ⟨ha, .inl h⟩))).elim
   ·cases ha : t.fq
    ·simp [h]
    ·exact (hb (.inr (.inr ⟨ha, .inr h⟩))).elim
  rw [this, if_neg hb]
  simp only [Bool.not_true, A0]
  by_cases f1 : t.ff < 0
  ·simp [f1, show ¬ (0 ≤ t.ff) from by omega]
  by_cases f2 : (p.fa.length : Int) ≤ t.ff
  ·simp [f2, show ¬ (t.ff < (p.fa.length : Int)) from by omega]
  by_cases f3 : t.fk < 0
  ·simp [f3, show 0 ≤ t.ff from by omega, show t.ff < (p.fa.length : Int) from by omega, show ¬ (0 ≤ t.fk) from by omega]
  by_cases f4 : (p.fa.length : Int) ≤ t.fk
  ·simp [f4, show 0 ≤ t.ff from by omega, show t.ff < (p.fa.length : Int) from by omega, show ¬ (t.fk < (p.fa.length : Int)) from by omega]
  rw [if_neg (fun h => h.elim f1 fun h => h.elim f2 fun h => h.elim f3 f4)]
  have hf := KI hv (i := t.ff) (by omega) (by omega)
  have hg := KI hv (i := t.fk) (by omega) (by omega)
  rw [decide_eq_true (by omega : 0 ≤ t.ff), decide_eq_true (by omega : t.ff < (p.fa.length : Int)), decide_eq_true (by omega : 0 ≤ t.fk), decide_eq_true (by omega : t.fk < (p.fa.length : Int)), Mx (d := 0) (by omega : 0 ≤ t.ff) (by omega), Mx (d := 0) (by omega : 0 ≤ t.fk) (by omega)]
  simp only [Bool.and_self, Bool.not_true, A0, oS]
  generalize p.fa.getD t.ff.toNat 0 = f at *
  generalize p.fa.getD t.fk.toNat 0 = g at *
  rw [LP N t.fh f g (by omega) hN, LP N t.fi f f (by omega) hN]
  simp only [oS]
  cases hq : sq t.fh f g
  ·rfl
  simp only [Bool.not_true, A0]
  by_cases k4 : t.fc = 4
  ·simp only [k4, beq_self_eq_true, CY, if_true]
   cases hr : sq t.fi f f
   ·rfl
   ·have h7 := Kh hr
    simp only [Bool.not_true, A0]
    rw [LY N t (by omega) hN (fun row hm => by have := h7.2 row hm; omega)]
    cases Hn t.fi <;> simp [CK]
  ·have : (t.fc == 4) = false := beq_eq_false_iff_ne.2 k4
   rw [this, A0]
   simp only [k4, if_false, Bool.not_false, CY]
   by_cases hr : t.fi.length = 0
   ·rw [LY N t (by omega) hN (fun row hm => by rw [List.eq_nil_of_length_eq_zero hr] at hm; cases hm), List.eq_nil_of_length_eq_zero hr]
    simp [Hn, Fo, CK]
   ·rw [decide_eq_true (by omega : 0 < (t.fi.length : Int))]
    simp [hr]
def EI (p : Ae) (i : Nat) (v : Int) : Option Int :=
 if v < 1 ∨ 6 < v ∨ p.fj.getD i 0 < 0 ∨ v ≤ p.fj.getD i 0 ∨ p.fm.getD i 0 < 0 ∨ v ≤ p.fm.getD i 0 then some 7 else none
def J7 (p : Ae) (_ : Nat) (t : As) : Option Int := if EE p t = 0 then none else some (EE p t)
def Dr (p : Ae) : Int :=
 if 6 < p.fa.length ∨ 12 < p.fb.length then 3
 else if p.fj.length ≠ p.fa.length ∨ p.fm.length ≠ p.fa.length then 6
 else ((CK (Fo (EI p) 0 p.fa) (Fo (J7 p) 0 p.fb)).getD 0)
theorem Ih {α R : Type} {f : Nat → α → Option R} : ∀ {i : Nat} {xs : List α}, Fo f i xs = none → ∀ j x, xs[j]? = some x → f (i + j) x = none
 | _, [], _, j, x, hx => by simp at hx
 | i, y :: ys, h, j, x, hx => by
  rw [Is] at h
  split at h
  ·cases h
  ·rename_i h0
   cases j with
   | zero => simp at hx; subst hx; exact h0
   | succ j =>
    have := Ih h j x (by simpa using hx)
    rwa [show i + 1 + j = i + (j + 1) from by omega] at this
theorem Kv {p : Ae} (h : Fo (EI p) 0 p.fa = none) : ∀ v, v ∈ p.fa → 1 ≤ v ∧ v ≤ 6 := by
 intro v hv
 obtain ⟨i, hi⟩ := List.mem_iff_getElem?.1 hv
 have := Ih h i v hi
 unfold EI at this
 split at this
 ·cases this
 ·rename_i hn
  constructor
  ·exact Int.not_lt.1 fun h => hn (.inl h)
  ·exact Int.not_lt.1 fun h => hn (.inr (.inl h))
theorem L6 {α : Type} {xs : List α} {i : Nat} {d : α} (h : i < xs.length) : BP xs (i : Int) = some (xs.getD i d) := by
 rw [BY, lD]; simp [h]
theorem NE (N : Nat) (p : Ae) (hN : N ≤ 1000000) (h1 : p.fa.length < N) (h2 : p.fj.length = p.fa.length) (h3 : p.fm.length = p.fa.length) (j : Option Int) :
  AS N p (fun _ => j) N 0 = CK (Fo (EI p) 0 p.fa) j := by
 have := DP (AS N p (fun _ => j)) p.fa j (EI p)
  (fun n i x hx => by
   have hi := (lI.1 hx).1
   rw [AS, BI (by omega), BY, hx]
   simp only [oS, BJ]
   rw [L6 (d := 0) (by omega), L6 (d := 0) (by omega), BX (by omega)]
   simp only [oS]
   unfold EI
   generalize p.fj.getD i 0 = a
   generalize p.fm.getD i 0 = b
   by_cases k1 : x < 1 <;> by_cases k2 : 6 < x <;> by_cases k3 : a < 0 <;> by_cases k4 : x ≤ a <;> by_cases k5 : b < 0 <;> by_cases k6 : x ≤ b <;> simp [k1, k2, k3, k4, k5, k6, CK])
  (fun n => by rw [AS, Bx (by omega)]) N 0 (by omega) (by omega)
 simpa using this
theorem MF (N : Nat) (p : Ae) (hN : N ≤ 1000000) (h1 : p.fa.length < N) (h2 : p.fj.length = p.fa.length) (h3 : p.fm.length = p.fa.length) (j : Option Int) :
  Bf N p (fun _ => j) N 0 = CK (Fo (EI p) 0 p.fa) j := by
 have := DP (Bf N p (fun _ => j)) p.fa j (EI p)
  (fun n i x hx => by
   have hi := (lI.1 hx).1
   rw [Bf, BI (by omega), BY, hx]
   simp only [oS, BJ, L1]
   rw [L6 (d := 0) (by omega), L6 (d := 0) (by omega), BX (by omega)]
   simp only [oS]
   unfold EI
   generalize p.fj.getD i 0 = a
   generalize p.fm.getD i 0 = b
   have e1 : decide (0 ≤ a) = !decide (a < 0) := by rw [← decide_not]; congr 1; simp
   have e2 : decide (a < x) = !decide (x ≤ a) := by rw [← decide_not]; congr 1; simp
   have e3 : decide (0 ≤ b) = !decide (b < 0) := by rw [← decide_not]; congr 1; simp
   have e4 : decide (b < x) = !decide (x ≤ b) := by rw [← decide_not]; congr 1; simp
   rw [e1, e2, e3, e4]
   by_cases k1 : x < 1 <;> by_cases k2 : 6 < x <;> by_cases k3 : a < 0 <;> by_cases k4 : x ≤ a <;> by_cases k5 : b < 0 <;> by_cases k6 : x ≤ b <;> simp [k1, k2, k3, k4, k5, k6, CK])
  (fun n => by rw [Bf, Bx (by omega)]) N 0 (by omega) (by omega)
 simpa using this
theorem PT (N : Nat) (p : Ae) (hN : N ≤ 1000000) (h6 : 7 ≤ N) (h1 : p.fb.length < N) (hv : ∀ v, v ∈ p.fa → 1 ≤ v ∧ v ≤ 6) (j : Option Int) :
  AM N p (fun _ => j) N 0 = CK (Fo (J7 p) 0 p.fb) j := by
 have := DP (AM N p (fun _ => j)) p.fb j (J7 p)
  (fun n i x hx => by
   have hi := (lI.1 hx).1
   rw [AM, BI (by omega), BY, hx]
   simp only [oS]
   rw [OY N p x hN h6 hv, BX (by omega)]
   simp only [oS]
   unfold J7
   by_cases k : EE p x = 0
   ·simp [k, CK]
   ·rw [bne_iff_ne.2 k, if_neg k]; rfl)
  (fun n => by rw [AM, Bx (by omega)]) N 0 (by omega) (by omega)
 simpa using this
theorem NU (N : Nat) (p : Ae) (hN : N ≤ 1000000) (h6 : 7 ≤ N) (h1 : p.fb.length < N) (hv : ∀ v, v ∈ p.fa → 1 ≤ v ∧ v ≤ 6) (j : Option Int) :
  Bd N p (fun _ => j) N 0 = CK (Fo (J7 p) 0 p.fb) j := by
 have := DP (Bd N p (fun _ => j)) p.fb j (J7 p)
  (fun n i x hx => by
   have hi := (lI.1 hx).1
   rw [Bd, BI (by omega), BY, hx]
   simp only [oS]
   rw [K4 N p x hN h6 hv, BX (by omega)]
   simp only [oS]
   unfold J7
   by_cases k : EE p x = 0
   ·simp [k, CK]
   ·rw [bne_iff_ne.2 k, if_neg k]; rfl)
  (fun n => by rw [Bd, Bx (by omega)]) N 0 (by omega) (by omega)
 simpa using this
theorem Ky (N : Nat) (p : Ae) (hN : N ≤ 1000000) (h : 20 ≤ N) : Bt N p = some (Dr p) := by
 unfold Bt Dr
 simp only [BJ]
 by_cases k1 : 6 < p.fa.length
 ·rw [BI (by omega)]; simp [k1]
 rw [Bx (by omega)]
 by_cases k2 : 12 < p.fb.length
 ·rw [decide_eq_true (by omega : (12 : Int) < (p.fb.length : Int))]; simp [k2]
 rw [decide_eq_false (by omega : ¬ (12 : Int) < (p.fb.length : Int)), A0, if_neg (by omega)]
 by_cases k3 : p.fj.length = p.fa.length
 ·by_cases k4 : p.fm.length = p.fa.length
  ·rw [k3, k4]
   simp only [bne_self_eq_false, A0, ne_eq, not_true_eq_false, or_self, if_false]
   rw [NE N p hN (by omega) k3 k4]
   cases hs : Fo (EI p) 0 p.fa with
   | some r => rfl
   | none =>
    simp only [CK]
    rw [PT N p hN (by omega) (by omega) (Kv hs)]
    cases Fo (J7 p) 0 p.fb <;> rfl
  ·have : ((p.fm.length : Int) != (p.fa.length : Int)) = true := bne_iff_ne.2 (by omega)
   rw [this, k3]; simp [k4]
 ·have : ((p.fj.length : Int) != (p.fa.length : Int)) = true := bne_iff_ne.2 (by omega)
  rw [this]; simp [k3]
theorem I6 (N : Nat) (p : Ae) (hN : N ≤ 1000000) (h : 20 ≤ N) : Bb N p = some (Dr p) := by
 unfold Bb Dr
 simp only [BJ]
 by_cases k1 : 6 < p.fa.length
 ·rw [BI (by omega)]; simp [k1]
 rw [Bx (by omega)]
 by_cases k2 : 12 < p.fb.length
 ·rw [decide_eq_true (by omega : (12 : Int) < (p.fb.length : Int))]; simp [k2]
 rw [decide_eq_false (by omega : ¬ (12 : Int) < (p.fb.length : Int)), A0, if_neg (by omega)]
 by_cases k3 : p.fj.length = p.fa.length
 ·by_cases k4 : p.fm.length = p.fa.length
  ·rw [k3, k4]
   simp only [bne_self_eq_false, A0, ne_eq, not_true_eq_false, or_self, if_false]
   rw [MF N p hN (by omega) k3 k4]
   cases hs : Fo (EI p) 0 p.fa with
   | some r => rfl
   | none =>
    simp only [CK]
    rw [NU N p hN (by omega) (by omega) (Kv hs)]
    cases Fo (J7 p) 0 p.fb <;> rfl
  ·have : ((p.fm.length : Int) != (p.fa.length : Int)) = true := bne_iff_ne.2 (by omega)
   rw [this, k3]; simp [k4]
 ·have : ((p.fj.length : Int) != (p.fa.length : Int)) = true := bne_iff_ne.2 (by omega)
  rw [this]; simp [k3]
theorem Gf {α R : Type} {f : Nat → α → Option R} : ∀ {i : Nat} {xs : List α} {r : R}, Fo f i xs = some r → ∃ j x, xs[j]? = some x ∧ f (i + j) x = some r
 | _, [], _, h => by cases h
 | i, y :: ys, r, h => by
  rw [Is] at h
  split at h
  ·rename_i r' h0
   cases h
   exact ⟨0, y, rfl, h0⟩
  ·obtain ⟨j, x, h1, h2⟩ := Gf h
   exact ⟨j + 1, x, by simpa using h1, by rwa [show i + (j + 1) = i + 1 + j from by omega]⟩
structure H1 (p : Ae) : Prop where
 nv : p.fa.length ≤ 6
 nt : p.fb.length ≤ 12
 now : p.fj.length = p.fa.length
 tgt : p.fm.length = p.fa.length
 ver : ∀ v, v ∈ p.fa → 1 ≤ v ∧ v ≤ 6
 tab : ∀ t, t ∈ p.fb → EE p t = 0
theorem N2 (l : List (List Bool)) : (Hn l).getD 0 = 0 ∨ (Hn l).getD 0 = 1 := by
 cases h : Hn l with
 | none => exact .inl rfl
 | some r =>
  obtain ⟨j, x, _, h⟩ := Gf h
  split at h
  ·cases h
  ·cases h; exact .inr rfl
theorem MB (p : Ae) (t : As) : EE p t = 0 ∨ EE p t = 1 ∨ EE p t = 4 ∨ EE p t = 6 := by
 unfold EE
 split
 ·exact .inr (.inl rfl)
 split
 ·exact .inr (.inr (.inl rfl))
 simp only
 split
 ·exact .inr (.inr (.inr rfl))
 split
 ·split
  ·exact .inr (.inr (.inr rfl))
  ·rcases N2 t.fi with h | h
   ·exact .inl h
   ·exact .inr (.inl h)
 ·split
  ·exact .inl rfl
  ·exact .inr (.inr (.inr rfl))
theorem ME (p : Ae) : (Dr p = 0 ∧ H1 p) ∨ (Dr p = 1 ∨ Dr p = 3 ∨ Dr p = 4 ∨ Dr p = 6 ∨ Dr p = 7) := by
 unfold Dr
 split
 ·simp
 rename_i k1
 split
 ·simp
 rename_i k2
 cases hs : Fo (EI p) 0 p.fa with
 | some r =>
  obtain ⟨j, x, _, h⟩ := Gf hs
  unfold EI at h
  split at h
  ·cases h; simp [CK]
  ·cases h
 | none =>
  cases ht : Fo (J7 p) 0 p.fb with
  | some r =>
   obtain ⟨j, t, _, h⟩ := Gf ht
   unfold J7 at h
   split at h
   ·cases h
   ·rename_i hne
    cases h
    simp only [CK, Option.getD_some]
    right
    rcases MB p t with h | h | h | h
    ·exact (hne h).elim
    ·exact .inl h
    ·exact .inr (.inr (.inl h))
    ·exact .inr (.inr (.inr (.inl h)))
  | none =>
   left
   refine ⟨rfl, by omega, by omega, by omega, by omega, Kv hs, fun t hm => ?_⟩
   obtain ⟨j, hj⟩ := List.mem_iff_getElem?.1 hm
   have := Ih ht j t hj
   unfold J7 at this
   split at this
   ·assumption
   ·cases this
def Sr (m : Ar) (s : Nat) : Int :=
 if 0 ≤ m.fd.getD s 0 then Qy .u8 (GG .u8 1 (m.fe.getD s 0)) (GG .u8 1 (m.fd.getD s 0)) else GG .u8 1 (m.fe.getD s 0)
def G1 (t : As) : Bool := t.fc == 3 || t.fc == 4
@[simp] theorem GN {α β : Type} (k : α) (f : α → β) : BJ k f = f k := rfl
@[simp] theorem Qj {p : Prop} [Decidable p] (h : p) : ED p = some () := by unfold ED; rw [if_pos h]
theorem FR {β : Type} {p : Prop} [Decidable p] (h : p) (f : Unit → Option β) : (ED p).bind f = f () := by rw [Qj h]; rfl
def Id {α β : Type} (g : Nat → α → List β) : Nat → List α → List β
 | _, [] => []
 | i, x :: xs => g i x ++ Id g (i + 1) xs
def Jh {α A : Type} (f : Nat → α → A → A) : Nat → List α → A → A
 | _, [], a => a
 | i, x :: xs, a => Jh f (i + 1) xs (f i x a)
theorem Im {α β : Type} {g : Nat → α → List β} {c : Nat} : ∀ {i : Nat} {xs : List α}, (∀ j x, xs[j]? = some x → (g (i + j) x).length ≤ c) → (Id g i xs).length ≤ c * xs.length
 | _, [], _ => by simp [Id]
 | i, x :: xs, h => by
  have h1 := h 0 x rfl
  have h2 := Im (g := g) (c := c) (i := i + 1) (xs := xs) fun j y hy => by
   have := h (j + 1) y (by simpa using hy)
   rwa [show i + (j + 1) = i + 1 + j from by omega] at this
  rw [Id, List.length_append, List.length_cons, Nat.mul_add]
  simp only [Nat.add_zero] at h1
  omega
theorem LZ {α A S R : Type} (L : Nat → S → Option R) (mk : A → Int → S) (xs : List α) (j : A → Option R) (f : Nat → α → A → A) (I : Nat → A → Prop)
  (hs : ∀ (n i : Nat) (x : α) (a : A), xs[i]? = some x → I i a → L (n + 1) (mk a (i : Int)) = L n (mk (f i x a) ((i + 1 : Nat) : Int)) ∧ I (i + 1) (f i x a))
  (he : ∀ (n : Nat) (a : A), I xs.length a → L (n + 1) (mk a (xs.length : Int)) = j a) :
  ∀ (n i : Nat) (a : A), i ≤ xs.length → xs.length - i < n → I i a → L n (mk a (i : Int)) = j (Jh f i (xs.drop i) a) ∧ I xs.length (Jh f i (xs.drop i) a)
 | 0, i, _, _, h, _ => by omega
 | n + 1, i, a, hi, h, ha => by
  by_cases h1 : i < xs.length
  ·have hx : xs[i]? = some xs[i] := by simp [h1]
   obtain ⟨e1, e2⟩ := hs n i _ a hx ha
   rw [e1, Ii hx, Jh]
   exact LZ L mk xs j f I hs he n (i + 1) _ (by omega) (by omega) e2
  ·have : i = xs.length := by omega
   subst this
   rw [List.drop_eq_nil_of_le (Nat.le_refl _), Jh]
   exact ⟨he n a ha, ha⟩
theorem KJ {α β : Type} (g : Nat → α → List β) : ∀ (i : Nat) (xs : List α) (acc : List β), Jh (fun i x a => a ++ g i x) i xs acc = acc ++ Id g i xs
 | _, [], acc => by simp [Jh, Id]
 | i, x :: xs, acc => by rw [Jh, KJ g (i + 1) xs, Id, List.append_assoc]
theorem Gj {α β S R : Type} (L : Nat → S → Option R) (mk : List β → Int → S) (xs : List α) (j : List β → Option R) (g : Nat → α → List β) (c B : Nat)
  (hg : ∀ i x, xs[i]? = some x → (g i x).length ≤ c)
  (hs : ∀ (n i : Nat) (x : α) (a : List β), xs[i]? = some x → a.length + (g i x).length ≤ B → L (n + 1) (mk a (i : Int)) = L n (mk (a ++ g i x) ((i + 1 : Nat) : Int)))
  (he : ∀ (n : Nat) (a : List β), L (n + 1) (mk a (xs.length : Int)) = j a) (n : Nat) (a : List β) (hn : xs.length < n) (ha : a.length + c * xs.length ≤ B) :
  L n (mk a 0) = j (a ++ Id g 0 xs) := by
 have := LZ L mk xs j (fun i x a => a ++ g i x) (fun i b => i ≤ xs.length ∧ b.length ≤ a.length + c * i)
  (fun n i x b hx hb => by
   have h1 := hg i x hx
   have hi := (lI.1 hx).1
   have h2 : c * (i + 1) ≤ c * xs.length := Nat.mul_le_mul_left c hi
   have h3 : c * (i + 1) = c * i + c := Nat.mul_succ c i
   refine ⟨hs n i x b hx (by have := hb.2; omega), hi, ?_⟩
   rw [List.length_append]
   have := hb.2
   omega)
  (fun n b _ => he n b) n 0 a (Nat.zero_le _) (by omega) ⟨Nat.zero_le _, by omega⟩
 have h2 := this.1
 rw [List.drop_zero, KJ] at h2
 exact h2
def Sb (s : Int) (v : Nat) : Bool := s.toNat.testBit v
def SE (m : Ar) (s v : Nat) : Bool := decide (m.fe.getD s 0 = (v : Int)) || decide (m.fd.getD s 0 = (v : Int))
theorem Hs {p : Ae} (h : Dr p = 0) : H1 p ∧ ∀ i, i < p.fa.length → 0 ≤ p.fj.getD i 0 ∧ p.fj.getD i 0 < p.fa.getD i 0 ∧ 0 ≤ p.fm.getD i 0 ∧ p.fm.getD i 0 < p.fa.getD i 0 := by
 have hp : H1 p := by
  rcases ME p with h | h
  ·exact h.2
  ·omega
 refine ⟨hp, fun i hi => ?_⟩
 have h1 := hp.nv
 have h2 := hp.nt
 have h3 := hp.now
 have h4 := hp.tgt
 unfold Dr at h
 rw [if_neg (by omega), if_neg (by omega)] at h
 cases hs : Fo (EI p) 0 p.fa with
 | some r =>
  obtain ⟨j, x, _, he⟩ := Gf hs
  rw [hs] at h
  unfold EI at he
  split at he
  ·cases he; cases h
  ·cases he
 | none =>
  have hx : p.fa[i]? = some (p.fa.getD i 0) := by rw [lD]; simp [hi]
  have := Ih hs i _ hx
  rw [Nat.zero_add] at this
  unfold EI at this
  split at this
  ·cases this
  ·rename_i hn; omega
def hC (m : Ar) (t : As) (v : Nat) (ok : Bool) : Bool := SE m t.fk.toNat v && ok
structure Po (p : Ae) (t : As) : Prop where
 kind : 1 ≤ t.fc ∧ t.fc ≤ 4
 aware : t.fq = true → G1 t = false
 from0 : 0 ≤ t.ff ∧ t.ff < (p.fa.length : Int)
 to0 : 0 ≤ t.fk ∧ t.fk < (p.fa.length : Int)
 okL : (t.fh.length : Int) = p.fa.getD t.ff.toNat 0
 okR : ∀ row, row ∈ t.fh → (row.length : Int) = p.fa.getD t.fk.toNat 0
 reL : t.fc = 4 → (t.fi.length : Int) = p.fa.getD t.ff.toNat 0
 reR : ∀ row, row ∈ t.fi → (row.length : Int) = p.fa.getD t.ff.toNat 0
 reD : t.fc = 4 → Hn t.fi = none
 reN : t.fc ≠ 4 → t.fi = []
theorem Kl {p : Ae} {t : As} (h : EE p t = 0) : Po p t := by
 unfold EE at h
 split at h
 ·cases h
 rename_i h1
 split at h
 ·cases h
 rename_i h2
 simp only at h
 split at h
 ·cases h
 rename_i h3
 have h3 : sq t.fh (p.fa.getD t.ff.toNat 0) (p.fa.getD t.fk.toNat 0) = true := by simpa using h3
 have h3 := Kh h3
 have ha : t.fq = true → G1 t = false := by
  intro ha
  unfold G1
  rw [Bool.or_eq_false_iff, beq_eq_false_iff_ne, beq_eq_false_iff_ne]
  exact ⟨fun hk => h1 (.inr (.inr ⟨ha, .inl hk⟩)), fun hk => h1 (.inr (.inr ⟨ha, .inr hk⟩))⟩
 split at h
 ·rename_i h4
  split at h
  ·cases h
  rename_i h5
  have h5 : sq t.fi (p.fa.getD t.ff.toNat 0) (p.fa.getD t.ff.toNat 0) = true := by simpa using h5
  have h5 := Kh h5
  refine ⟨by omega, ha, by omega, by omega, h3.1, h3.2, fun _ => h5.1, h5.2, fun _ => ?_, fun h => (h h4).elim⟩
  cases hd : Hn t.fi with
  | none => rfl
  | some r =>
   obtain ⟨j, x, _, hx⟩ := Gf hd
   rw [hd] at h
   split at hx
   ·cases hx
   ·cases hx; cases h
 ·rename_i h4
  split at h
  ·rename_i h5
   have h5 := List.eq_nil_of_length_eq_zero h5
   refine ⟨by omega, ha, by omega, by omega, h3.1, h3.2, fun h => (h4 h).elim, fun row hr => ?_, fun h => (h4 h).elim, fun _ => h5⟩
   rw [h5] at hr; cases hr
  ·cases h
theorem Mv {p : Ae} {t : As} (hp : H1 p) (ht : Po p t) : t.fh.length ≤ 6 ∧ ∀ row, row ∈ t.fh → row.length ≤ 6 := by
 have h1 := KI hp.ver ht.from0.1 ht.from0.2
 have h2 := KI hp.ver ht.to0.1 ht.to0.2
 have h3 := ht.okL
 exact ⟨by omega, fun row hr => by have := ht.okR row hr; omega⟩
structure OL (m x : Ar) : Prop where
 base : x.fe = m.fe
 held : x.fg = m.fg
 len : x.fd.length = m.fd.length
 next : ∀ q, q < m.fd.length → x.fd.getD q 0 = m.fd.getD q 0 ∨ (0 ≤ m.fd.getD q 0 ∧ x.fd.getD q 0 = -1)
theorem OL.refl (m : Ar) : OL m m := ⟨rfl, rfl, rfl, fun _ _ => .inl rfl⟩
theorem OL.trans {a b c : Ar} (h1 : OL a b) (h2 : OL b c) : OL a c :=
 ⟨h2.base.trans h1.base, h2.held.trans h1.held, h2.len.trans h1.len, fun q hq => by
  have e1 := h1.next q hq
  have e2 := h2.next q (by rw [h1.len]; exact hq)
  omega⟩
def Pj : Ar := ⟨[], [], []⟩
theorem OX (N : Nat) (hN : N ≤ 1000000) (h20 : 100 ≤ N) (p : Ae) : ∃ b, Dg N p = some b := by
 unfold Dg
 simp only [GN]
 by_cases h1 : 8 < (p.fa.length : Int)
 ·rw [BI h1]; exact ⟨_, rfl⟩
 rw [Bx h1]
 by_cases h2 : 8 < (p.fj.length : Int)
 ·rw [BI h2]; exact ⟨_, rfl⟩
 rw [Bx h2]
 by_cases h3 : 8 < (p.fm.length : Int)
 ·rw [BI h3]; exact ⟨_, rfl⟩
 rw [Bx h3]
 by_cases h4 : 14 < (p.fb.length : Int)
 ·rw [decide_eq_true h4]; exact ⟨_, rfl⟩
 rw [decide_eq_false h4, A0]
 have inner1 : ∀ (i : Nat) (t : As), p.fb[i]? = some t → t.fh.length ≤ 8 → ∀ j : Option Bool, ∃ r, Br N p (i : Int) (fun _ => j) N 0 = CK r j := by
  intro i t ht hl j
  refine ⟨_, DP (Br N p (i : Int) fun _ => j) t.fh j (fun _ row => if 8 < (row.length : Int) then some false else none) (fun n k x hx => ?_) (fun n => ?_) N 0 (Nat.zero_le _) (by omega)⟩
  ·have hk := (lI.1 hx).1
   rw [Br, BY, ht]
   simp only [oS]
   rw [BI (by omega), BY, hx, BX (by omega)]
   simp only [oS]
   by_cases h : 8 < (x.length : Int)
   ·rw [BI h, if_pos h]; rfl
   ·rw [Bx h, if_neg h]; rfl
  ·rw [Br, BY, ht]
   simp only [oS]
   rw [Bx (by simp)]
 have inner2 : ∀ (i : Nat) (t : As), p.fb[i]? = some t → t.fi.length ≤ 8 → ∀ j : Option Bool, ∃ r, Bo N p (i : Int) (fun _ => j) N 0 = CK r j := by
  intro i t ht hl j
  refine ⟨_, DP (Bo N p (i : Int) fun _ => j) t.fi j (fun _ row => if 8 < (row.length : Int) then some false else none) (fun n k x hx => ?_) (fun n => ?_) N 0 (Nat.zero_le _) (by omega)⟩
  ·have hk := (lI.1 hx).1
   rw [Bo, BY, ht]
   simp only [oS]
   rw [BI (by omega), BY, hx, BX (by omega)]
   simp only [oS]
   by_cases h : 8 < (x.length : Int)
   ·rw [BI h, if_pos h]; rfl
   ·rw [Bx h, if_neg h]; rfl
  ·rw [Bo, BY, ht]
   simp only [oS]
   rw [Bx (by simp)]
 have outer : ∀ n i : Nat, i ≤ p.fb.length → p.fb.length - i < n → ∃ b, Cb N p (fun _ => some true) n (i : Int) = some b := by
  intro n
  induction n with
  | zero => intro i _ h; omega
  | succ n ih =>
   intro i hi hn
   rw [Cb]
   simp only [GN]
   by_cases h : i < p.fb.length
   ·have hx : p.fb[i]? = some p.fb[i] := by simp [h]
    generalize p.fb[i] = t at hx
    rw [BI (by omega), BY, hx]
    simp only [oS]
    by_cases k1 : 8 < (t.fh.length : Int)
    ·rw [BI k1]; exact ⟨_, rfl⟩
    rw [Bx k1]
    by_cases k2 : 8 < (t.fi.length : Int)
    ·rw [decide_eq_true k2]; exact ⟨_, rfl⟩
    rw [decide_eq_false k2, A0, BX (by omega)]
    obtain ⟨b, hb⟩ := ih (i + 1) (by omega) (by omega)
    rw [hb]
    obtain ⟨r2, e2⟩ := inner2 i t hx (by omega) (some b)
    obtain ⟨r1, e1⟩ := inner1 i t hx (by omega) (CK r2 (some b))
    rw [e2, e1]
    cases r1 with
    | some r => exact ⟨_, rfl⟩
    | none => cases r2 <;> exact ⟨_, rfl⟩
   ·rw [Bx (by omega)]; exact ⟨_, rfl⟩
 exact outer N 0 (Nat.zero_le _) (by omega)
open Go
structure UA (x y : As) : Prop where
 k : y.fc = x.fc
 f : y.ff = x.ff
 t : y.fk = x.fk
 a : y.fq = x.fq
 r : y.fi = x.fi
 l : y.fh.length = x.fh.length
 o : ∀ (u : Nat) (row : List Bool), x.fh[u]? = some row → ∃ row', y.fh[u]? = some row' ∧ row'.length = row.length ∧ ∀ v : Nat, row[v]? = some true → row'[v]? = some true
theorem UA.st {x y : As} (h : UA x y) : G1 y = G1 x := by unfold G1; rw [h.k]
structure Sn (p : Ae) (m x : Ar) : Prop where
 base : m.fe = x.fe
 next : m.fd = x.fd
 held : ∀ i, i < p.fb.length → ∀ v, Sb (m.fg.getD i 0) v = true → Sb (x.fg.getD i 0) v = true
theorem Sn.refl (p : Ae) (m : Ar) : Sn p m m := ⟨rfl, rfl, fun _ _ _ h => h⟩
theorem Sn.trans {p : Ae} {a b c : Ar} (h : Sn p a b) (g : Sn p b c) : Sn p a c := ⟨h.base.trans g.base, h.next.trans g.next, fun i hi v hv => g.held i hi v (h.held i hi v hv)⟩
def ST (s : Am) : Bool := decide (1 ≤ s.fc ∧ s.fc ≤ 4 ∧ 0 ≤ s.fo ∧ 0 ≤ s.fv) && (s.fc == 1 || s.fv == 0)
def SS (p : Ae) (s : Am) : Bool :=
 if s.fc = 3 then decide (s.fo < (p.fb.length : Int)) else decide (s.fo < (p.fa.length : Int)) && (s.fc != 1 || decide (s.fv < p.fa.getD s.fo.toNat 0))
def UD (s : Am) (t : As) : Bool := t.ff == s.fo && G1 t
def UC (s : Am) (i : Nat) (t : As) (a : List Int) : List Int := if UD s t = true then a.set i (Qy .u8 (a.getD i 0) (GG .u8 1 s.fv)) else a
def RN (p : Ae) (s : Am) (held : List Int) : List Int := Jh (UC s) 0 p.fb held
def Tn (m : Ar) (t : As) (u : Nat) : Bool := (t.fi.getD u []).getD (m.fe.getD t.ff.toNat 0).toNat false
def Ue (m : Ar) (i : Nat) (t : As) (u : Nat) : Bool := Sb (m.fg.getD i 0) u && !SE m t.ff.toNat u
def Sl (_p : Ae) (m : Ar) (i : Nat) (t : As) : Bool := t.fc == 4 && (List.range 8).any fun u => Ue m i t u && !Tn m t u
def RK (p : Ae) (m : Ar) (s : Am) : Option Ar :=
 let i := s.fo.toNat
 if s.fc = 1 then (if 0 ≤ m.fd.getD i 0 ∨ m.fe.getD i 0 = s.fv then none else some ⟨m.fe, m.fd.set i s.fv, RN p s m.fg⟩)
 else if s.fc = 3 then match p.fb[i]? with
  | none => none
  | some t => if G1 t = false ∨ m.fg.getD i 0 = Sr m t.ff.toNat ∨ Sl p m i t = true then none else some ⟨m.fe, m.fd, m.fg.set i (Sr m t.ff.toNat)⟩
 else if m.fd.getD i 0 < 0 then none
 else some ⟨if s.fc = 2 then m.fe.set i (m.fd.getD i 0) else m.fe, m.fd.set i (-1), m.fg⟩
def R3 (p : Ae) (m : Ar) (s : Am) : Ar × Int :=
 if ST s = false then (Pj, 1) else if SS p s = false then (Pj, 4) else match RK p m s with
  | none => (Pj, 11)
  | some x => (x, 0)
end Go.Lift
namespace Go.Lift
open Go
section clear
variable {p : Ae} {m : Ar} {i : Nat} {t : As}
end clear
end Go.Lift
namespace Go.Lift
open Go
end Go.Lift
namespace Go.Lift
open Go
section
variable {N : Nat} {p : Ae} {l : List Am}
end
end Go.Lift
namespace Go.Lift
open Go
end Go.Lift
namespace Go.Lift
namespace Bfs
section
variable {α σ : Type}
def code (rk : σ → Nat) (K : Nat) (w : List σ) : Nat := w.foldl (fun c s => c * K + rk s) 0
def T0 (rk : σ → Nat) (K : Nat) (w : List σ) : Prop := ∀ s, s ∈ w → 1 ≤ rk s ∧ rk s ≤ K
theorem T0.snoc {rk : σ → Nat} {K : Nat} {w : List σ} {s : σ} (h : T0 rk K w) (hs : 1 ≤ rk s ∧ rk s ≤ K) : T0 rk K (w ++ [s]) := by
 intro x hx; rcases List.mem_append.1 hx with h1 | h1
 ·exact h x h1
 ·rw [List.mem_singleton.1 h1]; exact hs
abbrev Nd (α σ : Type) := α × Int × σ
def put [DecidableEq α] (i : Nat) (l : List (Nd α σ)) (q : σ × α) : List (Nd α σ) := if (l.any fun n => decide (n.1 = q.2)) = true then l else l ++ [(q.2, (i : Int), q.1)]
def Cu [DecidableEq α] (most i : Nat) : List (σ × α) → List (Nd α σ) → Option (List (Nd α σ))
 | [], l => some l
 | q :: qs, l => if most < (put i l q).length then none else Cu most i qs (put i l q)
def go [DecidableEq α] (nxt : α → List (σ × α)) (most : Nat) : Nat → Nat → List (Nd α σ) → Option (List (Nd α σ))
 | 0, _, _ => none
 | n + 1, i, l => match l[i]? with
  | none => some l
  | some nd => (Cu most i (nxt nd.1) l).bind fun l' => go nxt most n (i + 1) l'
def run (nxt : α → List (σ × α)) (x : α) : List σ → α → Prop
 | [], y => y = x
 | s :: w, y => ∃ z, (s, z) ∈ nxt x ∧ run nxt z w y
theorem E5 {nxt : α → List (σ × α)} : ∀ {u w : List σ} {x y : α}, run nxt x (u ++ w) y ↔ ∃ z, run nxt x u z ∧ run nxt z w y
 | [], w, x, y => by simp [run]
 | s :: u, w, x, y => by
  simp only [List.cons_append, run]
  constructor
  ·rintro ⟨z, h1, h2⟩
   obtain ⟨z', h3, h4⟩ := E5.1 h2
   exact ⟨z', ⟨z, h1, h3⟩, h4⟩
  ·rintro ⟨z', ⟨z, h1, h3⟩, h4⟩
   exact ⟨z, h1, E5.2 ⟨z', h3, h4⟩⟩
end
end Bfs
end Go.Lift
namespace Go.Lift
open Go
theorem M6 : ∀ {l : List Int}, Sx l = 0 → ∀ x, x ∈ l → x = 0
 | [], _, x, hx => by cases hx
 | y :: ys, h, x, hx => by
  unfold Sx at h
  split at h
  ·rename_i hy
   rcases List.mem_cons.1 hx with rfl | hx
   ·exact hy
   ·exact M6 h x hx
  ·rename_i hy; exact absurd h hy
theorem OJ {a b : Ar} (h : Qr a b = 0) : a = b := by
 have := M6 h
 have h1 := Kg _ _ (this (Ju a.fe b.fe) (by simp))
 have h2 := Kg _ _ (this (Ju a.fd b.fd) (by simp))
 have h3 := Kg _ _ (this (Ju a.fg b.fg) (by simp))
 cases a; cases b; simp only at h1 h2 h3; subst h1; subst h2; subst h3; rfl
instance Ug : DecidableEq Ar := fun a b => if h : Qr a b = 0 then isTrue (OJ h) else isFalse (fun e => h (by rw [e]; exact OH b))
end Go.Lift
namespace Go.Lift
open IntKind renaming wrap → wI
open Option renaming bind_some → oS
open List renaming mem_of_getElem? → lM
open List renaming getElem?_eq_some_iff → lI
open Go
def Le (t u v : Nat) (ok : Bool) : List Aa := if ok = true then [] else [⟨(t : Int), (u : Int), (v : Int)⟩]
def JE (t u : Nat) (row : List Bool) : List Aa := Id (Le t u) 0 row
def JL (t : Nat) (x : As) : List Aa := Id (JE t) 0 x.fh
def EN (p : Ae) : List Aa := Id JL 0 p.fb
theorem KK (t u v : Nat) (ok : Bool) : (Le t u v ok).length ≤ 1 := by unfold Le; split <;> simp
theorem GC (t u : Nat) {row : List Bool} (h : row.length ≤ 6) : (JE t u row).length ≤ 6 := by
 have := Im (g := Le t u) (c := 1) (i := 0) (xs := row) (fun j x _ => KK _ _ _ _)
 unfold JE; omega
theorem Gv {p : Ae} {t : As} (hp : H1 p) (ht : Po p t) (i : Nat) : (JL i t).length ≤ 36 := by
 have h1 := Mv hp ht
 have := Im (g := JE i) (c := 6) (i := 0) (xs := t.fh) (fun j x hx => GC i _ (h1.2 x (lM hx)))
 unfold JL; omega
theorem Ms {p : Ae} (hp : H1 p) : (EN p).length ≤ 432 := by
 have := Im (g := JL) (c := 36) (i := 0) (xs := p.fb) (fun j x hx => Gv hp (Kl (hp.tab x (lM hx))) _)
 have := hp.nt
 unfold EN; omega
theorem KE {N : Nat} (hN : N ≤ 1000000) (h20 : 100 ≤ N) {p : Ae} (hp : H1 p) : Cx N p = some (EN p) := by
 unfold Cx
 have hnt := hp.nt
 rw [Gj (A1 N p _) (fun a k => (a, k)) p.fb some JL 36 9000
  (fun i t hx => Gv hp (Kl (hp.tab t (lM hx))) i)
  (fun n i t a hx ha => by
   have hi := (lI.1 hx).1
   have ht := Kl (hp.tab t (lM hx))
   have hv := Mv hp ht
   have het := Gv hp ht i
   rw [A1]
   rw [BI (by omega), Gj (Bc N p (a, (i : Int)) _) (fun a k => (a, k)) t.fh (fun b => A1 N p (fun v2 => some v2) n (b, wI .i64 ((i : Int) + 1))) (JE i) 6 10000
    (fun u row hu => GC i u (hv.2 row (lM hu)))
    (fun n2 u row b hu hb => by
     have hui := (lI.1 hu).1
     have hrl := hv.2 row (lM hu)
     rw [Bc]
     simp only [BY, hx, oS]
     rw [BI (by omega), Gj (Bn N p (a, (i : Int)) (b, (u : Int)) _) (fun a k => (a, k)) row (fun c => Bc N p (a, (i : Int)) (fun v5 => A1 N p (fun v2 => some v2) n (v5, wI .i64 ((i : Int) + 1))) n2 (c, wI .i64 ((u : Int) + 1))) (Le i u) 1 20000
      (fun v ok _ => KK i u v ok)
      (fun n3 v ok c hv hc => by
       have hvi := (lI.1 hv).1
       rw [Bn]
       simp only [BY, hx, hu, hv, oS, GN]
       rw [BI (by omega), BX (i := v) (by omega)]
       cases ok
       ·simp only [Bool.not_false, CY]
        rw [FR (by simp only [Le, Bool.false_eq_true, if_false, List.length_singleton] at hc ⊢; unfold FD; omega)]
        rfl
       ·simp only [Bool.not_true, A0, Le, if_true, List.append_nil])
      (fun n3 c => by
       rw [Bn]
       simp only [BY, hx, hu, oS, GN]
       rw [Bx (by omega)]) N b (by omega) (by have := GC i u hrl; omega), BX (i := u) (by omega)]
     rfl)
    (fun n2 b => by
     rw [Bc]
     simp only [BY, hx, oS]
     rw [Bx (by omega)]) N a (by omega) (by omega), BX (i := i) (by omega)]
   rfl)
  (fun n a => by
   rw [A1]
   rw [Bx (by omega)]) N [] (by omega) (by simp; omega)]
 rfl
theorem Gs {N : Nat} (hN : N ≤ 1000000) (h20 : 100 ≤ N) {p : Ae} (hp : H1 p) : Cj N p = some (EN p) := by
 unfold Cj
 have hnt := hp.nt
 rw [Gj (Bl N p _) (fun a k => (a, k)) p.fb some JL 36 9000
  (fun i t hx => Gv hp (Kl (hp.tab t (lM hx))) i)
  (fun n i t a hx ha => by
   have hi := (lI.1 hx).1
   have ht := Kl (hp.tab t (lM hx))
   have hv := Mv hp ht
   have het := Gv hp ht i
   rw [Bl]
   simp only [BY, hx, oS]
   rw [BI (by omega), Gj (Bw N (a, (i : Int)) t _) (fun a k => (a, k)) t.fh (fun b => Bl N p (fun v2 => some v2) n (b, wI .i64 ((i : Int) + 1))) (JE i) 6 10000
    (fun u row hu => GC i u (hv.2 row (lM hu)))
    (fun n2 u row b hu hb => by
     have hui := (lI.1 hu).1
     have hrl := hv.2 row (lM hu)
     rw [Bw]
     simp only [BY, hu, oS]
     rw [BI (by omega), Gj (BK N (a, (i : Int)) (b, (u : Int)) row _) (fun a k => (a, k)) row (fun c => Bw N (a, (i : Int)) t (fun v5 => Bl N p (fun v2 => some v2) n (v5, wI .i64 ((i : Int) + 1))) n2 (c, wI .i64 ((u : Int) + 1))) (Le i u) 1 20000
      (fun v ok _ => KK i u v ok)
      (fun n3 v ok c hv hc => by
       have hvi := (lI.1 hv).1
       rw [BK]
       simp only [BY, hv, oS, GN]
       rw [BI (by omega), BX (i := v) (by omega)]
       cases ok
       ·simp only [Bool.not_false, CY]
        rw [FR (by simp only [Le, Bool.false_eq_true, if_false, List.length_singleton] at hc ⊢; unfold FD; omega)]
        rfl
       ·simp only [Bool.not_true, A0, Le, if_true, List.append_nil])
      (fun n3 c => by
       rw [BK]
       simp only [GN]
       rw [Bx (by omega)]) N b (by omega) (by have := GC i u hrl; omega), BX (i := u) (by omega)]
     rfl)
    (fun n2 b => by
     rw [Bw]
     rw [Bx (by omega)]) N a (by omega) (by omega), BX (i := i) (by omega)]
   rfl)
  (fun n a => by
   rw [Bl]
   rw [Bx (by omega)]) N [] (by omega) (by simp; omega)]
 rfl
def Ry (a b : Aa) : Bool := (a.fu == b.fu) && ((a.fr == b.fr) && ((a.ft == b.ft) && true))
theorem Oj (a b : Aa) : Ry a b = true ↔ a = b := by
 unfold Ry
 cases a; cases b
 simp
theorem Pq (a b : Aa) : Ry a b = Ry b a := by
 rw [Bool.eq_iff_iff, Oj, Oj]; exact eq_comm
def RI (l : List Aa) (c : Aa) : Bool := l.any fun x => Ry x c
theorem Qd (x : Aa) (l : List Aa) (c : Aa) : RI (x :: l) c = (Ry x c || RI l c) := rfl
theorem IB (N : Nat) (l : List Aa) (c : Aa) (hl : l.length < 1000000) : ∀ (n i : Nat), i ≤ l.length → l.length - i < n → ∃ k : Int, AE N l c (fun _ => some (-1)) n (i : Int) = some k ∧ decide (0 ≤ k) = RI (l.drop i) c
 | 0, i, _, h => by omega
 | n + 1, i, hi, h => by
  rw [AE]
  by_cases h1 : i < l.length
  ·have hx : l[i]? = some l[i] := by simp [h1]
   obtain ⟨k, e1, e2⟩ := IB N l c hl n (i + 1) (by omega) (by omega)
   rw [BI (by omega), BY, hx, Ii hx, Qd, BX (by omega), e1]
   simp only [oS]
   have : ((c.fu == l[i].fu) && ((c.fr == l[i].fr) && ((c.ft == l[i].ft) && true))) = Ry l[i] c := Pq c l[i]
   rw [this]
   cases Ry l[i] c
   ·exact ⟨k, rfl, e2⟩
   ·exact ⟨_, rfl, by simp⟩
  ·rw [Bx (by omega), List.drop_eq_nil_of_le (by omega)]
   exact ⟨-1, rfl, rfl⟩
theorem Nq {N : Nat} {l : List Aa} (hN : N ≤ 1000000) (hl : l.length < N) (c : Aa) : AR N l c = some (RI l c) := by
 unfold AR Bh
 obtain ⟨k, e1, e2⟩ := IB N l c (by omega) N 0 (by omega) (by omega)
 have e1' : AE N l c (fun _ => some (-1)) N 0 = some k := by simpa using e1
 rw [e1', oS, e2, List.drop_zero]
theorem QY (N : Nat) {l : List Aa} (h : l.length ≤ 100000) : AK N l = some l := by
 unfold AK
 rw [FR (by simp only [List.length_nil]; unfold FD; omega)]; rfl
def Pd (p : Ae) (l : List Aa) : Int := if Dr p = 0 then (if l.all (RI (EN p)) = true then 0 else 4) else Dr p
theorem Ll {l : List Aa} {f : Aa → Bool} {i : Nat} (h : i < l.length) : (l.drop i).all f = (f l[i] && (l.drop (i + 1)).all f) := by
 rw [Ii (show l[i]? = some l[i] by simp [h]), List.all_cons]
theorem KQ (N : Nat) (hN : N ≤ 1000000) (l e : List Aa) (he : e.length < N) (hl : l.length < 1000000) (j : Unit → Option Int) : ∀ (n i : Nat), i ≤ l.length → l.length - i < n → CC N l e j n (i : Int) = if (l.drop i).all (RI e) = true then j () else some 4
 | 0, i, _, h => by omega
 | n + 1, i, hi, h => by
  rw [CC]
  by_cases h1 : i < l.length
  ·have hx : l[i]? = some l[i] := by simp [h1]
   rw [BI (by omega), BY, hx]
   simp only [oS]
   rw [Nq hN he, BX (by omega), KQ N hN l e he hl j n (i + 1) (by omega) (by omega), Ll h1]
   simp only [oS]
   cases RI e l[i]
   ·rfl
   ·simp only [Bool.not_true, A0, Bool.true_and]
  ·rw [Bx (by omega), List.drop_eq_nil_of_le (by omega)]; rfl
theorem Mt {N : Nat} (hN : N ≤ 1000000) (h20 : 500 ≤ N) (p : Ae) {l : List Aa} (hl : l.length < N) : DR N p l = some (Pd p l) := by
 unfold DR Pd
 rw [I6 N p hN (by omega)]
 simp only [oS]
 by_cases hv : Dr p = 0
 ·obtain ⟨hp, _⟩ := Hs hv
  have he := Ms hp
  rw [if_pos hv, hv, bne_self_eq_false, A0, Gs hN (by omega) hp]
  simp only [oS]
  have := KQ N hN l (EN p) (by omega) (by omega) (fun _ => some 0) N 0 (by omega) (by omega)
  simp only [List.drop_zero] at this
  refine Eq.trans this ?_
  split <;> rfl
 ·rw [if_neg hv, bne_iff_ne.2 hv, CY]
structure SH (N : Nat) (p : Ae) : Prop where
 v : p.fa.length < N
 n : p.fj.length < N
 t : p.fm.length < N
 s : p.fb.length < N
 m : ∀ t, t ∈ p.fb → t.fh.length < N ∧ (∀ row, row ∈ t.fh → row.length < N) ∧ t.fi.length < N ∧ ∀ row, row ∈ t.fi → row.length < N
theorem L8 : C1 1000 = some true := by kernel_rfl
def IH (p : Ae) : Int := if Dr p = 0 then (if 24 < (EN p).length then 3 else 0) else Dr p
theorem MC {p : Ae} (h : IH p ≠ 0) : Cv 1000 p = some ([], IH p) := by
 unfold Cv Di
 rw [I6 1000 p (by omega) (by omega)]
 unfold IH at h ⊢
 by_cases hv : Dr p = 0
 ·obtain ⟨hp, _⟩ := Hs hv
  rw [if_pos hv] at h ⊢
  by_cases hl : 24 < (EN p).length
  ·rw [if_pos hl, hv, oS, bne_self_eq_false, A0, Gs (by omega) (by omega) hp, oS, oS, bne_self_eq_false, A0, BI (by simp only; omega)]
  ·rw [if_neg hl] at h; exact absurd rfl h
 ·rw [if_neg hv, oS, bne_iff_ne.2 hv, CY, oS, bne_iff_ne.2 hv, CY]
theorem OF {p : Ae} (h : IH p ≠ 0) : CU 1000 p = some ([], IH p) := by
 unfold CU
 rw [MC h, oS, bne_iff_ne.2 h, CY]
theorem NN {p : Ae} (h : IH p ≠ 0) : C5 1000 p = some ([], IH p) := by
 unfold C5
 rw [MC h, oS, bne_iff_ne.2 h, CY]
theorem Nl {p : Ae} (h : IH p ≠ 0) : Cg 1000 p [] = some (false, IH p) := by
 unfold Cg
 rw [Mt (by omega) (by omega) p (by simp), oS]
 unfold Pd IH at *
 by_cases hv : Dr p = 0
 ·obtain ⟨hp, _⟩ := Hs hv
  rw [if_pos hv] at h ⊢
  rw [if_pos hv]
  by_cases hl : 24 < (EN p).length
  ·have e1 : Ba 1000 [] (fun x => Ci 1000 x.1 x.2) = some [] := rfl
   have e2 : AT 1000 [] = some (0, []) := rfl
   rw [List.all_nil, if_pos rfl, if_pos hl, bne_self_eq_false, A0, QY 1000 (by simp), oS, e1, oS, e2, oS, FR (by simp), Gs (by omega) (by omega) hp]
   simp only [GN, oS]
   rw [BI (by omega), CY]
  ·rw [if_neg hl] at h; exact absurd rfl h
 ·rw [if_neg hv, if_neg hv, bne_iff_ne.2 hv, CY]
theorem Iv (p : Ae) (_ : H7 p) : BH 1000 p = some true := by
 unfold BH
 rw [Ky 1000 p (by omega) (by omega)]
 simp only [oS, GN, L8, Bool.not_true, A0]
 obtain ⟨b1, e1⟩ := OX 1000 (by omega) (by omega) p
 rw [e1]
 simp only [oS]
 cases b1
 ·rfl
 rw [Bool.not_true, A0]
 have key : ∀ e : Int, e = IH p → (AJ (e == 0) (some true)
     ((Cv 1000 p).bind fun v14 =>
     (CU 1000 p).bind fun v15 =>
     (C5 1000 p).bind fun v16 =>
     (Cg 1000 p (([] : List Aa))).bind fun v17 =>
     AJ ((v14.2 == e))
      (AJ ((v15.2 == e))
       (AJ ((v16.2 == e))
        (AJ ((v17.2 == e))
         (AJ (((wI .i64 ((wI .i64 ((v14.1.length : Int) + (v15.1.length : Int))) + (v16.1.length : Int))) == 0))
          (some (!v17.1))
          (some false))
         (some false))
        (some false))
       (some false))
      (some false)) : Option Bool) = some true := by
  rintro e rfl
  by_cases h : IH p = 0
  ·rw [h]; rfl
  ·rw [beq_eq_false_iff_ne.2 h, A0, MC h, OF h, NN h, Nl h]
   simp only [oS, beq_self_eq_true, CY]
   rfl
 unfold C9
 rw [Ky 1000 p (by omega) (by omega)]
 by_cases hv : Dr p = 0
 ·obtain ⟨hp, _⟩ := Hs hv
  rw [hv, oS, bne_self_eq_false, A0, KE (by omega) (by omega) hp]
  simp only [oS, beq_self_eq_true, CY]
  by_cases hl : 24 < (EN p).length
  ·rw [decide_eq_true (by omega), CY]
   exact key 3 (by unfold IH; rw [if_pos hv, if_pos hl])
  ·rw [decide_eq_false (by omega), A0]
 ·rw [oS, bne_iff_ne.2 hv, CY]
  simp only [oS]
  rw [beq_eq_false_iff_ne.2 hv, A0, A0]
  have := key _ (show Dr p = IH p by unfold IH; rw [if_neg hv])
  rw [beq_eq_false_iff_ne.2 hv, A0] at this
  exact this
end Go.Lift
