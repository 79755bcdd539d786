/- Lemmas for MixMoreSaid, which YtmmkocokfdheiaaFinMore proves. -/
import Derived.Test.YtmmkocokfdheiaaDec
import Derived.KernelRfl
namespace Go.Lift
open IntKind renaming wrap → wI
open List renaming getElem?_eq_some_iff → lI
theorem BA {α : Type} (xs : List α) (i : Nat) : CC xs (i : Int) = xs[i]? := by
 unfold CC; simp
theorem BZ {n : Int} (h0 : -9223372036854775808 ≤ n) (h1 : n ≤ 9223372036854775807) : wI .i64 n = n := by
 simp [wI, IntKind.signed, IntKind.bits]; omega
theorem AK {i : Nat} (h : i < 1000000) : wI .i64 ((i : Int) + 1) = ((i + 1 : Nat) : Int) := by
 rw [BZ (by omega) (by omega)]; simp
@[simp] theorem Da {α : Type} {a b : Option α} : A6 true a b = a := rfl
@[simp] theorem AH {α : Type} {a b : Option α} : A6 false a b = b := rfl
theorem AJ {α : Type} {p : Prop} [Decidable p] {a b : Option α} (h : p) : A6 (decide p) a b = a := by simp [h]
theorem AG {α : Type} {p : Prop} [Decidable p] {a b : Option α} (h : ¬ p) : A6 (decide p) a b = b := by simp [h]
theorem JH {α : Type} {xs : List α} {i : Nat} {x : α} (h : xs[i]? = some x) : xs.drop i = x :: xs.drop (i + 1) := by
 obtain ⟨hi, rfl⟩ := lI.1 h
 exact List.drop_eq_getElem_cons hi
def Q0 (a : Af) : Prop := a.fh.length ≤ 8 ∧ a.fc.length ≤ 8 ∧ a.fg.length ≤ 14
theorem KV : Cg 1000 = some true := by kernel_rfl
open Option renaming bind_some → oS
def Cd {α R : Type} (f : Nat → α → Option R) : Nat → List α → Option R
 | _, [] => none
 | i, x :: xs => match f i x with
  | some r => some r
  | none => Cd f (i + 1) xs
theorem Dz {α R : Type} (f : Nat → α → Option R) (i : Nat) (x : α) (xs : List α) : Cd f i (x :: xs) = match f i x with
  | some r => some r
  | none => Cd f (i + 1) xs := rfl
def Bm {R : Type} (a : Option R) (b : Option R) : Option R := match a with
 | some r => some r
 | none => b
theorem CF {α R : Type} (L : Nat → Int → Option R) (xs : List α) (j : Option R) (f : Nat → α → Option R)
  (hs : ∀ (n i : Nat) (x : α), xs[i]? = some x → L (n + 1) (i : Int) = Bm (f i x) (L n ((i + 1 : Nat) : Int))) (he : ∀ n : Nat, L (n + 1) (xs.length : Int) = j) :
  ∀ n i : Nat, i ≤ xs.length → xs.length - i < n → L n (i : Int) = Bm (Cd f i (xs.drop i)) j
 | 0, i, _, h => by omega
 | n + 1, i, hi, h => by
  by_cases h1 : i < xs.length
  ·have hx : xs[i]? = some xs[i] := by simp [h1]
   rw [hs n i _ hx, JH hx, CF L xs j f hs he n (i + 1) (by omega) (by omega)]
   rw [Dz]
   cases f i xs[i] <;> rfl
  ·have : i = xs.length := by omega
   subst this
   rw [he n, List.drop_eq_nil_of_le (Nat.le_refl _)]
   rfl
theorem Jo (N : Nat) (k n : Int) : B6 N k n = some (decide (0 ≤ k) && decide (k < n)) := by
 unfold B6
 simp only [BS]
 by_cases h : 0 ≤ k
 ·rw [AJ h]; simp [h]
 ·rw [AG h]; simp [h]
theorem HJ (N : Nat) (t : Ab) : Bh N t = some (t.fe == 3 || t.fe == 4) := by
 unfold Bh
 simp only [BS]
 cases h : t.fe == 3 <;> simp
def sq (l : List (List Bool)) (n m : Int) : Bool := decide ((l.length : Int) = n) && l.all fun r => decide ((r.length : Int) = m)
theorem If {α : Type} (p : α → Bool) {R : Type} (r : Nat → R) : ∀ (i : Nat) (xs : List α), (Cd (fun i x => if p x then none else some (r i)) i xs).isNone = xs.all p
 | i, [] => rfl
 | i, x :: xs => by
  unfold Cd
  cases h : p x <;> simp [h, If p r (i + 1) xs]
theorem JD (N : Nat) (l : List (List Bool)) (n m : Int) (h : n < (N : Int)) (hN : N ≤ 1000000) : BL N l n m = some (sq l n m) := by
 unfold BL sq
 by_cases h1 : (l.length : Int) = n
 ·subst h1
  simp only [bne_self_eq_false, AH, decide_true, Bool.true_and]
  have := CF (Be N l (l.length : Int) m (fun _ => some true)) l (some true) (fun _ r => if decide ((r.length : Int) = m) then none else some false)
   (fun n i x hx => by
    have hi := (lI.1 hx).1
    rw [Be, AJ (by omega), BA, hx]
    simp only [oS]
    rw [AK (by omega)]
    by_cases h2 : (x.length : Int) = m
    ·simp [h2, Bm]
    ·have : ((x.length : Int) != m) = true := by simpa using h2
     simp [h2, this, Bm])
   (fun n => by rw [Be, AG (by omega)]) N 0 (by omega) (by omega)
  simp only [Int.ofNat_zero, List.drop_zero] at this
  rw [this]
  have h3 := If (fun r : List Bool => decide ((r.length : Int) = m)) (fun _ => false) 0 l
  cases hsc : Cd (fun (_ : Nat) (r : List Bool) => if decide ((r.length : Int) = m) = true then none else some false) 0 l with
  | none => rw [hsc] at h3; rw [← h3]; rfl
  | some b =>
   rw [hsc] at h3
   rw [← h3]
   have : ∀ (i : Nat) (xs : List (List Bool)) b, Cd (fun (_ : Nat) (r : List Bool) => if decide ((r.length : Int) = m) = true then none else some false) i xs = some b → b = false := by
    intro i xs
    induction xs generalizing i with
    | nil => intro b hb; cases hb
    | cons x xs ih =>
     intro b hb
     unfold Cd at hb
     split at hb
     ·rename_i r hr; cases hb; split at hr <;> simp at hr; exact hr
     ·exact ih _ b hb
   rw [this 0 l b hsc]; rfl
 ·have : ((l.length : Int) != n) = true := by simpa using h1
  simp [this, h1]
theorem JB (N : Nat) (l : List (List Bool)) (n m : Int) (h : n < (N : Int)) (hN : N ≤ 1000000) : CG N l n m = some (sq l n m) := by
 unfold CG sq
 simp only [BS]
 by_cases h1 : (l.length : Int) = n
 ·subst h1
  simp only [beq_self_eq_true, Da, decide_true, Bool.true_and]
  have := CF (AC N l (fun x => B1 N x m) (fun _ => some (-1))) l (some (-1)) (fun i r => if decide ((r.length : Int) = m) then none else some (i : Int))
   (fun n i x hx => by
    have hi := (lI.1 hx).1
    rw [AC, AJ (by omega), BA, hx]
    simp only [oS, B1]
    rw [AK (by omega)]
    by_cases h2 : (x.length : Int) = m
    ·simp [h2, Bm]
    ·have : ((x.length : Int) != m) = true := by simpa using h2
     simp [h2, this, Bm])
   (fun n => by rw [AC, AG (by omega)]) N 0 (by omega) (by omega)
  simp only [Int.ofNat_zero, List.drop_zero] at this
  unfold Bp BH
  rw [this]
  have h3 := If (fun r : List Bool => decide ((r.length : Int) = m)) (fun i : Nat => (i : Int)) 0 l
  cases hsc : Cd (fun (i : Nat) (r : List Bool) => if decide ((r.length : Int) = m) = true then none else some (i : Int)) 0 l with
  | none => rw [hsc] at h3; rw [← h3]; rfl
  | some b =>
   rw [hsc] at h3
   rw [← h3]
   have : ∀ (i : Nat) (xs : List (List Bool)) b, Cd (fun (i : Nat) (r : List Bool) => if decide ((r.length : Int) = m) = true then none else some (i : Int)) i xs = some b → 0 ≤ b := by
    intro i xs
    induction xs generalizing i with
    | nil => intro b hb; cases hb
    | cons x xs ih =>
     intro b hb
     rw [Dz] at hb
     split at hb
     ·rename_i r hr
      cases hb
      split at hr
      ·cases hr
      ·cases hr; omega
     ·exact ih _ b hb
   have := this 0 l b hsc
   simp [Bm, this]
 ·have : ((l.length : Int) == n) = false := by simpa using h1
  simp [this, h1]
open List renaming mem_of_getElem? → lM
open List renaming getD_eq_getElem?_getD → lD
def EU (l : List (List Bool)) : Option Int := Cd (fun i row => if row.getD i false then none else some 1) 0 l
theorem Ku {row : List Bool} {i : Nat} (h : i < row.length) : CC row (i : Int) = some (row.getD i false) := by
 rw [BA, lD]; simp [h]
theorem NZ (N : Nat) (t : Ab) (h : t.fj.length < N) (hN : N ≤ 1000000) (hsq : ∀ row, row ∈ t.fj → row.length = t.fj.length) (j : Option Int) :
  A1 N t (fun _ => j) N 0 = Bm (EU t.fj) j := by
 have := CF (A1 N t (fun _ => j)) t.fj j (fun i row => if row.getD i false then none else some 1)
  (fun n i x hx => by
   have hi := (lI.1 hx).1
   have hl := hsq x (lM hx)
   rw [A1, AJ (by omega), BA, hx]
   simp only [oS]
   rw [Ku (by omega), AK (by omega)]
   simp only [oS]
   cases x.getD i false <;> rfl)
  (fun n => by rw [A1, AG (by omega)]) N 0 (by omega) (by omega)
 simpa [EU] using this
theorem Ji (N : Nat) (t : Ab) (h : t.fj.length < N) (hN : N ≤ 1000000) (hsq : ∀ row, row ∈ t.fj → row.length = t.fj.length) (j : Option Int) :
  Bu N t (fun _ => j) N 0 = Bm (EU t.fj) j := by
 have := CF (Bu N t (fun _ => j)) t.fj j (fun i row => if row.getD i false then none else some 1)
  (fun n i x hx => by
   have hi := (lI.1 hx).1
   have hl := hsq x (lM hx)
   rw [Bu, AJ (by omega), BA, hx]
   simp only [oS]
   rw [Ku (by omega), AK (by omega)]
   simp only [oS]
   cases x.getD i false <;> rfl)
  (fun n => by rw [Bu, AG (by omega)]) N 0 (by omega) (by omega)
 simpa [EU] using this
theorem H7 {l : List (List Bool)} {n m : Int} (h : sq l n m = true) : (l.length : Int) = n ∧ ∀ row, row ∈ l → (row.length : Int) = m := by
 unfold sq at h
 simp only [Bool.and_eq_true, decide_eq_true_eq, List.all_eq_true] at h
 exact h
def BO (p : Aa) (t : Ab) : Int :=
 if t.fe < 1 ∨ 4 < t.fe ∨ (t.fo = true ∧ (t.fe = 3 ∨ t.fe = 4)) then 1
 else if t.fd < 0 ∨ (p.fa.length : Int) ≤ t.fd ∨ t.fi < 0 ∨ (p.fa.length : Int) ≤ t.fi then 4
 else
  let f := p.fa.getD t.fd.toNat 0
  let g := p.fa.getD t.fi.toNat 0
  if sq t.ff f g = false then 6
  else if t.fe = 4 then (if sq t.fj f f = false then 6 else (EU t.fj).getD 0)
  else if t.fj.length = 0 then 0 else 6
theorem Ey {α : Type} {xs : List α} {i : Int} {d : α} (h0 : 0 ≤ i) (h1 : i < (xs.length : Int)) : CC xs i = some (xs.getD i.toNat d) := by
 obtain ⟨k, rfl⟩ := Int.eq_ofNat_of_zero_le h0
 rw [BA, lD, Int.toNat_natCast]
 simp [show k < xs.length from by omega]
theorem MF {t : Ab} (A B : Option Int) (hk : ¬ (t.fo = true ∧ (t.fe = 3 ∨ t.fe = 4))) : A6 t.fo (A6 (t.fe == 3 || t.fe == 4) A B) B = B := by
 cases ha : t.fo
 ·rfl
 ·have : (t.fe == 3 || t.fe == 4) = false := by
   rw [Bool.or_eq_false_iff]
   constructor
   ·simp only [beq_eq_false_iff_ne]; intro h; exact hk ⟨ha, .inl h⟩
   ·simp only [beq_eq_false_iff_ne]; intro h; exact hk ⟨ha, .inr h⟩
  rw [this]; rfl
theorem Gj {p : Aa} {i : Int} (hv : ∀ v, v ∈ p.fa → 1 ≤ v ∧ v ≤ 6) (h0 : 0 ≤ i) (h1 : i < (p.fa.length : Int)) : 1 ≤ p.fa.getD i.toNat 0 ∧ p.fa.getD i.toNat 0 ≤ 6 := by
 refine hv _ ?_
 rw [lD, List.getElem?_eq_getElem (by omega)]
 exact List.getElem_mem _
theorem L1 (N : Nat) (p : Aa) (t : Ab) (hN : N ≤ 1000000) (h6 : 7 ≤ N) (hv : ∀ v, v ∈ p.fa → 1 ≤ v ∧ v ≤ 6) : Ce N p t = some (BO p t) := by
 unfold Ce BO
 simp only [BS, HJ, oS]
 by_cases k1 : t.fe < 1
 ·simp [k1]
 by_cases k2 : 4 < t.fe
 ·simp [k1, k2]
 rw [AG k1, AG k2]
 by_cases hk : t.fo = true ∧ (t.fe = 3 ∨ t.fe = 4)
 ·obtain ⟨ha, k | k⟩ := hk <;> simp [ha, k]
 rw [AH, MF _ _ hk, if_neg (fun h => h.elim k1 fun h => h.elim k2 hk)]
 by_cases f1 : t.fd < 0
 ·simp [f1]
 by_cases f2 : (p.fa.length : Int) ≤ t.fd
 ·simp [f1, f2]
 by_cases f3 : t.fi < 0
 ·simp [f1, f2, f3]
 by_cases f4 : (p.fa.length : Int) ≤ t.fi
 ·simp [f1, f2, f3, f4]
 rw [AG f1, AG f2, AG f3, if_neg (fun h => h.elim f1 fun h => h.elim f2 fun h => h.elim f3 f4)]
 have hf := Gj hv (i := t.fd) (by omega) (by omega)
 rw [decide_eq_false f4, AH, Ey (d := 0) (by omega : 0 ≤ t.fd) (by omega), Ey (d := 0) (by omega : 0 ≤ t.fi) (by omega)]
 simp only [oS]
 generalize p.fa.getD t.fd.toNat 0 = f at *
 generalize p.fa.getD t.fi.toNat 0 = g at *
 rw [JD N t.ff f g (by omega) hN, JD N t.fj f f (by omega) hN]
 simp only [oS]
 cases hq : sq t.ff f g
 ·rfl
 simp only [Bool.not_true, AH]
 by_cases k4 : t.fe = 4
 ·have : (t.fe != 4) = false := by simp [k4]
  rw [this, AH]
  simp only [k4, if_true]
  cases hr : sq t.fj f f
  ·rfl
  ·have h7 := H7 hr
   simp only [Bool.not_true, AH]
   rw [NZ N t (by omega) hN (fun row hm => by have := h7.2 row hm; omega)]
   cases EU t.fj <;> simp [Bm]
 ·have : (t.fe != 4) = true := by simpa using k4
  rw [this, Da]
  simp only [k4, if_false]
  by_cases hr : t.fj.length = 0
  ·simp [hr]
  ·have : ((t.fj.length : Int) != 0) = true := bne_iff_ne.2 (by omega)
   rw [this]; simp [hr]
theorem NO (N : Nat) (k : Int) (a : Bool) : DG N k a = some (k == 1 || (k == 2 || ((k == 3 || k == 4) && !a))) := by
 unfold DG
 simp only [BS]
 cases h1 : k == 1 <;> cases h2 : k == 2 <;> cases h3 : k == 3 <;> cases h4 : k == 4 <;> cases a <;> rfl
theorem IY (N : Nat) (p : Aa) (t : Ab) (hN : N ≤ 1000000) (h6 : 7 ≤ N) (hv : ∀ v, v ∈ p.fa → 1 ≤ v ∧ v ≤ 6) : Dl N p t = some (BO p t) := by
 unfold Dl BO
 simp only [BS, NO, Jo, oS]
 by_cases hb : t.fe < 1 ∨ 4 < t.fe ∨ (t.fo = true ∧ (t.fe = 3 ∨ t.fe = 4))
 ·have : (t.fe == 1 || (t.fe == 2 || ((t.fe == 3 || t.fe == 4) && !t.fo))) = false := by
   rcases hb with h | h | ⟨ha, h | h⟩
   ·rw [beq_eq_false_iff_ne.2 (by omega : t.fe ≠ 1), beq_eq_false_iff_ne.2 (by omega : t.fe ≠ 2), beq_eq_false_iff_ne.2 (by omega : t.fe ≠ 3), beq_eq_false_iff_ne.2 (by omega : t.fe ≠ 4)]; rfl
   ·rw [beq_eq_false_iff_ne.2 (by omega : t.fe ≠ 1), beq_eq_false_iff_ne.2 (by omega : t.fe ≠ 2), beq_eq_false_iff_ne.2 (by omega : t.fe ≠ 3), beq_eq_false_iff_ne.2 (by omega : t.fe ≠ 4)]; rfl
   ·simp [ha, h]
   ·simp [ha, h]
  rw [this, if_pos hb]; rfl
 ·have : (t.fe == 1 || (t.fe == 2 || ((t.fe == 3 || t.fe == 4) && !t.fo))) = true := by
   have hk : t.fe = 1 ∨ t.fe = 2 ∨ t.fe = 3 ∨ t.fe = 4 := by
    have h1 : ¬ t.fe < 1 := fun h => hb (.inl h)
    have h2 : ¬ 4 < t.fe := fun h => hb (.inr (.inl h))
    omega
   rcases hk with h | h | h | h
   ·simp [h]
   ·simp [h]
   ·cases ha : t.fo
    ·simp [h]
    ·exact (hb (.inr (.inr ⟨ha, .inl h⟩))).elim
   ·cases ha : t.fo
    ·simp [h]
    ·exact (hb (.inr (.inr ⟨ha, .inr h⟩))).elim
  rw [this, if_neg hb]
  simp only [Bool.not_true, AH]
  by_cases f1 : t.fd < 0
  ·simp [f1, show ¬ (0 ≤ t.fd) from by omega]
  by_cases f2 : (p.fa.length : Int) ≤ t.fd
  ·simp [f2, show ¬ (t.fd < (p.fa.length : Int)) from by omega]
  by_cases f3 : t.fi < 0
  ·simp [f3, show 0 ≤ t.fd from by omega, show t.fd < (p.fa.length : Int) from by omega, show ¬ (0 ≤ t.fi) from by omega]
  by_cases f4 : (p.fa.length : Int) ≤ t.fi
  ·simp [f4, show 0 ≤ t.fd from by omega, show t.fd < (p.fa.length : Int) from by omega, show ¬ (t.fi < (p.fa.length : Int)) from by omega]
  rw [if_neg (fun h => h.elim f1 fun h => h.elim f2 fun h => h.elim f3 f4)]
  have hf := Gj hv (i := t.fd) (by omega) (by omega)
  have hg := Gj hv (i := t.fi) (by omega) (by omega)
  rw [decide_eq_true (by omega : 0 ≤ t.fd), decide_eq_true (by omega : t.fd < (p.fa.length : Int)), decide_eq_true (by omega : 0 ≤ t.fi), decide_eq_true (by omega : t.fi < (p.fa.length : Int)), Ey (d := 0) (by omega : 0 ≤ t.fd) (by omega), Ey (d := 0) (by omega : 0 ≤ t.fi) (by omega)]
  simp only [Bool.and_self, Bool.not_true, AH, oS]
  generalize p.fa.getD t.fd.toNat 0 = f at *
  generalize p.fa.getD t.fi.toNat 0 = g at *
  rw [JB N t.ff f g (by omega) hN, JB N t.fj f f (by omega) hN]
  simp only [oS]
  cases hq : sq t.ff f g
  ·rfl
  simp only [Bool.not_true, AH]
  by_cases k4 : t.fe = 4
  ·simp only [k4, beq_self_eq_true, Da, if_true]
   cases hr : sq t.fj f f
   ·rfl
   ·have h7 := H7 hr
    simp only [Bool.not_true, AH]
    rw [Ji N t (by omega) hN (fun row hm => by have := h7.2 row hm; omega)]
    cases EU t.fj <;> simp [Bm]
  ·have : (t.fe == 4) = false := beq_eq_false_iff_ne.2 k4
   rw [this, AH]
   simp only [k4, if_false, Bool.not_false, Da]
   by_cases hr : t.fj.length = 0
   ·rw [Ji N t (by omega) hN (fun row hm => by rw [List.eq_nil_of_length_eq_zero hr] at hm; cases hm), List.eq_nil_of_length_eq_zero hr]
    simp [EU, Cd, Bm]
   ·rw [decide_eq_true (by omega : 0 < (t.fj.length : Int))]
    simp [hr]
def CN (p : Aa) (i : Nat) (v : Int) : Option Int :=
 if v < 1 ∨ 6 < v ∨ p.fk.getD i 0 < 0 ∨ v ≤ p.fk.getD i 0 ∨ p.fm.getD i 0 < 0 ∨ v ≤ p.fm.getD i 0 then some 7 else none
def Gl (p : Aa) (_ : Nat) (t : Ab) : Option Int := if BO p t = 0 then none else some (BO p t)
def Cq (p : Aa) : Int :=
 if 6 < p.fa.length ∨ 12 < p.fb.length then 3
 else if p.fk.length ≠ p.fa.length ∨ p.fm.length ≠ p.fa.length then 6
 else ((Bm (Cd (CN p) 0 p.fa) (Cd (Gl p) 0 p.fb)).getD 0)
theorem El {α R : Type} {f : Nat → α → Option R} : ∀ {i : Nat} {xs : List α}, Cd f i xs = none → ∀ j x, xs[j]? = some x → f (i + j) x = none
 | _, [], _, j, x, hx => by simp at hx
 | i, y :: ys, h, j, x, hx => by
  rw [Dz] at h
  split at h
  ·cases h
  ·rename_i h0
   cases j with
   | zero => simp at hx; subst hx; exact h0
   | succ j =>
    have := El h j x (by simpa using hx)
    rwa [show i + 1 + j = i + (j + 1) from by omega] at this
theorem Il {p : Aa} (h : Cd (CN p) 0 p.fa = none) : ∀ v, v ∈ p.fa → 1 ≤ v ∧ v ≤ 6 := by
 intro v hv
 obtain ⟨i, hi⟩ := List.mem_iff_getElem?.1 hv
 have := El h i v hi
 unfold CN at this
 split at this
 ·cases this
 ·rename_i hn
  constructor
  ·exact Int.not_lt.1 fun h => hn (.inl h)
  ·exact Int.not_lt.1 fun h => hn (.inr (.inl h))
theorem DQ {α : Type} {xs : List α} {i : Nat} {d : α} (h : i < xs.length) : CC xs (i : Int) = some (xs.getD i d) := by
 rw [BA, lD]; simp [h]
theorem K4 (N : Nat) (p : Aa) (hN : N ≤ 1000000) (h1 : p.fa.length < N) (h2 : p.fk.length = p.fa.length) (h3 : p.fm.length = p.fa.length) (j : Option Int) :
  Ay N p (fun _ => j) N 0 = Bm (Cd (CN p) 0 p.fa) j := by
 have := CF (Ay N p (fun _ => j)) p.fa j (CN p)
  (fun n i x hx => by
   have hi := (lI.1 hx).1
   rw [Ay, AJ (by omega), BA, hx]
   simp only [oS, BS]
   rw [DQ (d := 0) (by omega), DQ (d := 0) (by omega), AK (by omega)]
   simp only [oS]
   unfold CN
   generalize p.fk.getD i 0 = a
   generalize p.fm.getD i 0 = b
   by_cases k1 : x < 1 <;> by_cases k2 : 6 < x <;> by_cases k3 : a < 0 <;> by_cases k4 : x ≤ a <;> by_cases k5 : b < 0 <;> by_cases k6 : x ≤ b <;> simp [k1, k2, k3, k4, k5, k6, Bm])
  (fun n => by rw [Ay, AG (by omega)]) N 0 (by omega) (by omega)
 simpa using this
theorem JP (N : Nat) (p : Aa) (hN : N ≤ 1000000) (h1 : p.fa.length < N) (h2 : p.fk.length = p.fa.length) (h3 : p.fm.length = p.fa.length) (j : Option Int) :
  A3 N p (fun _ => j) N 0 = Bm (Cd (CN p) 0 p.fa) j := by
 have := CF (A3 N p (fun _ => j)) p.fa j (CN p)
  (fun n i x hx => by
   have hi := (lI.1 hx).1
   rw [A3, AJ (by omega), BA, hx]
   simp only [oS, BS, Jo]
   rw [DQ (d := 0) (by omega), DQ (d := 0) (by omega), AK (by omega)]
   simp only [oS]
   unfold CN
   generalize p.fk.getD i 0 = a
   generalize p.fm.getD i 0 = b
   have e1 : decide (0 ≤ a) = !decide (a < 0) := by rw [← decide_not]; congr 1; simp
   have e2 : decide (a < x) = !decide (x ≤ a) := by rw [← decide_not]; congr 1; simp
   have e3 : decide (0 ≤ b) = !decide (b < 0) := by rw [← decide_not]; congr 1; simp
   have e4 : decide (b < x) = !decide (x ≤ b) := by rw [← decide_not]; congr 1; simp
   rw [e1, e2, e3, e4]
   by_cases k1 : x < 1 <;> by_cases k2 : 6 < x <;> by_cases k3 : a < 0 <;> by_cases k4 : x ≤ a <;> by_cases k5 : b < 0 <;> by_cases k6 : x ≤ b <;> simp [k1, k2, k3, k4, k5, k6, Bm])
  (fun n => by rw [A3, AG (by omega)]) N 0 (by omega) (by omega)
 simpa using this
theorem ME (N : Nat) (p : Aa) (hN : N ≤ 1000000) (h6 : 7 ≤ N) (h1 : p.fb.length < N) (hv : ∀ v, v ∈ p.fa → 1 ≤ v ∧ v ≤ 6) (j : Option Int) :
  Ax N p (fun _ => j) N 0 = Bm (Cd (Gl p) 0 p.fb) j := by
 have := CF (Ax N p (fun _ => j)) p.fb j (Gl p)
  (fun n i x hx => by
   have hi := (lI.1 hx).1
   rw [Ax, AJ (by omega), BA, hx]
   simp only [oS]
   rw [L1 N p x hN h6 hv, AK (by omega)]
   simp only [oS]
   unfold Gl
   by_cases k : BO p x = 0
   ·simp [k, Bm]
   ·rw [bne_iff_ne.2 k, if_neg k]; rfl)
  (fun n => by rw [Ax, AG (by omega)]) N 0 (by omega) (by omega)
 simpa using this
theorem KX (N : Nat) (p : Aa) (hN : N ≤ 1000000) (h6 : 7 ≤ N) (h1 : p.fb.length < N) (hv : ∀ v, v ∈ p.fa → 1 ≤ v ∧ v ≤ 6) (j : Option Int) :
  AU N p (fun _ => j) N 0 = Bm (Cd (Gl p) 0 p.fb) j := by
 have := CF (AU N p (fun _ => j)) p.fb j (Gl p)
  (fun n i x hx => by
   have hi := (lI.1 hx).1
   rw [AU, AJ (by omega), BA, hx]
   simp only [oS]
   rw [IY N p x hN h6 hv, AK (by omega)]
   simp only [oS]
   unfold Gl
   by_cases k : BO p x = 0
   ·simp [k, Bm]
   ·rw [bne_iff_ne.2 k, if_neg k]; rfl)
  (fun n => by rw [AU, AG (by omega)]) N 0 (by omega) (by omega)
 simpa using this
theorem I1 (N : Nat) (p : Aa) (hN : N ≤ 1000000) (h : 20 ≤ N) : AX N p = some (Cq p) := by
 unfold AX Cq
 simp only [BS]
 by_cases k1 : 6 < p.fa.length
 ·rw [AJ (by omega)]; simp [k1]
 rw [AG (by omega)]
 by_cases k2 : 12 < p.fb.length
 ·rw [decide_eq_true (by omega : (12 : Int) < (p.fb.length : Int))]; simp [k2]
 rw [decide_eq_false (by omega : ¬ (12 : Int) < (p.fb.length : Int)), AH, if_neg (by omega)]
 by_cases k3 : p.fk.length = p.fa.length
 ·by_cases k4 : p.fm.length = p.fa.length
  ·rw [k3, k4]
   simp only [bne_self_eq_false, AH, ne_eq, not_true_eq_false, or_self, if_false]
   rw [K4 N p hN (by omega) k3 k4]
   cases hs : Cd (CN p) 0 p.fa with
   | some r => rfl
   | none =>
    simp only [Bm]
    rw [ME N p hN (by omega) (by omega) (Il hs)]
    cases Cd (Gl p) 0 p.fb <;> rfl
  ·have : ((p.fm.length : Int) != (p.fa.length : Int)) = true := bne_iff_ne.2 (by omega)
   rw [this, k3]; simp [k4]
 ·have : ((p.fk.length : Int) != (p.fa.length : Int)) = true := bne_iff_ne.2 (by omega)
  rw [this]; simp [k3]
theorem J6 (N : Nat) (p : Aa) (hN : N ≤ 1000000) (h : 20 ≤ N) : Ca N p = some (Cq p) := by
 unfold Ca Cq
 simp only [BS]
 by_cases k1 : 6 < p.fa.length
 ·rw [AJ (by omega)]; simp [k1]
 rw [AG (by omega)]
 by_cases k2 : 12 < p.fb.length
 ·rw [decide_eq_true (by omega : (12 : Int) < (p.fb.length : Int))]; simp [k2]
 rw [decide_eq_false (by omega : ¬ (12 : Int) < (p.fb.length : Int)), AH, if_neg (by omega)]
 by_cases k3 : p.fk.length = p.fa.length
 ·by_cases k4 : p.fm.length = p.fa.length
  ·rw [k3, k4]
   simp only [bne_self_eq_false, AH, ne_eq, not_true_eq_false, or_self, if_false]
   rw [JP N p hN (by omega) k3 k4]
   cases hs : Cd (CN p) 0 p.fa with
   | some r => rfl
   | none =>
    simp only [Bm]
    rw [KX N p hN (by omega) (by omega) (Il hs)]
    cases Cd (Gl p) 0 p.fb <;> rfl
  ·have : ((p.fm.length : Int) != (p.fa.length : Int)) = true := bne_iff_ne.2 (by omega)
   rw [this, k3]; simp [k4]
 ·have : ((p.fk.length : Int) != (p.fa.length : Int)) = true := bne_iff_ne.2 (by omega)
  rw [this]; simp [k3]
theorem E3 {n : Int} (h : GF n) : 0 ≤ n ∧ n ≤ 255 := by
 unfold GF at h
 simpa [Lit.wf, IntKind.min, IntKind.max, IntKind.signed, IntKind.bits] using h
theorem I5 : ∀ k : Fin 256, C7 .u8 0 (k.val : Int) = 0 := by decide +kernel
theorem Jf : ∀ k : Fin 256, C7 .u8 (k.val : Int) 0 = (k.val : Int) := by decide +kernel
theorem Ms {n : Int} (h : GF n) : C7 .u8 0 n = 0 := by
 have := E3 h
 obtain ⟨k, rfl⟩ := Int.eq_ofNat_of_zero_le this.1
 exact I5 ⟨k, by omega⟩
theorem Mu {n : Int} (h : GF n) : C7 .u8 n 0 = n := by
 have := E3 h
 obtain ⟨k, rfl⟩ := Int.eq_ofNat_of_zero_le this.1
 exact Jf ⟨k, by omega⟩
theorem DS {α R : Type} {f : Nat → α → Option R} : ∀ {i : Nat} {xs : List α} {r : R}, Cd f i xs = some r → ∃ j x, xs[j]? = some x ∧ f (i + j) x = some r
 | _, [], _, h => by cases h
 | i, y :: ys, r, h => by
  rw [Dz] at h
  split at h
  ·rename_i r' h0
   cases h
   exact ⟨0, y, rfl, h0⟩
  ·obtain ⟨j, x, h1, h2⟩ := DS h
   exact ⟨j + 1, x, by simpa using h1, by rwa [show i + (j + 1) = i + 1 + j from by omega]⟩
structure CM (p : Aa) : Prop where
 nv : p.fa.length ≤ 6
 nt : p.fb.length ≤ 12
 now : p.fk.length = p.fa.length
 tgt : p.fm.length = p.fa.length
 ver : ∀ v, v ∈ p.fa → 1 ≤ v ∧ v ≤ 6
 tab : ∀ t, t ∈ p.fb → BO p t = 0
theorem K7 (l : List (List Bool)) : (EU l).getD 0 = 0 ∨ (EU l).getD 0 = 1 := by
 cases h : EU l with
 | none => exact .inl rfl
 | some r =>
  obtain ⟨j, x, _, h⟩ := DS h
  split at h
  ·cases h
  ·cases h; exact .inr rfl
theorem JQ (p : Aa) (t : Ab) : BO p t = 0 ∨ BO p t = 1 ∨ BO p t = 4 ∨ BO p t = 6 := by
 unfold BO
 split
 ·exact .inr (.inl rfl)
 split
 ·exact .inr (.inr (.inl rfl))
 simp only
 split
 ·exact .inr (.inr (.inr rfl))
 split
 ·split
  ·exact .inr (.inr (.inr rfl))
  ·rcases K7 t.fj with h | h
   ·exact .inl h
   ·exact .inr (.inl h)
 ·split
  ·exact .inl rfl
  ·exact .inr (.inr (.inr rfl))
theorem FU (p : Aa) : (Cq p = 0 ∧ CM p) ∨ (Cq p = 1 ∨ Cq p = 3 ∨ Cq p = 4 ∨ Cq p = 6 ∨ Cq p = 7) := by
 unfold Cq
 split
 ·simp
 rename_i k1
 split
 ·simp
 rename_i k2
 cases hs : Cd (CN p) 0 p.fa with
 | some r =>
  obtain ⟨j, x, _, h⟩ := DS hs
  unfold CN at h
  split at h
  ·cases h; simp [Bm]
  ·cases h
 | none =>
  cases ht : Cd (Gl p) 0 p.fb with
  | some r =>
   obtain ⟨j, t, _, h⟩ := DS ht
   unfold Gl at h
   split at h
   ·cases h
   ·rename_i hne
    cases h
    simp only [Bm, Option.getD_some]
    right
    rcases JQ p t with h | h | h | h
    ·exact (hne h).elim
    ·exact .inl h
    ·exact .inr (.inr (.inl h))
    ·exact .inr (.inr (.inr (.inl h)))
  | none =>
   left
   refine ⟨rfl, by omega, by omega, by omega, by omega, Il hs, fun t hm => ?_⟩
   obtain ⟨j, hj⟩ := List.mem_iff_getElem?.1 hm
   have := El ht j t hj
   unfold Gl at this
   split at this
   ·assumption
   ·cases this
def Hb (m : Af) (s : Nat) : Int :=
 if 0 ≤ m.fc.getD s 0 then Lg .u8 (C5 .u8 1 (m.fh.getD s 0)) (C5 .u8 1 (m.fc.getD s 0)) else C5 .u8 1 (m.fh.getD s 0)
def I2 (m : Af) (i : Nat) (v : Int) : Option Int :=
 if m.fh.getD i 0 < 0 ∨ v ≤ m.fh.getD i 0 ∨ m.fc.getD i 0 < -1 ∨ v ≤ m.fc.getD i 0 then some 7
 else if m.fh.getD i 0 = m.fc.getD i 0 then some 1 else none
def BG (t : Ab) : Bool := t.fe == 3 || t.fe == 4
def NC (p : Aa) (t : Ab) : Int := wI .u8 (C5 .u8 1 (p.fa.getD t.fd.toNat 0) - 1)
def Fu (p : Aa) (m : Af) (i : Nat) (t : Ab) : Option Int :=
 if BG t = true then (if C7 .u8 (Hb m t.fd.toNat) (m.fg.getD i 0) ≠ 0 ∨ C7 .u8 (m.fg.getD i 0) (NC p t) ≠ 0 then some 1 else none)
 else if m.fg.getD i 0 ≠ 0 then some 1 else none
def Du (p : Aa) (m : Af) : Int :=
 if Cq p ≠ 0 then Cq p
 else if m.fh.length ≠ p.fa.length ∨ m.fc.length ≠ p.fa.length ∨ m.fg.length ≠ p.fb.length then 6
 else (Bm (Cd (I2 m) 0 p.fa) (Cd (Fu p m) 0 p.fb)).getD 0
theorem MX {p : Aa} {t : Ab} (h : BO p t = 0) : 0 ≤ t.fd ∧ t.fd < (p.fa.length : Int) ∧ 0 ≤ t.fi ∧ t.fi < (p.fa.length : Int) := by
 unfold BO at h
 split at h
 ·cases h
 ·split at h
  ·cases h
  ·omega
theorem GO (N : Nat) (m : Af) (s : Int) (h0 : 0 ≤ s) (h1 : s < (m.fh.length : Int)) (h2 : s < (m.fc.length : Int)) (hb : 0 ≤ m.fh.getD s.toNat 0) : Cz N m s = some (Hb m s.toNat) := by
 unfold Cz Hb
 rw [Ey (d := 0) h0 h1, Ey (d := 0) h0 h2]
 simp only [oS, BS]
 rw [show DO (0 ≤ m.fh.getD s.toNat 0) = some () from by unfold DO; rw [if_pos hb]]
 simp only [oS]
 by_cases h : 0 ≤ m.fc.getD s.toNat 0
 ·rw [AJ h, if_pos h, show DO (0 ≤ m.fc.getD s.toNat 0) = some () from by unfold DO; rw [if_pos h]]; rfl
 ·rw [AG h, if_neg h]
theorem KU (N : Nat) (m : Af) (s : Int) (h0 : 0 ≤ s) (h1 : s < (m.fh.length : Int)) (h2 : s < (m.fc.length : Int)) (hb : 0 ≤ m.fh.getD s.toNat 0) : B0 N m s = some (Hb m s.toNat) := by
 unfold B0 Hb
 rw [Ey (d := 0) h0 h1, Ey (d := 0) h0 h2]
 simp only [oS, BS]
 rw [show DO (0 ≤ m.fh.getD s.toNat 0) = some () from by unfold DO; rw [if_pos hb]]
 simp only [oS]
 by_cases h : 0 ≤ m.fc.getD s.toNat 0
 ·rw [AJ h, if_pos h, show DO (0 ≤ m.fc.getD s.toNat 0) = some () from by unfold DO; rw [if_pos h]]; rfl
 ·rw [AG h, if_neg h]
theorem Ka (N : Nat) (p : Aa) (m : Af) (hN : N ≤ 1000000) (h1 : p.fa.length < N) (h2 : m.fh.length = p.fa.length) (h3 : m.fc.length = p.fa.length) (j : Option Int) :
  B4 N p m (fun _ => j) N 0 = Bm (Cd (I2 m) 0 p.fa) j := by
 have := CF (B4 N p m (fun _ => j)) p.fa j (I2 m)
  (fun n i x hx => by
   have hi := (lI.1 hx).1
   rw [B4, AJ (by omega), BA, hx]
   simp only [oS, BS]
   rw [DQ (d := 0) (by omega), DQ (d := 0) (by omega), AK (by omega)]
   simp only [oS]
   unfold I2
   generalize m.fh.getD i 0 = a
   generalize m.fc.getD i 0 = b
   by_cases k7 : a = b
   ·subst k7
    by_cases k3 : a < 0 <;> by_cases k4 : x ≤ a <;> by_cases k5 : a < -1 <;> simp [k3, k4, k5, Bm]
   ·have k8 : (a == b) = false := beq_eq_false_iff_ne.2 k7
    by_cases k3 : a < 0 <;> by_cases k4 : x ≤ a <;> by_cases k5 : b < -1 <;> by_cases k6 : x ≤ b <;> simp [k3, k4, k5, k6, k7, k8, Bm])
  (fun n => by rw [B4, AG (by omega)]) N 0 (by omega) (by omega)
 simpa using this
structure MixServ (p : Aa) (m : Af) : Prop where
 base : m.fh.length = p.fa.length
 next : m.fc.length = p.fa.length
 held : m.fg.length = p.fb.length
 b0 : ∀ i, i < p.fa.length → 0 ≤ m.fh.getD i 0 ∧ m.fh.getD i 0 < p.fa.getD i 0
 n0 : ∀ i, i < p.fa.length → -1 ≤ m.fc.getD i 0 ∧ m.fc.getD i 0 < p.fa.getD i 0
 ne : ∀ i, i < p.fa.length → m.fh.getD i 0 ≠ m.fc.getD i 0
theorem LC {p : Aa} {m : Af} (h2 : m.fh.length = p.fa.length) (h3 : m.fc.length = p.fa.length) (h4 : m.fg.length = p.fb.length) (h : Cd (I2 m) 0 p.fa = none) : MixServ p m := by
 have key : ∀ i, i < p.fa.length → ¬ (m.fh.getD i 0 < 0 ∨ p.fa.getD i 0 ≤ m.fh.getD i 0 ∨ m.fc.getD i 0 < -1 ∨ p.fa.getD i 0 ≤ m.fc.getD i 0) ∧ ¬ m.fh.getD i 0 = m.fc.getD i 0 := by
  intro i hi
  have hx : p.fa[i]? = some (p.fa.getD i 0) := by rw [lD]; simp [hi]
  have := El h i _ hx
  rw [Nat.zero_add] at this
  unfold I2 at this
  split at this
  ·cases this
  ·split at this
   ·cases this
   ·rename_i k1 k2; exact ⟨k1, k2⟩
 exact ⟨h2, h3, h4, fun i hi => by have := (key i hi).1; omega, fun i hi => by have := (key i hi).1; omega, fun i hi => (key i hi).2⟩
theorem KJ {m : Af} (hw : HB GF m.fg) {i : Nat} (h : i < m.fg.length) : GF (m.fg.getD i 0) := by
 refine hw _ ?_
 rw [lD, List.getElem?_eq_getElem h]
 exact List.getElem_mem _
theorem GB (N : Nat) (t : Ab) : Db N t = some (BG t) := by
 unfold Db BG
 simp only [BS]
 cases h : t.fe == 3 <;> simp
theorem GD (N : Nat) (t : Ab) : Bh N t = some (BG t) := HJ N t
theorem Lc (N : Nat) (p : Aa) (m : Af) (hN : N ≤ 1000000) (h1 : p.fb.length < N) (hp : CM p) (hm : MixServ p m) (hw : HB GF m.fg) (j : Option Int) :
  BP N p m (fun _ => j) N 0 = Bm (Cd (Fu p m) 0 p.fb) j := by
 have := CF (BP N p m (fun _ => j)) p.fb j (Fu p m)
  (fun n i x hx => by
   have hi := (lI.1 hx).1
   have hin := MX (hp.tab x (lM hx))
   have hheld := KJ hw (show i < m.fg.length from by rw [hm.held]; exact hi)
   have hv := Gj hp.ver hin.1 hin.2.1
   rw [BP, AJ (by omega), BA, hx]
   simp only [oS, BS, GB]
   rw [GO N m x.fd hin.1 (by rw [hm.base]; exact hin.2.1) (by rw [hm.next]; exact hin.2.1) (hm.b0 _ (by omega)).1, Ey (d := 0) hin.1 hin.2.1, DQ (d := 0) (show i < m.fg.length from by rw [hm.held]; exact hi), AK (by omega)]
   simp only [oS]
   rw [show DO (0 ≤ p.fa.getD x.fd.toNat 0) = some () from by unfold DO; rw [if_pos (by omega)]]
   simp only [oS]
   unfold Fu NC
   rw [Ms hheld, Mu hheld]
   generalize C7 .u8 (Hb m x.fd.toNat) (m.fg.getD i 0) = A
   generalize C7 .u8 (m.fg.getD i 0) (wI .u8 (C5 .u8 1 (p.fa.getD x.fd.toNat 0) - 1)) = B
   generalize m.fg.getD i 0 = H
   cases BG x
   ·simp only [AH, bne_self_eq_false]
    by_cases k : H = 0
    ·simp [k, Bm]
    ·have : (H != 0) = true := bne_iff_ne.2 k
     simp [k, this, Bm]
   ·simp only [Da]
    by_cases k : A = 0
    ·by_cases k2 : B = 0
     ·simp [k, k2, Bm]
     ·have : (B != 0) = true := bne_iff_ne.2 k2
      simp [k, k2, this, Bm]
    ·have : (A != 0) = true := bne_iff_ne.2 k
     simp [k, this, Bm])
  (fun n => by rw [BP, AG (by omega)]) N 0 (by omega) (by omega)
 simpa using this
theorem Hc (N : Nat) (p : Aa) (m : Af) (hN : N ≤ 1000000) (h : 20 ≤ N) (hw : HB GF m.fg) : Dv N p m = some (Du p m) := by
 unfold Dv Du
 rw [J6 N p hN h]
 simp only [oS, BS]
 by_cases k0 : Cq p = 0
 ·have hp : CM p := by
   rcases FU p with h | h
   ·exact h.2
   ·omega
  have hnv := hp.nv
  have hnt := hp.nt
  rw [k0]
  simp only [bne_self_eq_false, AH, ne_eq, not_true_eq_false, if_false]
  by_cases k1 : m.fh.length = p.fa.length
  ·by_cases k2 : m.fc.length = p.fa.length
   ·by_cases k3 : m.fg.length = p.fb.length
    ·rw [k1, k2, k3]
     simp only [bne_self_eq_false, AH, not_true_eq_false, or_self, if_false]
     rw [Ka N p m hN (by omega) k1 k2]
     cases hs : Cd (I2 m) 0 p.fa with
     | some r => rfl
     | none =>
      simp only [Bm]
      rw [Lc N p m hN (by omega) hp (LC k1 k2 k3 hs) hw]
      cases Cd (Fu p m) 0 p.fb <;> rfl
    ·have : ((m.fg.length : Int) != (p.fb.length : Int)) = true := bne_iff_ne.2 (by omega)
     rw [this, k1, k2]; simp [k3]
   ·have : ((m.fc.length : Int) != (p.fa.length : Int)) = true := bne_iff_ne.2 (by omega)
    rw [this, k1]; simp [k2]
  ·have : ((m.fh.length : Int) != (p.fa.length : Int)) = true := bne_iff_ne.2 (by omega)
   rw [this]; simp [k1]
 ·rw [bne_iff_ne.2 k0]; simp [k0]
@[simp] theorem BK {α β : Type} (k : α) (f : α → β) : BS k f = f k := rfl
@[simp] theorem MD {p : Prop} [Decidable p] (h : p) : DO p = some () := by unfold DO; rw [if_pos h]
theorem Aq {β : Type} {p : Prop} [Decidable p] (h : p) (f : Unit → Option β) : (DO p).bind f = f () := by rw [MD h]; rfl
def DB {α β : Type} (g : Nat → α → List β) : Nat → List α → List β
 | _, [] => []
 | i, x :: xs => g i x ++ DB g (i + 1) xs
def Gm {α A : Type} (f : Nat → α → A → A) : Nat → List α → A → A
 | _, [], a => a
 | i, x :: xs, a => Gm f (i + 1) xs (f i x a)
theorem HF {α β : Type} {g : Nat → α → List β} {y : β} : ∀ {i : Nat} {xs : List α}, y ∈ DB g i xs ↔ ∃ j x, xs[j]? = some x ∧ y ∈ g (i + j) x
 | _, [] => by simp [DB]
 | i, x :: xs => by
  rw [DB, List.mem_append, HF]
  constructor
  ·rintro (h | ⟨j, z, hz, h⟩)
   ·exact ⟨0, x, rfl, h⟩
   ·exact ⟨j + 1, z, by simpa using hz, by rwa [show i + (j + 1) = i + 1 + j from by omega]⟩
  ·rintro ⟨j, z, hz, h⟩
   cases j with
   | zero => simp at hz; subst hz; exact .inl h
   | succ j => exact .inr ⟨j, z, by simpa using hz, by rwa [show i + 1 + j = i + (j + 1) from by omega]⟩
theorem DJ {α β : Type} {g : Nat → α → List β} {i : Nat} {xs : List α} : DB g i xs = [] ↔ ∀ j x, xs[j]? = some x → g (i + j) x = [] := by
 rw [List.eq_nil_iff_forall_not_mem]
 constructor
 ·intro h j x hx
  rw [List.eq_nil_iff_forall_not_mem]
  exact fun y hy => h y (HF.2 ⟨j, x, hx, hy⟩)
 ·intro h y hy
  obtain ⟨j, x, hx, hm⟩ := HF.1 hy
  rw [h j x hx] at hm; cases hm
theorem Gu {α β : Type} {g : Nat → α → List β} {c : Nat} : ∀ {i : Nat} {xs : List α}, (∀ j x, xs[j]? = some x → (g (i + j) x).length ≤ c) → (DB g i xs).length ≤ c * xs.length
 | _, [], _ => by simp [DB]
 | i, x :: xs, h => by
  have h1 := h 0 x rfl
  have h2 := Gu (g := g) (c := c) (i := i + 1) (xs := xs) fun j y hy => by
   have := h (j + 1) y (by simpa using hy)
   rwa [show i + (j + 1) = i + 1 + j from by omega] at this
  rw [DB, List.length_append, List.length_cons, Nat.mul_add]
  simp only [Nat.add_zero] at h1
  omega
theorem Hv {α A S R : Type} (L : Nat → S → Option R) (mk : A → Int → S) (xs : List α) (j : A → Option R) (f : Nat → α → A → A) (I : Nat → A → Prop)
  (hs : ∀ (n i : Nat) (x : α) (a : A), xs[i]? = some x → I i a → L (n + 1) (mk a (i : Int)) = L n (mk (f i x a) ((i + 1 : Nat) : Int)) ∧ I (i + 1) (f i x a))
  (he : ∀ (n : Nat) (a : A), I xs.length a → L (n + 1) (mk a (xs.length : Int)) = j a) :
  ∀ (n i : Nat) (a : A), i ≤ xs.length → xs.length - i < n → I i a → L n (mk a (i : Int)) = j (Gm f i (xs.drop i) a) ∧ I xs.length (Gm f i (xs.drop i) a)
 | 0, i, _, _, h, _ => by omega
 | n + 1, i, a, hi, h, ha => by
  by_cases h1 : i < xs.length
  ·have hx : xs[i]? = some xs[i] := by simp [h1]
   obtain ⟨e1, e2⟩ := hs n i _ a hx ha
   rw [e1, JH hx, Gm]
   exact Hv L mk xs j f I hs he n (i + 1) _ (by omega) (by omega) e2
  ·have : i = xs.length := by omega
   subst this
   rw [List.drop_eq_nil_of_le (Nat.le_refl _), Gm]
   exact ⟨he n a ha, ha⟩
theorem Ir {α β : Type} (g : Nat → α → List β) : ∀ (i : Nat) (xs : List α) (acc : List β), Gm (fun i x a => a ++ g i x) i xs acc = acc ++ DB g i xs
 | _, [], acc => by simp [Gm, DB]
 | i, x :: xs, acc => by rw [Gm, Ir g (i + 1) xs, DB, List.append_assoc]
theorem Gv {α β S R : Type} (L : Nat → S → Option R) (mk : List β → Int → S) (xs : List α) (j : List β → Option R) (g : Nat → α → List β) (c B : Nat)
  (hg : ∀ i x, xs[i]? = some x → (g i x).length ≤ c)
  (hs : ∀ (n i : Nat) (x : α) (a : List β), xs[i]? = some x → a.length + (g i x).length ≤ B → L (n + 1) (mk a (i : Int)) = L n (mk (a ++ g i x) ((i + 1 : Nat) : Int)))
  (he : ∀ (n : Nat) (a : List β), L (n + 1) (mk a (xs.length : Int)) = j a) (n : Nat) (a : List β) (hn : xs.length < n) (ha : a.length + c * xs.length ≤ B) :
  L n (mk a 0) = j (a ++ DB g 0 xs) := by
 have := Hv L mk xs j (fun i x a => a ++ g i x) (fun i b => i ≤ xs.length ∧ b.length ≤ a.length + c * i)
  (fun n i x b hx hb => by
   have h1 := hg i x hx
   have hi := (lI.1 hx).1
   have h2 : c * (i + 1) ≤ c * xs.length := Nat.mul_le_mul_left c hi
   have h3 : c * (i + 1) = c * i + c := Nat.mul_succ c i
   refine ⟨hs n i x b hx (by have := hb.2; omega), hi, ?_⟩
   rw [List.length_append]
   have := hb.2
   omega)
  (fun n b _ => he n b) n 0 a (Nat.zero_le _) (by omega) ⟨Nat.zero_le _, by omega⟩
 have h2 := this.1
 rw [List.drop_zero, Ir] at h2
 exact h2
def CR (s : Int) (v : Nat) : Bool := s.toNat.testBit v
def EI (m : Af) (s v : Nat) : Bool := decide (m.fh.getD s 0 = (v : Int)) || decide (m.fc.getD s 0 = (v : Int))
theorem On : ∀ (s : Fin 256) (v : Fin 8), E7 .u8 (E8 .u8 (s.val : Int) (v.val : Int)) 1 = if CR (s.val : Int) v.val then 1 else 0 := by decide +kernel
theorem N0 {s : Int} {v : Nat} (h0 : 0 ≤ s) (h1 : s ≤ 255) (hv : v < 8) : E7 .u8 (E8 .u8 s (v : Int)) 1 = if CR s v then 1 else 0 := by
 obtain ⟨k, rfl⟩ := Int.eq_ofNat_of_zero_le h0
 exact On ⟨k, by omega⟩ ⟨v, hv⟩
theorem Kq {s : Int} {v : Nat} (h0 : 0 ≤ s) (h1 : s ≤ 255) (hv : v < 8) : (E7 .u8 (E8 .u8 s (v : Int)) 1 == 0) = !CR s v := by
 rw [N0 h0 h1 hv]; cases CR s v <;> rfl
theorem Ic {s : Int} {v : Nat} (h1 : s ≤ 255) (hv : 8 ≤ v) : CR s v = false := by
 unfold CR
 apply Nat.testBit_lt_two_pow
 have : (2 : Nat) ^ 8 ≤ 2 ^ v := Nat.pow_le_pow_right (by omega) hv
 omega
theorem NR : ∀ (b : Fin 8) (v : Fin 8), CR (C5 .u8 1 (b.val : Int)) v.val = decide (b.val = v.val) ∧ 0 ≤ C5 .u8 1 (b.val : Int) ∧ C5 .u8 1 (b.val : Int) ≤ 255 := by decide +kernel
theorem NK : ∀ (b n : Fin 8) (v : Fin 8), CR (Lg .u8 (C5 .u8 1 (b.val : Int)) (C5 .u8 1 (n.val : Int))) v.val = (decide (b.val = v.val) || decide (n.val = v.val))
  ∧ 0 ≤ Lg .u8 (C5 .u8 1 (b.val : Int)) (C5 .u8 1 (n.val : Int)) ∧ Lg .u8 (C5 .u8 1 (b.val : Int)) (C5 .u8 1 (n.val : Int)) ≤ 255 := by decide +kernel
theorem KH {m : Af} {s : Nat} (hb0 : 0 ≤ m.fh.getD s 0) (hb1 : m.fh.getD s 0 < 8) (hn1 : m.fc.getD s 0 < 8) :
  (∀ v, CR (Hb m s) v = EI m s v) ∧ 0 ≤ Hb m s ∧ Hb m s ≤ 255 := by
 unfold Hb EI
 obtain ⟨b, hb⟩ := Int.eq_ofNat_of_zero_le hb0
 rw [hb] at hb1 ⊢
 by_cases h : 0 ≤ m.fc.getD s 0
 ·obtain ⟨n, hn⟩ := Int.eq_ofNat_of_zero_le h
  rw [hn] at hn1 ⊢
  rw [if_pos (by omega)]
  have h1 := NK ⟨b, by omega⟩ ⟨n, by omega⟩
  refine ⟨fun v => ?_, (h1 0).2⟩
  by_cases hv : v < 8
  ·rw [(h1 ⟨v, hv⟩).1]
   simp only [Int.ofNat_inj]
  ·rw [Ic (h1 0).2.2 (by omega)]
   simp; omega
 ·rw [if_neg h]
  have h1 := NR ⟨b, by omega⟩
  refine ⟨fun v => ?_, (h1 0).2⟩
  have h3 : decide (m.fc.getD s 0 = (v : Int)) = false := decide_eq_false (by omega)
  rw [h3, Bool.or_false]
  by_cases hv : v < 8
  ·rw [(h1 ⟨v, hv⟩).1]
   simp only [Int.ofNat_inj]
  ·rw [Ic (h1 0).2.2 (by omega)]
   simp; omega
theorem MI {a : Nat} (h : a < 256) : (BitVec.ofInt 8 (a : Int)).toNat = a := by
 simp; omega
theorem II {a b : Int} (ha : 0 ≤ a ∧ a ≤ 255) (hb : 0 ≤ b ∧ b ≤ 255) : C7 .u8 a b = 0 ↔ ∀ v, CR a v = true → CR b v = true := by
 obtain ⟨a, rfl⟩ := Int.eq_ofNat_of_zero_le ha.1
 obtain ⟨b, rfl⟩ := Int.eq_ofNat_of_zero_le hb.1
 have hA := MI (a := a) (by omega)
 have hB := MI (a := b) (by omega)
 unfold C7 CR
 simp only [IntKind.bits, Int.toNat_natCast]
 have hx : ∀ x : BitVec 8, wI .u8 (x.toNat : Int) = (x.toNat : Int) := by
  intro x
  have := x.isLt
  simp [wI, IntKind.signed, IntKind.bits]
  omega
 rw [hx]
 constructor
 ·intro h v hv
  have h0 : (BitVec.ofInt 8 (a : Int) &&& ~~~BitVec.ofInt 8 (b : Int)) = (BitVec.ofNat 8 0) := by
   apply BitVec.eq_of_toNat_eq
   simp only [BitVec.toNat_ofNat, Nat.zero_mod]
   exact Int.ofNat_inj.1 h
  by_cases hv8 : v < 8
  ·have h1 : (BitVec.ofInt 8 (a : Int) &&& ~~~BitVec.ofInt 8 (b : Int)).getLsbD v = false := by rw [h0]; simp
   rw [BitVec.getLsbD_and, BitVec.getLsbD_not] at h1
   have e1 : (BitVec.ofInt 8 (a : Int)).getLsbD v = a.testBit v := by unfold BitVec.getLsbD; rw [hA]
   have e2 : (BitVec.ofInt 8 (b : Int)).getLsbD v = b.testBit v := by unfold BitVec.getLsbD; rw [hB]
   rw [e1, e2, hv] at h1
   simpa [hv8] using h1
  ·have := Ic (s := (a : Int)) (v := v) (by omega) (by omega)
   unfold CR at this
   rw [Int.toNat_natCast, hv] at this
   cases this
 ·intro h
  have h0 : (BitVec.ofInt 8 (a : Int) &&& ~~~BitVec.ofInt 8 (b : Int)) = (BitVec.ofNat 8 0) := by
   apply BitVec.eq_of_getLsbD_eq
   intro i hi
   rw [BitVec.getLsbD_and, BitVec.getLsbD_not]
   have e1 : (BitVec.ofInt 8 (a : Int)).getLsbD i = a.testBit i := by unfold BitVec.getLsbD; rw [hA]
   have e2 : (BitVec.ofInt 8 (b : Int)).getLsbD i = b.testBit i := by unfold BitVec.getLsbD; rw [hB]
   rw [e1, e2]
   have := h i
   cases h3 : a.testBit i
   ·simp
   ·rw [this h3]; simp
  have h2 : ∀ x : BitVec 8, x = (BitVec.ofNat 8 0) → (x.toNat : Int) = 0 := fun x hx => by rw [hx]; rfl
  exact h2 _ h0
theorem N2 : ∀ n : Fin 9, (∀ v : Fin 8, CR (wI .u8 (C5 .u8 1 (n.val : Int) - 1)) v.val = decide (v.val < n.val)) ∧ 0 ≤ wI .u8 (C5 .u8 1 (n.val : Int) - 1) ∧ wI .u8 (C5 .u8 1 (n.val : Int) - 1) ≤ 255 := by decide +kernel
theorem LI {n : Int} (h0 : 0 ≤ n) (h1 : n ≤ 8) : (∀ v, CR (wI .u8 (C5 .u8 1 n - 1)) v = decide ((v : Int) < n)) ∧ 0 ≤ wI .u8 (C5 .u8 1 n - 1) ∧ wI .u8 (C5 .u8 1 n - 1) ≤ 255 := by
 obtain ⟨n, rfl⟩ := Int.eq_ofNat_of_zero_le h0
 have h := N2 ⟨n, by omega⟩
 refine ⟨fun v => ?_, h.2⟩
 by_cases hv : v < 8
 ·rw [h.1 ⟨v, hv⟩]; simp
 ·rw [Ic h.2.2 (by omega)]
  symm; apply decide_eq_false; omega
structure HS (p : Aa) (m : Af) : Prop extends MixServ p m where
 range : ∀ i, i < p.fb.length → 0 ≤ m.fg.getD i 0 ∧ m.fg.getD i 0 ≤ 255
 low : ∀ i t, p.fb[i]? = some t → BG t = true → ∀ v, EI m t.fd.toNat v = true → CR (m.fg.getD i 0) v = true
 high : ∀ i t, p.fb[i]? = some t → BG t = true → ∀ v, CR (m.fg.getD i 0) v = true → (v : Int) < p.fa.getD t.fd.toNat 0
 none : ∀ i t, p.fb[i]? = some t → BG t = false → m.fg.getD i 0 = 0
theorem GS {p : Aa} (hp : CM p) {i : Nat} (hi : i < p.fa.length) : 1 ≤ p.fa.getD i 0 ∧ p.fa.getD i 0 ≤ 6 := by
 have := Gj (i := (i : Int)) hp.ver (by omega) (by omega)
 simpa using this
theorem Im {p : Aa} {m : Af} (hp : CM p) (hm : MixServ p m) {s : Nat} (hs : s < p.fa.length) :
  (∀ v, CR (Hb m s) v = EI m s v) ∧ 0 ≤ Hb m s ∧ Hb m s ≤ 255 := by
 have h1 := hm.b0 s hs
 have h2 := hm.n0 s hs
 have h3 := GS hp hs
 exact KH h1.1 (by omega) (by omega)
theorem Kw {p : Aa} {m : Af} (hp : CM p) (hm : MixServ p m) {i : Nat} {t : Ab} (ht : p.fb[i]? = some t) (hr : 0 ≤ m.fg.getD i 0 ∧ m.fg.getD i 0 ≤ 255) :
  Fu p m i t = none ↔ ((BG t = true → (∀ v, EI m t.fd.toNat v = true → CR (m.fg.getD i 0) v = true) ∧ (∀ v, CR (m.fg.getD i 0) v = true → (v : Int) < p.fa.getD t.fd.toNat 0)) ∧ (BG t = false → m.fg.getD i 0 = 0)) := by
 have hin := MX (hp.tab t (lM ht))
 have hrun := Im hp hm (s := t.fd.toNat) (by omega)
 have hver := GS hp (i := t.fd.toNat) (by omega)
 have hall := LI (n := p.fa.getD t.fd.toNat 0) (by omega) (by omega)
 unfold Fu NC
 have e1 := II hrun.2 hr
 have e2 := II hr hall.2
 cases hst : BG t
 ·simp
 ·simp only [if_true, true_implies, Bool.true_eq_false, false_implies, and_true, ite_eq_right_iff, reduceCtorEq, imp_false, not_or, Decidable.not_not]
  rw [e1, e2]
  simp only [hrun.1, hall.1, decide_eq_true_eq]
theorem IV {p : Aa} {m : Af} (hw : HB GF m.fg) (h : Du p m = 0) : CM p ∧ HS p m := by
 unfold Du at h
 split at h
 ·rename_i k; exact (k h).elim
 ·rename_i k0
  have hp : CM p := by
   rcases FU p with h | h
   ·exact h.2
   ·omega
  split at h
  ·cases h
  ·rename_i k1
   have b1 : m.fh.length = p.fa.length := Decidable.not_not.1 fun h => k1 (.inl h)
   have b2 : m.fc.length = p.fa.length := Decidable.not_not.1 fun h => k1 (.inr (.inl h))
   have b3 : m.fg.length = p.fb.length := Decidable.not_not.1 fun h => k1 (.inr (.inr h))
   cases hs : Cd (I2 m) 0 p.fa with
   | some r =>
    obtain ⟨j, x, _, he⟩ := DS hs
    rw [hs] at h
    unfold I2 at he
    simp only [Bm, Option.getD_some] at h
    split at he
    ·cases he; cases h
    ·split at he
     ·cases he; cases h
     ·cases he
   | none =>
    have hm := LC b1 b2 b3 hs
    rw [hs] at h
    simp only [Bm] at h
    cases ht : Cd (Fu p m) 0 p.fb with
    | some r =>
     obtain ⟨j, x, _, he⟩ := DS ht
     rw [ht] at h
     simp only [Option.getD_some] at h
     subst h
     unfold Fu at he
     split at he
     ·split at he <;> cases he
     ·split at he <;> cases he
    | none =>
     have hr : ∀ i, i < p.fb.length → 0 ≤ m.fg.getD i 0 ∧ m.fg.getD i 0 ≤ 255 := fun i hi => E3 (KJ hw (by omega))
     have key : ∀ i t, p.fb[i]? = some t → _ := fun i t hi => (Kw hp hm hi (hr i (lI.1 hi).1)).1 (by have := El ht i t hi; rwa [Nat.zero_add] at this)
     exact ⟨hp, hm, hr, fun i t hi hst => ((key i t hi).1 hst).1, fun i t hi hst => ((key i t hi).1 hst).2, fun i t hi hst => (key i t hi).2 hst⟩
theorem C3 {α R : Type} {f : Nat → α → Option R} : ∀ {i : Nat} {xs : List α}, (∀ j x, xs[j]? = some x → f (i + j) x = none) → Cd f i xs = none
 | _, [], _ => rfl
 | i, y :: ys, h => by
  rw [Dz, show f i y = none from h 0 y rfl]
  exact C3 fun j x hx => by
   have := h (j + 1) x (by simpa using hx)
   rwa [show i + (j + 1) = i + 1 + j from by omega] at this
theorem J9 {p : Aa} (hp : CM p) (hr : ∀ i, i < p.fa.length → 0 ≤ p.fk.getD i 0 ∧ p.fk.getD i 0 < p.fa.getD i 0 ∧ 0 ≤ p.fm.getD i 0 ∧ p.fm.getD i 0 < p.fa.getD i 0) : Cq p = 0 := by
 have := hp.nv
 have := hp.nt
 have := hp.now
 have := hp.tgt
 unfold Cq
 rw [if_neg (by omega), if_neg (by omega)]
 have h1 : Cd (CN p) 0 p.fa = none := C3 fun j x hx => by
  have hj := (lI.1 hx).1
  have h1 := hr j hj
  have h2 := GS hp hj
  have e : p.fa.getD j 0 = x := by rw [lD, hx]; rfl
  rw [e] at h1 h2
  unfold CN
  rw [Nat.zero_add, if_neg (by omega)]
 have h2 : Cd (Gl p) 0 p.fb = none := C3 fun j x hx => by
  unfold Gl
  rw [if_pos (hp.tab x (lM hx))]
 rw [h1, h2]; rfl
theorem G1 {p : Aa} (h : Cq p = 0) : CM p ∧ ∀ i, i < p.fa.length → 0 ≤ p.fk.getD i 0 ∧ p.fk.getD i 0 < p.fa.getD i 0 ∧ 0 ≤ p.fm.getD i 0 ∧ p.fm.getD i 0 < p.fa.getD i 0 := by
 have hp : CM p := by
  rcases FU p with h | h
  ·exact h.2
  ·omega
 refine ⟨hp, fun i hi => ?_⟩
 have h1 := hp.nv
 have h2 := hp.nt
 have h3 := hp.now
 have h4 := hp.tgt
 unfold Cq at h
 rw [if_neg (by omega), if_neg (by omega)] at h
 cases hs : Cd (CN p) 0 p.fa with
 | some r =>
  obtain ⟨j, x, _, he⟩ := DS hs
  rw [hs] at h
  unfold CN at he
  split at he
  ·cases he; cases h
  ·cases he
 | none =>
  have hx : p.fa[i]? = some (p.fa.getD i 0) := by rw [lD]; simp [hi]
  have := El hs i _ hx
  rw [Nat.zero_add] at this
  unfold CN at this
  split at this
  ·cases this
  ·rename_i hn; omega
theorem MA {p : Aa} {m : Af} (hv : Cq p = 0) (hm : HS p m) : Du p m = 0 := by
 obtain ⟨hp, _⟩ := G1 hv
 unfold Du
 rw [hv, if_neg (by simp), if_neg (by have := hm.base; have := hm.next; have := hm.held; omega)]
 have h1 : Cd (I2 m) 0 p.fa = none := C3 fun j x hx => by
  have hj := (lI.1 hx).1
  have e : p.fa.getD j 0 = x := by rw [lD, hx]; rfl
  have h1 := hm.b0 j hj
  have h2 := hm.n0 j hj
  have h3 := hm.ne j hj
  rw [e] at h1 h2
  unfold I2
  rw [Nat.zero_add, if_neg (by omega), if_neg h3]
 have h2 : Cd (Fu p m) 0 p.fb = none := C3 fun j x hx => by
  have hj := (lI.1 hx).1
  rw [Nat.zero_add]
  exact (Kw hp hm.toMixServ hx (hm.range j hj)).2 ⟨fun hst => ⟨hm.low j x hx hst, hm.high j x hx hst⟩, fun hst => hm.none j x hx hst⟩
 rw [h1, h2]; rfl
def Hu {α : Type} (g : Nat → α → Bool) : Nat → List α → Bool
 | _, [] => false
 | i, x :: xs => g i x || Hu g (i + 1) xs
theorem Ij {α : Type} {g : Nat → α → Bool} : ∀ {i : Nat} {xs : List α}, Hu g i xs = true ↔ ∃ j x, xs[j]? = some x ∧ g (i + j) x = true
 | _, [] => by simp [Hu]
 | i, x :: xs => by
  rw [Hu, Bool.or_eq_true, Ij]
  constructor
  ·rintro (h | ⟨j, z, hz, h⟩)
   ·exact ⟨0, x, rfl, h⟩
   ·exact ⟨j + 1, z, by simpa using hz, by rwa [show i + (j + 1) = i + 1 + j from by omega]⟩
  ·rintro ⟨j, z, hz, h⟩
   cases j with
   | zero => simp at hz; subst hz; exact .inl h
   | succ j => exact .inr ⟨j, z, by simpa using hz, by rwa [show i + 1 + j = i + (j + 1) from by omega]⟩
theorem Iv {α β : Type} (g : Nat → α → List β) (h : Nat → α → Bool) : ∀ (i : Nat) (xs : List α) (a : List β) (b : Bool),
  Gm (fun i x (s : List β × Bool) => (s.1 ++ g i x, s.2 || h i x)) i xs (a, b) = (a ++ DB g i xs, b || Hu h i xs)
 | _, [], a, b => by simp [Gm, DB, Hu]
 | i, x :: xs, a, b => by rw [Gm, Iv g h, DB, Hu, List.append_assoc, Bool.or_assoc]
def gC (i u : Nat) (m : Af) (t : Ab) (v : Nat) (ok : Bool) : List Ae :=
 if EI m t.fi.toNat v && (!ok && !t.fo) then [⟨(i : Int), (u : Int), (v : Int)⟩] else []
def hC (m : Af) (t : Ab) (v : Nat) (ok : Bool) : Bool := EI m t.fi.toNat v && ok
def E1 (i : Nat) (m : Af) (t : Ab) (u : Nat) (row : List Bool) : List Ae :=
 DB (gC i u m t) 0 row ++ if t.fo && !Hu (hC m t) 0 row then [⟨(i : Int), (u : Int), -1⟩] else []
def Lj (m : Af) (i : Nat) (t : Ab) (u : Nat) : Bool := if BG t then CR (m.fg.getD i 0) u else EI m t.fd.toNat u
def FO (m : Af) (i : Nat) (t : Ab) : List Ae := DB (fun u row => if Lj m i t u then E1 i m t u row else []) 0 t.ff
def AL (p : Aa) (m : Af) : List Ae := DB (FO m) 0 p.fb
structure Jy (p : Aa) (t : Ab) : Prop where
 kind : 1 ≤ t.fe ∧ t.fe ≤ 4
 aware : t.fo = true → BG t = false
 from0 : 0 ≤ t.fd ∧ t.fd < (p.fa.length : Int)
 to0 : 0 ≤ t.fi ∧ t.fi < (p.fa.length : Int)
 okL : (t.ff.length : Int) = p.fa.getD t.fd.toNat 0
 okR : ∀ row, row ∈ t.ff → (row.length : Int) = p.fa.getD t.fi.toNat 0
 reL : t.fe = 4 → (t.fj.length : Int) = p.fa.getD t.fd.toNat 0
 reR : ∀ row, row ∈ t.fj → (row.length : Int) = p.fa.getD t.fd.toNat 0
 reD : t.fe = 4 → EU t.fj = none
 reN : t.fe ≠ 4 → t.fj = []
theorem GP {p : Aa} {t : Ab} (h : BO p t = 0) : Jy p t := by
 unfold BO at h
 split at h
 ·cases h
 rename_i h1
 split at h
 ·cases h
 rename_i h2
 simp only at h
 split at h
 ·cases h
 rename_i h3
 have h3 : sq t.ff (p.fa.getD t.fd.toNat 0) (p.fa.getD t.fi.toNat 0) = true := by simpa using h3
 have h3 := H7 h3
 have ha : t.fo = true → BG t = false := by
  intro ha
  unfold BG
  rw [Bool.or_eq_false_iff, beq_eq_false_iff_ne, beq_eq_false_iff_ne]
  exact ⟨fun hk => h1 (.inr (.inr ⟨ha, .inl hk⟩)), fun hk => h1 (.inr (.inr ⟨ha, .inr hk⟩))⟩
 split at h
 ·rename_i h4
  split at h
  ·cases h
  rename_i h5
  have h5 : sq t.fj (p.fa.getD t.fd.toNat 0) (p.fa.getD t.fd.toNat 0) = true := by simpa using h5
  have h5 := H7 h5
  refine ⟨by omega, ha, by omega, by omega, h3.1, h3.2, fun _ => h5.1, h5.2, fun _ => ?_, fun h => (h h4).elim⟩
  cases hd : EU t.fj with
  | none => rfl
  | some r =>
   obtain ⟨j, x, _, hx⟩ := DS hd
   rw [hd] at h
   split at hx
   ·cases hx
   ·cases hx; cases h
 ·rename_i h4
  split at h
  ·rename_i h5
   have h5 := List.eq_nil_of_length_eq_zero h5
   refine ⟨by omega, ha, by omega, by omega, h3.1, h3.2, fun h => (h4 h).elim, fun row hr => ?_, fun h => (h4 h).elim, fun _ => h5⟩
   rw [h5] at hr; cases hr
  ·cases h
theorem J0 {R : Type} (b : Bool) (acc : List Ae) (x : Ae) (j : List Ae → Option R) (h : acc.length + 1 ≤ Dr) :
  A6 b ((DO (acc.length + ([x] : List Ae).length ≤ Dr)).bind fun _ => j (acc ++ [x])) (j acc) = j (acc ++ if b then [x] else []) := by
 cases b
 ·simp
 ·rw [Da, Aq (by simpa using h)]; rfl
theorem Km (N : Nat) (m : Af) (t : Ab) (i u : Nat) (row : List Bool) (R : Int) (b1 b2 acc : List Ae) (j : List Ae × Bool → Option (List Ae))
  (hN : N ≤ 1000000) (h8 : 8 ≤ N) (hrow : row.length ≤ 6) (hacc : acc.length + 6 ≤ Dr) (hR0 : 0 ≤ R) (hR1 : R ≤ 255) (hRb : ∀ v, CR R v = EI m t.fi.toNat v) :
  AZ N (b1, (i : Int)) t R (b2, (u : Int)) row j N (acc, false, 0) = j (acc ++ DB (gC i u m t) 0 row, Hu (hC m t) 0 row) := by
 have := Hv (A := List Ae × Bool) (AZ N (b1, (i : Int)) t R (b2, (u : Int)) row j) (fun a k => (a.1, a.2, k)) row (fun a => j a) (fun v ok s => (s.1 ++ gC i u m t v ok, s.2 || hC m t v ok))
  (fun v a => v ≤ row.length ∧ a.1.length ≤ acc.length + v)
  (fun n v ok a hx ha => by
   have hv := (lI.1 hx).1
   obtain ⟨c, f⟩ := a
   simp only at ha
   refine ⟨?_, by omega, ?_⟩
   ·rw [AZ]
    simp only [BK]
    rw [AJ (by omega), BA, hx]
    simp only [oS]
    rw [Aq (by omega), Kq hR0 hR1 (by omega), hRb, AK (by omega), J0 _ _ _ (fun l => AZ N (b1, (i : Int)) t R (b2, (u : Int)) row j n (l, true, ((v + 1 : Nat) : Int))) (by omega)]
    unfold gC hC
    rw [J0 _ _ _ (fun l => AZ N (b1, (i : Int)) t R (b2, (u : Int)) row j n (l, ok, ((v + 1 : Nat) : Int))) (by omega)]
    cases EI m t.fi.toNat v
    ·simp
    ·cases ok <;> cases f <;> cases t.fo <;> simp
   ·simp only [gC, List.length_append]
    split <;> simp <;> omega)
  (fun n a _ => by
   rw [AZ]
   simp only [BK]
   rw [AG (by omega)]) N 0 (acc, false) (by omega) (by omega) ⟨by omega, by simp⟩
 have h2 := this.1
 rw [List.drop_zero, Iv, Bool.false_or] at h2
 exact h2
theorem H9 {p : Aa} {t : Ab} (hp : CM p) (ht : Jy p t) : t.ff.length ≤ 6 ∧ ∀ row, row ∈ t.ff → row.length ≤ 6 := by
 have h1 := Gj hp.ver ht.from0.1 ht.from0.2
 have h2 := Gj hp.ver ht.to0.1 ht.to0.2
 have h3 := ht.okL
 exact ⟨by omega, fun row hr => by have := ht.okR row hr; omega⟩
theorem Me (i u : Nat) (m : Af) (t : Ab) (v : Nat) (ok : Bool) : (gC i u m t v ok).length ≤ 1 := by
 unfold gC; split <;> simp
theorem K2 (i : Nat) (m : Af) (t : Ab) (u : Nat) (row : List Bool) (h : row.length ≤ 6) : (E1 i m t u row).length ≤ 7 := by
 unfold E1
 rw [List.length_append]
 have := Gu (g := gC i u m t) (c := 1) (i := 0) (xs := row) (fun j x _ => Me _ _ _ _ _ _)
 split <;> simp <;> omega
theorem MP (i : Nat) (m : Af) (t : Ab) (u : Nat) (row : List Bool) (h : row.length ≤ 6) : (if Lj m i t u = true then E1 i m t u row else []).length ≤ 7 := by
 have := K2 i m t u row h
 split <;> simp <;> omega
theorem KK {p : Aa} {t : Ab} (hp : CM p) (ht : Jy p t) (i : Nat) (m : Af) : (FO m i t).length ≤ 42 := by
 have h1 := H9 hp ht
 have := Gu (g := fun u row => if Lj m i t u = true then E1 i m t u row else []) (c := 7) (i := 0) (xs := t.ff) (fun j x hx => MP i m t _ x (h1.2 x (lM hx)))
 unfold FO
 omega
theorem G5 (N : Nat) (p : Aa) (m : Af) (t : Ab) (i : Nat) (W R : Int) (b1 acc : List Ae) (j : List Ae → Option (List Ae))
  (hN : N ≤ 1000000) (h8 : 8 ≤ N) (hp : CM p) (ht : Jy p t) (hacc : acc.length + 42 ≤ 10000) (hR0 : 0 ≤ R) (hR1 : R ≤ 255) (hRb : ∀ v, CR R v = EI m t.fi.toNat v) (hW0 : 0 ≤ W) (hW1 : W ≤ 255) (hWb : ∀ v, CR W v = Lj m i t v) :
  A9 N (b1, (i : Int)) t R W j N (acc, 0) = j (acc ++ FO m i t) := by
 have hl := H9 hp ht
 exact Gv (A9 N (b1, (i : Int)) t R W j) (fun a k => (a, k)) t.ff j (fun u row => if Lj m i t u then E1 i m t u row else []) 7 10000
  (fun u row hx => MP i m t u row (hl.2 row (lM hx)))
  (fun n u row a hx ha => by
   have hu := (lI.1 hx).1
   have hrow := hl.2 row (lM hx)
   rw [A9]
   simp only [BK]
   rw [AJ (by omega), Aq (by omega), Kq hW0 hW1 (by omega), hWb, BA, hx]
   simp only [oS]
   rw [Km N m t i u row R b1 a a _ hN h8 hrow (by unfold Dr; omega) hR0 hR1 hRb, AK (by omega)]
   cases hw : Lj m i t u
   ·simp
   ·simp only [Bool.not_true, AH, if_true, E1]
    have h1 := Gu (g := gC i u m t) (c := 1) (i := 0) (xs := row) (fun j x _ => Me _ _ _ _ _ _)
    have := J0 (R := List Ae) (t.fo && !Hu (hC m t) 0 row) (a ++ DB (gC i u m t) 0 row) ⟨(i : Int), (u : Int), -1⟩ (fun l => A9 N (b1, (i : Int)) t R W j n (l, ((u + 1 : Nat) : Int))) (by rw [List.length_append]; unfold Dr; rw [hw, if_pos rfl] at ha; omega)
    rw [← List.append_assoc, ← this]
    cases t.fo <;> cases Hu (hC m t) 0 row <;> rfl)
  (fun n a => by
   rw [A9]
   simp only [BK]
   rw [AG (by omega)]) N acc (by omega) (by omega)
theorem Fq (N : Nat) (p : Aa) (m : Af) (hN : N ≤ 1000000) (h20 : 20 ≤ N) (hp : CM p) (hm : HS p m) : Cu N p m = some (AL p m) := by
 unfold Cu
 have hnt := hp.nt
 rw [Gv (BE N p m _) (fun a k => (a, k)) p.fb some (FO m) 42 9000
  (fun i t hx => KK hp (GP (hp.tab t (lM hx))) i m)
  (fun n i t a hx ha => by
   have hi := (lI.1 hx).1
   have ht := GP (hp.tab t (lM hx))
   have hto := ht.to0
   have hfr := ht.from0
   have hR := Im hp hm.toMixServ (s := t.fi.toNat) (by omega)
   have hF := Im hp hm.toMixServ (s := t.fd.toNat) (by omega)
   have hH := hm.range i hi
   rw [BE]
   simp only [BK]
   rw [AJ (by omega), BA, hx]
   simp only [oS, GB]
   rw [GO N m t.fd hfr.1 (by rw [hm.base]; exact hfr.2) (by rw [hm.next]; exact hfr.2) (hm.b0 _ (by omega)).1, GO N m t.fi hto.1 (by rw [hm.base]; exact hto.2) (by rw [hm.next]; exact hto.2) (hm.b0 _ (by omega)).1, DQ (d := 0) (by rw [hm.held]; exact hi), AK (by omega)]
   simp only [oS]
   cases hs : BG t
   ·rw [AH, G5 N p m t i _ _ a a _ hN (by omega) hp ht (by omega) hR.2.1 hR.2.2 hR.1 hF.2.1 hF.2.2 (fun v => by unfold Lj; rw [hs, hF.1]; rfl)]
   ·rw [Da, G5 N p m t i _ _ a a _ hN (by omega) hp ht (by omega) hR.2.1 hR.2.2 hR.1 hH.1 hH.2 (fun v => by unfold Lj; rw [hs]; rfl)])
  (fun n a => by
   rw [BE]
   simp only [BK]
   rw [AG (by omega)]) N [] (by omega) (by simp; omega)]
 rfl
theorem DL {A S R : Type} (L : Nat → S → Option R) (mk : A → Int → S) (len : Nat) (j : A → Option R) (I : Nat → A → Prop)
  (hs : ∀ (n i : Nat) (a : A), i < len → I i a → ∃ a', L (n + 1) (mk a (i : Int)) = L n (mk a' ((i + 1 : Nat) : Int)) ∧ I (i + 1) a')
  (he : ∀ (n : Nat) (a : A), I len a → L (n + 1) (mk a (len : Int)) = j a) :
  ∀ (n i : Nat) (a : A), i ≤ len → len - i < n → I i a → ∃ a', L n (mk a (i : Int)) = j a' ∧ I len a'
 | 0, i, _, _, h, _ => by omega
 | n + 1, i, a, hi, h, ha => by
  by_cases h1 : i < len
  ·obtain ⟨a', e1, e2⟩ := hs n i a h1 ha
   rw [e1]
   exact DL L mk len j I hs he n (i + 1) _ (by omega) (by omega) e2
  ·have : i = len := by omega
   subst this
   exact ⟨a, he n a ha, ha⟩
theorem Fj {α : Type} {xs ys : List α} {i : Nat} {d : α} (h : i < xs.length) : (xs ++ ys).getD i d = xs.getD i d := by
 rw [lD, lD, List.getElem?_append_left h]
theorem Fi {α : Type} {xs : List α} {y : α} {i : Nat} {d : α} (h : i = xs.length) : (xs ++ [y]).getD i d = y := by
 subst h; rw [lD, List.getElem?_append_right (Nat.le_refl _)]; simp
theorem Dn {α : Type} {P : Nat → α → Prop} {xs : List α} {y : α} {d : α} {n : Nat} (hn : xs.length = n) (h : ∀ k, k < n → P k (xs.getD k d)) (hy : P n y) : ∀ k, k < n + 1 → P k ((xs ++ [y]).getD k d) := by
 intro k hk
 by_cases h1 : k < n
 ·rw [Fj (by omega)]; exact h k h1
 ·have : k = n := by omega
  subst this
  rw [Fi hn.symm]; exact hy
theorem LA (x : BitVec 8) : wI .u8 (x.toNat : Int) = (x.toNat : Int) := by
 have := x.isLt
 simp [wI, IntKind.signed, IntKind.bits]
 omega
theorem MC {a : Int} (h : 0 ≤ a ∧ a ≤ 255) : wI .u8 a = a := by
 simp [wI, IntKind.signed, IntKind.bits]
 omega
theorem FM {a : Nat} (h : a < 256) (i : Nat) : (BitVec.ofInt 8 (a : Int)).toNat.testBit i = a.testBit i := by rw [MI h]
theorem N9 {a b : Int} (ha : 0 ≤ a ∧ a ≤ 255) (hb : 0 ≤ b ∧ b ≤ 255) : (∀ v, CR (Lg .u8 a b) v = (CR a v || CR b v)) ∧ 0 ≤ Lg .u8 a b ∧ Lg .u8 a b ≤ 255 := by
 obtain ⟨a, rfl⟩ := Int.eq_ofNat_of_zero_le ha.1
 obtain ⟨b, rfl⟩ := Int.eq_ofNat_of_zero_le hb.1
 have e : Lg .u8 (a : Int) (b : Int) = ((BitVec.ofInt 8 (a : Int) ||| BitVec.ofInt 8 (b : Int)).toNat : Int) := LA _
 have hlt := (BitVec.ofInt 8 (a : Int) ||| BitVec.ofInt 8 (b : Int)).isLt
 rw [e]
 refine ⟨fun v => ?_, by omega, by omega⟩
 unfold CR
 simp only [Int.toNat_natCast, BitVec.toNat_or, Nat.testBit_or]
 rw [FM (by omega), FM (by omega)]
theorem Mc {a b : Int} (ha : 0 ≤ a ∧ a ≤ 255) (hb : 0 ≤ b ∧ b ≤ 255) : (∀ v, CR (E7 .u8 a b) v = (CR a v && CR b v)) ∧ 0 ≤ E7 .u8 a b ∧ E7 .u8 a b ≤ 255 := by
 obtain ⟨a, rfl⟩ := Int.eq_ofNat_of_zero_le ha.1
 obtain ⟨b, rfl⟩ := Int.eq_ofNat_of_zero_le hb.1
 have e : E7 .u8 (a : Int) (b : Int) = ((BitVec.ofInt 8 (a : Int) &&& BitVec.ofInt 8 (b : Int)).toNat : Int) := LA _
 have hlt := (BitVec.ofInt 8 (a : Int) &&& BitVec.ofInt 8 (b : Int)).isLt
 rw [e]
 refine ⟨fun v => ?_, by omega, by omega⟩
 unfold CR
 simp only [Int.toNat_natCast, BitVec.toNat_and, Nat.testBit_and]
 rw [FM (by omega), FM (by omega)]
theorem GC {l : List Int} (hw : HB GF l) (i : Nat) : 0 ≤ l.getD i 0 ∧ l.getD i 0 ≤ 255 := by
 by_cases h : i < l.length
 ·have : l.getD i 0 ∈ l := by rw [lD, List.getElem?_eq_getElem h]; exact List.getElem_mem _
  exact E3 (hw _ this)
 ·rw [lD, List.getElem?_eq_none (by omega)]
  exact ⟨by decide, by decide⟩
theorem Hx (N : Nat) {l : List Int} (hw : HB GF l) (i : Nat) : BF N l (i : Int) = some (l.getD i 0) := by
 unfold BF
 have h2 := GC hw i
 by_cases h : i < l.length
 ·rw [AJ (by omega), DQ (d := 0) h]
  simp only [oS]
  rw [BZ (by omega) (by omega)]
 ·rw [AG (by omega), lD, List.getElem?_eq_none (by omega)]; rfl
theorem JJ (N : Nat) {l : List Int} (hw : HB GF l) (i : Nat) : B3 N l (i : Int) = some (l.getD i 0) := by
 unfold B3
 have h2 := GC hw i
 by_cases h : i < l.length
 ·rw [AJ (by omega), DQ (d := 0) h]
  simp only [oS]
  rw [BZ (by omega) (by omega)]
 ·rw [AG (by omega), lD, List.getElem?_eq_none (by omega)]; rfl
def OS (n b : Int) : Int := Int.tmod b n
def Oz (n b k : Int) : Int := if 0 < Int.tmod k n then Int.tmod (Int.tmod b n + Int.tmod k n) n else -1
theorem CA {a n : Int} (ha : 0 ≤ a) (hn : 0 < n) : 0 ≤ Int.tmod a n ∧ Int.tmod a n < n := ⟨Int.tmod_nonneg n ha, Int.tmod_lt_of_pos a hn⟩
theorem MT {n b k : Int} (hn : 0 < n) (hb : 0 ≤ b) (hk : 0 ≤ k) : (0 ≤ OS n b ∧ OS n b < n) ∧ (-1 ≤ Oz n b k ∧ Oz n b k < n) ∧ OS n b ≠ Oz n b k := by
 unfold OS Oz
 have h1 := CA hb hn
 have h2 := CA hk hn
 split
 ·rename_i h
  have h3 := CA (a := Int.tmod b n + Int.tmod k n) (by omega) hn
  refine ⟨h1, by omega, fun he => ?_⟩
  generalize Int.tmod b n = x at *
  generalize Int.tmod k n = y at *
  rw [Int.tmod_eq_emod_of_nonneg (by omega)] at he
  by_cases hxy : x + y < n
  ·rw [Int.emod_eq_of_lt (by omega) hxy] at he; omega
  ·have : (x + y) % n = x + y - n := by
    rw [← Int.emod_eq_of_lt (show 0 ≤ x + y - n by omega) (show x + y - n < n by omega)]
    simp
   omega
 ·exact ⟨h1, by omega, by omega⟩
structure PE (p : Aa) (x : Az) (m : Af) : Prop where
 bl : m.fh.length = p.fa.length
 nl : m.fc.length = p.fa.length
 hl : m.fg.length = p.fb.length
 b : ∀ k, k < p.fa.length → m.fh.getD k 0 = OS (p.fa.getD k 0) (x.fh.getD k 0)
 n : ∀ k, k < p.fa.length → m.fc.getD k 0 = Oz (p.fa.getD k 0) (x.fh.getD k 0) (x.fc.getD k 0)
 r : ∀ k, k < p.fb.length → 0 ≤ m.fg.getD k 0 ∧ m.fg.getD k 0 ≤ 255
 s : ∀ k t, p.fb[k]? = some t → BG t = true → ∀ v, CR (m.fg.getD k 0) v = (EI m t.fd.toNat v || (CR (x.fg.getD k 0) v && decide ((v : Int) < p.fa.getD t.fd.toNat 0)))
 z : ∀ k t, p.fb[k]? = some t → BG t = false → m.fg.getD k 0 = 0
def Mo (p : Aa) (x : Az) (bs ns : List Int) (k : Nat) (y : Int) : Prop :=
 ∀ t, p.fb[k]? = some t → BG t = true → ∀ v, CR y v = (EI ⟨bs, ns, []⟩ t.fd.toNat v || (CR (x.fg.getD k 0) v && decide ((v : Int) < p.fa.getD t.fd.toNat 0)))
def Ng (p : Aa) (k : Nat) (y : Int) : Prop := ∀ t, p.fb[k]? = some t → BG t = false → y = 0
theorem QU (N : Nat) (p : Aa) (x : Az) (hN : N ≤ 1000000) (h20 : 20 ≤ N) (hp : CM p) (hw : Cj x) : ∃ m, BW N p x = some m ∧ PE p x m ∧ HS p m := by
 obtain ⟨w1, w2, w3, _⟩ := hw
 have hnv := hp.nv
 have hnt := hp.nt
 unfold BW
 obtain ⟨⟨bs, ns⟩, e, h1, h2, h3, h4⟩ := DL (A := List Int × List Int) (Bj N p x fun v2 => AA N p x v2 (fun v15 => some (Af.mk v2.1 v2.2 v15)) N ([], 0)) (fun a k => (a.1, a.2, k)) p.fa.length
  (fun v2 => AA N p x v2 (fun v15 => some (Af.mk v2.1 v2.2 v15)) N ([], 0))
  (fun i a => a.1.length = i ∧ a.2.length = i ∧ (∀ k, k < i → a.1.getD k 0 = OS (p.fa.getD k 0) (x.fh.getD k 0)) ∧ (∀ k, k < i → a.2.getD k 0 = Oz (p.fa.getD k 0) (x.fh.getD k 0) (x.fc.getD k 0)))
  (fun n i a hi ha => by
   obtain ⟨bs, ns⟩ := a
   obtain ⟨h1, h2, h3, h4⟩ := ha
   simp only at h1 h2 h3 h4
   have hv := GS hp hi
   have hb := GC w1 i
   have hk := GC w2 i
   have m1 := CA (n := p.fa.getD i 0) hb.1 (by omega)
   have m2 := CA (n := p.fa.getD i 0) hk.1 (by omega)
   refine ⟨(bs ++ [OS (p.fa.getD i 0) (x.fh.getD i 0)], ns ++ [Oz (p.fa.getD i 0) (x.fh.getD i 0) (x.fc.getD i 0)]), ?_, ?_⟩
   ·rw [Bj]
    simp only [BK]
    rw [AJ (by omega), DQ (d := 0) hi, Hx N w1, Hx N w2]
    simp only [oS]
    rw [Aq (by omega), AK (by omega), BZ (n := _ + _) (by omega) (by omega)]
    simp only [Aq (show p.fa.getD i 0 ≠ 0 by omega)]
    have l1 : bs.length + ([Int.tmod (x.fh.getD i 0) (p.fa.getD i 0)] : List Int).length ≤ Dr := by rw [h1]; unfold Dr; simp; omega
    have l2 : ∀ y : Int, ns.length + ([y] : List Int).length ≤ Dr := by intro y; rw [h2]; unfold Dr; simp; omega
    simp only [Aq l1, Aq (l2 _)]
    unfold OS Oz
    by_cases h : 0 < Int.tmod (x.fc.getD i 0) (p.fa.getD i 0)
    ·rw [AJ h, if_pos h]
    ·rw [AG h, if_neg h]
   ·refine ⟨by simp [h1], by simp [h2], Dn (P := fun k y => y = _) h1 h3 rfl, Dn (P := fun k y => y = _) h2 h4 rfl⟩)
  (fun n a _ => by
   rw [Bj]
   simp only [BK]
   rw [AG (by omega)]) N 0 ([], []) (Nat.zero_le _) (by omega) ⟨rfl, rfl, fun k hk => by omega, fun k hk => by omega⟩
 simp only at h1 h2 h3 h4
 have e' : Bj N p x (fun v2 => AA N p x v2 (fun v15 => some (Af.mk v2.1 v2.2 v15)) N ([], 0)) N ([], [], 0) = _ := e
 rw [e']
 have hrng : ∀ k, k < p.fa.length → (0 ≤ bs.getD k 0 ∧ bs.getD k 0 < p.fa.getD k 0) ∧ (-1 ≤ ns.getD k 0 ∧ ns.getD k 0 < p.fa.getD k 0) ∧ bs.getD k 0 ≠ ns.getD k 0 := by
  intro k hk
  rw [h3 k hk, h4 k hk]
  exact MT (by have := GS hp hk; omega) (GC w1 k).1 (GC w2 k).1
 obtain ⟨hs, e2, g1, g2, g3, g4⟩ := DL (A := List Int) (AA N p x (bs, ns) (fun v15 => some (Af.mk bs ns v15))) (fun a k => (a, k)) p.fb.length (fun v15 => some (Af.mk bs ns v15))
  (fun i a => a.length = i ∧ (∀ k, k < i → 0 ≤ a.getD k 0 ∧ a.getD k 0 ≤ 255) ∧
   (∀ k, k < i → Mo p x bs ns k (a.getD k 0)) ∧
   (∀ k, k < i → Ng p k (a.getD k 0)))
  (fun n i a hi ha => by
   obtain ⟨k1, k2, k3, k4⟩ := ha
   have hx : p.fb[i]? = some p.fb[i] := by simp [hi]
   generalize p.fb[i] = t at hx
   have ht := GP (hp.tab t (lM hx))
   have hfr := ht.from0
   have hv := GS hp (i := t.fd.toNat) (by omega)
   have hr := hrng t.fd.toNat (by omega)
   have hrun := KH (m := ⟨bs, ns, a⟩) (s := t.fd.toNat) hr.1.1 (show bs.getD _ 0 < 8 by omega) (show ns.getD _ 0 < 8 by omega)
   have hall := LI (n := p.fa.getD t.fd.toNat 0) (by omega) (by omega)
   have hh := GC w3 i
   have e1 := Mc hh hall.2
   have e2 := N9 hrun.2 e1.2
   cases hst : BG t
   ·refine ⟨a ++ [0], ?_, by simp [k1], Dn (P := fun _ y => 0 ≤ y ∧ y ≤ 255) k1 k2 (by omega), Dn (P := Mo p x bs ns) k1 k3 (fun t' ht' hs' => by rw [hx] at ht'; cases ht'; rw [hst] at hs'; cases hs'), Dn (P := Ng p) k1 k4 (fun _ _ _ => rfl)⟩
    rw [AA]
    simp only [BK]
    rw [AJ (by omega), BA, hx]
    simp only [oS, GD, hst, AH]
    rw [Aq (by rw [k1]; unfold Dr; simp; omega), AK (by omega)]
   ·refine ⟨a ++ [Lg .u8 (Hb ⟨bs, ns, a⟩ t.fd.toNat) (E7 .u8 (x.fg.getD i 0) (wI .u8 (C5 .u8 1 (p.fa.getD t.fd.toNat 0) - 1)))], ?_, by simp [k1], Dn (P := fun _ y => 0 ≤ y ∧ y ≤ 255) k1 k2 e2.2, Dn (P := Mo p x bs ns) k1 k3 (fun t' ht' _ v => by
      rw [hx] at ht'; cases ht'
      rw [e2.1, e1.1, hall.1, hrun.1]; rfl), Dn (P := Ng p) k1 k4 (fun t' ht' hs' => by rw [hx] at ht'; cases ht'; rw [hst] at hs'; cases hs')⟩
    rw [AA]
    simp only [BK]
    rw [AJ (by omega), BA, hx]
    simp only [oS, GD, hst, Da]
    rw [Ey (d := 0) hfr.1 hfr.2]
    simp only [oS]
    rw [Aq (by omega), KU N ⟨bs, ns, a⟩ t.fd hfr.1 (show _ < (bs.length : Int) by omega) (show _ < (ns.length : Int) by omega) hr.1.1, Hx N w3]
    simp only [oS]
    rw [Aq (by rw [k1]; unfold Dr; simp; omega), AK (by omega), MC hh])
  (fun n a _ => by
   rw [AA]
   simp only [BK]
   rw [AG (by omega)]) N 0 [] (Nat.zero_le _) (by omega) ⟨rfl, fun k hk => by omega, fun k hk => by omega, fun k hk => by omega⟩
 have e2' : AA N p x (bs, ns) (fun v15 => some (Af.mk bs ns v15)) N ([], 0) = _ := e2
 refine ⟨⟨bs, ns, hs⟩, e2', ⟨h1, h2, g1, h3, h4, g2, fun k t ht hst => g3 k (lI.1 ht).1 t ht hst, fun k t ht hst => g4 k (lI.1 ht).1 t ht hst⟩, ?_⟩
 refine ⟨⟨h1, h2, g1, fun i hi => (hrng i hi).1, fun i hi => (hrng i hi).2.1, fun i hi => (hrng i hi).2.2⟩, g2, ?_, ?_, fun k t ht hst => g4 k (lI.1 ht).1 t ht hst⟩
 ·intro k t ht hst v hv
  rw [g3 k (lI.1 ht).1 t ht hst v]
  rw [show EI ⟨bs, ns, []⟩ t.fd.toNat v = true from hv]; rfl
 ·intro k t ht hst v hv
  have hin := (GP (hp.tab t (lM ht))).from0
  have hr := hrng t.fd.toNat (by omega)
  have hv : CR (hs.getD k 0) v = true := hv
  rw [g3 k (lI.1 ht).1 t ht hst v] at hv
  simp only [Bool.or_eq_true, Bool.and_eq_true, decide_eq_true_eq, EI] at hv
  rcases hv with (h | h) | h
  ·omega
  ·omega
  ·exact h.2
theorem OE {l : List (List Bool)} {n m : Int} (h1 : (l.length : Int) = n) (h2 : ∀ row, row ∈ l → (row.length : Int) = m) : sq l n m = true := by
 unfold sq
 simp only [Bool.and_eq_true, decide_eq_true_eq, List.all_eq_true]
 exact ⟨h1, h2⟩
theorem O9 {p : Aa} {t : Ab} (h : Jy p t) : BO p t = 0 := by
 have hk := h.kind
 have hf := h.from0
 have ht := h.to0
 unfold BO
 rw [if_neg, if_neg (by omega)]
 ·simp only [OE h.okL h.okR]
  rw [if_neg (by simp)]
  by_cases h4 : t.fe = 4
  ·rw [if_pos h4, OE (h.reL h4) h.reR, if_neg (by simp), h.reD h4]; rfl
  ·rw [if_neg h4, h.reN h4]; rfl
 ·rintro (h1 | h1 | ⟨h1, h2⟩)
  ·omega
  ·omega
  ·have := h.aware h1
   unfold BG at this
   rw [Bool.or_eq_false_iff, beq_eq_false_iff_ne, beq_eq_false_iff_ne] at this
   omega
theorem MZ (N : Nat) (m bad : Int) (diag : Bool) (i : Nat) (acc : List (List Bool)) {_R : Type} (j : List Bool → Option (List (List Bool))) (hN : N ≤ 1000000) (h20 : 20 ≤ N) (hm : 0 ≤ m ∧ m ≤ 6) (hi : i < 6) :
  ∃ row, Ba N m bad diag (acc, (i : Int)) j N ([], 0) = j row ∧ (row.length : Int) = m ∧ (diag = true → (i : Int) < m → row.getD i false = true) := by
 obtain ⟨M, rfl⟩ := Int.eq_ofNat_of_zero_le hm.1
 obtain ⟨row, e, h1, h2⟩ := DL (A := List Bool) (Ba N (M : Int) bad diag (acc, (i : Int)) j) (fun a k => (a, k)) M j
  (fun k a => a.length = k ∧ ∀ q, q < k → diag = true → q = i → a.getD q false = true)
  (fun n k a hk ha => by
   refine ⟨a ++ [(diag && decide (i = k)) || (Int.tmod (E8 .u16 bad ((3 * i + k : Nat) : Int)) 2 == 0)], ?_, by simp [ha.1], Dn (P := fun q y => diag = true → q = i → y = true) ha.1 ha.2 (fun h1 h2 => by simp [h1, h2])⟩
   rw [Ba]
   simp only [BK]
   rw [AJ (by omega), AK (by omega), BZ (n := 3 * (i : Int)) (by omega) (by omega), BZ (n := 3 * (i : Int) + (k : Int)) (by omega) (by omega)]
   have l1 : ∀ y : Bool, a.length + ([y] : List Bool).length ≤ Dr := by intro y; rw [ha.1]; unfold Dr; simp; omega
   simp only [Aq (l1 _), Aq (show (0 : Int) ≤ 3 * (i : Int) + (k : Int) by omega)]
   have e1 : ((3 * i + k : Nat) : Int) = 3 * (i : Int) + (k : Int) := by omega
   rw [e1]
   have e2 : (((i : Nat) : Int) == ((k : Nat) : Int)) = decide (i = k) := by
    by_cases h : i = k
    ·simp [h]
    ·rw [decide_eq_false h]; exact beq_eq_false_iff_ne.2 (by omega)
   rw [e2]
   cases diag <;> cases decide (i = k) <;> rfl)
  (fun n a _ => by
   rw [Ba]
   simp only [BK]
   rw [AG (by omega)]) N 0 [] (Nat.zero_le _) (by omega) ⟨rfl, fun q hq => by omega⟩
 exact ⟨row, e, by omega, fun hd hlt => h2 i (by omega) hd rfl⟩
theorem LE (N : Nat) (n m bad : Int) (diag : Bool) (hN : N ≤ 1000000) (h20 : 20 ≤ N) (hn : 0 ≤ n ∧ n ≤ 6) (hm : 0 ≤ m ∧ m ≤ 6) :
  ∃ l, B2 N n m bad diag = some l ∧ (l.length : Int) = n ∧ (∀ row, row ∈ l → (row.length : Int) = m) ∧ (diag = true → n = m → EU l = none) := by
 obtain ⟨M, rfl⟩ := Int.eq_ofNat_of_zero_le hn.1
 unfold B2
 obtain ⟨l, e, h1, h2⟩ := DL (A := List (List Bool)) (A8 N (M : Int) m bad diag (fun v => some v)) (fun a k => (a, k)) M some
  (fun k a => a.length = k ∧ ∀ q, q < k → (((a.getD q []).length : Nat) : Int) = m ∧ (diag = true → (q : Int) < m → (a.getD q []).getD q false = true))
  (fun n k a hk ha => by
   obtain ⟨row, e, h1, h2⟩ := MZ (_R := Unit) N m bad diag k a (fun (v5 : List Bool) =>
    (DO (a.length + (([v5] : List (List Bool))).length ≤ Dr)).bind fun _ =>
    A8 N (M : Int) m bad diag (fun v => some v) n (a ++ (([v5] : List (List Bool))), (wI .i64 ((k : Int) + 1)))) hN h20 hm (by omega)
   refine ⟨a ++ [row], ?_, by simp [ha.1], Dn (P := fun q y => ((y.length : Nat) : Int) = m ∧ (diag = true → (q : Int) < m → y.getD q false = true)) ha.1 ha.2 ⟨h1, h2⟩⟩
   rw [A8]
   simp only
   rw [AJ (by omega), e, Aq (by rw [ha.1]; unfold Dr; simp; omega), AK (by omega)])
  (fun n a _ => by
   rw [A8]
   simp only
   rw [AG (by omega)]) N 0 [] (Nat.zero_le _) (by omega) ⟨rfl, fun q hq => by omega⟩
 have key : ∀ q row, l[q]? = some row → l.getD q [] = row := fun q row hq => by rw [lD, hq]; rfl
 refine ⟨l, e, by omega, fun row hr => ?_, fun hd hnm => ?_⟩
 ·obtain ⟨q, hq⟩ := List.mem_iff_getElem?.1 hr
  have := (h2 q (by have := (lI.1 hq).1; omega)).1
  rwa [key q row hq] at this
 ·unfold EU
  refine C3 fun q row hq => ?_
  have hlt := (lI.1 hq).1
  have := (h2 q (by omega)).2 hd (by omega)
  rw [key q row hq] at this
  rw [Nat.zero_add, this]; rfl
structure MG (p : Aa) : Prop where
 valid : Cq p = 0
 nv : p.fa.length ≤ 3
 nt : p.fb.length ≤ 4
 v3 : ∀ v, v ∈ p.fa → v ≤ 3
theorem LY {p q : Aa} (h : p.fa = q.fa) (t : Ab) : BO p t = BO q t := by
 unfold BO; rw [h]
theorem QM (N : Nat) (d : A4) (hN : N ≤ 1000000) (h20 : 20 ≤ N) (hw : CJ d) : ∃ p ok, Ck N d = some (p, ok) ∧ (ok = true → MG p) := by
 obtain ⟨w1, w2, w3, w4, _⟩ := hw
 unfold Ck
 simp only [BK]
 by_cases k1 : 3 < d.fa.length
 ·rw [AJ (by omega)]; exact ⟨_, false, rfl, fun h => by cases h⟩
 by_cases k2 : 4 < d.fp.length
 ·rw [AG (by omega), decide_eq_true (by omega : (4 : Int) < (d.fp.length : Int))]; exact ⟨_, false, rfl, fun h => by cases h⟩
 rw [AG (by omega), decide_eq_false (by omega : ¬ (4 : Int) < (d.fp.length : Int)), AH]
 obtain ⟨⟨vs, ns, ts⟩, e, h1, h2, h3, h4⟩ := DL (A := List Int × List Int × List Int) (Bk N d fun v5 => AI N d v5 (fun v16 => some (Aa.mk v5.1 v5.2.1 v5.2.2 v16, true)) N ([], 0)) (fun a k => (a.1, a.2.1, a.2.2, k)) d.fa.length
  (fun v5 => AI N d v5 (fun v16 => some (Aa.mk v5.1 v5.2.1 v5.2.2 v16, true)) N ([], 0))
  (fun i a => a.1.length = i ∧ a.2.1.length = i ∧ a.2.2.length = i ∧ (∀ k, k < i → (1 ≤ a.1.getD k 0 ∧ a.1.getD k 0 ≤ 3) ∧ (0 ≤ a.2.1.getD k 0 ∧ a.2.1.getD k 0 < a.1.getD k 0) ∧ (0 ≤ a.2.2.getD k 0 ∧ a.2.2.getD k 0 < a.1.getD k 0)))
  (fun n i a hi ha => by
   obtain ⟨vs, ns, ts⟩ := a
   obtain ⟨h1, h2, h3, h4⟩ := ha
   simp only at h1 h2 h3 h4
   have hv := GC w1 i
   have hb := GC w2 i
   have hk := GC w3 i
   have hm := CA (n := 3) hv.1 (by omega)
   obtain ⟨v, hvd⟩ : ∃ v, v = 1 + Int.tmod (d.fa.getD i 0) 3 := ⟨_, rfl⟩
   have m1 := CA (n := v) hb.1 (by omega)
   have m2 := CA (n := v) hk.1 (by omega)
   refine ⟨(vs ++ [v], ns ++ [Int.tmod (d.fk.getD i 0) v], ts ++ [Int.tmod (d.fm.getD i 0) v]), ?_, by simp [h1], by simp [h2], by simp [h3], ?_⟩
   ·rw [Bk]
    simp only
    rw [AJ (by omega), DQ (d := 0) hi, JJ N w2, JJ N w3]
    simp only [oS]
    rw [BZ (n := Int.tmod _ _) (by omega) (by omega), BZ (n := 1 + _) (by omega) (by omega), ← hvd, AK (by omega)]
    have l1 : ∀ y : Int, vs.length + ([y] : List Int).length ≤ Dr := by intro y; rw [h1]; unfold Dr; simp; omega
    have l2 : ∀ y : Int, ns.length + ([y] : List Int).length ≤ Dr := by intro y; rw [h2]; unfold Dr; simp; omega
    have l3 : ∀ y : Int, ts.length + ([y] : List Int).length ≤ Dr := by intro y; rw [h3]; unfold Dr; simp; omega
    simp only [Aq (l1 _), Aq (l2 _), Aq (l3 _), Aq (show v ≠ 0 by omega)]
   ·intro k hk
    simp only
    by_cases hki : k < i
    ·rw [Fj (by omega), Fj (by omega), Fj (by omega)]; exact h4 k hki
    ·have : k = i := by omega
     subst this
     rw [Fi h1.symm, Fi h2.symm, Fi h3.symm]
     omega)
  (fun n a _ => by
   rw [Bk]
   simp only
   rw [AG (by omega)]) N 0 ([], [], []) (Nat.zero_le _) (by omega) ⟨rfl, rfl, rfl, fun k hk => by omega⟩
 simp only at h1 h2 h3 h4
 have e' : Bk N d (fun v5 => AI N d v5 (fun v16 => some (Aa.mk v5.1 v5.2.1 v5.2.2 v16, true)) N ([], 0)) N ([], [], [], 0) = _ := e
 rw [e']
 have hvs : ∀ v, v ∈ vs → 1 ≤ v ∧ v ≤ 3 := by
  intro v hv
  obtain ⟨q, hq⟩ := List.mem_iff_getElem?.1 hv
  have := (h4 q (by have := (lI.1 hq).1; omega)).1
  rwa [lD, hq] at this
 have fin : ∀ tabs : List Ab, tabs.length ≤ 4 → (∀ t, t ∈ tabs → BO ⟨vs, ns, ts, []⟩ t = 0) → MG ⟨vs, ns, ts, tabs⟩ := by
  intro tabs ht h
  have hp : CM ⟨vs, ns, ts, tabs⟩ := ⟨show vs.length ≤ 6 by omega, show tabs.length ≤ 12 by omega, show ns.length = vs.length by omega, show ts.length = vs.length by omega, fun v hv => by have := hvs v hv; omega, fun t ht => by rw [← h t ht]; exact LY rfl t⟩
  exact ⟨J9 hp fun i hi => by have := h4 i (by have : i < vs.length := hi; omega); simp only; omega, show vs.length ≤ 3 by omega, ht, fun v hv => (hvs v hv).2⟩
 by_cases k3 : vs.length = 0
 ·refine ⟨_, true, ?_, fun _ => fin [] (by simp) (fun t ht => by cases ht)⟩
  obtain ⟨M, rfl⟩ : ∃ M, N = M + 1 := ⟨N - 1, by omega⟩
  rw [AI]
  simp only [BK]
  rw [k3]
  by_cases k4 : (0 : Int) < (d.fp.length : Int)
  ·rw [AJ k4]; rfl
  ·rw [AG k4]; rfl
 obtain ⟨tabs, e2, g1, g2⟩ := DL (A := List Ab) (AI N d (vs, ns, ts) (fun v16 => some (Aa.mk vs ns ts v16, true))) (fun a k => (a, k)) d.fp.length (fun v16 => some (Aa.mk vs ns ts v16, true))
  (fun i a => a.length = i ∧ ∀ t, t ∈ a → BO ⟨vs, ns, ts, []⟩ t = 0)
  (fun n i a hi ha => by
   have hx : d.fp[i]? = some d.fp[i] := by simp [hi]
   generalize d.fp[i] = l at hx
   obtain ⟨u1, u2, u3, _, u5, u6, _⟩ := w4 l (lM hx)
   have u1 := E3 u1
   have u2 := E3 u2
   have u3 := E3 u3
   have mk := CA (n := 4) u1.1 (by omega)
   have hL : (0 : Int) < (vs.length : Int) := by omega
   have mf := CA (n := (vs.length : Int)) u2.1 hL
   have mt := CA (n := (vs.length : Int)) u3.1 hL
   rw [AI]
   simp only [BK]
   rw [AJ (by omega), decide_eq_true hL, Da, BA, hx]
   simp only [oS]
   rw [Aq (by omega), Aq (by omega), BZ (n := l.fd) (by omega) (by omega), BZ (n := l.fi) (by omega) (by omega), BZ (n := Int.tmod l.fe 4) (by omega) (by omega), BZ (n := 1 + _) (by omega) (by omega), AK (by omega)]
   simp only [HJ, oS]
   rw [Ey (d := 0) mf.1 mf.2, Ey (d := 0) mt.1 mt.2]
   simp only [oS]
   have hA : ∀ q : Int, 0 ≤ q → q < (vs.length : Int) → 1 ≤ vs.getD q.toNat 0 ∧ vs.getD q.toNat 0 ≤ 3 := fun q h0 h1 => (h4 q.toNat (by omega)).1
   have hf := hA _ mf.1 mf.2
   have ht := hA _ mt.1 mt.2
   obtain ⟨A, eA, a1, a2, _⟩ := LE N (vs.getD (Int.tmod l.fd (vs.length : Int)).toNat 0) (vs.getD (Int.tmod l.fi (vs.length : Int)).toNat 0) l.fu false hN h20 (by omega) (by omega)
   obtain ⟨B, eB, b1, b2, b3⟩ := LE N (vs.getD (Int.tmod l.fd (vs.length : Int)).toNat 0) (vs.getD (Int.tmod l.fd (vs.length : Int)).toNat 0) l.fv true hN h20 (by omega) (by omega)
   rw [eA, eB]
   simp only [oS]
   have l1 : ∀ y : Ab, a.length + ([y] : List Ab).length ≤ Dr := by intro y; rw [ha.1]; unfold Dr; simp; omega
   simp only [Aq (l1 _)]
   obtain ⟨kd, hkd⟩ : ∃ kd, kd = 1 + Int.tmod l.fe 4 := ⟨_, rfl⟩
   rw [← hkd]
   have fin2 : ∀ (aw : Bool) (re : List (List Bool)), (aw = true → (kd == 3 || kd == 4) = false) → ((kd = 4 → re = B) ∧ (kd ≠ 4 → re = [])) →
     BO ⟨vs, ns, ts, []⟩ (Ab.mk kd (Int.tmod l.fd (vs.length : Int)) (Int.tmod l.fi (vs.length : Int)) aw A re) = 0 := by
    intro aw re haw hre
    refine O9 ⟨show 1 ≤ kd ∧ kd ≤ 4 by omega, haw, mf, mt, a1, a2, fun h => by rw [hre.1 h]; exact b1, fun row hr => ?_, fun h => by rw [hre.1 h]; exact b3 rfl rfl, fun h => hre.2 h⟩
    by_cases h4 : kd = 4
    ·simp only at hr; rw [hre.1 h4] at hr; exact b2 row hr
    ·simp only at hr; rw [hre.2 h4] at hr; cases hr
   have app : ∀ t, BO ⟨vs, ns, ts, []⟩ t = 0 → (a ++ [t]).length = i + 1 ∧ ∀ t', t' ∈ a ++ [t] → BO ⟨vs, ns, ts, []⟩ t' = 0 := by
    intro t ht
    refine ⟨by simp [ha.1], fun t' ht' => ?_⟩
    rcases List.mem_append.1 ht' with h | h
    ·exact ha.2 t' h
    ·rw [List.mem_singleton.1 h]; exact ht
   by_cases h4 : kd = 4
   ·have e4 : (kd == 4) = true := beq_iff_eq.2 h4
    have hre : (kd = 4 → B = B) ∧ (kd ≠ 4 → B = []) := ⟨fun _ => rfl, fun h => (h h4).elim⟩
    rw [e4]
    simp only [Da, Bool.or_true, Bool.not_true]
    cases l.fo
    ·exact ⟨_, rfl, app _ (fin2 false B (fun h => by cases h) hre)⟩
    ·exact ⟨_, rfl, app _ (fin2 false B (fun h => by cases h) hre)⟩
   ·have e4 : (kd == 4) = false := beq_eq_false_iff_ne.2 h4
    have hre : (kd = 4 → ([] : List (List Bool)) = B) ∧ (kd ≠ 4 → ([] : List (List Bool)) = []) := ⟨fun h => (h4 h).elim, fun _ => rfl⟩
    rw [e4]
    simp only [AH, Bool.or_false]
    cases l.fo
    ·exact ⟨_, rfl, app _ (fin2 false [] (fun h => by cases h) hre)⟩
    ·cases e3 : kd == 3
     ·exact ⟨_, rfl, app _ (fin2 true [] (fun _ => by rw [e3, e4]; rfl) hre)⟩
     ·exact ⟨_, rfl, app _ (fin2 false [] (fun h => by cases h) hre)⟩)
  (fun n a _ => by
   rw [AI]
   simp only [BK]
   rw [AG (by omega), AH]) N 0 [] (Nat.zero_le _) (by omega) ⟨rfl, fun t ht => by cases ht⟩
 exact ⟨_, true, e2, fun _ => fin tabs (by omega) g2⟩
def FB : List Int → Nat → Nat
 | [], _ => 0
 | _, 0 => 0
 | n :: ns, q + 1 => (if 0 ≤ n then 1 else 0) + FB ns q
theorem F3 (l : List Int) : FB l 0 = 0 := by cases l <;> rfl
theorem ET : ∀ (l : List Int) (q : Nat), q < l.length → FB l (q + 1) = FB l q + if 0 ≤ l.getD q 0 then 1 else 0
 | [], q, h => by simp at h
 | n :: ns, 0, _ => by simp [FB, F3]
 | n :: ns, q + 1, h => by
  rw [FB, ET ns q (by simpa using h), FB, List.getD_cons_succ, Nat.add_assoc]
theorem Id (l : List Int) {a b : Nat} (h : a ≤ b) (hb : b ≤ l.length) : FB l a ≤ FB l b := by
 induction b with
 | zero => rw [Nat.le_zero.1 h]; exact Nat.le_refl _
 | succ b ih =>
  by_cases h1 : a = b + 1
  ·rw [h1]; exact Nat.le_refl _
  ·have := ih (by omega) (by omega)
   rw [ET l b (by omega)]; omega
theorem IU (l : List Int) : ∀ q, q ≤ l.length → FB l q ≤ q
 | 0, _ => by rw [F3]; exact Nat.le_refl _
 | q + 1, h => by
  have := IU l q (by omega)
  rw [ET l q h]
  split <;> omega
def JZ (l : List Int) (k q : Nat) : Int := if 0 ≤ l.getD q 0 ∧ k.testBit (FB l q) = true then -1 else l.getD q 0
def Og (l : List Int) (k : Nat) : List Int := (List.range l.length).map (JZ l k)
def PI (m : Af) (k : Nat) : Af := ⟨m.fh, Og m.fc k, m.fg⟩
def EE (m : Af) : List Af := (List.range (2 ^ FB m.fc m.fc.length)).map (PI m)
theorem Ia (l : List Int) (k : Nat) : (Og l k).length = l.length := by simp [Og]
theorem K1 (l : List Int) (k q : Nat) (h : q < l.length) : (Og l k).getD q 0 = JZ l k q := by
 unfold Og; rw [lD, List.getElem?_map, List.getElem?_range h]; rfl
theorem Er {l1 l2 : List Int} (h1 : l1.length = l2.length) (h : ∀ q, q < l1.length → l1.getD q 0 = l2.getD q 0) : l1 = l2 := by
 apply List.ext_getElem h1
 intro q h2 h3
 have := h q h2
 rw [lD, lD, List.getElem?_eq_getElem h2, List.getElem?_eq_getElem h3] at this
 exact this
theorem Nv : ∀ (k : Fin 64) (b : Fin 7), E7 .i64 (E8 .i64 (k.val : Int) (b.val : Int)) 1 = (if k.val.testBit b.val then 1 else 0) ∧ Int.tmod (E8 .i64 (k.val : Int) (b.val : Int)) 2 = (if k.val.testBit b.val then 1 else 0) := by decide +kernel
theorem N7 : ∀ n : Fin 7, C5 .i64 1 (n.val : Int) = ((2 ^ n.val : Nat) : Int) := by decide +kernel
structure Ig (m x : Af) : Prop where
 base : x.fh = m.fh
 held : x.fg = m.fg
 len : x.fc.length = m.fc.length
 next : ∀ q, q < m.fc.length → x.fc.getD q 0 = m.fc.getD q 0 ∨ (0 ≤ m.fc.getD q 0 ∧ x.fc.getD q 0 = -1)
theorem Ig.refl (m : Af) : Ig m m := ⟨rfl, rfl, rfl, fun _ _ => .inl rfl⟩
theorem Ig.trans {a b c : Af} (h1 : Ig a b) (h2 : Ig b c) : Ig a c :=
 ⟨h2.base.trans h1.base, h2.held.trans h1.held, h2.len.trans h1.len, fun q hq => by
  have e1 := h1.next q hq
  have e2 := h2.next q (by rw [h1.len]; exact hq)
  omega⟩
theorem Mb (m : Af) (k : Nat) : Ig m (PI m k) :=
 ⟨rfl, rfl, Ia _ _, fun q hq => by
  show (Og m.fc k).getD q 0 = _ ∨ _ ∧ (Og m.fc k).getD q 0 = _
  rw [K1 _ _ _ hq]; unfold JZ
  split
  ·rename_i h; exact .inr ⟨h.1, rfl⟩
  ·exact .inl rfl⟩
theorem LG : ∀ (l x : List Int), x.length = l.length → (∀ q, q < l.length → x.getD q 0 = l.getD q 0 ∨ (0 ≤ l.getD q 0 ∧ x.getD q 0 = -1)) → ∃ k, k < 2 ^ FB l l.length ∧ ∀ q, q < l.length → x.getD q 0 = JZ l k q
 | [], x, h, _ => ⟨0, by simp [FB], fun q hq => by simp at hq⟩
 | n :: ns, [], h, _ => by simp at h
 | n :: ns, y :: ys, h, hq => by
  obtain ⟨k, hk, hk2⟩ := LG ns ys (by simpa using h) (fun q hq' => by have := hq (q + 1) (by simpa using hq'); simpa using this)
  have h0 := hq 0 (by simp)
  simp only [List.getD_cons_zero] at h0
  by_cases hn : 0 ≤ n
  ·refine ⟨2 * k + if y = n then 0 else 1, ?_, ?_⟩
   ·rw [List.length_cons, FB, if_pos hn, Nat.pow_add]
    split <;> omega
   ·intro q hq'
    cases q with
    | zero =>
     simp only [List.getD_cons_zero, JZ, F3]
     by_cases hy : y = n
     ·simp [hy]
     ·rw [if_neg hy, if_pos ⟨hn, by simp⟩]; omega
    | succ q =>
     have := hk2 q (by simpa using hq')
     simp only [List.getD_cons_succ, JZ, FB, if_pos hn] at this ⊢
     rw [this, Nat.add_comm 1, Nat.testBit_succ]
     have : (2 * k + if y = n then 0 else 1) / 2 = k := by split <;> omega
     rw [this]
  ·refine ⟨k, ?_, ?_⟩
   ·rw [List.length_cons, FB, if_neg hn, Nat.zero_add]; exact hk
   ·intro q hq'
    cases q with
    | zero =>
     simp only [List.getD_cons_zero, JZ, F3]
     rw [if_neg (fun h => hn h.1)]
     omega
    | succ q =>
     have := hk2 q (by simpa using hq')
     simp only [List.getD_cons_succ, JZ, FB, if_neg hn, Nat.zero_add] at this ⊢
     exact this
theorem GQ {m x : Af} : x ∈ EE m ↔ Ig m x := by
 unfold EE
 rw [List.mem_map]
 constructor
 ·rintro ⟨k, _, rfl⟩; exact Mb m k
 ·intro h
  obtain ⟨k, hk, hq⟩ := LG m.fc x.fc h.len h.next
  refine ⟨k, List.mem_range.2 hk, ?_⟩
  have : Og m.fc k = x.fc := Er (by rw [Ia, h.len]) fun q hq' => by
   rw [Ia] at hq'
   rw [K1 _ _ _ hq', hq q hq']
  unfold PI
  rw [this, ← h.base, ← h.held]
theorem Pe {m x : Af} (h : Ig m x) {s : Nat} (hs : s < m.fc.length) {v : Nat} (hv : EI x s v = true) : EI m s v = true := by
 unfold EI at hv ⊢
 rw [h.base] at hv
 have := h.next s hs
 simp only [Bool.or_eq_true, decide_eq_true_eq] at hv ⊢
 omega
theorem PP {p : Aa} {m x : Af} (hp : CM p) (hm : HS p m) (h : Ig m x) : HS p x := by
 refine ⟨⟨by rw [h.base]; exact hm.base, by rw [h.len]; exact hm.next, by rw [h.held]; exact hm.held, fun i hi => by rw [h.base]; exact hm.b0 i hi, fun i hi => ?_, fun i hi => ?_⟩, fun i hi => by rw [h.held]; exact hm.range i hi, fun i t ht hs v hv => ?_, fun i t ht hs v hv => ?_, fun i t ht hs => by rw [h.held]; exact hm.none i t ht hs⟩
 ·have h1 := hm.n0 i hi
  have h2 := h.next i (by rw [hm.next]; exact hi)
  have h3 := GS hp hi
  omega
 ·have h1 := hm.ne i hi
  have h2 := h.next i (by rw [hm.next]; exact hi)
  have h3 := hm.b0 i hi
  rw [h.base]
  omega
 ·have hin := (GP (hp.tab t (lM ht))).from0
  rw [h.held]
  exact hm.low i t ht hs v (Pe h (by rw [hm.next]; omega) hv)
 ·rw [h.held] at hv
  exact hm.high i t ht hs v hv
theorem JE (N : Nat) (l : List Int) (h : l.length ≤ Dr) : Bt N l = some l := by
 unfold Bt
 rw [Aq (by simpa using h)]; rfl
theorem L5 (N : Nat) (l : List Int) (h : l.length ≤ Dr) : Bg N l = some l := by
 unfold Bg
 rw [Aq (by simpa using h)]; rfl
theorem MR {l : List Int} {i q : Nat} {y : Int} (hi : i < l.length) : (l.set i y).getD q 0 = if q = i then y else l.getD q 0 := by
 rw [lD, lD, List.getElem?_set]
 by_cases h : i = q
 ·subst h; simp [hi]
 ·rw [if_neg h, if_neg (fun e => h e.symm)]
theorem ND {l : List Int} {a b : Nat} (ha : a < l.length) (hb : b < l.length) (h1 : 0 ≤ l.getD a 0) (h2 : 0 ≤ l.getD b 0) (h : FB l a = FB l b) : a = b := by
 rcases Nat.lt_trichotomy a b with h3 | h3 | h3
 ·have := Id l (a := a + 1) (b := b) h3 (by omega)
  rw [ET l a ha, if_pos h1] at this; omega
 ·exact h3
 ·have := Id l (a := b + 1) (b := a) h3 (by omega)
  rw [ET l b hb, if_pos h2] at this; omega
structure Nj (l : List Int) (o : List Int) : Prop where
 len : o.length = FB l l.length
 at_ : ∀ b, b < o.length → ∃ i : Nat, o.getD b 0 = (i : Int) ∧ i < l.length ∧ 0 ≤ l.getD i 0 ∧ FB l i = b
theorem KD (N : Nat) (l o : List Int) (k : Nat) (acc : List Af) (hN : N ≤ 1000000) (h20 : 20 ≤ N) (hl : l.length ≤ 6) (ho : Nj l o) (hk : k < 64) (j : List Int → Option (List Af × Int)) :
  Bo N o (acc, (k : Int)) j N (l, 0) = j (Og l k) := by
 have hol := IU l l.length (Nat.le_refl _)
 have hoL := ho.len
 obtain ⟨x, e, h1, h2⟩ := DL (A := List Int) (Bo N o (acc, (k : Int)) j) (fun a k => (a, k)) o.length j
  (fun b a => a.length = l.length ∧ ∀ q, q < l.length → a.getD q 0 = if 0 ≤ l.getD q 0 ∧ FB l q < b ∧ k.testBit (FB l q) = true then -1 else l.getD q 0)
  (fun n b a hb ha => by
   obtain ⟨i, hi1, hi2, hi3, hi4⟩ := ho.at_ b hb
   have hbit := Nv ⟨k, hk⟩ ⟨b, by omega⟩
   rw [Bo]
   simp only [BK]
   rw [AJ (by omega), DQ (d := 0) hb]
   simp only [oS]
   rw [Aq (by omega), hi1, hbit.1, DQ (d := 0) (show i < a.length by rw [ha.1]; exact hi2), AK (by omega)]
   simp only [oS, Int.toNat_natCast]
   cases hkb : k.testBit b
   ·refine ⟨a, rfl, ha.1, fun q hq => ?_⟩
    rw [ha.2 q hq]
    by_cases hqb : FB l q = b
    ·rw [hqb, hkb]; simp
    ·by_cases h3 : FB l q < b
     ·have : FB l q < b + 1 := by omega
      simp [h3, this]
     ·have : ¬ FB l q < b + 1 := by omega
      simp [h3, this]
   ·refine ⟨a.set i (-1), rfl, by simp [ha.1], fun q hq => ?_⟩
    rw [MR (by rw [ha.1]; exact hi2), ha.2 q hq]
    by_cases hqi : q = i
    ·subst hqi
     rw [if_pos rfl, if_pos ⟨hi3, by omega, by rw [hi4]; exact hkb⟩]
    ·rw [if_neg hqi]
     by_cases h0 : 0 ≤ l.getD q 0
     ·have hne : FB l q ≠ b := fun h => hqi (ND hq hi2 h0 hi3 (by omega))
      by_cases h3 : FB l q < b
      ·have : FB l q < b + 1 := by omega
       simp [h3, this]
      ·have : ¬ FB l q < b + 1 := by omega
       simp [h3, this]
     ·rw [if_neg (fun h => h0 h.1), if_neg (fun h => h0 h.1)])
  (fun n a _ => by
   rw [Bo]
   simp only [BK]
   rw [AG (by omega)]) N 0 l (Nat.zero_le _) (by omega) ⟨rfl, fun q hq => by simp⟩
 have e' : Bo N o (acc, (k : Int)) j N (l, 0) = j x := e
 rw [e']
 congr 1
 refine Er (by rw [Ia, h1]) fun q hq => ?_
 rw [h1] at hq
 rw [h2 q hq, K1 _ _ _ hq, JZ]
 by_cases h0 : 0 ≤ l.getD q 0
 ·have h3 := Id l (a := q + 1) (b := l.length) hq (Nat.le_refl _)
  rw [ET l q hq, if_pos h0] at h3
  have : FB l q < o.length := by omega
  simp [this]
 ·rw [if_neg (fun h => h0 h.1), if_neg (fun h => h0 h.1)]
theorem Ml (N : Nat) (m : Af) (hN : N ≤ 1000000) (h20 : 20 ≤ N) (hl : m.fc.length ≤ 6) (j : List Int → Option (List Af × Int)) :
  ∃ o, BR N m j N ([], 0) = j o ∧ Nj m.fc o := by
 obtain ⟨o, e, h1, h2⟩ := DL (A := List Int) (BR N m j) (fun a k => (a, k)) m.fc.length j
  (fun i o => o.length = FB m.fc i ∧ ∀ b, b < o.length → ∃ q : Nat, o.getD b 0 = (q : Int) ∧ q < m.fc.length ∧ 0 ≤ m.fc.getD q 0 ∧ FB m.fc q = b)
  (fun n i o hi ho => by
   have hple := IU m.fc i (by omega)
   have hs := ET m.fc i hi
   rw [BR]
   simp only [BK]
   rw [AJ (by omega), DQ (d := 0) hi]
   simp only [oS]
   rw [AK (by omega)]
   by_cases h0 : 0 ≤ m.fc.getD i 0
   ·rw [AJ h0, Aq (by rw [ho.1]; unfold Dr; simp; omega)]
    refine ⟨o ++ [(i : Int)], rfl, by rw [hs, if_pos h0, ← ho.1]; simp, ?_⟩
    rw [List.length_append]
    exact Dn (P := fun b y => ∃ q : Nat, y = (q : Int) ∧ q < m.fc.length ∧ 0 ≤ m.fc.getD q 0 ∧ FB m.fc q = b) rfl ho.2 ⟨i, rfl, hi, h0, ho.1.symm⟩
   ·rw [AG h0]
    exact ⟨o, rfl, by rw [hs, if_neg h0, ho.1]; rfl, ho.2⟩)
  (fun n a _ => by
   rw [BR]
   simp only [BK]
   rw [AG (by omega)]) N 0 [] (Nat.zero_le _) (by omega) ⟨(F3 _).symm, fun b hb => by simp at hb⟩
 exact ⟨o, e, h1, h2⟩
theorem IL {n : Nat} (h : n ≤ 6) : 2 ^ n ≤ 64 := Nat.pow_le_pow_right (n := 2) (by omega) h
theorem Lv {n : Nat} (h : n ≤ 6) : C5 .i64 1 (n : Int) = ((2 ^ n : Nat) : Int) := N7 ⟨n, by omega⟩
theorem Iy {β : Type} (f : Nat → β) (n : Nat) : (List.range (n + 1)).map f = (List.range n).map f ++ [f n] := by
 rw [List.range_succ, List.map_append]; rfl
theorem I7 (N : Nat) (p : Aa) (m : Af) (hN : N ≤ 1000000) (h20 : 100 ≤ N) (hw : HB GF m.fg) (hv : Du p m = 0) : DI N p m = some (EE m, 0) := by
 obtain ⟨hp, hm⟩ := IV hw hv
 have hnv := hp.nv
 have hnt := hp.nt
 have hl : m.fc.length ≤ 6 := by rw [hm.next]; omega
 unfold DI
 rw [Hc N p m hN (by omega) hw, hv]
 simp only [oS, bne_self_eq_false, AH]
 obtain ⟨o, e, ho⟩ := Ml N m hN (by omega) hl (fun (v4 : (List Int)) =>
   (DO (0 ≤ (v4.length : Int))).bind fun _ =>
   Bq N m v4 (fun (v12 : (List Af)) =>
    some (v12, 0)) N (([] : List Af), 0))
 rw [e, Aq (by omega)]
 have hoL := ho.len
 have hol := IU m.fc m.fc.length (Nat.le_refl _)
 have hpow := IL (show FB m.fc m.fc.length ≤ 6 by omega)
 obtain ⟨a, e2, h1⟩ := DL (A := List Af) (Bq N m o fun v12 => some (v12, 0)) (fun a k => (a, k)) (2 ^ FB m.fc m.fc.length) (fun v12 => some (v12, 0))
  (fun i a => a = (List.range i).map (PI m))
  (fun n i a hi ha => by
   refine ⟨a ++ [PI m i], ?_, by rw [Iy, ha]⟩
   have hal : a.length = i := by rw [ha]; simp
   rw [Bq]
   rw [hoL, Lv (n := FB m.fc m.fc.length) (by omega), AJ (by omega), JE N m.fh (by have := hm.base; unfold Dr; omega), JE N m.fc (by unfold Dr; omega), L5 N m.fg (by have := hm.held; unfold Dr; omega)]
   simp only [oS]
   rw [KD N m.fc o i a hN (by omega) hl ho (by omega), Aq (by rw [hal]; unfold Dr; simp; omega), AK (by omega)]
   rfl)
  (fun n a _ => by
   rw [Bq]
   rw [hoL, Lv (n := FB m.fc m.fc.length) (by omega), AG (by simp)]) N 0 [] (Nat.zero_le _) (by omega) rfl
 have e2' : Bq N m o (fun v12 => some (v12, 0)) N ([], 0) = some (a, 0) := e2
 rw [e2', h1]; rfl
theorem P7 {p : Aa} {m : Af} (hm : HS p m) : HB GF m.fg := by
 intro x hx
 obtain ⟨q, hq⟩ := List.mem_iff_getElem?.1 hx
 have h1 := (lI.1 hq).1
 have := hm.range q (by rw [← hm.held]; exact h1)
 rw [lD, hq] at this
 unfold GF
 simp only [Option.getD_some] at this
 simp [Lit.wf, IntKind.min, IntKind.max, IntKind.signed, IntKind.bits]
 omega
def HC (p : Aa) (x : Af) : Option (Af × Ae) := match AL p x with
 | [] => none
 | c :: _ => some (x, c)
def HG (p : Aa) (m : Af) : Option (Af × Ae) := Cd (fun _ x => HC p x) 0 (EE m)
def Mp : Af := ⟨[], [], []⟩
def Mf : Ae := ⟨0, 0, 0⟩
def Lp (p : Aa) (m : Af) : Af × Ae × Int := match HG p m with
 | some (x, c) => (x, c, 0)
 | none => (Mp, Mf, 15)
def BY (p : Aa) (m : Af) : Bool := (HG p m).isNone
theorem Ld {m : Af} (hl : m.fc.length ≤ 6) : (EE m).length ≤ 64 := by
 unfold EE
 have hol := IU m.fc m.fc.length (Nat.le_refl _)
 have hpow := IL (show FB m.fc m.fc.length ≤ 6 by omega)
 simpa using hpow
theorem KC {α R R' : Type} (f : Nat → α → Option R) (g : R → R') : ∀ (i : Nat) (xs : List α), Cd (fun i x => (f i x).map g) i xs = (Cd f i xs).map g
 | _, [] => rfl
 | i, x :: xs => by
  rw [Dz, Dz]
  cases f i x
  ·exact KC f g (i + 1) xs
  ·rfl
theorem J8 (N : Nat) (p : Aa) (m : Af) (hN : N ≤ 1000000) (h20 : 100 ≤ N) (hw : HB GF m.fg) (hv : Du p m = 0) : DA N p m = some (Lp p m) := by
 obtain ⟨hp, hm⟩ := IV hw hv
 have hnv := hp.nv
 unfold DA
 rw [I7 N p m hN h20 hw hv]
 simp only [oS, bne_self_eq_false, AH]
 have hal := Ld (m := m) (by rw [hm.next]; omega)
 have := CF (Cl N p (EE m, 0) fun _ => some (Mp, Mf, 15)) (EE m) (some (Mp, Mf, 15)) (fun _ x => (HC p x).map fun y => (y.1, y.2, 0))
  (fun n i x hx => by
   have hi := (lI.1 hx).1
   have hx2 := PP hp hm (GQ.1 (lM hx))
   rw [Cl, AJ (by simp only; omega)]
   simp only [BA, hx, oS]
   rw [Fq N p x hN (by omega) hp hx2, AK (by omega)]
   simp only [oS, HC]
   cases AL p x with
   | nil => rfl
   | cons c cs => rw [AJ (by simp only [List.length_cons]; omega)]; rfl)
  (fun n => by rw [Cl, AG (by simp)]) N 0 (Nat.zero_le _) (by omega)
 rw [List.drop_zero, KC] at this
 exact this.trans (by
  unfold Lp HG
  cases Cd (fun _ x => HC p x) 0 (EE m) <;> rfl)
theorem GI (N : Nat) (p : Aa) (m : Af) (hN : N ≤ 1000000) (h20 : 100 ≤ N) (hw : HB GF m.fg) (hv : Du p m = 0) : Cs N p m = some (BY p m, 0) := by
 unfold Cs
 rw [J8 N p m hN h20 hw hv]
 unfold BY Lp
 cases HG p m <;> rfl
theorem HL {α R : Type} {f : Nat → α → Option R} {i : Nat} {xs : List α} : (Cd f i xs).isNone = true ↔ ∀ j x, xs[j]? = some x → f (i + j) x = none := by
 constructor
 ·intro h
  exact El (Option.isNone_iff_eq_none.1 h)
 ·intro h
  rw [C3 h]; rfl
theorem Gd {p : Aa} {x : Af} : HC p x = none ↔ AL p x = [] := by
 unfold HC
 cases AL p x <;> simp
theorem Ln {p : Aa} {m : Af} : BY p m = true ↔ ∀ x, Ig m x → AL p x = [] := by
 unfold BY HG
 rw [HL]
 constructor
 ·intro h x hx
  obtain ⟨j, hj⟩ := List.mem_iff_getElem?.1 (GQ.2 hx)
  exact Gd.1 (h j x hj)
 ·intro h j x hx
  exact Gd.2 (h x (GQ.1 (lM hx)))
theorem JW (N : Nat) (p : Aa) (m : Af) (hN : N ≤ 1000000) (h20 : 100 ≤ N) (hw : HB GF m.fg) (hv : Du p m = 0) : Cc N p m = some (AL p m, 0) := by
 obtain ⟨hp, hm⟩ := IV hw hv
 unfold Cc
 rw [Hc N p m hN (by omega) hw, hv, Fq N p m hN (by omega) hp hm]; rfl
theorem HO (N : Nat) (p : Aa) (m : Af) (hN : N ≤ 1000000) (h20 : 100 ≤ N) (hw : HB GF m.fg) (hv : Du p m = 0) : C1 N p m = some ((AL p m).isEmpty, 0) := by
 unfold C1
 rw [JW N p m hN h20 hw hv]
 simp only [oS, BK, beq_self_eq_true, Da]
 cases AL p m with
 | nil => rfl
 | cons c cs => rw [beq_eq_false_iff_ne.2 (by simp only [List.length_cons]; omega)]; rfl
theorem KG (d : A4) (x : Az) (wd : CJ d) (wx : Cj x) :
  ∃ p ok, Ck 1000 d = some (p, ok) ∧ (ok = true → MG p ∧ CM p ∧ ∃ m, BW 1000 p x = some m ∧ PE p x m ∧ HS p m ∧ Du p m = 0 ∧ HB GF m.fg) := by
 obtain ⟨p, ok, e, h⟩ := QM 1000 d (by omega) (by omega) wd
 refine ⟨p, ok, e, fun hk => ?_⟩
 have hg := h hk
 have hp := (G1 hg.valid).1
 obtain ⟨m, e2, hi, ho⟩ := QU 1000 p x (by omega) (by omega) hp wx
 exact ⟨hg, hp, m, e2, hi, ho, MA hg.valid ho, P7 ho⟩
open Go
structure Nm (x y : Ab) : Prop where
 k : y.fe = x.fe
 f : y.fd = x.fd
 t : y.fi = x.fi
 a : y.fo = x.fo
 r : y.fj = x.fj
 l : y.ff.length = x.ff.length
 o : ∀ (u : Nat) (row : List Bool), x.ff[u]? = some row → ∃ row', y.ff[u]? = some row' ∧ row'.length = row.length ∧ ∀ v : Nat, row[v]? = some true → row'[v]? = some true
structure PB (p q : Aa) : Prop where
 v : q.fa = p.fa
 n : q.fk = p.fk
 t : q.fm = p.fm
 l : q.fb.length = p.fb.length
 o : ∀ (i : Nat) (x : Ab), p.fb[i]? = some x → ∃ y, q.fb[i]? = some y ∧ Nm x y
theorem Nm.st {x y : Ab} (h : Nm x y) : BG y = BG x := by unfold BG; rw [h.k]
theorem IH {α R : Type} {f g : Nat → α → Option R} : ∀ {i : Nat} {xs ys : List α}, ys.length = xs.length → (∀ (j : Nat) x, xs[j]? = some x → ∃ y, ys[j]? = some y ∧ g (i + j) y = f (i + j) x) → Cd g i ys = Cd f i xs
 | _, [], [], _, _ => rfl
 | _, [], y :: ys, h, _ => by simp at h
 | _, x :: xs, [], h, _ => by simp at h
 | i, x :: xs, y :: ys, h, hh => by
  obtain ⟨y', e1, e2⟩ := hh 0 x rfl
  simp only [List.getElem?_cons_zero, Option.some.injEq] at e1
  subst e1
  rw [Dz, Dz, show g i y = f i x from e2, IH (by simpa using h) fun j x' hx => by
   obtain ⟨y', e1, e2⟩ := hh (j + 1) x' (by simpa using hx)
   exact ⟨y', by simpa using e1, by rwa [show i + (j + 1) = i + 1 + j from by omega] at e2⟩]
theorem NH {x y : Ab} (h : Nm x y) (m : Int) : (y.ff.all fun r => decide ((r.length : Int) = m)) = (x.ff.all fun r => decide ((r.length : Int) = m)) := by
 rw [Bool.eq_iff_iff, List.all_eq_true, List.all_eq_true]
 constructor
 ·intro hy r hr
  obtain ⟨u, hu⟩ := List.mem_iff_getElem?.1 hr
  obtain ⟨r', e1, e2, _⟩ := h.o u r hu
  have := hy r' (lM e1)
  rwa [e2] at this
 ·intro hx r hr
  obtain ⟨u, hu⟩ := List.mem_iff_getElem?.1 hr
  have hl := (lI.1 hu).1
  have hz : x.ff[u]? = some (x.ff[u]'(by rw [← h.l]; exact hl)) := by simp [show u < x.ff.length by rw [← h.l]; exact hl]
  obtain ⟨r', e1, e2, _⟩ := h.o u _ hz
  rw [hu] at e1; cases e1
  rw [e2]
  exact hx _ (lM hz)
theorem Pr {x y : Ab} (h : Nm x y) (n m : Int) : sq y.ff n m = sq x.ff n m := by
 unfold sq; rw [h.l, NH h]
theorem KZ {p q : Aa} (h : PB p q) {x y : Ab} (hx : Nm x y) : BO q y = BO p x := by
 unfold BO
 simp only [h.v, hx.k, hx.f, hx.t, hx.a, hx.r, Pr hx]
theorem Lk {p q : Aa} (h : PB p q) : Cq q = Cq p := by
 unfold Cq
 have e1 : Cd (Gl q) 0 q.fb = Cd (Gl p) 0 p.fb := IH h.l fun j x hx => by
  obtain ⟨y, hy, ht⟩ := h.o j x hx
  exact ⟨y, hy, by unfold Gl; rw [KZ h ht]⟩
 have e2 : CN q = CN p := by unfold CN; rw [h.n, h.t]
 rw [e1, e2, h.v, h.n, h.t, h.l]
theorem K0 {p q : Aa} (h : PB p q) (m : Af) : Du q m = Du p m := by
 unfold Du
 have e1 : Cd (Fu q m) 0 q.fb = Cd (Fu p m) 0 p.fb := IH h.l fun j x hx => by
  obtain ⟨y, hy, ht⟩ := h.o j x hx
  exact ⟨y, hy, by unfold Fu NC; rw [ht.st, ht.f, h.v]⟩
 rw [Lk h, e1, h.v, h.l]
theorem IF {p q : Aa} (h : PB p q) {m : Af} (hc : AL p m = []) : AL q m = [] := by
 unfold AL at hc ⊢
 rw [DJ] at hc ⊢
 intro i y hy
 have hi : i < p.fb.length := by rw [← h.l]; exact (lI.1 hy).1
 have hx : p.fb[i]? = some p.fb[i] := by simp [hi]
 obtain ⟨y', hy', ht⟩ := h.o i _ hx
 rw [hy] at hy'; cases hy'
 have hci := hc i _ hx
 unfold FO at hci ⊢
 rw [DJ] at hci ⊢
 intro u row' hu'
 have hu : u < (p.fb[i]).ff.length := by rw [← ht.l]; exact (lI.1 hu').1
 have hr : (p.fb[i]).ff[u]? = some (p.fb[i]).ff[u] := by simp [hu]
 obtain ⟨r2, e1, e2, e3⟩ := ht.o u _ hr
 rw [hu'] at e1; cases e1
 have hcu := hci u _ hr
 have hw : Lj m (0 + i) y (0 + u) = Lj m (0 + i) p.fb[i] (0 + u) := by unfold Lj; rw [ht.st, ht.f]
 rw [hw]
 cases hwb : Lj m (0 + i) p.fb[i] (0 + u)
 ·rfl
 ·rw [hwb, if_pos rfl] at hcu
  rw [if_pos rfl]
  unfold E1 at hcu ⊢
  rw [List.append_eq_nil_iff] at hcu ⊢
  have hfalse : ∀ (v : Nat), row'[v]? = some false → (p.fb[i]).ff[u][v]? = some false := fun v hv => by
   have hvl : v < (p.fb[i]).ff[u].length := by rw [← e2]; exact (lI.1 hv).1
   have hz : (p.fb[i]).ff[u][v]? = some (p.fb[i]).ff[u][v] := by simp [hvl]
   cases hb : (p.fb[i]).ff[u][v]
   ·rw [hz, hb]
   ·rw [hb] at hz
    have := e3 v hz
    rw [hv] at this; cases this
  refine ⟨?_, ?_⟩
  ·have h1 := hcu.1
   rw [DJ] at h1 ⊢
   intro v ok hv
   cases ok
   ·have := h1 v false (hfalse v hv)
    unfold gC at this ⊢
    rw [ht.t, ht.a]; exact this
   ·unfold gC; simp
  ·have h2 := hcu.2
   rw [ht.a]
   cases ha : (p.fb[i]).fo
   ·simp
   ·rw [ha] at h2
    cases hb : Hu (hC m p.fb[i]) 0 (p.fb[i]).ff[u]
    ·rw [hb] at h2; simp at h2
    ·obtain ⟨v, ok, hv, hh⟩ := Ij.1 hb
     unfold hC at hh
     rw [Bool.and_eq_true] at hh
     have hok : ok = true := hh.2
     subst hok
     have : Hu (hC m y) 0 row' = true := Ij.2 ⟨v, true, e3 v hv, by unfold hC; rw [ht.t, hh.1]; rfl⟩
     rw [this]; simp
theorem J4 {p q : Aa} (h : PB p q) {m : Af} (hr : BY p m = true) : BY q m = true := by
 unfold BY HG at hr ⊢
 rw [HL] at hr ⊢
 intro j x hx
 have := hr j x hx
 rw [Gd] at this ⊢
 exact IF h this
structure NF (p : Aa) (m x : Af) : Prop where
 base : m.fh = x.fh
 next : m.fc = x.fc
 held : ∀ i, i < p.fb.length → ∀ v, CR (m.fg.getD i 0) v = true → CR (x.fg.getD i 0) v = true
theorem NF.refl (p : Aa) (m : Af) : NF p m m := ⟨rfl, rfl, fun _ _ _ h => h⟩
theorem NF.trans {p : Aa} {a b c : Af} (h : NF p a b) (g : NF p b c) : NF p a c := ⟨h.base.trans g.base, h.next.trans g.next, fun i hi v hv => g.held i hi v (h.held i hi v hv)⟩
theorem JG {p : Aa} {m x : Af} (h : NF p m x) (hx : AL p x = []) : AL p m = [] := by
 unfold AL at hx ⊢
 rw [DJ] at hx ⊢
 intro j t ht
 have h1 := hx j t ht
 rw [Nat.zero_add] at h1 ⊢
 unfold FO at h1 ⊢
 rw [DJ] at h1 ⊢
 intro u row hr
 have h2 := h1 u row hr
 rw [Nat.zero_add] at h2 ⊢
 have hb : ∀ s v, EI m s v = EI x s v := fun s v => by unfold EI; rw [h.base, h.next]
 have hrd : E1 j m t u row = E1 j x t u row := by
  unfold E1
  have e1 : gC j u m t = gC j u x t := by funext v ok; unfold gC; rw [hb]
  have e2 : hC m t = hC x t := by funext v ok; unfold hC; rw [hb]
  rw [e1, e2]
 by_cases hw : Lj m j t u = true
 ·have hw' : Lj x j t u = true := by
   unfold Lj at hw ⊢
   split at hw
   ·rename_i hs; rw [if_pos hs]
    exact h.held j (lI.1 ht).1 u hw
   ·rename_i hs; rw [if_neg hs, ← hb]; exact hw
  rw [if_pos hw'] at h2
  rw [if_pos hw, hrd]; exact h2
 ·rw [if_neg hw]
theorem KB {p : Aa} {m x : Af} (h : NF p m x) (hx : BY p x = true) : BY p m = true := by
 rw [Ln] at hx ⊢
 intro y hy
 refine JG (x := ⟨y.fh, y.fc, x.fg⟩) ⟨rfl, rfl, fun i hi v hv => ?_⟩ (hx _ ⟨?_, rfl, ?_, fun q hq => ?_⟩)
 ·have hv : CR (y.fg.getD i 0) v = true := hv
  rw [hy.held] at hv
  exact h.held i hi v hv
 ·exact hy.base.trans h.base
 ·rw [← h.next]; exact hy.len
 ·rw [← h.next] at hq ⊢; exact hy.next q hq
structure F8 (xs ys : List Ab) : Prop where
 l : ys.length = xs.length
 o : ∀ (i : Nat) (x : Ab), xs[i]? = some x → ∃ y, ys[i]? = some y ∧ Nm x y
theorem Nm.refl (x : Ab) : Nm x x := ⟨rfl, rfl, rfl, rfl, rfl, rfl, fun _ row h => ⟨row, h, rfl, fun _ h => h⟩⟩
theorem F8.refl (xs : List Ab) : F8 xs xs := ⟨rfl, fun _ x h => ⟨x, h, Nm.refl x⟩⟩
theorem F8.set {xs ys : List Ab} (h : F8 xs ys) {i u v : Nat} {y : Ab} {row : List Bool} {b b0 : Bool} (hy : ys[i]? = some y) (hu : y.ff[u]? = some row) (hv : row[v]? = some b0) (hb : b0 = true → b = true) :
  F8 xs (ys.set i ⟨y.fe, y.fd, y.fi, y.fo, y.ff.set u (row.set v b), y.fj⟩) := by
 refine ⟨by rw [List.length_set]; exact h.l, fun k x hx => ?_⟩
 obtain ⟨z, hz, ht⟩ := h.o k x hx
 by_cases e : i = k
 ·subst e
  rw [hy] at hz; cases hz
  have hi := (lI.1 hy).1
  refine ⟨⟨y.fe, y.fd, y.fi, y.fo, y.ff.set u (row.set v b), y.fj⟩, by rw [List.getElem?_set, if_pos rfl, if_pos hi], ⟨ht.k, ht.f, ht.t, ht.a, ht.r, by show (y.ff.set u (row.set v b)).length = _; rw [List.length_set]; exact ht.l, fun w r hw => ?_⟩⟩
  obtain ⟨r', e1, e2, e3⟩ := ht.o w r hw
  by_cases eu : u = w
  ·subst eu
   rw [hu] at e1; cases e1
   have hul := (lI.1 hu).1
   refine ⟨row.set v b, by show (y.ff.set u (row.set v b))[u]? = _; rw [List.getElem?_set, if_pos rfl, if_pos hul], by rw [List.length_set]; exact e2, fun q hq => ?_⟩
   have h1 := e3 q hq
   rw [List.getElem?_set]
   by_cases ev : v = q
   ·subst ev
    rw [hv] at h1; cases h1
    rw [if_pos rfl, if_pos (lI.1 hv).1, hb rfl]
   ·rw [if_neg ev]; exact h1
  ·exact ⟨r', by show (y.ff.set u (row.set v b))[w]? = _; rw [List.getElem?_set, if_neg eu]; exact e1, e2, e3⟩
 ·exact ⟨z, by rw [List.getElem?_set, if_neg e]; exact hz, ht⟩
theorem F8.row {xs ys : List Ab} (h : F8 xs ys) {i u : Nat} {x : Ab} {row : List Bool} (hx : xs[i]? = some x) (hu : x.ff[u]? = some row) : ∃ y r, ys[i]? = some y ∧ y.ff[u]? = some r ∧ r.length = row.length := by
 obtain ⟨y, hy, ht⟩ := h.o i x hx
 obtain ⟨r, e1, e2, _⟩ := ht.o u row hu
 exact ⟨y, r, hy, e1, e2⟩
theorem Md (N : Nat) (ms : List Int) {xs : List Ab} {i u : Nat} {x : Ab} {row : List Bool} (hx : xs[i]? = some x) (hu : x.ff[u]? = some row) (h6 : row.length ≤ 6) (hu6 : u ≤ 6) (hi : i < ms.length) (v12 v17 : List Ab × Int) (h12 : v12.2 = (i : Int)) (h17 : v17.2 = (u : Int)) (v21 : List Bool) (h21 : v21.length = row.length) (h7 : 7 < N) (J : List Ab → Option Bool) (ys : List Ab) (hy : F8 xs ys) :
  ∃ zs, AP N ms v12 v17 v21 J N (ys, 0) = J zs ∧ F8 xs zs := by
 exact DL (A := List Ab) (AP N ms v12 v17 v21 J) (fun a k => (a, k)) row.length J (fun _ a => F8 xs a)
  (fun n v a hv ha => by
   obtain ⟨y, r, e1, e2, e3⟩ := ha.row hx hu
   have hr : r[v]? = some (r[v]'(by omega)) := by simp [show v < r.length by omega]
   obtain ⟨m, hm⟩ : ∃ m, ms[i]? = some m := ⟨ms[i], by simp [hi]⟩
   have hw : wI .i64 (wI .i64 (3 * (u : Int)) + (v : Int)) = 3 * (u : Int) + (v : Int) := by
    rw [BZ (n := 3 * (u : Int)) (by omega) (by omega), BZ (by omega) (by omega)]
   rw [AP]
   simp only [h12, h17, h21, BA, e1, e2, hr, hm, hw, oS, BK, Int.toNat_natCast]
   rw [AJ (by omega), AK (by omega)]
   cases hb : r[v]'(by omega)
   ·rw [AH, Aq (by omega)]
    exact ⟨_, rfl, ha.set e1 e2 (by rw [hr, hb]) (fun h => by cases h)⟩
   ·rw [Da]
    exact ⟨_, rfl, ha.set e1 e2 hr (fun _ => rfl)⟩)
  (fun n a h => by
   rw [AP, AG (by simp only [h21]; omega)]) N 0 ys (Nat.zero_le _) (by omega) hy
theorem Mi (N : Nat) (ms : List Int) {xs : List Ab} {i : Nat} {x : Ab} (hx : xs[i]? = some x) (h6 : x.ff.length ≤ 6) (hr6 : ∀ row, row ∈ x.ff → row.length ≤ 6) (hi : i < ms.length) (v12 : List Ab × Int) (h12 : v12.2 = (i : Int)) (v16 : Ab) (h16 : v16.ff.length = x.ff.length) (h7 : 7 < N) (J : List Ab → Option Bool) (ys : List Ab) (hy : F8 xs ys) :
  ∃ zs, AE N ms v12 v16 J N (ys, 0) = J zs ∧ F8 xs zs := by
 have := DL (A := List Ab) (AE N ms v12 v16 J) (fun a k => (a, k)) x.ff.length J (fun _ a => F8 xs a)
  (fun n u a hu ha => by
   have hz : x.ff[u]? = some x.ff[u] := by simp [hu]
   obtain ⟨y, r, e1, e2, e3⟩ := ha.row hx hz
   have hrl := hr6 _ (lM hz)
   rw [AE]
   simp only [h12, h16, BA, e1, e2, oS]
   rw [AJ (by omega)]
   obtain ⟨zs, g1, g2⟩ := Md N ms hx hz hrl (by omega) hi v12 (a, (u : Int)) h12 rfl r e3 h7 (fun v23 => AE N ms v12 v16 J n (v23, wI .i64 ((u : Int) + 1))) a ha
   refine ⟨zs, ?_, g2⟩
   rw [g1, AK (by omega)])
  (fun n a h => by
   rw [AE, AG (by simp only [h16]; omega)]) N 0 ys (Nat.zero_le _) (by omega) hy
 exact this
theorem Mk {N : Nat} (h20 : 100 ≤ N) (ms : List Int) {p : Aa} (hp : CM p) (J : List Ab → Option Bool) : ∃ zs, AQ N ms (p, 0) J N (p.fb, 0) = J zs ∧ F8 p.fb zs := by
 have hnt := hp.nt
 have key : ∀ n i (a : List Ab), i ≤ p.fb.length → p.fb.length - i < n → F8 p.fb a → ∃ zs, AQ N ms (p, 0) J n (a, (i : Int)) = J zs ∧ F8 p.fb zs := by
  intro n
  induction n with
  | zero => intro i a _ h; omega
  | succ n ih =>
   intro i a hi hn ha
   rw [AQ]
   by_cases hlt : i < p.fb.length
   ·have hx : p.fb[i]? = some p.fb[i] := by simp [hlt]
    have hk := GP (hp.tab _ (lM hx))
    have hv := H9 hp hk
    obtain ⟨y, hy, ht⟩ := ha.o i _ hx
    rw [AJ (by simp only; omega)]
    by_cases hm : (ms.length : Int) ≤ (i : Int)
    ·rw [AJ (by simp only; omega)]; exact ⟨a, rfl, ha⟩
    ·rw [AG (by simp only; omega)]
     simp only [BA, hy, oS]
     obtain ⟨zs, g1, g2⟩ := Mi N ms hx hv.1 hv.2 (by omega) (a, (i : Int)) rfl y ht.l (by omega) (fun v18 => AQ N ms (p, 0) J n (v18, wI .i64 ((i : Int) + 1))) a ha
     rw [g1, AK (by omega)]
     exact ih (i + 1) zs (by omega) (by omega) g2
   ·rw [AG (by simp only; omega)]; exact ⟨a, rfl, ha⟩
 exact key N 0 _ (Nat.zero_le _) (by omega) (F8.refl _)
theorem Ol {p : Aa} {t : Ab} (hp : CM p) (ht : Jy p t) : t.fj.length ≤ 6 ∧ ∀ row, row ∈ t.fj → row.length ≤ 6 := by
 have h1 := Gj hp.ver ht.from0.1 ht.from0.2
 refine ⟨?_, fun row hr => by have := ht.reR row hr; omega⟩
 by_cases hk : t.fe = 4
 ·have := ht.reL hk; omega
 ·rw [ht.reN hk]; simp
theorem Iq {α : Type} : ∀ (i : Nat) (xs : List α), DB (fun _ x => [x]) i xs = xs
 | _, [] => rfl
 | i, x :: xs => by rw [DB, Iq (i + 1) xs]; rfl
theorem IE {N : Nat} (h20 : 100 ≤ N) (l : List (List Bool)) (h1 : l.length ≤ 6) (h2 : ∀ row, row ∈ l → row.length ≤ 6) : Bs N l = some l := by
 unfold Bs
 rw [Gv (A5 N l _) (fun a i => (a, i)) l some (fun _ x => [x]) 1 1000
  (fun i x hx => by simp)
  (fun n i x a hx ha => by
   have hi := (lI.1 hx).1
   have hr := h2 x (lM hx)
   rw [A5]
   simp only [BA, hx, oS]
   rw [AJ (by omega), Aq (by simp only [List.length_nil]; unfold Dr; omega), Aq (by simp only [List.length_singleton] at ha ⊢; unfold Dr; omega), AK (by omega)]
   rfl)
  (fun n a => by
   rw [A5, AG (by omega)]) N [] (by omega) (by simp only [List.length_nil]; omega), Iq]
 rfl
theorem Kt {N : Nat} (hN : N ≤ 1000000) (h20 : 100 ≤ N) {p : Aa} (hv : Cq p = 0) : BM N p p.fk p.fm = some (p, 0) := by
 obtain ⟨hp, _⟩ := G1 hv
 have hnt := hp.nt
 have hnv := hp.nv
 have hnow := hp.now
 have htg := hp.tgt
 unfold BM
 rw [I1 N p hN (by omega)]
 simp only [oS, hv, bne_self_eq_false, AH]
 rw [Aq (by simp only [List.length_nil]; unfold Dr; omega), Aq (by simp only [List.length_nil]; unfold Dr; omega), Aq (by simp only [List.length_nil]; unfold Dr; omega)]
 simp only [List.nil_append]
 rw [Gv (AY N p _) (fun a i => (a, i)) p.fb (fun v7 => (AX N (Aa.mk p.fa p.fk p.fm v7)).bind fun v14 => A6 (v14 != 0) (some (Aa.mk [] [] [] [], v14)) (some (Aa.mk p.fa p.fk p.fm v7, 0))) (fun _ x => [x]) 1 1000
  (fun i x hx => by simp)
  (fun n i x a hx ha => by
   have hi := (lI.1 hx).1
   have ht := GP (hp.tab x (lM hx))
   have hl := H9 hp ht
   have hr := Ol hp ht
   rw [AY]
   simp only [BA, hx, oS]
   unfold Ci
   rw [AJ (by omega), IE h20 x.ff hl.1 hl.2, IE h20 x.fj hr.1 hr.2]
   simp only [oS]
   rw [Aq (by simp only [List.length_singleton] at ha ⊢; unfold Dr; omega), AK (by omega)])
  (fun n a => by
   rw [AY, AG (by omega)]) N [] (by omega) (by simp only [List.length_nil]; omega)]
 simp only [List.nil_append, Iq]
 rw [I1 N _ hN (by omega)]
 simp only [oS, hv, bne_self_eq_false, AH]
theorem I8 (d : A4) (x : Az) (ms : List Int) (wd : CJ d) (wx : Cj x) (_ : HB LW ms) : BX 1000 d x ms = some true := by
 have wx' : Cj ⟨x.fh, x.fc, []⟩ := ⟨wx.1, wx.2.1, (fun _ h => by cases h), trivial⟩
 obtain ⟨p, ok, e, h⟩ := KG d x wd wx
 obtain ⟨p', ok', e', h'⟩ := KG d ⟨x.fh, x.fc, []⟩ wd wx'
 rw [e] at e'; cases e'
 unfold BX
 rw [e]
 simp only [oS, BK, KV, Bool.not_true, AH]
 cases ok
 ·rfl
 obtain ⟨hg, hp, m, e1, hi, hm, vm, wm⟩ := h rfl
 obtain ⟨_, _, n, e2, ni, hn, vn, wn⟩ := h' rfl
 simp only [Bool.not_true, AH]
 rw [e1]
 simp only [oS]
 rw [HO 1000 p m (by omega) (by omega) wm vm, GI 1000 p m (by omega) (by omega) wm vm, Kt (by omega) (by omega) hg.valid]
 simp only [oS]
 rw [e2]
 simp only [oS]
 obtain ⟨zs, g1, g2⟩ := Mk (N := 1000) (by omega) ms hp (fun (v13 : (List Ab)) =>
    As 1000 m ((AL p m).isEmpty, 0) (BY p m, 0) (p, 0) n v13 (fun (_ : Unit) =>
     BS (fun (v50 : Bool) =>
      some v50)
     fun j50 =>
     A6 (((0 : Int) == 0))
      (j50 ((0 : Int) == 0))
      (j50 false)) 1000 0)
 refine Eq.trans g1 ?_
 have hq : PB p ⟨p.fa, p.fk, p.fm, zs⟩ := ⟨rfl, rfl, rfl, g2.l, g2.o⟩
 have hle : NF p n m := by
  have hb : n.fh = m.fh := Er (by rw [ni.bl, hi.bl]) fun k hk => by rw [ni.bl] at hk; rw [ni.b k hk, hi.b k hk]
  have hx : n.fc = m.fc := Er (by rw [ni.nl, hi.nl]) fun k hk => by rw [ni.nl] at hk; rw [ni.n k hk, hi.n k hk]
  refine ⟨hb, hx, fun k hk v hv => ?_⟩
  have ht : p.fb[k]? = some p.fb[k] := by simp [hk]
  cases hs : BG p.fb[k]
  ·rw [ni.z k _ ht hs] at hv; rw [hi.z k _ ht hs]; exact hv
  ·rw [ni.s k _ ht hs] at hv
   rw [hi.s k _ ht hs]
   have hr : EI m (p.fb[k]).fd.toNat v = EI n (p.fb[k]).fd.toNat v := by unfold EI; rw [hb, hx]
   rw [hr]
   rw [Bool.or_eq_true] at hv ⊢
   rcases hv with hv | hv
   ·exact .inl hv
   ·have h0 : CR (([] : List Int).getD k 0) v = false := by rw [List.getD_nil]; unfold CR; simp
    rw [h0] at hv; cases hv
 have step : ∀ y : Af, Du p y = 0 → HB GF y.fg → (AL p m = [] → AL p y = []) → (BY p m = true → BY p y = true) → ∀ K : Option Bool,
   ((C1 1000 ⟨p.fa, p.fk, p.fm, zs⟩ y).bind fun v40 => (Cs 1000 ⟨p.fa, p.fk, p.fm, zs⟩ y).bind fun v41 =>
    A6 ((v40.2 != 0)) (A6 true (some false) K) (A6 ((v41.2 != 0)) (A6 true (some false) K) (A6 (AL p m).isEmpty (A6 ((!v40.1)) (A6 true (some false) K) (A6 (BY p m) (A6 (!v41.1) (some false) K) (A6 false (some false) K))) (A6 (BY p m) (A6 (!v41.1) (some false) K) (A6 false (some false) K))))) = K := by
  intro y vy wy h1 h2 K
  have vq : Du ⟨p.fa, p.fk, p.fm, zs⟩ y = 0 := by rw [K0 hq]; exact vy
  rw [HO 1000 _ y (by omega) (by omega) wy vq, GI 1000 _ y (by omega) (by omega) wy vq]
  simp only [oS, bne_self_eq_false, AH]
  have k2 : BY p m = true → BY ⟨p.fa, p.fk, p.fm, zs⟩ y = true := fun h => J4 hq (h2 h)
  have k1 : AL p m = [] → AL ⟨p.fa, p.fk, p.fm, zs⟩ y = [] := fun h => IF hq (h1 h)
  cases hc : AL p m with
  | nil =>
   rw [k1 hc]
   cases hr : BY p m
   ·rfl
   ·rw [k2 hr]; rfl
  | cons c cs =>
   cases hr : BY p m
   ·rfl
   ·rw [k2 hr]; rfl
 have r0 : ∀ (J : Unit → Option Bool) (k : Nat), As 1000 m ((AL p m).isEmpty, 0) (BY p m, 0) (p, 0) n zs J (k + 1) ((0 : Nat) : Int) = As 1000 m ((AL p m).isEmpty, 0) (BY p m, 0) (p, 0) n zs J k ((1 : Nat) : Int) := fun J k => by
  rw [As, AJ (by simp), BA]
  simp only [List.getElem?_cons_zero, oS, BK]
  rw [AK (by omega)]
  exact step m vm wm id id _
 have r1 : ∀ (J : Unit → Option Bool) (k : Nat), As 1000 m ((AL p m).isEmpty, 0) (BY p m, 0) (p, 0) n zs J (k + 1) ((1 : Nat) : Int) = As 1000 m ((AL p m).isEmpty, 0) (BY p m, 0) (p, 0) n zs J k ((2 : Nat) : Int) := fun J k => by
  rw [As, AJ (by simp), BA]
  simp only [List.getElem?_cons_zero, List.getElem?_cons_succ, oS, BK]
  rw [AK (by omega)]
  exact step n vn wn (fun h => JG hle h) (fun h => KB hle h) _
 have r2 : ∀ (J : Unit → Option Bool) (k : Nat), As 1000 m ((AL p m).isEmpty, 0) (BY p m, 0) (p, 0) n zs J (k + 1) ((2 : Nat) : Int) = J () := fun J k => by
  rw [As, AG (by simp)]
 exact (r0 _ 999).trans ((r1 _ 998).trans (r2 _ 997))
end Go.Lift
