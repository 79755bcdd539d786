/- Lemmas for UnblockPlansSaid, which YtjpgllmfenogoaaGreatFinU7 proves. -/
import Derived.Test.YtjpgllmfenogoaaGreatDec
import Derived.KernelRfl
namespace Go.Lift
open IntKind renaming wrap → wI
open Option renaming bind_some → oS
open List renaming getElem?_eq_some_iff → lI
theorem AW {α : Type} (xs : List α) (i : Nat) : A5 xs (i : Int) = xs[i]? := by
 unfold A5; simp
theorem Dy {n : Int} (h0 : -9223372036854775808 ≤ n) (h1 : n ≤ 9223372036854775807) : wI .i64 n = n := by
 simp [wI, IntKind.signed, IntKind.bits]; omega
theorem AB {i : Nat} (h : i < 1000000) : wI .i64 ((i : Int) + 1) = ((i + 1 : Nat) : Int) := by
 rw [Dy (by omega) (by omega)]; simp
@[simp] theorem AR {α : Type} {a b : Option α} : AU true a b = a := rfl
@[simp] theorem Ao {α : Type} {a b : Option α} : AU false a b = b := rfl
theorem AC {α : Type} {p : Prop} [Decidable p] {a b : Option α} (h : p) : AU (decide p) a b = a := by simp [h]
theorem Ay {α : Type} {p : Prop} [Decidable p] {a b : Option α} (h : ¬ p) : AU (decide p) a b = b := by simp [h]
def J9 : List Int → List Int → Int
 | [], [] => 0
 | [], _ :: _ => -1
 | _ :: _, [] => 1
 | a :: as1, b :: bs => if a < b then -1 else if b < a then 1 else J9 as1 bs
theorem Hj {α : Type} {xs : List α} {i : Nat} {x : α} (h : xs[i]? = some x) : xs.drop i = x :: xs.drop (i + 1) := by
 obtain ⟨hi, rfl⟩ := lI.1 h
 exact List.drop_eq_getElem_cons hi
theorem Wj (N : Nat) (a b : List Int) (hb : a.length < 1000000) : ∀ (n i : Nat), i ≤ a.length → i ≤ b.length → a.length - i < n →
  Ew N a b (fun _ => AU (decide ((a.length : Int) < (b.length : Int))) (some (-1)) (AU (decide ((b.length : Int) < (a.length : Int))) (some 1) (some 0))) n (i : Int) = some (J9 (a.drop i) (b.drop i))
 | 0, i, _, _, h => by omega
 | n + 1, i, hi, hj, h => by
  unfold Ew
  simp only [Be]
  by_cases h1 : i < a.length
  ·rw [AC (p := (i : Int) < (a.length : Int)) (by omega)]
   have ha : a[i]? = some a[i] := by simp [h1]
   rw [Hj ha]
   by_cases h2 : i < b.length
   ·have hbb : b[i]? = some b[i] := by simp [h2]
    rw [show decide ((i : Int) < (b.length : Int)) = true from decide_eq_true (by omega), AR, AW, AW, ha, hbb, Hj hbb]
    simp only [oS, J9]
    rw [AB (by omega), Wj N a b hb n (i + 1) (by omega) (by omega) (by omega)]
    by_cases h3 : a[i] < b[i]
    ·simp [h3]
    ·by_cases h4 : b[i] < a[i]
     ·simp [h3, h4]
     ·simp [h3, h4]
   ·rw [show decide ((i : Int) < (b.length : Int)) = false from decide_eq_false (by omega), Ao, Ay (by omega), AC (by omega), List.drop_eq_nil_of_le (by omega : b.length ≤ i)]
    simp [J9]
  ·rw [Ay (p := (i : Int) < (a.length : Int)) (by omega), Ao, List.drop_eq_nil_of_le (by omega : a.length ≤ i)]
   by_cases h2 : a.length < b.length
   ·rw [AC (by omega)]
    have hbb : b[i]? = some b[i] := by simp [show i < b.length from by omega]
    rw [Hj hbb]; simp [J9]
   ·rw [Ay (by omega), Ay (by omega), List.drop_eq_nil_of_le (by omega : b.length ≤ i)]
    simp [J9]
theorem Q3 {N : Nat} {a b : List Int} (h : a.length < N) (hN : N ≤ 1000000) : EC N a b = some (J9 a b) := by
 have := Wj N a b (by omega) N 0 (by omega) (by omega) (by omega)
 simpa [EC] using this
theorem RP : ∀ a : List Int, J9 a a = 0
 | [] => rfl
 | a :: as1 => by simp [J9, RP as1]
theorem PV : ∀ a b : List Int, J9 a b = 0 → a = b
 | [], [], _ => rfl
 | [], _ :: _, h => by simp [J9] at h
 | _ :: _, [], h => by simp [J9] at h
 | a :: as1, b :: bs, h => by
  unfold J9 at h
  split at h
  ·omega
  ·split at h
   ·omega
   ·rw [PV as1 bs h, show a = b from by omega]
def ck : List Int → Int
 | [] => 0
 | x :: xs => if x = 0 then ck xs else x
theorem cR (N : Nat) (a : List Int) (hb : a.length < 1000000) (hw : PN MW a) : ∀ (n i : Nat), i ≤ a.length → a.length - i < n →
  DN N a (fun v => some v) n (a.take i, (i : Int)) = some a
 | 0, i, _, h => by omega
 | n + 1, i, hi, h => by
  unfold DN
  by_cases h1 : i < a.length
  ·have ha : a[i]? = some a[i] := by simp [h1]
   rw [AC (by simpa using h1)]
   simp only
   rw [AW, ha]
   have hr : wI .i64 a[i] = a[i] := by
    have := hw a[i] (List.getElem_mem h1)
    unfold MW at this
    have h2 : 0 ≤ a[i] ∧ a[i] ≤ 255 := by simpa [Lit.wf, IntKind.min, IntKind.max, IntKind.signed, IntKind.bits] using this
    exact Dy (by omega) (by omega)
   simp only [oS, hr]
   have hlen : (a.take i).length + ([a[i]] : List Int).length ≤ DU := by
    simp [DU]; omega
   rw [show Eo ((a.take i).length + ([a[i]] : List Int).length ≤ DU) = some () from by unfold Eo; rw [if_pos hlen]]
   simp only [oS]
   rw [AB (by omega), show a.take i ++ [a[i]] = a.take (i + 1) from by rw [List.take_add_one, ha]; rfl]
   exact cR N a hb hw n (i + 1) (by omega) (by omega)
  ·rw [Ay (by simpa using h1)]
   simp only
   rw [List.take_of_length_le (by omega)]
theorem Pr {N : Nat} {a : List Int} (h : a.length < N) (hN : N ≤ 1000000) (hw : PN MW a) : Et N a = some a := by
 have := cR N a (by omega) hw N 0 (by omega) (by omega)
 simpa [Et] using this
def fB (a : Af) : Prop := a.fG.length ≤ 8 ∧ a.fD.length ≤ 8 ∧ a.fH.length ≤ 14
def Vd (a b : Af) : Int := ck [J9 a.fG b.fG, J9 a.fD b.fD, J9 a.fH b.fH]
theorem R4 (a : Af) : Vd a a = 0 := by unfold Vd; simp [RP, ck]
def En {α R : Type} (f : Nat → α → Option R) : Nat → List α → Option R
 | _, [] => none
 | i, x :: xs => match f i x with
  | some r => some r
  | none => En f (i + 1) xs
theorem Hf {α R : Type} (f : Nat → α → Option R) (i : Nat) (x : α) (xs : List α) : En f i (x :: xs) = match f i x with
  | some r => some r
  | none => En f (i + 1) xs := rfl
def Cd {R : Type} (a : Option R) (b : Option R) : Option R := match a with
 | some r => some r
 | none => b
theorem Dr {α R : Type} (L : Nat → Int → Option R) (xs : List α) (j : Option R) (f : Nat → α → Option R)
  (hs : ∀ (n i : Nat) (x : α), xs[i]? = some x → L (n + 1) (i : Int) = Cd (f i x) (L n ((i + 1 : Nat) : Int))) (he : ∀ n : Nat, L (n + 1) (xs.length : Int) = j) :
  ∀ n i : Nat, i ≤ xs.length → xs.length - i < n → L n (i : Int) = Cd (En f i (xs.drop i)) j
 | 0, i, _, h => by omega
 | n + 1, i, hi, h => by
  by_cases h1 : i < xs.length
  ·have hx : xs[i]? = some xs[i] := by simp [h1]
   rw [hs n i _ hx, Hj hx, Dr L xs j f hs he n (i + 1) (by omega) (by omega)]
   rw [Hf]
   cases f i xs[i] <;> rfl
  ·have : i = xs.length := by omega
   subst this
   rw [he n, List.drop_eq_nil_of_le (Nat.le_refl _)]
   rfl
theorem Sc (N : Nat) (k n : Int) : Fu N k n = some (decide (0 ≤ k) && decide (k < n)) := by
 unfold Fu
 simp only [Be]
 by_cases h : 0 ≤ k
 ·rw [AC h]; simp [h]
 ·rw [Ay h]; simp [h]
theorem Pl (N : Nat) (t : An) : Bj N t = some (t.fI == 3 || t.fI == 4) := by
 unfold Bj
 simp only [Be]
 cases h : t.fI == 3 <;> simp
def sq (l : List (List Bool)) (n m : Int) : Bool := decide ((l.length : Int) = n) && l.all fun r => decide ((r.length : Int) = m)
theorem Q1 {α : Type} (p : α → Bool) {R : Type} (r : Nat → R) : ∀ (i : Nat) (xs : List α), (En (fun i x => if p x then none else some (r i)) i xs).isNone = xs.all p
 | i, [] => rfl
 | i, x :: xs => by
  unfold En
  cases h : p x <;> simp [h, Q1 p r (i + 1) xs]
theorem RX (N : Nat) (l : List (List Bool)) (n m : Int) (h : n < (N : Int)) (hN : N ≤ 1000000) : EL N l n m = some (sq l n m) := by
 unfold EL sq
 by_cases h1 : (l.length : Int) = n
 ·subst h1
  simp only [bne_self_eq_false, Ao, decide_true, Bool.true_and]
  have := Dr (De N l (l.length : Int) m (fun _ => some true)) l (some true) (fun _ r => if decide ((r.length : Int) = m) then none else some false)
   (fun n i x hx => by
    have hi := (lI.1 hx).1
    rw [De, AC (by omega), AW, hx]
    simp only [oS]
    rw [AB (by omega)]
    by_cases h2 : (x.length : Int) = m
    ·simp [h2, Cd]
    ·have : ((x.length : Int) != m) = true := by simpa using h2
     simp [h2, this, Cd])
   (fun n => by rw [De, Ay (by omega)]) N 0 (by omega) (by omega)
  simp only [Int.ofNat_zero, List.drop_zero] at this
  rw [this]
  have h3 := Q1 (fun r : List Bool => decide ((r.length : Int) = m)) (fun _ => false) 0 l
  cases hsc : En (fun (_ : Nat) (r : List Bool) => if decide ((r.length : Int) = m) = true then none else some false) 0 l with
  | none => rw [hsc] at h3; rw [← h3]; rfl
  | some b =>
   rw [hsc] at h3
   rw [← h3]
   have : ∀ (i : Nat) (xs : List (List Bool)) b, En (fun (_ : Nat) (r : List Bool) => if decide ((r.length : Int) = m) = true then none else some false) i xs = some b → b = false := by
    intro i xs
    induction xs generalizing i with
    | nil => intro b hb; cases hb
    | cons x xs ih =>
     intro b hb
     unfold En at hb
     split at hb
     ·rename_i r hr; cases hb; split at hr <;> simp at hr; exact hr
     ·exact ih _ b hb
   rw [this 0 l b hsc]; rfl
 ·have : ((l.length : Int) != n) = true := by simpa using h1
  simp [this, h1]
theorem Sd (N : Nat) (l : List (List Bool)) (n m : Int) (h : n < (N : Int)) (hN : N ≤ 1000000) : GN N l n m = some (sq l n m) := by
 unfold GN sq
 simp only [Be]
 by_cases h1 : (l.length : Int) = n
 ·subst h1
  simp only [beq_self_eq_true, AR, decide_true, Bool.true_and]
  have := Dr (BJ N l (fun x => Fo N x m) (fun _ => some (-1))) l (some (-1)) (fun i r => if decide ((r.length : Int) = m) then none else some (i : Int))
   (fun n i x hx => by
    have hi := (lI.1 hx).1
    rw [BJ, AC (by omega), AW, hx]
    simp only [oS, Fo]
    rw [AB (by omega)]
    by_cases h2 : (x.length : Int) = m
    ·simp [h2, Cd]
    ·have : ((x.length : Int) != m) = true := by simpa using h2
     simp [h2, this, Cd])
   (fun n => by rw [BJ, Ay (by omega)]) N 0 (by omega) (by omega)
  simp only [Int.ofNat_zero, List.drop_zero] at this
  unfold D6 EH
  rw [this]
  have h3 := Q1 (fun r : List Bool => decide ((r.length : Int) = m)) (fun i : Nat => (i : Int)) 0 l
  cases hsc : En (fun (i : Nat) (r : List Bool) => if decide ((r.length : Int) = m) = true then none else some (i : Int)) 0 l with
  | none => rw [hsc] at h3; rw [← h3]; rfl
  | some b =>
   rw [hsc] at h3
   rw [← h3]
   have : ∀ (i : Nat) (xs : List (List Bool)) b, En (fun (i : Nat) (r : List Bool) => if decide ((r.length : Int) = m) = true then none else some (i : Int)) i xs = some b → 0 ≤ b := by
    intro i xs
    induction xs generalizing i with
    | nil => intro b hb; cases hb
    | cons x xs ih =>
     intro b hb
     rw [Hf] at hb
     split at hb
     ·rename_i r hr
      cases hb
      split at hr
      ·cases hr
      ·cases hr; omega
     ·exact ih _ b hb
   have := this 0 l b hsc
   simp [Cd, this]
 ·have : ((l.length : Int) == n) = false := by simpa using h1
  simp [this, h1]
open List renaming mem_of_getElem? → lM
open List renaming getD_eq_getElem?_getD → lD
def KF (l : List (List Bool)) : Option Int := En (fun i row => if row.getD i false then none else some 1) 0 l
theorem Uq {row : List Bool} {i : Nat} (h : i < row.length) : A5 row (i : Int) = some (row.getD i false) := by
 rw [AW, lD]; simp [h]
theorem Zg (N : Nat) (t : An) (h : t.fQ.length < N) (hN : N ≤ 1000000) (hsq : ∀ row, row ∈ t.fQ → row.length = t.fQ.length) (j : Option Int) :
  CA N t (fun _ => j) N 0 = Cd (KF t.fQ) j := by
 have := Dr (CA N t (fun _ => j)) t.fQ j (fun i row => if row.getD i false then none else some 1)
  (fun n i x hx => by
   have hi := (lI.1 hx).1
   have hl := hsq x (lM hx)
   rw [CA, AC (by omega), AW, hx]
   simp only [oS]
   rw [Uq (by omega), AB (by omega)]
   simp only [oS]
   cases x.getD i false <;> rfl)
  (fun n => by rw [CA, Ay (by omega)]) N 0 (by omega) (by omega)
 simpa [KF] using this
theorem Sg (N : Nat) (t : An) (h : t.fQ.length < N) (hN : N ≤ 1000000) (hsq : ∀ row, row ∈ t.fQ → row.length = t.fQ.length) (j : Option Int) :
  Ek N t (fun _ => j) N 0 = Cd (KF t.fQ) j := by
 have := Dr (Ek N t (fun _ => j)) t.fQ j (fun i row => if row.getD i false then none else some 1)
  (fun n i x hx => by
   have hi := (lI.1 hx).1
   have hl := hsq x (lM hx)
   rw [Ek, AC (by omega), AW, hx]
   simp only [oS]
   rw [Uq (by omega), AB (by omega)]
   simp only [oS]
   cases x.getD i false <;> rfl)
  (fun n => by rw [Ek, Ay (by omega)]) N 0 (by omega) (by omega)
 simpa [KF] using this
theorem PW {l : List (List Bool)} {n m : Int} (h : sq l n m = true) : (l.length : Int) = n ∧ ∀ row, row ∈ l → (row.length : Int) = m := by
 unfold sq at h
 simp only [Bool.and_eq_true, decide_eq_true_eq, List.all_eq_true] at h
 exact h
def EW (p : Ac) (t : An) : Int :=
 if t.fI < 1 ∨ 4 < t.fI ∨ (t.fR = true ∧ (t.fI = 3 ∨ t.fI = 4)) then 1
 else if t.fJ < 0 ∨ (p.fE.length : Int) ≤ t.fJ ∨ t.fO < 0 ∨ (p.fE.length : Int) ≤ t.fO then 4
 else
  let f := p.fE.getD t.fJ.toNat 0
  let g := p.fE.getD t.fO.toNat 0
  if sq t.fN f g = false then 6
  else if t.fI = 4 then (if sq t.fQ f f = false then 6 else (KF t.fQ).getD 0)
  else if t.fQ.length = 0 then 0 else 6
theorem Gj {α : Type} {xs : List α} {i : Int} {d : α} (h0 : 0 ≤ i) (h1 : i < (xs.length : Int)) : A5 xs i = some (xs.getD i.toNat d) := by
 obtain ⟨k, rfl⟩ := Int.eq_ofNat_of_zero_le h0
 rw [AW, lD, Int.toNat_natCast]
 simp [show k < xs.length from by omega]
theorem YF {t : An} (A B : Option Int) (hk : ¬ (t.fR = true ∧ (t.fI = 3 ∨ t.fI = 4))) : AU t.fR (AU (t.fI == 3 || t.fI == 4) A B) B = B := by
 cases ha : t.fR
 ·rfl
 ·have : (t.fI == 3 || t.fI == 4) = false := by
   rw [Bool.or_eq_false_iff]
   constructor
   ·simp only [beq_eq_false_iff_ne]; intro h; exact hk ⟨ha, .inl h⟩
   ·simp only [beq_eq_false_iff_ne]; intro h; exact hk ⟨ha, .inr h⟩
  rw [this]; rfl
theorem Lb {p : Ac} {i : Int} (hv : ∀ v, v ∈ p.fE → 1 ≤ v ∧ v ≤ 6) (h0 : 0 ≤ i) (h1 : i < (p.fE.length : Int)) : 1 ≤ p.fE.getD i.toNat 0 ∧ p.fE.getD i.toNat 0 ≤ 6 := by
 refine hv _ ?_
 rw [lD, List.getElem?_eq_getElem (by omega)]
 exact List.getElem_mem _
theorem WM (N : Nat) (p : Ac) (t : An) (hN : N ≤ 1000000) (h6 : 7 ≤ N) (hv : ∀ v, v ∈ p.fE → 1 ≤ v ∧ v ≤ 6) : FV N p t = some (EW p t) := by
 unfold FV EW
 simp only [Be, Pl, oS]
 by_cases k1 : t.fI < 1
 ·simp [k1]
 by_cases k2 : 4 < t.fI
 ·simp [k1, k2]
 rw [Ay k1, Ay k2]
 by_cases hk : t.fR = true ∧ (t.fI = 3 ∨ t.fI = 4)
 ·obtain ⟨ha, k | k⟩ := hk <;> simp [ha, k]
 rw [Ao, YF _ _ hk, if_neg (fun h => h.elim k1 fun h => h.elim k2 hk)]
 by_cases f1 : t.fJ < 0
 ·simp [f1]
 by_cases f2 : (p.fE.length : Int) ≤ t.fJ
 ·simp [f1, f2]
 by_cases f3 : t.fO < 0
 ·simp [f1, f2, f3]
 by_cases f4 : (p.fE.length : Int) ≤ t.fO
 ·simp [f1, f2, f3, f4]
 rw [Ay f1, Ay f2, Ay f3, if_neg (fun h => h.elim f1 fun h => h.elim f2 fun h => h.elim f3 f4)]
 have hf := Lb hv (i := t.fJ) (by omega) (by omega)
 rw [decide_eq_false f4, Ao, Gj (d := 0) (by omega : 0 ≤ t.fJ) (by omega), Gj (d := 0) (by omega : 0 ≤ t.fO) (by omega)]
 simp only [oS]
 generalize p.fE.getD t.fJ.toNat 0 = f at *
 generalize p.fE.getD t.fO.toNat 0 = g at *
 rw [RX N t.fN f g (by omega) hN, RX N t.fQ f f (by omega) hN]
 simp only [oS]
 cases hq : sq t.fN f g
 ·rfl
 simp only [Bool.not_true, Ao]
 by_cases k4 : t.fI = 4
 ·have : (t.fI != 4) = false := by simp [k4]
  rw [this, Ao]
  simp only [k4, if_true]
  cases hr : sq t.fQ f f
  ·rfl
  ·have h7 := PW hr
   simp only [Bool.not_true, Ao]
   rw [Zg N t (by omega) hN (fun row hm => by have := h7.2 row hm; omega)]
   cases KF t.fQ <;> simp [Cd]
 ·have : (t.fI != 4) = true := by simpa using k4
  rw [this, AR]
  simp only [k4, if_false]
  by_cases hr : t.fQ.length = 0
  ·simp [hr]
  ·have : ((t.fQ.length : Int) != 0) = true := bne_iff_ne.2 (by omega)
   rw [this]; simp [hr]
theorem Zf (N : Nat) (k : Int) (a : Bool) : Ix N k a = some (k == 1 || (k == 2 || ((k == 3 || k == 4) && !a))) := by
 unfold Ix
 simp only [Be]
 cases h1 : k == 1 <;> cases h2 : k == 2 <;> cases h3 : k == 3 <;> cases h4 : k == 4 <;> cases a <;> rfl
theorem Q0 (N : Nat) (p : Ac) (t : An) (hN : N ≤ 1000000) (h6 : 7 ≤ N) (hv : ∀ v, v ∈ p.fE → 1 ≤ v ∧ v ≤ 6) : H6 N p t = some (EW p t) := by
 unfold H6 EW
 simp only [Be, Zf, Sc, oS]
 by_cases hb : t.fI < 1 ∨ 4 < t.fI ∨ (t.fR = true ∧ (t.fI = 3 ∨ t.fI = 4))
 ·have : (t.fI == 1 || (t.fI == 2 || ((t.fI == 3 || t.fI == 4) && !t.fR))) = false := by
   rcases hb with h | h | ⟨ha, h | h⟩
   ·rw [beq_eq_false_iff_ne.2 (by omega : t.fI ≠ 1), beq_eq_false_iff_ne.2 (by omega : t.fI ≠ 2), beq_eq_false_iff_ne.2 (by omega : t.fI ≠ 3), beq_eq_false_iff_ne.2 (by omega : t.fI ≠ 4)]; rfl
   ·rw [beq_eq_false_iff_ne.2 (by omega : t.fI ≠ 1), beq_eq_false_iff_ne.2 (by omega : t.fI ≠ 2), beq_eq_false_iff_ne.2 (by omega : t.fI ≠ 3), beq_eq_false_iff_ne.2 (by omega : t.fI ≠ 4)]; rfl
   ·simp [ha, h]
   ·simp [ha, h]
  rw [this, if_pos hb]; rfl
 ·have : (t.fI == 1 || (t.fI == 2 || ((t.fI == 3 || t.fI == 4) && !t.fR))) = true := by
   have hk : t.fI = 1 ∨ t.fI = 2 ∨ t.fI = 3 ∨ t.fI = 4 := by
    have h1 : ¬ t.fI < 1 := fun h => hb (.inl h)
    have h2 : ¬ 4 < t.fI := fun h => hb (.inr (.inl h))
    omega
   rcases hk with h | h | h | h
   ·simp [h]
   ·simp [h]
   ·cases ha : t.fR
    ·simp [h]
    ·exact (hb (.inr (.inr ⟨ha, .inl h⟩))).elim
   ·cases ha : t.fR
    ·simp [h]
    ·exact (hb (.inr (.inr ⟨ha, .inr h⟩))).elim
  rw [this, if_neg hb]
  simp only [Bool.not_true, Ao]
  by_cases f1 : t.fJ < 0
  ·simp [f1, show ¬ (0 ≤ t.fJ) from by omega]
  by_cases f2 : (p.fE.length : Int) ≤ t.fJ
  ·simp [f2, show ¬ (t.fJ < (p.fE.length : Int)) from by omega]
  by_cases f3 : t.fO < 0
  ·simp [f3, show 0 ≤ t.fJ from by omega, show t.fJ < (p.fE.length : Int) from by omega, show ¬ (0 ≤ t.fO) from by omega]
  by_cases f4 : (p.fE.length : Int) ≤ t.fO
  ·simp [f4, show 0 ≤ t.fJ from by omega, show t.fJ < (p.fE.length : Int) from by omega, show ¬ (t.fO < (p.fE.length : Int)) from by omega]
  rw [if_neg (fun h => h.elim f1 fun h => h.elim f2 fun h => h.elim f3 f4)]
  have hf := Lb hv (i := t.fJ) (by omega) (by omega)
  have hg := Lb hv (i := t.fO) (by omega) (by omega)
  rw [decide_eq_true (by omega : 0 ≤ t.fJ), decide_eq_true (by omega : t.fJ < (p.fE.length : Int)), decide_eq_true (by omega : 0 ≤ t.fO), decide_eq_true (by omega : t.fO < (p.fE.length : Int)), Gj (d := 0) (by omega : 0 ≤ t.fJ) (by omega), Gj (d := 0) (by omega : 0 ≤ t.fO) (by omega)]
  simp only [Bool.and_self, Bool.not_true, Ao, oS]
  generalize p.fE.getD t.fJ.toNat 0 = f at *
  generalize p.fE.getD t.fO.toNat 0 = g at *
  rw [Sd N t.fN f g (by omega) hN, Sd N t.fQ f f (by omega) hN]
  simp only [oS]
  cases hq : sq t.fN f g
  ·rfl
  simp only [Bool.not_true, Ao]
  by_cases k4 : t.fI = 4
  ·simp only [k4, beq_self_eq_true, AR, if_true]
   cases hr : sq t.fQ f f
   ·rfl
   ·have h7 := PW hr
    simp only [Bool.not_true, Ao]
    rw [Sg N t (by omega) hN (fun row hm => by have := h7.2 row hm; omega)]
    cases KF t.fQ <;> simp [Cd]
  ·have : (t.fI == 4) = false := beq_eq_false_iff_ne.2 k4
   rw [this, Ao]
   simp only [k4, if_false, Bool.not_false, AR]
   by_cases hr : t.fQ.length = 0
   ·rw [Sg N t (by omega) hN (fun row hm => by rw [List.eq_nil_of_length_eq_zero hr] at hm; cases hm), List.eq_nil_of_length_eq_zero hr]
    simp [KF, En, Cd]
   ·rw [decide_eq_true (by omega : 0 < (t.fQ.length : Int))]
    simp [hr]
def G7 (p : Ac) (i : Nat) (v : Int) : Option Int :=
 if v < 1 ∨ 6 < v ∨ p.fK.getD i 0 < 0 ∨ v ≤ p.fK.getD i 0 ∨ p.fP.getD i 0 < 0 ∨ v ≤ p.fP.getD i 0 then some 7 else none
def MB (p : Ac) (_ : Nat) (t : An) : Option Int := if EW p t = 0 then none else some (EW p t)
def Bo (p : Ac) : Int :=
 if 6 < p.fE.length ∨ 12 < p.fF.length then 3
 else if p.fK.length ≠ p.fE.length ∨ p.fP.length ≠ p.fE.length then 6
 else ((Cd (En (G7 p) 0 p.fE) (En (MB p) 0 p.fF)).getD 0)
theorem F7 {α R : Type} {f : Nat → α → Option R} : ∀ {i : Nat} {xs : List α}, En f i xs = none → ∀ j x, xs[j]? = some x → f (i + j) x = none
 | _, [], _, j, x, hx => by simp at hx
 | i, y :: ys, h, j, x, hx => by
  rw [Hf] at h
  split at h
  ·cases h
  ·rename_i h0
   cases j with
   | zero => simp at hx; subst hx; exact h0
   | succ j =>
    have := F7 h j x (by simpa using hx)
    rwa [show i + 1 + j = i + (j + 1) from by omega] at this
theorem QG {p : Ac} (h : En (G7 p) 0 p.fE = none) : ∀ v, v ∈ p.fE → 1 ≤ v ∧ v ≤ 6 := by
 intro v hv
 obtain ⟨i, hi⟩ := List.mem_iff_getElem?.1 hv
 have := F7 h i v hi
 unfold G7 at this
 split at this
 ·cases this
 ·rename_i hn
  constructor
  ·exact Int.not_lt.1 fun h => hn (.inl h)
  ·exact Int.not_lt.1 fun h => hn (.inr (.inl h))
theorem Ea {α : Type} {xs : List α} {i : Nat} {d : α} (h : i < xs.length) : A5 xs (i : Int) = some (xs.getD i d) := by
 rw [AW, lD]; simp [h]
theorem U7 (N : Nat) (p : Ac) (hN : N ≤ 1000000) (h1 : p.fE.length < N) (h2 : p.fK.length = p.fE.length) (h3 : p.fP.length = p.fE.length) (j : Option Int) :
  BF N p (fun _ => j) N 0 = Cd (En (G7 p) 0 p.fE) j := by
 have := Dr (BF N p (fun _ => j)) p.fE j (G7 p)
  (fun n i x hx => by
   have hi := (lI.1 hx).1
   rw [BF, AC (by omega), AW, hx]
   simp only [oS, Be]
   rw [Ea (d := 0) (by omega), Ea (d := 0) (by omega), AB (by omega)]
   simp only [oS]
   unfold G7
   generalize p.fK.getD i 0 = a
   generalize p.fP.getD i 0 = b
   by_cases k1 : x < 1 <;> by_cases k2 : 6 < x <;> by_cases k3 : a < 0 <;> by_cases k4 : x ≤ a <;> by_cases k5 : b < 0 <;> by_cases k6 : x ≤ b <;> simp [k1, k2, k3, k4, k5, k6, Cd])
  (fun n => by rw [BF, Ay (by omega)]) N 0 (by omega) (by omega)
 simpa using this
theorem SF (N : Nat) (p : Ac) (hN : N ≤ 1000000) (h1 : p.fE.length < N) (h2 : p.fK.length = p.fE.length) (h3 : p.fP.length = p.fE.length) (j : Option Int) :
  CB N p (fun _ => j) N 0 = Cd (En (G7 p) 0 p.fE) j := by
 have := Dr (CB N p (fun _ => j)) p.fE j (G7 p)
  (fun n i x hx => by
   have hi := (lI.1 hx).1
   rw [CB, AC (by omega), AW, hx]
   simp only [oS, Be, Sc]
   rw [Ea (d := 0) (by omega), Ea (d := 0) (by omega), AB (by omega)]
   simp only [oS]
   unfold G7
   generalize p.fK.getD i 0 = a
   generalize p.fP.getD i 0 = b
   have e1 : decide (0 ≤ a) = !decide (a < 0) := by rw [← decide_not]; congr 1; simp
   have e2 : decide (a < x) = !decide (x ≤ a) := by rw [← decide_not]; congr 1; simp
   have e3 : decide (0 ≤ b) = !decide (b < 0) := by rw [← decide_not]; congr 1; simp
   have e4 : decide (b < x) = !decide (x ≤ b) := by rw [← decide_not]; congr 1; simp
   rw [e1, e2, e3, e4]
   by_cases k1 : x < 1 <;> by_cases k2 : 6 < x <;> by_cases k3 : a < 0 <;> by_cases k4 : x ≤ a <;> by_cases k5 : b < 0 <;> by_cases k6 : x ≤ b <;> simp [k1, k2, k3, k4, k5, k6, Cd])
  (fun n => by rw [CB, Ay (by omega)]) N 0 (by omega) (by omega)
 simpa using this
theorem Y1 (N : Nat) (p : Ac) (hN : N ≤ 1000000) (h6 : 7 ≤ N) (h1 : p.fF.length < N) (hv : ∀ v, v ∈ p.fE → 1 ≤ v ∧ v ≤ 6) (j : Option Int) :
  Bs N p (fun _ => j) N 0 = Cd (En (MB p) 0 p.fF) j := by
 have := Dr (Bs N p (fun _ => j)) p.fF j (MB p)
  (fun n i x hx => by
   have hi := (lI.1 hx).1
   rw [Bs, AC (by omega), AW, hx]
   simp only [oS]
   rw [WM N p x hN h6 hv, AB (by omega)]
   simp only [oS]
   unfold MB
   by_cases k : EW p x = 0
   ·simp [k, Cd]
   ·rw [bne_iff_ne.2 k, if_neg k]; rfl)
  (fun n => by rw [Bs, Ay (by omega)]) N 0 (by omega) (by omega)
 simpa using this
theorem VE (N : Nat) (p : Ac) (hN : N ≤ 1000000) (h6 : 7 ≤ N) (h1 : p.fF.length < N) (hv : ∀ v, v ∈ p.fE → 1 ≤ v ∧ v ≤ 6) (j : Option Int) :
  Ck N p (fun _ => j) N 0 = Cd (En (MB p) 0 p.fF) j := by
 have := Dr (Ck N p (fun _ => j)) p.fF j (MB p)
  (fun n i x hx => by
   have hi := (lI.1 hx).1
   rw [Ck, AC (by omega), AW, hx]
   simp only [oS]
   rw [Q0 N p x hN h6 hv, AB (by omega)]
   simp only [oS]
   unfold MB
   by_cases k : EW p x = 0
   ·simp [k, Cd]
   ·rw [bne_iff_ne.2 k, if_neg k]; rfl)
  (fun n => by rw [Ck, Ay (by omega)]) N 0 (by omega) (by omega)
 simpa using this
theorem P1 (N : Nat) (p : Ac) (hN : N ≤ 1000000) (h : 20 ≤ N) : Dj N p = some (Bo p) := by
 unfold Dj Bo
 simp only [Be]
 by_cases k1 : 6 < p.fE.length
 ·rw [AC (by omega)]; simp [k1]
 rw [Ay (by omega)]
 by_cases k2 : 12 < p.fF.length
 ·rw [decide_eq_true (by omega : (12 : Int) < (p.fF.length : Int))]; simp [k2]
 rw [decide_eq_false (by omega : ¬ (12 : Int) < (p.fF.length : Int)), Ao, if_neg (by omega)]
 by_cases k3 : p.fK.length = p.fE.length
 ·by_cases k4 : p.fP.length = p.fE.length
  ·rw [k3, k4]
   simp only [bne_self_eq_false, Ao, ne_eq, not_true_eq_false, or_self, if_false]
   rw [U7 N p hN (by omega) k3 k4]
   cases hs : En (G7 p) 0 p.fE with
   | some r => rfl
   | none =>
    simp only [Cd]
    rw [Y1 N p hN (by omega) (by omega) (QG hs)]
    cases En (MB p) 0 p.fF <;> rfl
  ·have : ((p.fP.length : Int) != (p.fE.length : Int)) = true := bne_iff_ne.2 (by omega)
   rw [this, k3]; simp [k4]
 ·have : ((p.fK.length : Int) != (p.fE.length : Int)) = true := bne_iff_ne.2 (by omega)
  rw [this]; simp [k3]
theorem Ic (N : Nat) (p : Ac) (hN : N ≤ 1000000) (h : 20 ≤ N) : BU N p = some (Bo p) := by
 unfold BU Bo
 simp only [Be]
 by_cases k1 : 6 < p.fE.length
 ·rw [AC (by omega)]; simp [k1]
 rw [Ay (by omega)]
 by_cases k2 : 12 < p.fF.length
 ·rw [decide_eq_true (by omega : (12 : Int) < (p.fF.length : Int))]; simp [k2]
 rw [decide_eq_false (by omega : ¬ (12 : Int) < (p.fF.length : Int)), Ao, if_neg (by omega)]
 by_cases k3 : p.fK.length = p.fE.length
 ·by_cases k4 : p.fP.length = p.fE.length
  ·rw [k3, k4]
   simp only [bne_self_eq_false, Ao, ne_eq, not_true_eq_false, or_self, if_false]
   rw [SF N p hN (by omega) k3 k4]
   cases hs : En (G7 p) 0 p.fE with
   | some r => rfl
   | none =>
    simp only [Cd]
    rw [VE N p hN (by omega) (by omega) (QG hs)]
    cases En (MB p) 0 p.fF <;> rfl
  ·have : ((p.fP.length : Int) != (p.fE.length : Int)) = true := bne_iff_ne.2 (by omega)
   rw [this, k3]; simp [k4]
 ·have : ((p.fK.length : Int) != (p.fE.length : Int)) = true := bne_iff_ne.2 (by omega)
  rw [this]; simp [k3]
theorem KJ {n : Int} (h : MW n) : 0 ≤ n ∧ n ≤ 255 := by
 unfold MW at h
 simpa [Lit.wf, IntKind.min, IntKind.max, IntKind.signed, IntKind.bits] using h
theorem Ru : ∀ k : Fin 256, Er .u8 0 (k.val : Int) = 0 := by decide +kernel
theorem Rl : ∀ k : Fin 256, Er .u8 (k.val : Int) 0 = (k.val : Int) := by decide +kernel
theorem XY {n : Int} (h : MW n) : Er .u8 0 n = 0 := by
 have := KJ h
 obtain ⟨k, rfl⟩ := Int.eq_ofNat_of_zero_le this.1
 exact Ru ⟨k, by omega⟩
theorem YJ {n : Int} (h : MW n) : Er .u8 n 0 = n := by
 have := KJ h
 obtain ⟨k, rfl⟩ := Int.eq_ofNat_of_zero_le this.1
 exact Rl ⟨k, by omega⟩
theorem FL {α R : Type} {f : Nat → α → Option R} : ∀ {i : Nat} {xs : List α} {r : R}, En f i xs = some r → ∃ j x, xs[j]? = some x ∧ f (i + j) x = some r
 | _, [], _, h => by cases h
 | i, y :: ys, r, h => by
  rw [Hf] at h
  split at h
  ·rename_i r' h0
   cases h
   exact ⟨0, y, rfl, h0⟩
  ·obtain ⟨j, x, h1, h2⟩ := FL h
   exact ⟨j + 1, x, by simpa using h1, by rwa [show i + (j + 1) = i + 1 + j from by omega]⟩
structure Bk (p : Ac) : Prop where
 nv : p.fE.length ≤ 6
 nt : p.fF.length ≤ 12
 now : p.fK.length = p.fE.length
 tgt : p.fP.length = p.fE.length
 ver : ∀ v, v ∈ p.fE → 1 ≤ v ∧ v ≤ 6
 tab : ∀ t, t ∈ p.fF → EW p t = 0
theorem Vk (l : List (List Bool)) : (KF l).getD 0 = 0 ∨ (KF l).getD 0 = 1 := by
 cases h : KF l with
 | none => exact .inl rfl
 | some r =>
  obtain ⟨j, x, _, h⟩ := FL h
  split at h
  ·cases h
  ·cases h; exact .inr rfl
theorem SA (p : Ac) (t : An) : EW p t = 0 ∨ EW p t = 1 ∨ EW p t = 4 ∨ EW p t = 6 := by
 unfold EW
 split
 ·exact .inr (.inl rfl)
 split
 ·exact .inr (.inr (.inl rfl))
 simp only
 split
 ·exact .inr (.inr (.inr rfl))
 split
 ·split
  ·exact .inr (.inr (.inr rfl))
  ·rcases Vk t.fQ with h | h
   ·exact .inl h
   ·exact .inr (.inl h)
 ·split
  ·exact .inl rfl
  ·exact .inr (.inr (.inr rfl))
theorem I3 (p : Ac) : (Bo p = 0 ∧ Bk p) ∨ (Bo p = 1 ∨ Bo p = 3 ∨ Bo p = 4 ∨ Bo p = 6 ∨ Bo p = 7) := by
 unfold Bo
 split
 ·simp
 rename_i k1
 split
 ·simp
 rename_i k2
 cases hs : En (G7 p) 0 p.fE with
 | some r =>
  obtain ⟨j, x, _, h⟩ := FL hs
  unfold G7 at h
  split at h
  ·cases h; simp [Cd]
  ·cases h
 | none =>
  cases ht : En (MB p) 0 p.fF with
  | some r =>
   obtain ⟨j, t, _, h⟩ := FL ht
   unfold MB at h
   split at h
   ·cases h
   ·rename_i hne
    cases h
    simp only [Cd, Option.getD_some]
    right
    rcases SA p t with h | h | h | h
    ·exact (hne h).elim
    ·exact .inl h
    ·exact .inr (.inr (.inl h))
    ·exact .inr (.inr (.inr (.inl h)))
  | none =>
   left
   refine ⟨rfl, by omega, by omega, by omega, by omega, QG hs, fun t hm => ?_⟩
   obtain ⟨j, hj⟩ := List.mem_iff_getElem?.1 hm
   have := F7 ht j t hj
   unfold MB at this
   split at this
   ·assumption
   ·cases this
def Iw (m : Af) (s : Nat) : Int :=
 if 0 ≤ m.fD.getD s 0 then Re .u8 (DC .u8 1 (m.fG.getD s 0)) (DC .u8 1 (m.fD.getD s 0)) else DC .u8 1 (m.fG.getD s 0)
def NL (m : Af) (i : Nat) (v : Int) : Option Int :=
 if m.fG.getD i 0 < 0 ∨ v ≤ m.fG.getD i 0 ∨ m.fD.getD i 0 < -1 ∨ v ≤ m.fD.getD i 0 then some 7
 else if m.fG.getD i 0 = m.fD.getD i 0 then some 1 else none
def Cx (t : An) : Bool := t.fI == 3 || t.fI == 4
def ag (p : Ac) (t : An) : Int := wI .u8 (DC .u8 1 (p.fE.getD t.fJ.toNat 0) - 1)
def KZ (p : Ac) (m : Af) (i : Nat) (t : An) : Option Int :=
 if Cx t = true then (if Er .u8 (Iw m t.fJ.toNat) (m.fH.getD i 0) ≠ 0 ∨ Er .u8 (m.fH.getD i 0) (ag p t) ≠ 0 then some 1 else none)
 else if m.fH.getD i 0 ≠ 0 then some 1 else none
def GH (p : Ac) (m : Af) : Int :=
 if Bo p ≠ 0 then Bo p
 else if m.fG.length ≠ p.fE.length ∨ m.fD.length ≠ p.fE.length ∨ m.fH.length ≠ p.fF.length then 6
 else (Cd (En (NL m) 0 p.fE) (En (KZ p m) 0 p.fF)).getD 0
theorem Ky {p : Ac} {t : An} (h : EW p t = 0) : 0 ≤ t.fJ ∧ t.fJ < (p.fE.length : Int) ∧ 0 ≤ t.fO ∧ t.fO < (p.fE.length : Int) := by
 unfold EW at h
 split at h
 ·cases h
 ·split at h
  ·cases h
  ·omega
theorem NU (N : Nat) (m : Af) (s : Int) (h0 : 0 ≤ s) (h1 : s < (m.fG.length : Int)) (h2 : s < (m.fD.length : Int)) (hb : 0 ≤ m.fG.getD s.toNat 0) : Gw N m s = some (Iw m s.toNat) := by
 unfold Gw Iw
 rw [Gj (d := 0) h0 h1, Gj (d := 0) h0 h2]
 simp only [oS, Be]
 rw [show Eo (0 ≤ m.fG.getD s.toNat 0) = some () from by unfold Eo; rw [if_pos hb]]
 simp only [oS]
 by_cases h : 0 ≤ m.fD.getD s.toNat 0
 ·rw [AC h, if_pos h, show Eo (0 ≤ m.fD.getD s.toNat 0) = some () from by unfold Eo; rw [if_pos h]]; rfl
 ·rw [Ay h, if_neg h]
theorem LL (N : Nat) (m : Af) (s : Int) (h0 : 0 ≤ s) (h1 : s < (m.fG.length : Int)) (h2 : s < (m.fD.length : Int)) (hb : 0 ≤ m.fG.getD s.toNat 0) : Cu N m s = some (Iw m s.toNat) := by
 unfold Cu Iw
 rw [Gj (d := 0) h0 h1, Gj (d := 0) h0 h2]
 simp only [oS, Be]
 rw [show Eo (0 ≤ m.fG.getD s.toNat 0) = some () from by unfold Eo; rw [if_pos hb]]
 simp only [oS]
 by_cases h : 0 ≤ m.fD.getD s.toNat 0
 ·rw [AC h, if_pos h, show Eo (0 ≤ m.fD.getD s.toNat 0) = some () from by unfold Eo; rw [if_pos h]]; rfl
 ·rw [Ay h, if_neg h]
theorem Tq (N : Nat) (p : Ac) (m : Af) (hN : N ≤ 1000000) (h1 : p.fE.length < N) (h2 : m.fG.length = p.fE.length) (h3 : m.fD.length = p.fE.length) (j : Option Int) :
  Fx N p m (fun _ => j) N 0 = Cd (En (NL m) 0 p.fE) j := by
 have := Dr (Fx N p m (fun _ => j)) p.fE j (NL m)
  (fun n i x hx => by
   have hi := (lI.1 hx).1
   rw [Fx, AC (by omega), AW, hx]
   simp only [oS, Be]
   rw [Ea (d := 0) (by omega), Ea (d := 0) (by omega), AB (by omega)]
   simp only [oS]
   unfold NL
   generalize m.fG.getD i 0 = a
   generalize m.fD.getD i 0 = b
   by_cases k7 : a = b
   ·subst k7
    by_cases k3 : a < 0 <;> by_cases k4 : x ≤ a <;> by_cases k5 : a < -1 <;> simp [k3, k4, k5, Cd]
   ·have k8 : (a == b) = false := beq_eq_false_iff_ne.2 k7
    by_cases k3 : a < 0 <;> by_cases k4 : x ≤ a <;> by_cases k5 : b < -1 <;> by_cases k6 : x ≤ b <;> simp [k3, k4, k5, k6, k7, k8, Cd])
  (fun n => by rw [Fx, Ay (by omega)]) N 0 (by omega) (by omega)
 simpa using this
theorem SD (N : Nat) (p : Ac) (m : Af) (hN : N ≤ 1000000) (h1 : p.fE.length < N) (h2 : m.fG.length = p.fE.length) (h3 : m.fD.length = p.fE.length) (j : Option Int) :
  CQ N p m (fun _ => j) N 0 = Cd (En (NL m) 0 p.fE) j := by
 have := Dr (CQ N p m (fun _ => j)) p.fE j (NL m)
  (fun n i x hx => by
   have hi := (lI.1 hx).1
   rw [CQ, AC (by omega), show A5 p.fE (i : Int) = some x from by rw [AW, hx]]
   simp only [oS, Be]
   rw [Ea (d := 0) (by omega), Ea (d := 0) (by omega), AB (by omega)]
   simp only [oS]
   unfold NL
   generalize m.fG.getD i 0 = a
   generalize m.fD.getD i 0 = b
   by_cases k7 : a = b
   ·subst k7
    by_cases k3 : a < 0 <;> by_cases k4 : x ≤ a <;> by_cases k5 : a < -1 <;> simp [k3, k4, k5, Cd]
   ·have k8 : (a == b) = false := beq_eq_false_iff_ne.2 k7
    by_cases k3 : a < 0 <;> by_cases k4 : x ≤ a <;> by_cases k5 : b < -1 <;> by_cases k6 : x ≤ b <;> simp [k3, k4, k5, k6, k7, k8, Cd])
  (fun n => by rw [CQ, Ay (by omega)]) N 0 (by omega) (by omega)
 simpa using this
structure MixServ (p : Ac) (m : Af) : Prop where
 base : m.fG.length = p.fE.length
 next : m.fD.length = p.fE.length
 held : m.fH.length = p.fF.length
 b0 : ∀ i, i < p.fE.length → 0 ≤ m.fG.getD i 0 ∧ m.fG.getD i 0 < p.fE.getD i 0
 n0 : ∀ i, i < p.fE.length → -1 ≤ m.fD.getD i 0 ∧ m.fD.getD i 0 < p.fE.getD i 0
 ne : ∀ i, i < p.fE.length → m.fG.getD i 0 ≠ m.fD.getD i 0
theorem Te {p : Ac} {m : Af} (h2 : m.fG.length = p.fE.length) (h3 : m.fD.length = p.fE.length) (h4 : m.fH.length = p.fF.length) (h : En (NL m) 0 p.fE = none) : MixServ p m := by
 have key : ∀ i, i < p.fE.length → ¬ (m.fG.getD i 0 < 0 ∨ p.fE.getD i 0 ≤ m.fG.getD i 0 ∨ m.fD.getD i 0 < -1 ∨ p.fE.getD i 0 ≤ m.fD.getD i 0) ∧ ¬ m.fG.getD i 0 = m.fD.getD i 0 := by
  intro i hi
  have hx : p.fE[i]? = some (p.fE.getD i 0) := by rw [lD]; simp [hi]
  have := F7 h i _ hx
  rw [Nat.zero_add] at this
  unfold NL at this
  split at this
  ·cases this
  ·split at this
   ·cases this
   ·rename_i k1 k2; exact ⟨k1, k2⟩
 exact ⟨h2, h3, h4, fun i hi => by have := (key i hi).1; omega, fun i hi => by have := (key i hi).1; omega, fun i hi => (key i hi).2⟩
theorem TT {m : Af} (hw : PN MW m.fH) {i : Nat} (h : i < m.fH.length) : MW (m.fH.getD i 0) := by
 refine hw _ ?_
 rw [lD, List.getElem?_eq_getElem h]
 exact List.getElem_mem _
theorem Lh (N : Nat) (t : An) : Ha N t = some (Cx t) := by
 unfold Ha Cx
 simp only [Be]
 cases h : t.fI == 3 <;> simp
theorem IE (N : Nat) (t : An) : Bj N t = some (Cx t) := Pl N t
theorem VR (N : Nat) (p : Ac) (m : Af) (hN : N ≤ 1000000) (h1 : p.fF.length < N) (hp : Bk p) (hm : MixServ p m) (hw : PN MW m.fH) (j : Option Int) :
  EZ N p m (fun _ => j) N 0 = Cd (En (KZ p m) 0 p.fF) j := by
 have := Dr (EZ N p m (fun _ => j)) p.fF j (KZ p m)
  (fun n i x hx => by
   have hi := (lI.1 hx).1
   have hin := Ky (hp.tab x (lM hx))
   have hheld := TT hw (show i < m.fH.length from by rw [hm.held]; exact hi)
   have hv := Lb hp.ver hin.1 hin.2.1
   rw [EZ, AC (by omega), AW, hx]
   simp only [oS, Be, Lh]
   rw [NU N m x.fJ hin.1 (by rw [hm.base]; exact hin.2.1) (by rw [hm.next]; exact hin.2.1) (hm.b0 _ (by omega)).1, Gj (d := 0) hin.1 hin.2.1, Ea (d := 0) (show i < m.fH.length from by rw [hm.held]; exact hi), AB (by omega)]
   simp only [oS]
   rw [show Eo (0 ≤ p.fE.getD x.fJ.toNat 0) = some () from by unfold Eo; rw [if_pos (by omega)]]
   simp only [oS]
   unfold KZ ag
   rw [XY hheld, YJ hheld]
   generalize Er .u8 (Iw m x.fJ.toNat) (m.fH.getD i 0) = A
   generalize Er .u8 (m.fH.getD i 0) (wI .u8 (DC .u8 1 (p.fE.getD x.fJ.toNat 0) - 1)) = B
   generalize m.fH.getD i 0 = H
   cases Cx x
   ·simp only [Ao, bne_self_eq_false]
    by_cases k : H = 0
    ·simp [k, Cd]
    ·have : (H != 0) = true := bne_iff_ne.2 k
     simp [k, this, Cd]
   ·simp only [AR]
    by_cases k : A = 0
    ·by_cases k2 : B = 0
     ·simp [k, k2, Cd]
     ·have : (B != 0) = true := bne_iff_ne.2 k2
      simp [k, k2, this, Cd]
    ·have : (A != 0) = true := bne_iff_ne.2 k
     simp [k, this, Cd])
  (fun n => by rw [EZ, Ay (by omega)]) N 0 (by omega) (by omega)
 simpa using this
theorem Vc (N : Nat) (p : Ac) (m : Af) (hN : N ≤ 1000000) (h1 : p.fF.length < N) (hp : Bk p) (hm : MixServ p m) (j : Option Int) :
  CC N p m (fun _ => j) N 0 = Cd (En (KZ p m) 0 p.fF) j := by
 have := Dr (CC N p m (fun _ => j)) p.fF j (KZ p m)
  (fun n i x hx => by
   have hi := (lI.1 hx).1
   have hin := Ky (hp.tab x (lM hx))
   have hv := Lb hp.ver hin.1 hin.2.1
   rw [CC, AC (by omega), AW, hx]
   simp only [oS, Be, IE]
   rw [LL N m x.fJ hin.1 (by rw [hm.base]; exact hin.2.1) (by rw [hm.next]; exact hin.2.1) (hm.b0 _ (by omega)).1, Gj (d := 0) hin.1 hin.2.1, Ea (d := 0) (show i < m.fH.length from by rw [hm.held]; exact hi), AB (by omega)]
   simp only [oS]
   rw [show Eo (0 ≤ p.fE.getD x.fJ.toNat 0) = some () from by unfold Eo; rw [if_pos (by omega)]]
   simp only [oS]
   unfold KZ ag
   generalize Er .u8 (Iw m x.fJ.toNat) (m.fH.getD i 0) = A
   generalize Er .u8 (m.fH.getD i 0) (wI .u8 (DC .u8 1 (p.fE.getD x.fJ.toNat 0) - 1)) = B
   generalize m.fH.getD i 0 = H
   cases Cx x
   ·simp only [Bool.not_false, AR, Ao]
    by_cases k : H = 0
    ·simp [k, Cd]
    ·have : (H != 0) = true := bne_iff_ne.2 k
     simp [k, this, Cd]
   ·simp only [Bool.not_true, Ao, AR]
    by_cases k : A = 0
    ·by_cases k2 : B = 0
     ·simp [k, k2, Cd]
     ·have : (B != 0) = true := bne_iff_ne.2 k2
      simp [k, k2, this, Cd]
    ·have : (A != 0) = true := bne_iff_ne.2 k
     by_cases k2 : B = 0
     ·simp [k, k2, this, Cd]
     ·have h5 : (B != 0) = true := bne_iff_ne.2 k2
      simp [k, h5, Cd])
  (fun n => by rw [CC, Ay (by omega)]) N 0 (by omega) (by omega)
 simpa using this
theorem J7 (N : Nat) (p : Ac) (m : Af) (hN : N ≤ 1000000) (h : 20 ≤ N) (hw : PN MW m.fH) : GY N p m = some (GH p m) := by
 unfold GY GH
 rw [Ic N p hN h]
 simp only [oS, Be]
 by_cases k0 : Bo p = 0
 ·have hp : Bk p := by
   rcases I3 p with h | h
   ·exact h.2
   ·omega
  have hnv := hp.nv
  have hnt := hp.nt
  rw [k0]
  simp only [bne_self_eq_false, Ao, ne_eq, not_true_eq_false, if_false]
  by_cases k1 : m.fG.length = p.fE.length
  ·by_cases k2 : m.fD.length = p.fE.length
   ·by_cases k3 : m.fH.length = p.fF.length
    ·rw [k1, k2, k3]
     simp only [bne_self_eq_false, Ao, not_true_eq_false, or_self, if_false]
     rw [Tq N p m hN (by omega) k1 k2]
     cases hs : En (NL m) 0 p.fE with
     | some r => rfl
     | none =>
      simp only [Cd]
      rw [VR N p m hN (by omega) hp (Te k1 k2 k3 hs) hw]
      cases En (KZ p m) 0 p.fF <;> rfl
    ·have : ((m.fH.length : Int) != (p.fF.length : Int)) = true := bne_iff_ne.2 (by omega)
     rw [this, k1, k2]; simp [k3]
   ·have : ((m.fD.length : Int) != (p.fE.length : Int)) = true := bne_iff_ne.2 (by omega)
    rw [this, k1]; simp [k2]
  ·have : ((m.fG.length : Int) != (p.fE.length : Int)) = true := bne_iff_ne.2 (by omega)
   rw [this]; simp [k1]
 ·rw [bne_iff_ne.2 k0]; simp [k0]
theorem LN (N : Nat) (p : Ac) (m : Af) (hN : N ≤ 1000000) (h : 20 ≤ N) : Em N p m = some (GH p m) := by
 unfold Em GH
 rw [P1 N p hN h]
 simp only [oS, Be]
 by_cases k0 : Bo p = 0
 ·have hp : Bk p := by
   rcases I3 p with h | h
   ·exact h.2
   ·omega
  have hnv := hp.nv
  have hnt := hp.nt
  rw [k0]
  simp only [bne_self_eq_false, Ao, ne_eq, not_true_eq_false, if_false]
  by_cases k1 : m.fG.length = p.fE.length
  ·by_cases k2 : m.fD.length = p.fE.length
   ·by_cases k3 : m.fH.length = p.fF.length
    ·rw [k1, k2, k3]
     simp only [bne_self_eq_false, Ao, not_true_eq_false, or_self, if_false]
     rw [SD N p m hN (by omega) k1 k2]
     cases hs : En (NL m) 0 p.fE with
     | some r => rfl
     | none =>
      simp only [Cd]
      rw [Vc N p m hN (by omega) hp (Te k1 k2 k3 hs)]
      cases En (KZ p m) 0 p.fF <;> rfl
    ·have : ((m.fH.length : Int) != (p.fF.length : Int)) = true := bne_iff_ne.2 (by omega)
     rw [this, k1, k2]; simp [k3]
   ·have : ((m.fD.length : Int) != (p.fE.length : Int)) = true := bne_iff_ne.2 (by omega)
    rw [this, k1]; simp [k2]
  ·have : ((m.fG.length : Int) != (p.fE.length : Int)) = true := bne_iff_ne.2 (by omega)
   rw [this]; simp [k1]
 ·rw [bne_iff_ne.2 k0]; simp [k0]
@[simp] theorem Bi {α β : Type} (k : α) (f : α → β) : Be k f = f k := rfl
@[simp] theorem XF {p : Prop} [Decidable p] (h : p) : Eo p = some () := by unfold Eo; rw [if_pos h]
theorem Ap {β : Type} {p : Prop} [Decidable p] (h : p) (f : Unit → Option β) : (Eo p).bind f = f () := by rw [XF h]; rfl
def Cm {α β : Type} (g : Nat → α → List β) : Nat → List α → List β
 | _, [] => []
 | i, x :: xs => g i x ++ Cm g (i + 1) xs
def IY {α A : Type} (f : Nat → α → A → A) : Nat → List α → A → A
 | _, [], a => a
 | i, x :: xs, a => IY f (i + 1) xs (f i x a)
theorem NX {α β : Type} (g : Nat → α → List β) : ∀ (i : Nat) (xs ys : List α), Cm g i (xs ++ ys) = Cm g i xs ++ Cm g (i + xs.length) ys
 | i, [], ys => by simp [Cm]
 | i, x :: xs, ys => by
  rw [List.cons_append, Cm, Cm, NX g (i + 1) xs ys, List.append_assoc, List.length_cons, Nat.add_assoc, Nat.add_comm 1]
theorem Gv {α β : Type} {g : Nat → α → List β} {y : β} : ∀ {i : Nat} {xs : List α}, y ∈ Cm g i xs ↔ ∃ j x, xs[j]? = some x ∧ y ∈ g (i + j) x
 | _, [] => by simp [Cm]
 | i, x :: xs => by
  rw [Cm, List.mem_append, Gv]
  constructor
  ·rintro (h | ⟨j, z, hz, h⟩)
   ·exact ⟨0, x, rfl, h⟩
   ·exact ⟨j + 1, z, by simpa using hz, by rwa [show i + (j + 1) = i + 1 + j from by omega]⟩
  ·rintro ⟨j, z, hz, h⟩
   cases j with
   | zero => simp at hz; subst hz; exact .inl h
   | succ j => exact .inr ⟨j, z, by simpa using hz, by rwa [show i + 1 + j = i + (j + 1) from by omega]⟩
theorem Lj {α β : Type} {g : Nat → α → List β} {i : Nat} {xs : List α} : Cm g i xs = [] ↔ ∀ j x, xs[j]? = some x → g (i + j) x = [] := by
 rw [List.eq_nil_iff_forall_not_mem]
 constructor
 ·intro h j x hx
  rw [List.eq_nil_iff_forall_not_mem]
  exact fun y hy => h y (Gv.2 ⟨j, x, hx, hy⟩)
 ·intro h y hy
  obtain ⟨j, x, hx, hm⟩ := Gv.1 hy
  rw [h j x hx] at hm; cases hm
theorem Gt {α β : Type} {g : Nat → α → List β} {c : Nat} : ∀ {i : Nat} {xs : List α}, (∀ j x, xs[j]? = some x → (g (i + j) x).length ≤ c) → (Cm g i xs).length ≤ c * xs.length
 | _, [], _ => by simp [Cm]
 | i, x :: xs, h => by
  have h1 := h 0 x rfl
  have h2 := Gt (g := g) (c := c) (i := i + 1) (xs := xs) fun j y hy => by
   have := h (j + 1) y (by simpa using hy)
   rwa [show i + (j + 1) = i + 1 + j from by omega] at this
  rw [Cm, List.length_append, List.length_cons, Nat.mul_add]
  simp only [Nat.add_zero] at h1
  omega
theorem IS {α A S R : Type} (L : Nat → S → Option R) (mk : A → Int → S) (xs : List α) (j : A → Option R) (f : Nat → α → A → A) (I : Nat → A → Prop)
  (hs : ∀ (n i : Nat) (x : α) (a : A), xs[i]? = some x → I i a → L (n + 1) (mk a (i : Int)) = L n (mk (f i x a) ((i + 1 : Nat) : Int)) ∧ I (i + 1) (f i x a))
  (he : ∀ (n : Nat) (a : A), I xs.length a → L (n + 1) (mk a (xs.length : Int)) = j a) :
  ∀ (n i : Nat) (a : A), i ≤ xs.length → xs.length - i < n → I i a → L n (mk a (i : Int)) = j (IY f i (xs.drop i) a) ∧ I xs.length (IY f i (xs.drop i) a)
 | 0, i, _, _, h, _ => by omega
 | n + 1, i, a, hi, h, ha => by
  by_cases h1 : i < xs.length
  ·have hx : xs[i]? = some xs[i] := by simp [h1]
   obtain ⟨e1, e2⟩ := hs n i _ a hx ha
   rw [e1, Hj hx, IY]
   exact IS L mk xs j f I hs he n (i + 1) _ (by omega) (by omega) e2
  ·have : i = xs.length := by omega
   subst this
   rw [List.drop_eq_nil_of_le (Nat.le_refl _), IY]
   exact ⟨he n a ha, ha⟩
theorem Qz {α β : Type} (g : Nat → α → List β) : ∀ (i : Nat) (xs : List α) (acc : List β), IY (fun i x a => a ++ g i x) i xs acc = acc ++ Cm g i xs
 | _, [], acc => by simp [IY, Cm]
 | i, x :: xs, acc => by rw [IY, Qz g (i + 1) xs, Cm, List.append_assoc]
theorem DM {α β S R : Type} (L : Nat → S → Option R) (mk : List β → Int → S) (xs : List α) (j : List β → Option R) (g : Nat → α → List β) (c B : Nat)
  (hg : ∀ i x, xs[i]? = some x → (g i x).length ≤ c)
  (hs : ∀ (n i : Nat) (x : α) (a : List β), xs[i]? = some x → a.length + (g i x).length ≤ B → L (n + 1) (mk a (i : Int)) = L n (mk (a ++ g i x) ((i + 1 : Nat) : Int)))
  (he : ∀ (n : Nat) (a : List β), L (n + 1) (mk a (xs.length : Int)) = j a) (n : Nat) (a : List β) (hn : xs.length < n) (ha : a.length + c * xs.length ≤ B) :
  L n (mk a 0) = j (a ++ Cm g 0 xs) := by
 have := IS L mk xs j (fun i x a => a ++ g i x) (fun i b => i ≤ xs.length ∧ b.length ≤ a.length + c * i)
  (fun n i x b hx hb => by
   have h1 := hg i x hx
   have hi := (lI.1 hx).1
   have h2 : c * (i + 1) ≤ c * xs.length := Nat.mul_le_mul_left c hi
   have h3 : c * (i + 1) = c * i + c := Nat.mul_succ c i
   refine ⟨hs n i x b hx (by have := hb.2; omega), hi, ?_⟩
   rw [List.length_append]
   have := hb.2
   omega)
  (fun n b _ => he n b) n 0 a (Nat.zero_le _) (by omega) ⟨Nat.zero_le _, by omega⟩
 have h2 := this.1
 rw [List.drop_zero, Qz] at h2
 exact h2
def Fa (s : Int) (v : Nat) : Bool := s.toNat.testBit v
def Kb (m : Af) (s v : Nat) : Bool := decide (m.fG.getD s 0 = (v : Int)) || decide (m.fD.getD s 0 = (v : Int))
theorem ZS : ∀ (s : Fin 256) (v : Fin 8), HI .u8 (FU .u8 (s.val : Int) (v.val : Int)) 1 = if Fa (s.val : Int) v.val then 1 else 0 := by decide +kernel
theorem SZ {s : Int} {v : Nat} (h0 : 0 ≤ s) (h1 : s ≤ 255) (hv : v < 8) : HI .u8 (FU .u8 s (v : Int)) 1 = if Fa s v then 1 else 0 := by
 obtain ⟨k, rfl⟩ := Int.eq_ofNat_of_zero_le h0
 exact ZS ⟨k, by omega⟩ ⟨v, hv⟩
theorem TQ {s : Int} {v : Nat} (h0 : 0 ≤ s) (h1 : s ≤ 255) (hv : v < 8) : (HI .u8 (FU .u8 s (v : Int)) 1 == 0) = !Fa s v := by
 rw [SZ h0 h1 hv]; cases Fa s v <;> rfl
theorem UW {s : Int} {v : Nat} (h0 : 0 ≤ s) (h1 : s ≤ 255) (hv : v < 8) : (HI .u8 (FU .u8 s (v : Int)) 1 == 1) = Fa s v := by
 rw [SZ h0 h1 hv]; cases Fa s v <;> rfl
theorem LI {s : Int} {v : Nat} (h1 : s ≤ 255) (hv : 8 ≤ v) : Fa s v = false := by
 unfold Fa
 apply Nat.testBit_lt_two_pow
 have : (2 : Nat) ^ 8 ≤ 2 ^ v := Nat.pow_le_pow_right (by omega) hv
 omega
theorem LV : ∀ (b : Fin 8) (v : Fin 8), Fa (DC .u8 1 (b.val : Int)) v.val = decide (b.val = v.val) ∧ 0 ≤ DC .u8 1 (b.val : Int) ∧ DC .u8 1 (b.val : Int) ≤ 255 := by decide +kernel
theorem Zp : ∀ (b n : Fin 8) (v : Fin 8), Fa (Re .u8 (DC .u8 1 (b.val : Int)) (DC .u8 1 (n.val : Int))) v.val = (decide (b.val = v.val) || decide (n.val = v.val))
  ∧ 0 ≤ Re .u8 (DC .u8 1 (b.val : Int)) (DC .u8 1 (n.val : Int)) ∧ Re .u8 (DC .u8 1 (b.val : Int)) (DC .u8 1 (n.val : Int)) ≤ 255 := by decide +kernel
theorem Xz {m : Af} {s : Nat} (hb0 : 0 ≤ m.fG.getD s 0) (hb1 : m.fG.getD s 0 < 8) (hn1 : m.fD.getD s 0 < 8) :
  (∀ v, Fa (Iw m s) v = Kb m s v) ∧ 0 ≤ Iw m s ∧ Iw m s ≤ 255 := by
 unfold Iw Kb
 obtain ⟨b, hb⟩ := Int.eq_ofNat_of_zero_le hb0
 rw [hb] at hb1 ⊢
 by_cases h : 0 ≤ m.fD.getD s 0
 ·obtain ⟨n, hn⟩ := Int.eq_ofNat_of_zero_le h
  rw [hn] at hn1 ⊢
  rw [if_pos (by omega)]
  have h1 := Zp ⟨b, by omega⟩ ⟨n, by omega⟩
  refine ⟨fun v => ?_, (h1 0).2⟩
  by_cases hv : v < 8
  ·rw [(h1 ⟨v, hv⟩).1]
   simp only [Int.ofNat_inj]
  ·rw [LI (h1 0).2.2 (by omega)]
   simp; omega
 ·rw [if_neg h]
  have h1 := LV ⟨b, by omega⟩
  refine ⟨fun v => ?_, (h1 0).2⟩
  have h3 : decide (m.fD.getD s 0 = (v : Int)) = false := decide_eq_false (by omega)
  rw [h3, Bool.or_false]
  by_cases hv : v < 8
  ·rw [(h1 ⟨v, hv⟩).1]
   simp only [Int.ofNat_inj]
  ·rw [LI (h1 0).2.2 (by omega)]
   simp; omega
theorem Ya {a : Nat} (h : a < 256) : (BitVec.ofInt 8 (a : Int)).toNat = a := by
 simp; omega
theorem Q8 {a b : Int} (ha : 0 ≤ a ∧ a ≤ 255) (hb : 0 ≤ b ∧ b ≤ 255) : Er .u8 a b = 0 ↔ ∀ v, Fa a v = true → Fa b v = true := by
 obtain ⟨a, rfl⟩ := Int.eq_ofNat_of_zero_le ha.1
 obtain ⟨b, rfl⟩ := Int.eq_ofNat_of_zero_le hb.1
 have hA := Ya (a := a) (by omega)
 have hB := Ya (a := b) (by omega)
 unfold Er Fa
 simp only [IntKind.bits, Int.toNat_natCast]
 have hx : ∀ x : BitVec 8, wI .u8 (x.toNat : Int) = (x.toNat : Int) := by
  intro x
  have := x.isLt
  simp [wI, IntKind.signed, IntKind.bits]
  omega
 rw [hx]
 constructor
 ·intro h v hv
  have h0 : (BitVec.ofInt 8 (a : Int) &&& ~~~BitVec.ofInt 8 (b : Int)) = (BitVec.ofNat 8 0) := by
   apply BitVec.eq_of_toNat_eq
   simp only [BitVec.toNat_ofNat, Nat.zero_mod]
   exact Int.ofNat_inj.1 h
  by_cases hv8 : v < 8
  ·have h1 : (BitVec.ofInt 8 (a : Int) &&& ~~~BitVec.ofInt 8 (b : Int)).getLsbD v = false := by rw [h0]; simp
   rw [BitVec.getLsbD_and, BitVec.getLsbD_not] at h1
   have e1 : (BitVec.ofInt 8 (a : Int)).getLsbD v = a.testBit v := by unfold BitVec.getLsbD; rw [hA]
   have e2 : (BitVec.ofInt 8 (b : Int)).getLsbD v = b.testBit v := by unfold BitVec.getLsbD; rw [hB]
   rw [e1, e2, hv] at h1
   simpa [hv8] using h1
  ·have := LI (s := (a : Int)) (v := v) (by omega) (by omega)
   unfold Fa at this
   rw [Int.toNat_natCast, hv] at this
   cases this
 ·intro h
  have h0 : (BitVec.ofInt 8 (a : Int) &&& ~~~BitVec.ofInt 8 (b : Int)) = (BitVec.ofNat 8 0) := by
   apply BitVec.eq_of_getLsbD_eq
   intro i hi
   rw [BitVec.getLsbD_and, BitVec.getLsbD_not]
   have e1 : (BitVec.ofInt 8 (a : Int)).getLsbD i = a.testBit i := by unfold BitVec.getLsbD; rw [hA]
   have e2 : (BitVec.ofInt 8 (b : Int)).getLsbD i = b.testBit i := by unfold BitVec.getLsbD; rw [hB]
   rw [e1, e2]
   have := h i
   cases h3 : a.testBit i
   ·simp
   ·rw [this h3]; simp
  have h2 : ∀ x : BitVec 8, x = (BitVec.ofNat 8 0) → (x.toNat : Int) = 0 := fun x hx => by rw [hx]; rfl
  exact h2 _ h0
theorem ZR : ∀ n : Fin 9, (∀ v : Fin 8, Fa (wI .u8 (DC .u8 1 (n.val : Int) - 1)) v.val = decide (v.val < n.val)) ∧ 0 ≤ wI .u8 (DC .u8 1 (n.val : Int) - 1) ∧ wI .u8 (DC .u8 1 (n.val : Int) - 1) ≤ 255 := by decide +kernel
theorem Zb {n : Int} (h0 : 0 ≤ n) (h1 : n ≤ 8) : (∀ v, Fa (wI .u8 (DC .u8 1 n - 1)) v = decide ((v : Int) < n)) ∧ 0 ≤ wI .u8 (DC .u8 1 n - 1) ∧ wI .u8 (DC .u8 1 n - 1) ≤ 255 := by
 obtain ⟨n, rfl⟩ := Int.eq_ofNat_of_zero_le h0
 have h := ZR ⟨n, by omega⟩
 refine ⟨fun v => ?_, h.2⟩
 by_cases hv : v < 8
 ·rw [h.1 ⟨v, hv⟩]; simp
 ·rw [LI h.2.2 (by omega)]
  symm; apply decide_eq_false; omega
structure Cl (p : Ac) (m : Af) : Prop extends MixServ p m where
 range : ∀ i, i < p.fF.length → 0 ≤ m.fH.getD i 0 ∧ m.fH.getD i 0 ≤ 255
 low : ∀ i t, p.fF[i]? = some t → Cx t = true → ∀ v, Kb m t.fJ.toNat v = true → Fa (m.fH.getD i 0) v = true
 high : ∀ i t, p.fF[i]? = some t → Cx t = true → ∀ v, Fa (m.fH.getD i 0) v = true → (v : Int) < p.fE.getD t.fJ.toNat 0
 none : ∀ i t, p.fF[i]? = some t → Cx t = false → m.fH.getD i 0 = 0
theorem JX {p : Ac} (hp : Bk p) {i : Nat} (hi : i < p.fE.length) : 1 ≤ p.fE.getD i 0 ∧ p.fE.getD i 0 ≤ 6 := by
 have := Lb (i := (i : Int)) hp.ver (by omega) (by omega)
 simpa using this
theorem JL {p : Ac} {m : Af} (hp : Bk p) (hm : MixServ p m) {s : Nat} (hs : s < p.fE.length) :
  (∀ v, Fa (Iw m s) v = Kb m s v) ∧ 0 ≤ Iw m s ∧ Iw m s ≤ 255 := by
 have h1 := hm.b0 s hs
 have h2 := hm.n0 s hs
 have h3 := JX hp hs
 exact Xz h1.1 (by omega) (by omega)
theorem T4 {p : Ac} {m : Af} (hp : Bk p) (hm : MixServ p m) {i : Nat} {t : An} (ht : p.fF[i]? = some t) (hr : 0 ≤ m.fH.getD i 0 ∧ m.fH.getD i 0 ≤ 255) :
  KZ p m i t = none ↔ ((Cx t = true → (∀ v, Kb m t.fJ.toNat v = true → Fa (m.fH.getD i 0) v = true) ∧ (∀ v, Fa (m.fH.getD i 0) v = true → (v : Int) < p.fE.getD t.fJ.toNat 0)) ∧ (Cx t = false → m.fH.getD i 0 = 0)) := by
 have hin := Ky (hp.tab t (lM ht))
 have hrun := JL hp hm (s := t.fJ.toNat) (by omega)
 have hver := JX hp (i := t.fJ.toNat) (by omega)
 have hall := Zb (n := p.fE.getD t.fJ.toNat 0) (by omega) (by omega)
 unfold KZ ag
 have e1 := Q8 hrun.2 hr
 have e2 := Q8 hr hall.2
 cases hst : Cx t
 ·simp
 ·simp only [if_true, true_implies, Bool.true_eq_false, false_implies, and_true, ite_eq_right_iff, reduceCtorEq, imp_false, not_or, Decidable.not_not]
  rw [e1, e2]
  simp only [hrun.1, hall.1, decide_eq_true_eq]
theorem Kq {p : Ac} {m : Af} (hw : PN MW m.fH) (h : GH p m = 0) : Bk p ∧ Cl p m := by
 unfold GH at h
 split at h
 ·rename_i k; exact (k h).elim
 ·rename_i k0
  have hp : Bk p := by
   rcases I3 p with h | h
   ·exact h.2
   ·omega
  split at h
  ·cases h
  ·rename_i k1
   have b1 : m.fG.length = p.fE.length := Decidable.not_not.1 fun h => k1 (.inl h)
   have b2 : m.fD.length = p.fE.length := Decidable.not_not.1 fun h => k1 (.inr (.inl h))
   have b3 : m.fH.length = p.fF.length := Decidable.not_not.1 fun h => k1 (.inr (.inr h))
   cases hs : En (NL m) 0 p.fE with
   | some r =>
    obtain ⟨j, x, _, he⟩ := FL hs
    rw [hs] at h
    unfold NL at he
    simp only [Cd, Option.getD_some] at h
    split at he
    ·cases he; cases h
    ·split at he
     ·cases he; cases h
     ·cases he
   | none =>
    have hm := Te b1 b2 b3 hs
    rw [hs] at h
    simp only [Cd] at h
    cases ht : En (KZ p m) 0 p.fF with
    | some r =>
     obtain ⟨j, x, _, he⟩ := FL ht
     rw [ht] at h
     simp only [Option.getD_some] at h
     subst h
     unfold KZ at he
     split at he
     ·split at he <;> cases he
     ·split at he <;> cases he
    | none =>
     have hr : ∀ i, i < p.fF.length → 0 ≤ m.fH.getD i 0 ∧ m.fH.getD i 0 ≤ 255 := fun i hi => KJ (TT hw (by omega))
     have key : ∀ i t, p.fF[i]? = some t → _ := fun i t hi => (T4 hp hm hi (hr i (lI.1 hi).1)).1 (by have := F7 ht i t hi; rwa [Nat.zero_add] at this)
     exact ⟨hp, hm, hr, fun i t hi hst => ((key i t hi).1 hst).1, fun i t hi hst => ((key i t hi).1 hst).2, fun i t hi hst => (key i t hi).2 hst⟩
theorem GU {α R : Type} {f : Nat → α → Option R} : ∀ {i : Nat} {xs : List α}, (∀ j x, xs[j]? = some x → f (i + j) x = none) → En f i xs = none
 | _, [], _ => rfl
 | i, y :: ys, h => by
  rw [Hf, show f i y = none from h 0 y rfl]
  exact GU fun j x hx => by
   have := h (j + 1) x (by simpa using hx)
   rwa [show i + (j + 1) = i + 1 + j from by omega] at this
theorem S7 {p : Ac} (hp : Bk p) (hr : ∀ i, i < p.fE.length → 0 ≤ p.fK.getD i 0 ∧ p.fK.getD i 0 < p.fE.getD i 0 ∧ 0 ≤ p.fP.getD i 0 ∧ p.fP.getD i 0 < p.fE.getD i 0) : Bo p = 0 := by
 have := hp.nv
 have := hp.nt
 have := hp.now
 have := hp.tgt
 unfold Bo
 rw [if_neg (by omega), if_neg (by omega)]
 have h1 : En (G7 p) 0 p.fE = none := GU fun j x hx => by
  have hj := (lI.1 hx).1
  have h1 := hr j hj
  have h2 := JX hp hj
  have e : p.fE.getD j 0 = x := by rw [lD, hx]; rfl
  rw [e] at h1 h2
  unfold G7
  rw [Nat.zero_add, if_neg (by omega)]
 have h2 : En (MB p) 0 p.fF = none := GU fun j x hx => by
  unfold MB
  rw [if_pos (hp.tab x (lM hx))]
 rw [h1, h2]; rfl
theorem Dt {p : Ac} (h : Bo p = 0) : Bk p ∧ ∀ i, i < p.fE.length → 0 ≤ p.fK.getD i 0 ∧ p.fK.getD i 0 < p.fE.getD i 0 ∧ 0 ≤ p.fP.getD i 0 ∧ p.fP.getD i 0 < p.fE.getD i 0 := by
 have hp : Bk p := by
  rcases I3 p with h | h
  ·exact h.2
  ·omega
 refine ⟨hp, fun i hi => ?_⟩
 have h1 := hp.nv
 have h2 := hp.nt
 have h3 := hp.now
 have h4 := hp.tgt
 unfold Bo at h
 rw [if_neg (by omega), if_neg (by omega)] at h
 cases hs : En (G7 p) 0 p.fE with
 | some r =>
  obtain ⟨j, x, _, he⟩ := FL hs
  rw [hs] at h
  unfold G7 at he
  split at he
  ·cases he; cases h
  ·cases he
 | none =>
  have hx : p.fE[i]? = some (p.fE.getD i 0) := by rw [lD]; simp [hi]
  have := F7 hs i _ hx
  rw [Nat.zero_add] at this
  unfold G7 at this
  split at this
  ·cases this
  ·rename_i hn; omega
theorem I8 {p : Ac} {m : Af} (hv : Bo p = 0) (hm : Cl p m) : GH p m = 0 := by
 obtain ⟨hp, _⟩ := Dt hv
 unfold GH
 rw [hv, if_neg (by simp), if_neg (by have := hm.base; have := hm.next; have := hm.held; omega)]
 have h1 : En (NL m) 0 p.fE = none := GU fun j x hx => by
  have hj := (lI.1 hx).1
  have e : p.fE.getD j 0 = x := by rw [lD, hx]; rfl
  have h1 := hm.b0 j hj
  have h2 := hm.n0 j hj
  have h3 := hm.ne j hj
  rw [e] at h1 h2
  unfold NL
  rw [Nat.zero_add, if_neg (by omega), if_neg h3]
 have h2 : En (KZ p m) 0 p.fF = none := GU fun j x hx => by
  have hj := (lI.1 hx).1
  rw [Nat.zero_add]
  exact (T4 hp hm.toMixServ hx (hm.range j hj)).2 ⟨fun hst => ⟨hm.low j x hx hst, hm.high j x hx hst⟩, fun hst => hm.none j x hx hst⟩
 rw [h1, h2]; rfl
def M4 {α : Type} (g : Nat → α → Bool) : Nat → List α → Bool
 | _, [] => false
 | i, x :: xs => g i x || M4 g (i + 1) xs
theorem QZ {α : Type} {g : Nat → α → Bool} : ∀ {i : Nat} {xs : List α}, M4 g i xs = true ↔ ∃ j x, xs[j]? = some x ∧ g (i + j) x = true
 | _, [] => by simp [M4]
 | i, x :: xs => by
  rw [M4, Bool.or_eq_true, QZ]
  constructor
  ·rintro (h | ⟨j, z, hz, h⟩)
   ·exact ⟨0, x, rfl, h⟩
   ·exact ⟨j + 1, z, by simpa using hz, by rwa [show i + (j + 1) = i + 1 + j from by omega]⟩
  ·rintro ⟨j, z, hz, h⟩
   cases j with
   | zero => simp at hz; subst hz; exact .inl h
   | succ j => exact .inr ⟨j, z, by simpa using hz, by rwa [show i + 1 + j = i + (j + 1) from by omega]⟩
theorem NP {α β : Type} (g : Nat → α → List β) (h : Nat → α → Bool) : ∀ (i : Nat) (xs : List α) (a : List β) (b : Bool),
  IY (fun i x (s : List β × Bool) => (s.1 ++ g i x, s.2 || h i x)) i xs (a, b) = (a ++ Cm g i xs, b || M4 h i xs)
 | _, [], a, b => by simp [IY, Cm, M4]
 | i, x :: xs, a, b => by rw [IY, NP g h, Cm, M4, List.append_assoc, Bool.or_assoc]
def gC (i u : Nat) (m : Af) (t : An) (v : Nat) (ok : Bool) : List Aa :=
 if Kb m t.fO.toNat v && (!ok && !t.fR) then [⟨(i : Int), (u : Int), (v : Int)⟩] else []
def hC (m : Af) (t : An) (v : Nat) (ok : Bool) : Bool := Kb m t.fO.toNat v && ok
def Lc (i : Nat) (m : Af) (t : An) (u : Nat) (row : List Bool) : List Aa :=
 Cm (gC i u m t) 0 row ++ if t.fR && !M4 (hC m t) 0 row then [⟨(i : Int), (u : Int), -1⟩] else []
def TN (m : Af) (i : Nat) (t : An) (u : Nat) : Bool := if Cx t then Fa (m.fH.getD i 0) u else Kb m t.fJ.toNat u
def K5 (m : Af) (i : Nat) (t : An) : List Aa := Cm (fun u row => if TN m i t u then Lc i m t u row else []) 0 t.fN
def FP (p : Ac) (m : Af) : List Aa := Cm (K5 m) 0 p.fF
structure Oz (p : Ac) (t : An) : Prop where
 kind : 1 ≤ t.fI ∧ t.fI ≤ 4
 aware : t.fR = true → Cx t = false
 from0 : 0 ≤ t.fJ ∧ t.fJ < (p.fE.length : Int)
 to0 : 0 ≤ t.fO ∧ t.fO < (p.fE.length : Int)
 okL : (t.fN.length : Int) = p.fE.getD t.fJ.toNat 0
 okR : ∀ row, row ∈ t.fN → (row.length : Int) = p.fE.getD t.fO.toNat 0
 reL : t.fI = 4 → (t.fQ.length : Int) = p.fE.getD t.fJ.toNat 0
 reR : ∀ row, row ∈ t.fQ → (row.length : Int) = p.fE.getD t.fJ.toNat 0
 reD : t.fI = 4 → KF t.fQ = none
 reN : t.fI ≠ 4 → t.fQ = []
theorem JA {p : Ac} {t : An} (h : EW p t = 0) : Oz p t := by
 unfold EW at h
 split at h
 ·cases h
 rename_i h1
 split at h
 ·cases h
 rename_i h2
 simp only at h
 split at h
 ·cases h
 rename_i h3
 have h3 : sq t.fN (p.fE.getD t.fJ.toNat 0) (p.fE.getD t.fO.toNat 0) = true := by simpa using h3
 have h3 := PW h3
 have ha : t.fR = true → Cx t = false := by
  intro ha
  unfold Cx
  rw [Bool.or_eq_false_iff, beq_eq_false_iff_ne, beq_eq_false_iff_ne]
  exact ⟨fun hk => h1 (.inr (.inr ⟨ha, .inl hk⟩)), fun hk => h1 (.inr (.inr ⟨ha, .inr hk⟩))⟩
 split at h
 ·rename_i h4
  split at h
  ·cases h
  rename_i h5
  have h5 : sq t.fQ (p.fE.getD t.fJ.toNat 0) (p.fE.getD t.fJ.toNat 0) = true := by simpa using h5
  have h5 := PW h5
  refine ⟨by omega, ha, by omega, by omega, h3.1, h3.2, fun _ => h5.1, h5.2, fun _ => ?_, fun h => (h h4).elim⟩
  cases hd : KF t.fQ with
  | none => rfl
  | some r =>
   obtain ⟨j, x, _, hx⟩ := FL hd
   rw [hd] at h
   split at hx
   ·cases hx
   ·cases hx; cases h
 ·rename_i h4
  split at h
  ·rename_i h5
   have h5 := List.eq_nil_of_length_eq_zero h5
   refine ⟨by omega, ha, by omega, by omega, h3.1, h3.2, fun h => (h4 h).elim, fun row hr => ?_, fun h => (h4 h).elim, fun _ => h5⟩
   rw [h5] at hr; cases hr
  ·cases h
theorem M1 {R : Type} (b : Bool) (acc : List Aa) (x : Aa) (j : List Aa → Option R) (h : acc.length + 1 ≤ DU) :
  AU b ((Eo (acc.length + ([x] : List Aa).length ≤ DU)).bind fun _ => j (acc ++ [x])) (j acc) = j (acc ++ if b then [x] else []) := by
 cases b
 ·simp
 ·rw [AR, Ap (by simpa using h)]; rfl
theorem Ty (N : Nat) (m : Af) (t : An) (i u : Nat) (row : List Bool) (R : Int) (b1 b2 acc : List Aa) (j : List Aa × Bool → Option (List Aa))
  (hN : N ≤ 1000000) (h8 : 8 ≤ N) (hrow : row.length ≤ 6) (hacc : acc.length + 6 ≤ DU) (hR0 : 0 ≤ R) (hR1 : R ≤ 255) (hRb : ∀ v, Fa R v = Kb m t.fO.toNat v) :
  Cz N (b1, (i : Int)) t R (b2, (u : Int)) row j N (acc, false, 0) = j (acc ++ Cm (gC i u m t) 0 row, M4 (hC m t) 0 row) := by
 have := IS (A := List Aa × Bool) (Cz N (b1, (i : Int)) t R (b2, (u : Int)) row j) (fun a k => (a.1, a.2, k)) row (fun a => j a) (fun v ok s => (s.1 ++ gC i u m t v ok, s.2 || hC m t v ok))
  (fun v a => v ≤ row.length ∧ a.1.length ≤ acc.length + v)
  (fun n v ok a hx ha => by
   have hv := (lI.1 hx).1
   obtain ⟨c, f⟩ := a
   simp only at ha
   refine ⟨?_, by omega, ?_⟩
   ·rw [Cz]
    simp only [Bi]
    rw [AC (by omega), AW, hx]
    simp only [oS]
    rw [Ap (by omega), TQ hR0 hR1 (by omega), hRb, AB (by omega), M1 _ _ _ (fun l => Cz N (b1, (i : Int)) t R (b2, (u : Int)) row j n (l, true, ((v + 1 : Nat) : Int))) (by omega)]
    unfold gC hC
    rw [M1 _ _ _ (fun l => Cz N (b1, (i : Int)) t R (b2, (u : Int)) row j n (l, ok, ((v + 1 : Nat) : Int))) (by omega)]
    cases Kb m t.fO.toNat v
    ·simp
    ·cases ok <;> cases f <;> cases t.fR <;> simp
   ·simp only [gC, List.length_append]
    split <;> simp <;> omega)
  (fun n a _ => by
   rw [Cz]
   simp only [Bi]
   rw [Ay (by omega)]) N 0 (acc, false) (by omega) (by omega) ⟨by omega, by simp⟩
 have h2 := this.1
 rw [List.drop_zero, NP, Bool.false_or] at h2
 exact h2
theorem J8 {p : Ac} {t : An} (hp : Bk p) (ht : Oz p t) : t.fN.length ≤ 6 ∧ ∀ row, row ∈ t.fN → row.length ≤ 6 := by
 have h1 := Lb hp.ver ht.from0.1 ht.from0.2
 have h2 := Lb hp.ver ht.to0.1 ht.to0.2
 have h3 := ht.okL
 exact ⟨by omega, fun row hr => by have := ht.okR row hr; omega⟩
theorem Vw (i u : Nat) (m : Af) (t : An) (v : Nat) (ok : Bool) : (gC i u m t v ok).length ≤ 1 := by
 unfold gC; split <;> simp
theorem Vq (i : Nat) (m : Af) (t : An) (u : Nat) (row : List Bool) (h : row.length ≤ 6) : (Lc i m t u row).length ≤ 7 := by
 unfold Lc
 rw [List.length_append]
 have := Gt (g := gC i u m t) (c := 1) (i := 0) (xs := row) (fun j x _ => Vw _ _ _ _ _ _)
 split <;> simp <;> omega
theorem VW (i : Nat) (m : Af) (t : An) (u : Nat) (row : List Bool) (h : row.length ≤ 6) : (if TN m i t u = true then Lc i m t u row else []).length ≤ 7 := by
 have := Vq i m t u row h
 split <;> simp <;> omega
theorem Pt {p : Ac} {t : An} (hp : Bk p) (ht : Oz p t) (i : Nat) (m : Af) : (K5 m i t).length ≤ 42 := by
 have h1 := J8 hp ht
 have := Gt (g := fun u row => if TN m i t u = true then Lc i m t u row else []) (c := 7) (i := 0) (xs := t.fN) (fun j x hx => VW i m t _ x (h1.2 x (lM hx)))
 unfold K5
 omega
theorem Ot (N : Nat) (p : Ac) (m : Af) (t : An) (i : Nat) (W R : Int) (b1 acc : List Aa) (j : List Aa → Option (List Aa))
  (hN : N ≤ 1000000) (h8 : 8 ≤ N) (hp : Bk p) (ht : Oz p t) (hacc : acc.length + 42 ≤ 10000) (hR0 : 0 ≤ R) (hR1 : R ≤ 255) (hRb : ∀ v, Fa R v = Kb m t.fO.toNat v) (hW0 : 0 ≤ W) (hW1 : W ≤ 255) (hWb : ∀ v, Fa W v = TN m i t v) :
  Da N (b1, (i : Int)) t R W j N (acc, 0) = j (acc ++ K5 m i t) := by
 have hl := J8 hp ht
 exact DM (Da N (b1, (i : Int)) t R W j) (fun a k => (a, k)) t.fN j (fun u row => if TN m i t u then Lc i m t u row else []) 7 10000
  (fun u row hx => VW i m t u row (hl.2 row (lM hx)))
  (fun n u row a hx ha => by
   have hu := (lI.1 hx).1
   have hrow := hl.2 row (lM hx)
   rw [Da]
   simp only [Bi]
   rw [AC (by omega), Ap (by omega), TQ hW0 hW1 (by omega), hWb, AW, hx]
   simp only [oS]
   rw [Ty N m t i u row R b1 a a _ hN h8 hrow (by unfold DU; omega) hR0 hR1 hRb, AB (by omega)]
   cases hw : TN m i t u
   ·simp
   ·simp only [Bool.not_true, Ao, if_true, Lc]
    have h1 := Gt (g := gC i u m t) (c := 1) (i := 0) (xs := row) (fun j x _ => Vw _ _ _ _ _ _)
    have := M1 (R := List Aa) (t.fR && !M4 (hC m t) 0 row) (a ++ Cm (gC i u m t) 0 row) ⟨(i : Int), (u : Int), -1⟩ (fun l => Da N (b1, (i : Int)) t R W j n (l, ((u + 1 : Nat) : Int))) (by rw [List.length_append]; unfold DU; rw [hw, if_pos rfl] at ha; omega)
    rw [← List.append_assoc, ← this]
    cases t.fR <;> cases M4 (hC m t) 0 row <;> rfl)
  (fun n a => by
   rw [Da]
   simp only [Bi]
   rw [Ay (by omega)]) N acc (by omega) (by omega)
theorem TI (N : Nat) (p : Ac) (m : Af) (t : An) (i u : Nat) (row : List Bool) (b1 b2 acc : List Aa) (j : List Aa × Bool → Option (List Aa))
  (hN : N ≤ 1000000) (h8 : 8 ≤ N) (hp : Bk p) (hm : MixServ p m) (ht : Oz p t) (hu : t.fN[u]? = some row) (hacc : acc.length + 6 ≤ DU) :
  BI N p m (b1, (i : Int)) t (b2, (u : Int)) j N (acc, false, 0) = j (acc ++ Cm (gC i u m t) 0 row, M4 (hC m t) 0 row) := by
 have hrow := (J8 hp ht).2 row (lM hu)
 have hR := JL hp hm (s := t.fO.toNat) (by have := ht.to0; omega)
 have hlen := ht.okR row (lM hu)
 have hto := ht.to0
 have := IS (A := List Aa × Bool) (BI N p m (b1, (i : Int)) t (b2, (u : Int)) j) (fun a k => (a.1, a.2, k)) row (fun a => j a) (fun v ok s => (s.1 ++ gC i u m t v ok, s.2 || hC m t v ok))
  (fun v a => v ≤ row.length ∧ a.1.length ≤ acc.length + v)
  (fun n v ok a hx ha => by
   have hv := (lI.1 hx).1
   obtain ⟨c, f⟩ := a
   simp only at ha
   refine ⟨?_, by omega, ?_⟩
   ·rw [BI]
    simp only [Bi]
    rw [Gj (d := 0) hto.1 hto.2, LL N m t.fO hto.1 (by rw [hm.base]; exact hto.2) (by rw [hm.next]; exact hto.2) (hm.b0 _ (by omega)).1, AW, hu]
    simp only [oS]
    unfold Df
    rw [AC (by omega), AW, hx, Ap (by omega), UW hR.2.1 hR.2.2 (by omega), hR.1]
    simp only [oS]
    rw [AB (by omega), M1 _ _ _ (fun l => BI N p m (b1, (i : Int)) t (b2, (u : Int)) j n (l, true, ((v + 1 : Nat) : Int))) (by omega)]
    unfold gC hC
    rw [M1 _ _ _ (fun l => BI N p m (b1, (i : Int)) t (b2, (u : Int)) j n (l, ok, ((v + 1 : Nat) : Int))) (by omega)]
    cases Kb m t.fO.toNat v
    ·simp
    ·cases ok <;> cases f <;> cases t.fR <;> simp
   ·simp only [gC, List.length_append]
    split <;> simp <;> omega)
  (fun n a _ => by
   rw [BI]
   simp only [Bi]
   rw [Gj (d := 0) hto.1 hto.2]
   simp only [oS]
   rw [Ay (by omega)]) N 0 (acc, false) (by omega) (by omega) ⟨by omega, by simp⟩
 have h2 := this.1
 rw [List.drop_zero, NP, Bool.false_or] at h2
 exact h2
theorem Oa (N : Nat) (p : Ac) (m : Af) (t : An) (i : Nat) (W : Int) (b1 acc : List Aa) (j : List Aa → Option (List Aa))
  (hN : N ≤ 1000000) (h8 : 8 ≤ N) (hp : Bk p) (hm : MixServ p m) (ht : Oz p t) (hacc : acc.length + 42 ≤ 10000) (hW0 : 0 ≤ W) (hW1 : W ≤ 255) (hWb : ∀ v, Fa W v = TN m i t v) :
  B9 N p m (b1, (i : Int)) t W j N (acc, 0) = j (acc ++ K5 m i t) := by
 have hl := J8 hp ht
 have hfr := ht.from0
 have hok := ht.okL
 exact DM (B9 N p m (b1, (i : Int)) t W j) (fun a k => (a, k)) t.fN j (fun u row => if TN m i t u then Lc i m t u row else []) 7 10000
  (fun u row hx => VW i m t u row (hl.2 row (lM hx)))
  (fun n u row a hx ha => by
   have hu := (lI.1 hx).1
   have hrow := hl.2 row (lM hx)
   rw [B9]
   simp only [Bi]
   rw [Gj (d := 0) hfr.1 hfr.2]
   simp only [oS]
   unfold Df
   rw [AC (by omega), Ap (by omega), UW hW0 hW1 (by omega), hWb]
   simp only [oS]
   rw [TI N p m t i u row b1 a a _ hN h8 hp hm ht hx (by unfold DU; omega), AB (by omega)]
   cases hw : TN m i t u
   ·simp
   ·simp only [Bool.not_true, Ao, if_true, Lc]
    have h1 := Gt (g := gC i u m t) (c := 1) (i := 0) (xs := row) (fun j x _ => Vw _ _ _ _ _ _)
    have := M1 (R := List Aa) (t.fR && !M4 (hC m t) 0 row) (a ++ Cm (gC i u m t) 0 row) ⟨(i : Int), (u : Int), -1⟩ (fun l => B9 N p m (b1, (i : Int)) t W j n (l, ((u + 1 : Nat) : Int))) (by rw [List.length_append]; unfold DU; rw [hw, if_pos rfl] at ha; omega)
    rw [← List.append_assoc, ← this]
    cases t.fR <;> cases M4 (hC m t) 0 row <;> rfl)
  (fun n a => by
   rw [B9]
   simp only [Bi]
   rw [Gj (d := 0) hfr.1 hfr.2]
   simp only [oS]
   rw [Ay (by omega)]) N acc (by omega) (by omega)
theorem O9 (N : Nat) (p : Ac) (m : Af) (hN : N ≤ 1000000) (h20 : 20 ≤ N) (hp : Bk p) (hm : Cl p m) : Hg N p m = some (FP p m) := by
 unfold Hg
 have hnt := hp.nt
 rw [DM (Ez N p m _) (fun a k => (a, k)) p.fF some (K5 m) 42 9000
  (fun i t hx => Pt hp (JA (hp.tab t (lM hx))) i m)
  (fun n i t a hx ha => by
   have hi := (lI.1 hx).1
   have ht := JA (hp.tab t (lM hx))
   have hto := ht.to0
   have hfr := ht.from0
   have hR := JL hp hm.toMixServ (s := t.fO.toNat) (by omega)
   have hF := JL hp hm.toMixServ (s := t.fJ.toNat) (by omega)
   have hH := hm.range i hi
   rw [Ez]
   simp only [Bi]
   rw [AC (by omega), AW, hx]
   simp only [oS, Lh]
   rw [NU N m t.fJ hfr.1 (by rw [hm.base]; exact hfr.2) (by rw [hm.next]; exact hfr.2) (hm.b0 _ (by omega)).1, NU N m t.fO hto.1 (by rw [hm.base]; exact hto.2) (by rw [hm.next]; exact hto.2) (hm.b0 _ (by omega)).1, Ea (d := 0) (by rw [hm.held]; exact hi), AB (by omega)]
   simp only [oS]
   cases hs : Cx t
   ·rw [Ao, Ot N p m t i _ _ a a _ hN (by omega) hp ht (by omega) hR.2.1 hR.2.2 hR.1 hF.2.1 hF.2.2 (fun v => by unfold TN; rw [hs, hF.1]; rfl)]
   ·rw [AR, Ot N p m t i _ _ a a _ hN (by omega) hp ht (by omega) hR.2.1 hR.2.2 hR.1 hH.1 hH.2 (fun v => by unfold TN; rw [hs]; rfl)])
  (fun n a => by
   rw [Ez]
   simp only [Bi]
   rw [Ay (by omega)]) N [] (by omega) (by simp; omega)]
 rfl
theorem Lu (N : Nat) (p : Ac) (m : Af) (hN : N ≤ 1000000) (h20 : 20 ≤ N) (hp : Bk p) (hm : Cl p m) : E0 N p m = some (FP p m) := by
 unfold E0
 have hnt := hp.nt
 rw [DM (Dw N p m _) (fun a k => (a, k)) p.fF some (K5 m) 42 9000
  (fun i t hx => Pt hp (JA (hp.tab t (lM hx))) i m)
  (fun n i t a hx ha => by
   have hi := (lI.1 hx).1
   have ht := JA (hp.tab t (lM hx))
   have hto := ht.to0
   have hfr := ht.from0
   have hF := JL hp hm.toMixServ (s := t.fJ.toNat) (by omega)
   have hH := hm.range i hi
   rw [Dw]
   simp only [Bi]
   rw [AC (by omega), AW, hx]
   simp only [oS, IE]
   rw [LL N m t.fJ hfr.1 (by rw [hm.base]; exact hfr.2) (by rw [hm.next]; exact hfr.2) (hm.b0 _ (by omega)).1, Ea (d := 0) (by rw [hm.held]; exact hi), AB (by omega)]
   simp only [oS]
   cases hs : Cx t
   ·rw [Ao, Oa N p m t i _ a a _ hN (by omega) hp hm.toMixServ ht (by omega) hF.2.1 hF.2.2 (fun v => by unfold TN; rw [hs, hF.1]; rfl)]
   ·rw [AR, Oa N p m t i _ a a _ hN (by omega) hp hm.toMixServ ht (by omega) hH.1 hH.2 (fun v => by unfold TN; rw [hs]; rfl)])
  (fun n a => by
   rw [Dw]
   simp only [Bi]
   rw [Ay (by omega)]) N [] (by omega) (by simp; omega)]
 rfl
theorem F8 {A S R : Type} (L : Nat → S → Option R) (mk : A → Int → S) (len : Nat) (j : A → Option R) (I : Nat → A → Prop)
  (hs : ∀ (n i : Nat) (a : A), i < len → I i a → ∃ a', L (n + 1) (mk a (i : Int)) = L n (mk a' ((i + 1 : Nat) : Int)) ∧ I (i + 1) a')
  (he : ∀ (n : Nat) (a : A), I len a → L (n + 1) (mk a (len : Int)) = j a) :
  ∀ (n i : Nat) (a : A), i ≤ len → len - i < n → I i a → ∃ a', L n (mk a (i : Int)) = j a' ∧ I len a'
 | 0, i, _, _, h, _ => by omega
 | n + 1, i, a, hi, h, ha => by
  by_cases h1 : i < len
  ·obtain ⟨a', e1, e2⟩ := hs n i a h1 ha
   rw [e1]
   exact F8 L mk len j I hs he n (i + 1) _ (by omega) (by omega) e2
  ·have : i = len := by omega
   subst this
   exact ⟨a, he n a ha, ha⟩
theorem K4 {α : Type} {xs ys : List α} {i : Nat} {d : α} (h : i < xs.length) : (xs ++ ys).getD i d = xs.getD i d := by
 rw [lD, lD, List.getElem?_append_left h]
theorem KS {α : Type} {xs : List α} {y : α} {i : Nat} {d : α} (h : i = xs.length) : (xs ++ [y]).getD i d = y := by
 subst h; rw [lD, List.getElem?_append_right (Nat.le_refl _)]; simp
theorem Qy {α : Type} {P : Nat → α → Prop} {xs : List α} {y : α} {d : α} {n : Nat} (hn : xs.length = n) (h : ∀ k, k < n → P k (xs.getD k d)) (hy : P n y) : ∀ k, k < n + 1 → P k ((xs ++ [y]).getD k d) := by
 intro k hk
 by_cases h1 : k < n
 ·rw [K4 (by omega)]; exact h k h1
 ·have : k = n := by omega
  subst this
  rw [KS hn.symm]; exact hy
theorem Wo {l : List Int} (hw : PN MW l) (i : Nat) : 0 ≤ l.getD i 0 ∧ l.getD i 0 ≤ 255 := by
 by_cases h : i < l.length
 ·have : l.getD i 0 ∈ l := by rw [lD, List.getElem?_eq_getElem h]; exact List.getElem_mem _
  exact KJ (hw _ this)
 ·rw [lD, List.getElem?_eq_none (by omega)]
  exact ⟨by decide, by decide⟩
theorem RI (N : Nat) {l : List Int} (hw : PN MW l) (i : Nat) : Fr N l (i : Int) = some (l.getD i 0) := by
 unfold Fr
 have h2 := Wo hw i
 by_cases h : i < l.length
 ·rw [AC (by omega), Ea (d := 0) h]
  simp only [oS]
  rw [Dy (by omega) (by omega)]
 ·rw [Ay (by omega), lD, List.getElem?_eq_none (by omega)]; rfl
theorem JE {a n : Int} (ha : 0 ≤ a) (hn : 0 < n) : 0 ≤ Int.tmod a n ∧ Int.tmod a n < n := ⟨Int.tmod_nonneg n ha, Int.tmod_lt_of_pos a hn⟩
theorem aI {l : List (List Bool)} {n m : Int} (h1 : (l.length : Int) = n) (h2 : ∀ row, row ∈ l → (row.length : Int) = m) : sq l n m = true := by
 unfold sq
 simp only [Bool.and_eq_true, decide_eq_true_eq, List.all_eq_true]
 exact ⟨h1, h2⟩
theorem bj {p : Ac} {t : An} (h : Oz p t) : EW p t = 0 := by
 have hk := h.kind
 have hf := h.from0
 have ht := h.to0
 unfold EW
 rw [if_neg, if_neg (by omega)]
 ·simp only [aI h.okL h.okR]
  rw [if_neg (by simp)]
  by_cases h4 : t.fI = 4
  ·rw [if_pos h4, aI (h.reL h4) h.reR, if_neg (by simp), h.reD h4]; rfl
  ·rw [if_neg h4, h.reN h4]; rfl
 ·rintro (h1 | h1 | ⟨h1, h2⟩)
  ·omega
  ·omega
  ·have := h.aware h1
   unfold Cx at this
   rw [Bool.or_eq_false_iff, beq_eq_false_iff_ne, beq_eq_false_iff_ne] at this
   omega
theorem Yx (N : Nat) (m bad : Int) (diag : Bool) (i : Nat) (acc : List (List Bool)) {_R : Type} (j : List Bool → Option (List (List Bool))) (hN : N ≤ 1000000) (h20 : 20 ≤ N) (hm : 0 ≤ m ∧ m ≤ 6) (hi : i < 6) :
  ∃ row, C6 N m bad diag (acc, (i : Int)) j N ([], 0) = j row ∧ (row.length : Int) = m ∧ (diag = true → (i : Int) < m → row.getD i false = true) := by
 obtain ⟨M, rfl⟩ := Int.eq_ofNat_of_zero_le hm.1
 obtain ⟨row, e, h1, h2⟩ := F8 (A := List Bool) (C6 N (M : Int) bad diag (acc, (i : Int)) j) (fun a k => (a, k)) M j
  (fun k a => a.length = k ∧ ∀ q, q < k → diag = true → q = i → a.getD q false = true)
  (fun n k a hk ha => by
   refine ⟨a ++ [(diag && decide (i = k)) || (Int.tmod (FU .u16 bad ((3 * i + k : Nat) : Int)) 2 == 0)], ?_, by simp [ha.1], Qy (P := fun q y => diag = true → q = i → y = true) ha.1 ha.2 (fun h1 h2 => by simp [h1, h2])⟩
   rw [C6]
   simp only [Bi]
   rw [AC (by omega), AB (by omega), Dy (n := 3 * (i : Int)) (by omega) (by omega), Dy (n := 3 * (i : Int) + (k : Int)) (by omega) (by omega)]
   have l1 : ∀ y : Bool, a.length + ([y] : List Bool).length ≤ DU := by intro y; rw [ha.1]; unfold DU; simp; omega
   simp only [Ap (l1 _), Ap (show (0 : Int) ≤ 3 * (i : Int) + (k : Int) by omega)]
   have e1 : ((3 * i + k : Nat) : Int) = 3 * (i : Int) + (k : Int) := by omega
   rw [e1]
   have e2 : (((i : Nat) : Int) == ((k : Nat) : Int)) = decide (i = k) := by
    by_cases h : i = k
    ·simp [h]
    ·rw [decide_eq_false h]; exact beq_eq_false_iff_ne.2 (by omega)
   rw [e2]
   cases diag <;> cases decide (i = k) <;> rfl)
  (fun n a _ => by
   rw [C6]
   simp only [Bi]
   rw [Ay (by omega)]) N 0 [] (Nat.zero_le _) (by omega) ⟨rfl, fun q hq => by omega⟩
 exact ⟨row, e, by omega, fun hd hlt => h2 i (by omega) hd rfl⟩
theorem WA (N : Nat) (n m bad : Int) (diag : Bool) (hN : N ≤ 1000000) (h20 : 20 ≤ N) (hn : 0 ≤ n ∧ n ≤ 6) (hm : 0 ≤ m ∧ m ≤ 6) :
  ∃ l, Ft N n m bad diag = some l ∧ (l.length : Int) = n ∧ (∀ row, row ∈ l → (row.length : Int) = m) ∧ (diag = true → n = m → KF l = none) := by
 obtain ⟨M, rfl⟩ := Int.eq_ofNat_of_zero_le hn.1
 unfold Ft
 obtain ⟨l, e, h1, h2⟩ := F8 (A := List (List Bool)) (C5 N (M : Int) m bad diag (fun v => some v)) (fun a k => (a, k)) M some
  (fun k a => a.length = k ∧ ∀ q, q < k → (((a.getD q []).length : Nat) : Int) = m ∧ (diag = true → (q : Int) < m → (a.getD q []).getD q false = true))
  (fun n k a hk ha => by
   obtain ⟨row, e, h1, h2⟩ := Yx (_R := Unit) N m bad diag k a (fun (v5 : List Bool) =>
    (Eo (a.length + (([v5] : List (List Bool))).length ≤ DU)).bind fun _ =>
    C5 N (M : Int) m bad diag (fun v => some v) n (a ++ (([v5] : List (List Bool))), (wI .i64 ((k : Int) + 1)))) hN h20 hm (by omega)
   refine ⟨a ++ [row], ?_, by simp [ha.1], Qy (P := fun q y => ((y.length : Nat) : Int) = m ∧ (diag = true → (q : Int) < m → y.getD q false = true)) ha.1 ha.2 ⟨h1, h2⟩⟩
   rw [C5]
   simp only
   rw [AC (by omega), e, Ap (by rw [ha.1]; unfold DU; simp; omega), AB (by omega)])
  (fun n a _ => by
   rw [C5]
   simp only
   rw [Ay (by omega)]) N 0 [] (Nat.zero_le _) (by omega) ⟨rfl, fun q hq => by omega⟩
 have key : ∀ q row, l[q]? = some row → l.getD q [] = row := fun q row hq => by rw [lD, hq]; rfl
 refine ⟨l, e, by omega, fun row hr => ?_, fun hd hnm => ?_⟩
 ·obtain ⟨q, hq⟩ := List.mem_iff_getElem?.1 hr
  have := (h2 q (by have := (lI.1 hq).1; omega)).1
  rwa [key q row hq] at this
 ·unfold KF
  refine GU fun q row hq => ?_
  have hlt := (lI.1 hq).1
  have := (h2 q (by omega)).2 hd (by omega)
  rw [key q row hq] at this
  rw [Nat.zero_add, this]; rfl
structure aZ (p : Ac) : Prop where
 valid : Bo p = 0
 nv : p.fE.length ≤ 3
 nt : p.fF.length ≤ 4
 v3 : ∀ v, v ∈ p.fE → v ≤ 3
theorem Xf {p q : Ac} (h : p.fE = q.fE) (t : An) : EW p t = EW q t := by
 unfold EW; rw [h]
theorem fg (N : Nat) (d : B1) (hN : N ≤ 1000000) (h20 : 20 ≤ N) (hw : GS d) : ∃ p ok, GO N d = some (p, ok) ∧ (ok = true → aZ p) := by
 obtain ⟨w1, w2, w3, w4, _⟩ := hw
 unfold GO
 simp only [Bi]
 by_cases k1 : 3 < d.fE.length
 ·rw [AC (by omega)]; exact ⟨_, false, rfl, fun h => by cases h⟩
 by_cases k2 : 4 < d.fZ.length
 ·rw [Ay (by omega), decide_eq_true (by omega : (4 : Int) < (d.fZ.length : Int))]; exact ⟨_, false, rfl, fun h => by cases h⟩
 rw [Ay (by omega), decide_eq_false (by omega : ¬ (4 : Int) < (d.fZ.length : Int)), Ao]
 obtain ⟨⟨vs, ns, ts⟩, e, h1, h2, h3, h4⟩ := F8 (A := List Int × List Int × List Int) (DJ N d fun v5 => BW N d v5 (fun v16 => some (Ac.mk v5.1 v5.2.1 v5.2.2 v16, true)) N ([], 0)) (fun a k => (a.1, a.2.1, a.2.2, k)) d.fE.length
  (fun v5 => BW N d v5 (fun v16 => some (Ac.mk v5.1 v5.2.1 v5.2.2 v16, true)) N ([], 0))
  (fun i a => a.1.length = i ∧ a.2.1.length = i ∧ a.2.2.length = i ∧ (∀ k, k < i → (1 ≤ a.1.getD k 0 ∧ a.1.getD k 0 ≤ 3) ∧ (0 ≤ a.2.1.getD k 0 ∧ a.2.1.getD k 0 < a.1.getD k 0) ∧ (0 ≤ a.2.2.getD k 0 ∧ a.2.2.getD k 0 < a.1.getD k 0)))
  (fun n i a hi ha => by
   obtain ⟨vs, ns, ts⟩ := a
   obtain ⟨h1, h2, h3, h4⟩ := ha
   simp only at h1 h2 h3 h4
   have hv := Wo w1 i
   have hb := Wo w2 i
   have hk := Wo w3 i
   have hm := JE (n := 3) hv.1 (by omega)
   obtain ⟨v, hvd⟩ : ∃ v, v = 1 + Int.tmod (d.fE.getD i 0) 3 := ⟨_, rfl⟩
   have m1 := JE (n := v) hb.1 (by omega)
   have m2 := JE (n := v) hk.1 (by omega)
   refine ⟨(vs ++ [v], ns ++ [Int.tmod (d.fK.getD i 0) v], ts ++ [Int.tmod (d.fP.getD i 0) v]), ?_, by simp [h1], by simp [h2], by simp [h3], ?_⟩
   ·rw [DJ]
    simp only
    rw [AC (by omega), Ea (d := 0) hi, RI N w2, RI N w3]
    simp only [oS]
    rw [Dy (n := Int.tmod _ _) (by omega) (by omega), Dy (n := 1 + _) (by omega) (by omega), ← hvd, AB (by omega)]
    have l1 : ∀ y : Int, vs.length + ([y] : List Int).length ≤ DU := by intro y; rw [h1]; unfold DU; simp; omega
    have l2 : ∀ y : Int, ns.length + ([y] : List Int).length ≤ DU := by intro y; rw [h2]; unfold DU; simp; omega
    have l3 : ∀ y : Int, ts.length + ([y] : List Int).length ≤ DU := by intro y; rw [h3]; unfold DU; simp; omega
    simp only [Ap (l1 _), Ap (l2 _), Ap (l3 _), Ap (show v ≠ 0 by omega)]
   ·intro k hk
    simp only
    by_cases hki : k < i
    ·rw [K4 (by omega), K4 (by omega), K4 (by omega)]; exact h4 k hki
    ·have : k = i := by omega
     subst this
     rw [KS h1.symm, KS h2.symm, KS h3.symm]
     omega)
  (fun n a _ => by
   rw [DJ]
   simp only
   rw [Ay (by omega)]) N 0 ([], [], []) (Nat.zero_le _) (by omega) ⟨rfl, rfl, rfl, fun k hk => by omega⟩
 simp only at h1 h2 h3 h4
 have e' : DJ N d (fun v5 => BW N d v5 (fun v16 => some (Ac.mk v5.1 v5.2.1 v5.2.2 v16, true)) N ([], 0)) N ([], [], [], 0) = _ := e
 rw [e']
 have hvs : ∀ v, v ∈ vs → 1 ≤ v ∧ v ≤ 3 := by
  intro v hv
  obtain ⟨q, hq⟩ := List.mem_iff_getElem?.1 hv
  have := (h4 q (by have := (lI.1 hq).1; omega)).1
  rwa [lD, hq] at this
 have fin : ∀ tabs : List An, tabs.length ≤ 4 → (∀ t, t ∈ tabs → EW ⟨vs, ns, ts, []⟩ t = 0) → aZ ⟨vs, ns, ts, tabs⟩ := by
  intro tabs ht h
  have hp : Bk ⟨vs, ns, ts, tabs⟩ := ⟨show vs.length ≤ 6 by omega, show tabs.length ≤ 12 by omega, show ns.length = vs.length by omega, show ts.length = vs.length by omega, fun v hv => by have := hvs v hv; omega, fun t ht => by rw [← h t ht]; exact Xf rfl t⟩
  exact ⟨S7 hp fun i hi => by have := h4 i (by have : i < vs.length := hi; omega); simp only; omega, show vs.length ≤ 3 by omega, ht, fun v hv => (hvs v hv).2⟩
 by_cases k3 : vs.length = 0
 ·refine ⟨_, true, ?_, fun _ => fin [] (by simp) (fun t ht => by cases ht)⟩
  obtain ⟨M, rfl⟩ : ∃ M, N = M + 1 := ⟨N - 1, by omega⟩
  rw [BW]
  simp only [Bi]
  rw [k3]
  by_cases k4 : (0 : Int) < (d.fZ.length : Int)
  ·rw [AC k4]; rfl
  ·rw [Ay k4]; rfl
 obtain ⟨tabs, e2, g1, g2⟩ := F8 (A := List An) (BW N d (vs, ns, ts) (fun v16 => some (Ac.mk vs ns ts v16, true))) (fun a k => (a, k)) d.fZ.length (fun v16 => some (Ac.mk vs ns ts v16, true))
  (fun i a => a.length = i ∧ ∀ t, t ∈ a → EW ⟨vs, ns, ts, []⟩ t = 0)
  (fun n i a hi ha => by
   have hx : d.fZ[i]? = some d.fZ[i] := by simp [hi]
   generalize d.fZ[i] = l at hx
   obtain ⟨u1, u2, u3, _, u5, u6, _⟩ := w4 l (lM hx)
   have u1 := KJ u1
   have u2 := KJ u2
   have u3 := KJ u3
   have mk := JE (n := 4) u1.1 (by omega)
   have hL : (0 : Int) < (vs.length : Int) := by omega
   have mf := JE (n := (vs.length : Int)) u2.1 hL
   have mt := JE (n := (vs.length : Int)) u3.1 hL
   rw [BW]
   simp only [Bi]
   rw [AC (by omega), decide_eq_true hL, AR, AW, hx]
   simp only [oS]
   rw [Ap (by omega), Ap (by omega), Dy (n := l.fJ) (by omega) (by omega), Dy (n := l.fO) (by omega) (by omega), Dy (n := Int.tmod l.fI 4) (by omega) (by omega), Dy (n := 1 + _) (by omega) (by omega), AB (by omega)]
   simp only [Pl, oS]
   rw [Gj (d := 0) mf.1 mf.2, Gj (d := 0) mt.1 mt.2]
   simp only [oS]
   have hA : ∀ q : Int, 0 ≤ q → q < (vs.length : Int) → 1 ≤ vs.getD q.toNat 0 ∧ vs.getD q.toNat 0 ≤ 3 := fun q h0 h1 => (h4 q.toNat (by omega)).1
   have hf := hA _ mf.1 mf.2
   have ht := hA _ mt.1 mt.2
   obtain ⟨A, eA, a1, a2, _⟩ := WA N (vs.getD (Int.tmod l.fJ (vs.length : Int)).toNat 0) (vs.getD (Int.tmod l.fO (vs.length : Int)).toNat 0) l.f5 false hN h20 (by omega) (by omega)
   obtain ⟨B, eB, b1, b2, b3⟩ := WA N (vs.getD (Int.tmod l.fJ (vs.length : Int)).toNat 0) (vs.getD (Int.tmod l.fJ (vs.length : Int)).toNat 0) l.f6 true hN h20 (by omega) (by omega)
   rw [eA, eB]
   simp only [oS]
   have l1 : ∀ y : An, a.length + ([y] : List An).length ≤ DU := by intro y; rw [ha.1]; unfold DU; simp; omega
   simp only [Ap (l1 _)]
   obtain ⟨kd, hkd⟩ : ∃ kd, kd = 1 + Int.tmod l.fI 4 := ⟨_, rfl⟩
   rw [← hkd]
   have fin2 : ∀ (aw : Bool) (re : List (List Bool)), (aw = true → (kd == 3 || kd == 4) = false) → ((kd = 4 → re = B) ∧ (kd ≠ 4 → re = [])) →
     EW ⟨vs, ns, ts, []⟩ (An.mk kd (Int.tmod l.fJ (vs.length : Int)) (Int.tmod l.fO (vs.length : Int)) aw A re) = 0 := by
    intro aw re haw hre
    refine bj ⟨show 1 ≤ kd ∧ kd ≤ 4 by omega, haw, mf, mt, a1, a2, fun h => by rw [hre.1 h]; exact b1, fun row hr => ?_, fun h => by rw [hre.1 h]; exact b3 rfl rfl, fun h => hre.2 h⟩
    by_cases h4 : kd = 4
    ·simp only at hr; rw [hre.1 h4] at hr; exact b2 row hr
    ·simp only at hr; rw [hre.2 h4] at hr; cases hr
   have app : ∀ t, EW ⟨vs, ns, ts, []⟩ t = 0 → (a ++ [t]).length = i + 1 ∧ ∀ t', t' ∈ a ++ [t] → EW ⟨vs, ns, ts, []⟩ t' = 0 := by
    intro t ht
    refine ⟨by simp [ha.1], fun t' ht' => ?_⟩
    rcases List.mem_append.1 ht' with h | h
    ·exact ha.2 t' h
    ·rw [List.mem_singleton.1 h]; exact ht
   by_cases h4 : kd = 4
   ·have e4 : (kd == 4) = true := beq_iff_eq.2 h4
    have hre : (kd = 4 → B = B) ∧ (kd ≠ 4 → B = []) := ⟨fun _ => rfl, fun h => (h h4).elim⟩
    rw [e4]
    simp only [AR, Bool.or_true, Bool.not_true]
    cases l.fR
    ·exact ⟨_, rfl, app _ (fin2 false B (fun h => by cases h) hre)⟩
    ·exact ⟨_, rfl, app _ (fin2 false B (fun h => by cases h) hre)⟩
   ·have e4 : (kd == 4) = false := beq_eq_false_iff_ne.2 h4
    have hre : (kd = 4 → ([] : List (List Bool)) = B) ∧ (kd ≠ 4 → ([] : List (List Bool)) = []) := ⟨fun h => (h4 h).elim, fun _ => rfl⟩
    rw [e4]
    simp only [Ao, Bool.or_false]
    cases l.fR
    ·exact ⟨_, rfl, app _ (fin2 false [] (fun h => by cases h) hre)⟩
    ·cases e3 : kd == 3
     ·exact ⟨_, rfl, app _ (fin2 true [] (fun _ => by rw [e3, e4]; rfl) hre)⟩
     ·exact ⟨_, rfl, app _ (fin2 false [] (fun h => by cases h) hre)⟩)
  (fun n a _ => by
   rw [BW]
   simp only [Bi]
   rw [Ay (by omega), Ao]) N 0 [] (Nat.zero_le _) (by omega) ⟨rfl, fun t ht => by cases ht⟩
 exact ⟨_, true, e2, fun _ => fin tabs (by omega) g2⟩
def Kd : List Int → Nat → Nat
 | [], _ => 0
 | _, 0 => 0
 | n :: ns, q + 1 => (if 0 ≤ n then 1 else 0) + Kd ns q
theorem Ku (l : List Int) : Kd l 0 = 0 := by cases l <;> rfl
theorem Jn : ∀ (l : List Int) (q : Nat), q < l.length → Kd l (q + 1) = Kd l q + if 0 ≤ l.getD q 0 then 1 else 0
 | [], q, h => by simp at h
 | n :: ns, 0, _ => by simp [Kd, Ku]
 | n :: ns, q + 1, h => by
  rw [Kd, Jn ns q (by simpa using h), Kd, List.getD_cons_succ, Nat.add_assoc]
theorem QS (l : List Int) {a b : Nat} (h : a ≤ b) (hb : b ≤ l.length) : Kd l a ≤ Kd l b := by
 induction b with
 | zero => rw [Nat.le_zero.1 h]; exact Nat.le_refl _
 | succ b ih =>
  by_cases h1 : a = b + 1
  ·rw [h1]; exact Nat.le_refl _
  ·have := ih (by omega) (by omega)
   rw [Jn l b (by omega)]; omega
theorem MN (l : List Int) : ∀ q, q ≤ l.length → Kd l q ≤ q
 | 0, _ => by rw [Ku]; exact Nat.le_refl _
 | q + 1, h => by
  have := MN l q (by omega)
  rw [Jn l q h]
  split <;> omega
def O1 (l : List Int) (k q : Nat) : Int := if 0 ≤ l.getD q 0 ∧ k.testBit (Kd l q) = true then -1 else l.getD q 0
def Y8 (l : List Int) (k : Nat) : List Int := (List.range l.length).map (O1 l k)
def bZ (m : Af) (k : Nat) : Af := ⟨m.fG, Y8 m.fD k, m.fH⟩
def GX (m : Af) : List Af := (List.range (2 ^ Kd m.fD m.fD.length)).map (bZ m)
theorem NW (l : List Int) (k : Nat) : (Y8 l k).length = l.length := by simp [Y8]
theorem SC (l : List Int) (k q : Nat) (h : q < l.length) : (Y8 l k).getD q 0 = O1 l k q := by
 unfold Y8; rw [lD, List.getElem?_map, List.getElem?_range h]; rfl
theorem G6 {l1 l2 : List Int} (h1 : l1.length = l2.length) (h : ∀ q, q < l1.length → l1.getD q 0 = l2.getD q 0) : l1 = l2 := by
 apply List.ext_getElem h1
 intro q h2 h3
 have := h q h2
 rw [lD, lD, List.getElem?_eq_getElem h2, List.getElem?_eq_getElem h3] at this
 exact this
theorem Wr : ∀ (k : Fin 64) (b : Fin 7), HI .i64 (FU .i64 (k.val : Int) (b.val : Int)) 1 = (if k.val.testBit b.val then 1 else 0) ∧ Int.tmod (FU .i64 (k.val : Int) (b.val : Int)) 2 = (if k.val.testBit b.val then 1 else 0) := by decide +kernel
theorem Zk : ∀ n : Fin 7, DC .i64 1 (n.val : Int) = ((2 ^ n.val : Nat) : Int) := by decide +kernel
structure Ri (m x : Af) : Prop where
 base : x.fG = m.fG
 held : x.fH = m.fH
 len : x.fD.length = m.fD.length
 next : ∀ q, q < m.fD.length → x.fD.getD q 0 = m.fD.getD q 0 ∨ (0 ≤ m.fD.getD q 0 ∧ x.fD.getD q 0 = -1)
theorem Ri.refl (m : Af) : Ri m m := ⟨rfl, rfl, rfl, fun _ _ => .inl rfl⟩
theorem Ri.trans {a b c : Af} (h1 : Ri a b) (h2 : Ri b c) : Ri a c :=
 ⟨h2.base.trans h1.base, h2.held.trans h1.held, h2.len.trans h1.len, fun q hq => by
  have e1 := h1.next q hq
  have e2 := h2.next q (by rw [h1.len]; exact hq)
  omega⟩
theorem Y7 (m : Af) (k : Nat) : Ri m (bZ m k) :=
 ⟨rfl, rfl, NW _ _, fun q hq => by
  show (Y8 m.fD k).getD q 0 = _ ∨ _ ∧ (Y8 m.fD k).getD q 0 = _
  rw [SC _ _ _ hq]; unfold O1
  split
  ·rename_i h; exact .inr ⟨h.1, rfl⟩
  ·exact .inl rfl⟩
theorem Wu : ∀ (l x : List Int), x.length = l.length → (∀ q, q < l.length → x.getD q 0 = l.getD q 0 ∨ (0 ≤ l.getD q 0 ∧ x.getD q 0 = -1)) → ∃ k, k < 2 ^ Kd l l.length ∧ ∀ q, q < l.length → x.getD q 0 = O1 l k q
 | [], x, h, _ => ⟨0, by simp [Kd], fun q hq => by simp at hq⟩
 | n :: ns, [], h, _ => by simp at h
 | n :: ns, y :: ys, h, hq => by
  obtain ⟨k, hk, hk2⟩ := Wu ns ys (by simpa using h) (fun q hq' => by have := hq (q + 1) (by simpa using hq'); simpa using this)
  have h0 := hq 0 (by simp)
  simp only [List.getD_cons_zero] at h0
  by_cases hn : 0 ≤ n
  ·refine ⟨2 * k + if y = n then 0 else 1, ?_, ?_⟩
   ·rw [List.length_cons, Kd, if_pos hn, Nat.pow_add]
    split <;> omega
   ·intro q hq'
    cases q with
    | zero =>
     simp only [List.getD_cons_zero, O1, Ku]
     by_cases hy : y = n
     ·simp [hy]
     ·rw [if_neg hy, if_pos ⟨hn, by simp⟩]; omega
    | succ q =>
     have := hk2 q (by simpa using hq')
     simp only [List.getD_cons_succ, O1, Kd, if_pos hn] at this ⊢
     rw [this, Nat.add_comm 1, Nat.testBit_succ]
     have : (2 * k + if y = n then 0 else 1) / 2 = k := by split <;> omega
     rw [this]
  ·refine ⟨k, ?_, ?_⟩
   ·rw [List.length_cons, Kd, if_neg hn, Nat.zero_add]; exact hk
   ·intro q hq'
    cases q with
    | zero =>
     simp only [List.getD_cons_zero, O1, Ku]
     rw [if_neg (fun h => hn h.1)]
     omega
    | succ q =>
     have := hk2 q (by simpa using hq')
     simp only [List.getD_cons_succ, O1, Kd, if_neg hn, Nat.zero_add] at this ⊢
     exact this
theorem NN {m x : Af} : x ∈ GX m ↔ Ri m x := by
 unfold GX
 rw [List.mem_map]
 constructor
 ·rintro ⟨k, _, rfl⟩; exact Y7 m k
 ·intro h
  obtain ⟨k, hk, hq⟩ := Wu m.fD x.fD h.len h.next
  refine ⟨k, List.mem_range.2 hk, ?_⟩
  have : Y8 m.fD k = x.fD := G6 (by rw [NW, h.len]) fun q hq' => by
   rw [NW] at hq'
   rw [SC _ _ _ hq', hq q hq']
  unfold bZ
  rw [this, ← h.base, ← h.held]
theorem bt {m x : Af} (h : Ri m x) {s : Nat} (hs : s < m.fD.length) {v : Nat} (hv : Kb x s v = true) : Kb m s v = true := by
 unfold Kb at hv ⊢
 rw [h.base] at hv
 have := h.next s hs
 simp only [Bool.or_eq_true, decide_eq_true_eq] at hv ⊢
 omega
theorem Yc {p : Ac} {m x : Af} (hp : Bk p) (hm : Cl p m) (h : Ri m x) : Cl p x := by
 refine ⟨⟨by rw [h.base]; exact hm.base, by rw [h.len]; exact hm.next, by rw [h.held]; exact hm.held, fun i hi => by rw [h.base]; exact hm.b0 i hi, fun i hi => ?_, fun i hi => ?_⟩, fun i hi => by rw [h.held]; exact hm.range i hi, fun i t ht hs v hv => ?_, fun i t ht hs v hv => ?_, fun i t ht hs => by rw [h.held]; exact hm.none i t ht hs⟩
 ·have h1 := hm.n0 i hi
  have h2 := h.next i (by rw [hm.next]; exact hi)
  have h3 := JX hp hi
  omega
 ·have h1 := hm.ne i hi
  have h2 := h.next i (by rw [hm.next]; exact hi)
  have h3 := hm.b0 i hi
  rw [h.base]
  omega
 ·have hin := (JA (hp.tab t (lM ht))).from0
  rw [h.held]
  exact hm.low i t ht hs v (bt h (by rw [hm.next]; omega) hv)
 ·rw [h.held] at hv
  exact hm.high i t ht hs v hv
theorem Ls (N : Nat) (l : List Int) (h : l.length ≤ DU) : A8 N l = some l := by
 unfold A8
 rw [Ap (by simpa using h)]; rfl
theorem RM (N : Nat) (l : List Int) (h : l.length ≤ DU) : Cs N l = some l := by
 unfold Cs
 rw [Ap (by simpa using h)]; rfl
theorem Ko {l : List Int} {i q : Nat} {y : Int} (hi : i < l.length) : (l.set i y).getD q 0 = if q = i then y else l.getD q 0 := by
 rw [lD, lD, List.getElem?_set]
 by_cases h : i = q
 ·subst h; simp [hi]
 ·rw [if_neg h, if_neg (fun e => h e.symm)]
theorem aa {l : List Int} {a b : Nat} (ha : a < l.length) (hb : b < l.length) (h1 : 0 ≤ l.getD a 0) (h2 : 0 ≤ l.getD b 0) (h : Kd l a = Kd l b) : a = b := by
 rcases Nat.lt_trichotomy a b with h3 | h3 | h3
 ·have := QS l (a := a + 1) (b := b) h3 (by omega)
  rw [Jn l a ha, if_pos h1] at this; omega
 ·exact h3
 ·have := QS l (a := b + 1) (b := a) h3 (by omega)
  rw [Jn l b hb, if_pos h2] at this; omega
structure X2 (l : List Int) (o : List Int) : Prop where
 len : o.length = Kd l l.length
 at_ : ∀ b, b < o.length → ∃ i : Nat, o.getD b 0 = (i : Int) ∧ i < l.length ∧ 0 ≤ l.getD i 0 ∧ Kd l i = b
theorem Uh (N : Nat) (l o : List Int) (k : Nat) (acc : List Af) (hN : N ≤ 1000000) (h20 : 20 ≤ N) (hl : l.length ≤ 6) (ho : X2 l o) (hk : k < 64) (j : List Int → Option (List Af × Int)) :
  D3 N o (acc, (k : Int)) j N (l, 0) = j (Y8 l k) := by
 have hol := MN l l.length (Nat.le_refl _)
 have hoL := ho.len
 obtain ⟨x, e, h1, h2⟩ := F8 (A := List Int) (D3 N o (acc, (k : Int)) j) (fun a k => (a, k)) o.length j
  (fun b a => a.length = l.length ∧ ∀ q, q < l.length → a.getD q 0 = if 0 ≤ l.getD q 0 ∧ Kd l q < b ∧ k.testBit (Kd l q) = true then -1 else l.getD q 0)
  (fun n b a hb ha => by
   obtain ⟨i, hi1, hi2, hi3, hi4⟩ := ho.at_ b hb
   have hbit := Wr ⟨k, hk⟩ ⟨b, by omega⟩
   rw [D3]
   simp only [Bi]
   rw [AC (by omega), Ea (d := 0) hb]
   simp only [oS]
   rw [Ap (by omega), hi1, hbit.1, Ea (d := 0) (show i < a.length by rw [ha.1]; exact hi2), AB (by omega)]
   simp only [oS, Int.toNat_natCast]
   cases hkb : k.testBit b
   ·refine ⟨a, rfl, ha.1, fun q hq => ?_⟩
    rw [ha.2 q hq]
    by_cases hqb : Kd l q = b
    ·rw [hqb, hkb]; simp
    ·by_cases h3 : Kd l q < b
     ·have : Kd l q < b + 1 := by omega
      simp [h3, this]
     ·have : ¬ Kd l q < b + 1 := by omega
      simp [h3, this]
   ·refine ⟨a.set i (-1), rfl, by simp [ha.1], fun q hq => ?_⟩
    rw [Ko (by rw [ha.1]; exact hi2), ha.2 q hq]
    by_cases hqi : q = i
    ·subst hqi
     rw [if_pos rfl, if_pos ⟨hi3, by omega, by rw [hi4]; exact hkb⟩]
    ·rw [if_neg hqi]
     by_cases h0 : 0 ≤ l.getD q 0
     ·have hne : Kd l q ≠ b := fun h => hqi (aa hq hi2 h0 hi3 (by omega))
      by_cases h3 : Kd l q < b
      ·have : Kd l q < b + 1 := by omega
       simp [h3, this]
      ·have : ¬ Kd l q < b + 1 := by omega
       simp [h3, this]
     ·rw [if_neg (fun h => h0 h.1), if_neg (fun h => h0 h.1)])
  (fun n a _ => by
   rw [D3]
   simp only [Bi]
   rw [Ay (by omega)]) N 0 l (Nat.zero_le _) (by omega) ⟨rfl, fun q hq => by simp⟩
 have e' : D3 N o (acc, (k : Int)) j N (l, 0) = j x := e
 rw [e']
 congr 1
 refine G6 (by rw [NW, h1]) fun q hq => ?_
 rw [h1] at hq
 rw [h2 q hq, SC _ _ _ hq, O1]
 by_cases h0 : 0 ≤ l.getD q 0
 ·have h3 := QS l (a := q + 1) (b := l.length) hq (Nat.le_refl _)
  rw [Jn l q hq, if_pos h0] at h3
  have : Kd l q < o.length := by omega
  simp [this]
 ·rw [if_neg (fun h => h0 h.1), if_neg (fun h => h0 h.1)]
theorem Ue (N : Nat) (m : Af) (k : Nat) (acc : List Af) (hN : N ≤ 1000000) (h20 : 20 ≤ N) (hl : m.fD.length ≤ 6) (hk : k < 64) (j : List Int → Option (List Af)) :
  Ct N m (acc, (k : Int)) j N (m.fD, 0, 0) = j (Y8 m.fD k) := by
 obtain ⟨⟨x, pl⟩, e, h1, h2, h3⟩ := F8 (A := List Int × Nat) (Ct N m (acc, (k : Int)) j) (fun a k => (a.1, (a.2 : Int), k)) m.fD.length (fun a => j a.1)
  (fun i a => a.2 = Kd m.fD i ∧ a.1.length = m.fD.length ∧ ∀ q, q < m.fD.length → a.1.getD q 0 = if q < i then O1 m.fD k q else m.fD.getD q 0)
  (fun n i a hi ha => by
   obtain ⟨a, pl⟩ := a
   obtain ⟨a1, a2, a3⟩ := ha
   simp only at a1 a2 a3
   have hple := MN m.fD i (by omega)
   have hbit := Wr ⟨k, hk⟩ ⟨pl, by omega⟩
   have hs := Jn m.fD i hi
   rw [Ct]
   simp only [Bi]
   rw [AC (by omega), Ea (d := 0) hi]
   simp only [oS]
   rw [AB (by omega)]
   by_cases h0 : m.fD.getD i 0 < 0
   ·rw [AC h0]
    refine ⟨(a, pl), rfl, by simp only; rw [hs, if_neg (by omega), a1]; rfl, a2, fun q hq => ?_⟩
    simp only
    rw [a3 q hq]
    by_cases hqi : q = i
    ·subst hqi
     rw [if_neg (by omega), if_pos (by omega), O1, if_neg (by omega)]
    ·by_cases h4 : q < i
     ·rw [if_pos h4, if_pos (by omega)]
     ·rw [if_neg h4, if_neg (by omega)]
   ·rw [Ay h0, Ap (by omega), Ea (d := 0) (show i < a.length by omega), hbit.2, AB (by omega)]
    simp only [oS, Int.toNat_natCast]
    cases hkb : k.testBit pl
    ·refine ⟨(a, pl + 1), rfl, by simp only; rw [hs, if_pos (by omega), a1], a2, fun q hq => ?_⟩
     simp only
     rw [a3 q hq]
     by_cases hqi : q = i
     ·subst hqi
      rw [if_neg (by omega), if_pos (by omega), O1, ← a1, hkb]; simp
     ·by_cases h4 : q < i
      ·rw [if_pos h4, if_pos (by omega)]
      ·rw [if_neg h4, if_neg (by omega)]
    ·refine ⟨(a.set i (-1), pl + 1), rfl, by simp only; rw [hs, if_pos (by omega), a1], by simp [a2], fun q hq => ?_⟩
     simp only
     rw [Ko (by omega), a3 q hq]
     by_cases hqi : q = i
     ·subst hqi
      rw [if_pos rfl, if_pos (by omega), O1, ← a1, if_pos ⟨by omega, hkb⟩]
     ·rw [if_neg hqi]
      by_cases h4 : q < i
      ·rw [if_pos h4, if_pos (by omega)]
      ·rw [if_neg h4, if_neg (by omega)])
  (fun n a _ => by
   rw [Ct]
   simp only [Bi]
   rw [Ay (by omega)]) N 0 (m.fD, 0) (Nat.zero_le _) (by omega) ⟨(Ku _).symm, rfl, fun q hq => by simp⟩
 have e' : Ct N m (acc, (k : Int)) j N (m.fD, 0, 0) = j x := e
 rw [e']
 congr 1
 simp only at h2 h3
 refine G6 (by rw [NW, h2]) fun q hq => ?_
 rw [h2] at hq
 rw [h3 q hq, if_pos hq, SC _ _ _ hq]
theorem Ye (N : Nat) (m : Af) (hN : N ≤ 1000000) (h20 : 20 ≤ N) (hl : m.fD.length ≤ 6) (j : List Int → Option (List Af × Int)) :
  ∃ o, E4 N m j N ([], 0) = j o ∧ X2 m.fD o := by
 obtain ⟨o, e, h1, h2⟩ := F8 (A := List Int) (E4 N m j) (fun a k => (a, k)) m.fD.length j
  (fun i o => o.length = Kd m.fD i ∧ ∀ b, b < o.length → ∃ q : Nat, o.getD b 0 = (q : Int) ∧ q < m.fD.length ∧ 0 ≤ m.fD.getD q 0 ∧ Kd m.fD q = b)
  (fun n i o hi ho => by
   have hple := MN m.fD i (by omega)
   have hs := Jn m.fD i hi
   rw [E4]
   simp only [Bi]
   rw [AC (by omega), Ea (d := 0) hi]
   simp only [oS]
   rw [AB (by omega)]
   by_cases h0 : 0 ≤ m.fD.getD i 0
   ·rw [AC h0, Ap (by rw [ho.1]; unfold DU; simp; omega)]
    refine ⟨o ++ [(i : Int)], rfl, by rw [hs, if_pos h0, ← ho.1]; simp, ?_⟩
    rw [List.length_append]
    exact Qy (P := fun b y => ∃ q : Nat, y = (q : Int) ∧ q < m.fD.length ∧ 0 ≤ m.fD.getD q 0 ∧ Kd m.fD q = b) rfl ho.2 ⟨i, rfl, hi, h0, ho.1.symm⟩
   ·rw [Ay h0]
    exact ⟨o, rfl, by rw [hs, if_neg h0, ho.1]; rfl, ho.2⟩)
  (fun n a _ => by
   rw [E4]
   simp only [Bi]
   rw [Ay (by omega)]) N 0 [] (Nat.zero_le _) (by omega) ⟨(Ku _).symm, fun b hb => by simp at hb⟩
 exact ⟨o, e, h1, h2⟩
theorem ND {n : Nat} (h : n ≤ 6) : 2 ^ n ≤ 64 := Nat.pow_le_pow_right (n := 2) (by omega) h
theorem PS {n : Nat} (h : n ≤ 6) : DC .i64 1 (n : Int) = ((2 ^ n : Nat) : Int) := Zk ⟨n, by omega⟩
theorem My {β : Type} (f : Nat → β) (n : Nat) : (List.range (n + 1)).map f = (List.range n).map f ++ [f n] := by
 rw [List.range_succ, List.map_append]; rfl
theorem Rq (N : Nat) (p : Ac) (m : Af) (hN : N ≤ 1000000) (h20 : 100 ≤ N) (hw : PN MW m.fH) (hv : GH p m = 0) : Iq N p m = some (GX m, 0) := by
 obtain ⟨hp, hm⟩ := Kq hw hv
 have hnv := hp.nv
 have hnt := hp.nt
 have hl : m.fD.length ≤ 6 := by rw [hm.next]; omega
 unfold Iq
 rw [J7 N p m hN (by omega) hw, hv]
 simp only [oS, bne_self_eq_false, Ao]
 obtain ⟨o, e, ho⟩ := Ye N m hN (by omega) hl (fun (v4 : (List Int)) =>
   (Eo (0 ≤ (v4.length : Int))).bind fun _ =>
   D7 N m v4 (fun (v12 : (List Af)) =>
    some (v12, 0)) N (([] : List Af), 0))
 rw [e, Ap (by omega)]
 have hoL := ho.len
 have hol := MN m.fD m.fD.length (Nat.le_refl _)
 have hpow := ND (show Kd m.fD m.fD.length ≤ 6 by omega)
 obtain ⟨a, e2, h1⟩ := F8 (A := List Af) (D7 N m o fun v12 => some (v12, 0)) (fun a k => (a, k)) (2 ^ Kd m.fD m.fD.length) (fun v12 => some (v12, 0))
  (fun i a => a = (List.range i).map (bZ m))
  (fun n i a hi ha => by
   refine ⟨a ++ [bZ m i], ?_, by rw [My, ha]⟩
   have hal : a.length = i := by rw [ha]; simp
   rw [D7]
   rw [hoL, PS (n := Kd m.fD m.fD.length) (by omega), AC (by omega), Ls N m.fG (by have := hm.base; unfold DU; omega), Ls N m.fD (by unfold DU; omega), RM N m.fH (by have := hm.held; unfold DU; omega)]
   simp only [oS]
   rw [Uh N m.fD o i a hN (by omega) hl ho (by omega), Ap (by rw [hal]; unfold DU; simp; omega), AB (by omega)]
   rfl)
  (fun n a _ => by
   rw [D7]
   rw [hoL, PS (n := Kd m.fD m.fD.length) (by omega), Ay (by simp)]) N 0 [] (Nat.zero_le _) (by omega) rfl
 have e2' : D7 N m o (fun v12 => some (v12, 0)) N ([], 0) = some (a, 0) := e2
 rw [e2', h1]; rfl
theorem VD (N : Nat) (m : Af) (h1 : m.fG.length ≤ DU) (h2 : m.fD.length ≤ DU) (h3 : m.fH.length ≤ DU) : FG N m = some m := by
 unfold FG
 rw [Ap (by simpa using h1), Ap (by simpa using h2), Ap (by simpa using h3)]; rfl
theorem VA (N : Nat) (m : Af) (hN : N ≤ 1000000) (h20 : 100 ≤ N) (h1 : m.fG.length ≤ 100) (hl : m.fD.length ≤ 6) (h3 : m.fH.length ≤ 100) : ES N m = some (GX m) := by
 unfold ES
 obtain ⟨c, e, hc⟩ := F8 (A := Nat) (Dm N m (fun (v2 : Int) =>
  BV N m v2 (fun (v8 : (List Af)) => some v8) N (([] : List Af), 0))) (fun a k => ((a : Int), k)) m.fD.length (fun a => BV N m (a : Int) (fun (v8 : (List Af)) => some v8) N (([] : List Af), 0))
  (fun i a => a = Kd m.fD i)
  (fun n i a hi ha => by
   have hple := MN m.fD i (by omega)
   have hs := Jn m.fD i hi
   rw [Dm]
   simp only [Bi]
   rw [AC (by omega), Ea (d := 0) hi]
   simp only [oS]
   rw [AB (by omega), AB (by omega)]
   by_cases h0 : 0 ≤ m.fD.getD i 0
   ·rw [AC h0]
    exact ⟨a + 1, rfl, by rw [hs, if_pos h0, ha]⟩
   ·rw [Ay h0]
    exact ⟨a, rfl, by rw [hs, if_neg h0, ha]; rfl⟩)
  (fun n a _ => by
   rw [Dm]
   simp only [Bi]
   rw [Ay (by omega)]) N 0 0 (Nat.zero_le _) (by omega) (Ku _).symm
 have e' : Dm N m (fun (v2 : Int) => BV N m v2 (fun (v8 : (List Af)) => some v8) N (([] : List Af), 0)) N (0, 0) = _ := e
 rw [e', hc]
 have hol := MN m.fD m.fD.length (Nat.le_refl _)
 have hpow := ND (show Kd m.fD m.fD.length ≤ 6 by omega)
 obtain ⟨a, e2, h1⟩ := F8 (A := List Af) (BV N m (Kd m.fD m.fD.length : Int) fun v8 => some v8) (fun a k => (a, k)) (2 ^ Kd m.fD m.fD.length) some
  (fun i a => a = (List.range i).map (bZ m))
  (fun n i a hi ha => by
   refine ⟨a ++ [bZ m i], ?_, by rw [My, ha]⟩
   have hal : a.length = i := by rw [ha]; simp
   rw [BV]
   rw [Ap (by omega), PS (n := Kd m.fD m.fD.length) (by omega), AC (by omega), VD N m (by unfold DU; omega) (by unfold DU; omega) (by unfold DU; omega)]
   simp only [oS]
   rw [Ue N m i a hN (by omega) hl (by omega), Ap (by rw [hal]; unfold DU; simp; omega), AB (by omega)]
   rfl)
  (fun n a _ => by
   rw [BV]
   rw [Ap (by omega), PS (n := Kd m.fD m.fD.length) (by omega), Ay (by simp)]) N 0 [] (Nat.zero_le _) (by omega) rfl
 have e2' : BV N m (Kd m.fD m.fD.length : Int) (fun v8 => some v8) N ([], 0) = some a := e2
 rw [e2', h1]; rfl
theorem Qx (N : Nat) (p : Ac) (m : Af) (hN : N ≤ 1000000) (h20 : 100 ≤ N) (hp : Bk p) (hm : Cl p m) : ES N m = some (GX m) := by
 have := hp.nv
 have := hp.nt
 exact VA N m hN h20 (by rw [hm.base]; omega) (by rw [hm.next]; omega) (by rw [hm.held]; omega)
theorem LA {p : Ac} {m : Af} (hm : Cl p m) : PN MW m.fH := by
 intro x hx
 obtain ⟨q, hq⟩ := List.mem_iff_getElem?.1 hx
 have h1 := (lI.1 hq).1
 have := hm.range q (by rw [← hm.held]; exact h1)
 rw [lD, hq] at this
 unfold MW
 simp only [Option.getD_some] at this
 simp [Lit.wf, IntKind.min, IntKind.max, IntKind.signed, IntKind.bits]
 omega
def JV (p : Ac) (x : Af) : Option (Af × Aa) := match FP p x with
 | [] => none
 | c :: _ => some (x, c)
def Jw (p : Ac) (m : Af) : Option (Af × Aa) := En (fun _ x => JV p x) 0 (GX m)
def HB : Af := ⟨[], [], []⟩
def OJ : Aa := ⟨0, 0, 0⟩
def Nz (p : Ac) (m : Af) : Af × Aa × Int := match Jw p m with
 | some (x, c) => (x, c, 0)
 | none => (HB, OJ, 15)
def By (p : Ac) (m : Af) : Bool := (Jw p m).isNone
theorem NO {m : Af} (hl : m.fD.length ≤ 6) : (GX m).length ≤ 64 := by
 unfold GX
 have hol := MN m.fD m.fD.length (Nat.le_refl _)
 have hpow := ND (show Kd m.fD m.fD.length ≤ 6 by omega)
 simpa using hpow
theorem MA {α R R' : Type} (f : Nat → α → Option R) (g : R → R') : ∀ (i : Nat) (xs : List α), En (fun i x => (f i x).map g) i xs = (En f i xs).map g
 | _, [] => rfl
 | i, x :: xs => by
  rw [Hf, Hf]
  cases f i x
  ·exact MA f g (i + 1) xs
  ·rfl
theorem Tp (N : Nat) (p : Ac) (m : Af) (hN : N ≤ 1000000) (h20 : 100 ≤ N) (hw : PN MW m.fH) (hv : GH p m = 0) : Jb N p m = some (Nz p m) := by
 obtain ⟨hp, hm⟩ := Kq hw hv
 have hnv := hp.nv
 unfold Jb
 rw [Rq N p m hN h20 hw hv]
 simp only [oS, bne_self_eq_false, Ao]
 have hal := NO (m := m) (by rw [hm.next]; omega)
 have := Dr (Gd N p (GX m, 0) fun _ => some (HB, OJ, 15)) (GX m) (some (HB, OJ, 15)) (fun _ x => (JV p x).map fun y => (y.1, y.2, 0))
  (fun n i x hx => by
   have hi := (lI.1 hx).1
   have hx2 := Yc hp hm (NN.1 (lM hx))
   rw [Gd, AC (by simp only; omega)]
   simp only [AW, hx, oS]
   rw [O9 N p x hN (by omega) hp hx2, AB (by omega)]
   simp only [oS, JV]
   cases FP p x with
   | nil => rfl
   | cons c cs => rw [AC (by simp only [List.length_cons]; omega)]; rfl)
  (fun n => by rw [Gd, Ay (by simp)]) N 0 (Nat.zero_le _) (by omega)
 rw [List.drop_zero, MA] at this
 exact this.trans (by
  unfold Nz Jw
  cases En (fun _ x => JV p x) 0 (GX m) <;> rfl)
theorem N0 (N : Nat) (p : Ac) (m : Af) (hN : N ≤ 1000000) (h20 : 100 ≤ N) (hw : PN MW m.fH) (hv : GH p m = 0) : FW N p m = some (Nz p m) := by
 obtain ⟨hp, hm⟩ := Kq hw hv
 have hnv := hp.nv
 unfold FW GD
 rw [LN N p m hN (by omega), hv, Qx N p m hN h20 hp hm]
 simp only [oS, bne_self_eq_false, Ao]
 have hal := NO (m := m) (by rw [hm.next]; omega)
 have := Dr (Dv N p (GX m, 0) fun _ => some (HB, OJ, 15)) (GX m) (some (HB, OJ, 15)) (fun _ x => (JV p x).map fun y => (y.1, y.2, 0))
  (fun n i x hx => by
   have hi := (lI.1 hx).1
   have hx2 := Yc hp hm (NN.1 (lM hx))
   rw [Dv, AC (by simp only; omega)]
   simp only [AW, hx, oS]
   rw [Lu N p x hN (by omega) hp hx2, AB (by omega)]
   simp only [oS, JV]
   cases FP p x with
   | nil => rfl
   | cons c cs => rw [AC (by simp only [List.length_cons]; omega)]; rfl)
  (fun n => by rw [Dv, Ay (by simp)]) N 0 (Nat.zero_le _) (by omega)
 rw [List.drop_zero, MA] at this
 exact this.trans (by
  unfold Nz Jw
  cases En (fun _ x => JV p x) 0 (GX m) <;> rfl)
theorem Lg (N : Nat) (p : Ac) (m : Af) (hN : N ≤ 1000000) (h20 : 100 ≤ N) (hw : PN MW m.fH) (hv : GH p m = 0) : HE N p m = some (By p m, 0) := by
 unfold HE
 rw [Tp N p m hN h20 hw hv]
 unfold By Nz
 cases Jw p m <;> rfl
theorem Uc {α R : Type} {f : Nat → α → Option R} {i : Nat} {xs : List α} : (En f i xs).isNone = true ↔ ∀ j x, xs[j]? = some x → f (i + j) x = none := by
 constructor
 ·intro h
  exact F7 (Option.isNone_iff_eq_none.1 h)
 ·intro h
  rw [GU h]; rfl
theorem Ud {p : Ac} {x : Af} : JV p x = none ↔ FP p x = [] := by
 unfold JV
 cases FP p x <;> simp
theorem UM (N : Nat) (p : Ac) (m : Af) (hN : N ≤ 1000000) (h20 : 100 ≤ N) (hp : Bk p) (hm : Cl p m) : FD N p m = some (FP p m).isEmpty := by
 unfold FD
 rw [Lu N p m hN (by omega) hp hm]
 simp only [oS]
 cases FP p m with
 | nil => rfl
 | cons c cs =>
  rw [beq_eq_false_iff_ne.2 (by simp only [List.length_cons]; omega)]; rfl
theorem Ns (N : Nat) (p : Ac) (m : Af) (hN : N ≤ 1000000) (h20 : 100 ≤ N) (hp : Bk p) (hm : Cl p m) : Ee N p m = some (By p m) := by
 have hnv := hp.nv
 unfold Ee
 rw [Qx N p m hN h20 hp hm]
 simp only [oS]
 have hal := NO (m := m) (by rw [hm.next]; omega)
 have := Dr (CJ N p (GX m) fun _ => some true) (GX m) (some true) (fun _ x => (JV p x).map fun _ => false)
  (fun n i x hx => by
   have hi := (lI.1 hx).1
   have hx2 := Yc hp hm (NN.1 (lM hx))
   rw [CJ, AC (by omega)]
   simp only [AW, hx, oS]
   rw [UM N p x hN h20 hp hx2, AB (by omega)]
   simp only [oS, JV]
   cases FP p x with
   | nil => rfl
   | cons c cs => rfl)
  (fun n => by rw [CJ, Ay (by simp)]) N 0 (Nat.zero_le _) (by omega)
 rw [List.drop_zero, MA] at this
 refine Eq.trans this ?_
 unfold By Jw
 cases En (fun _ x => JV p x) 0 (GX m) <;> rfl
theorem T7 {N : Nat} {a b : Af} (hN : N ≤ 1000000) (h1 : a.fG.length < N) (h2 : a.fD.length < N) (h3 : a.fH.length < N) (h4 : b.fH.length < N) (wa : PN MW a.fH) (wb : PN MW b.fH) : Fj N a b = some (Vd a b) := by
 unfold Fj
 rw [Q3 h1 hN, Q3 h2 hN, Pr h3 hN wa, Pr h4 hN wb]
 simp only [oS]
 rw [Q3 h3 hN]
 unfold Vd ck
 by_cases h1 : J9 a.fG b.fG = 0
 ·simp only [h1, ck]
  by_cases h2 : J9 a.fD b.fD = 0
  ·simp only [h2]
   by_cases h3 : J9 a.fH b.fH = 0 <;> simp [h3]
  ·have : (J9 a.fD b.fD != 0) = true := by simpa using h2
   simp [h2, this]
 ·have : (J9 a.fG b.fG != 0) = true := by simpa using h1
  simp [h1, this]
theorem SP (N : Nat) (a b : List Int) (hN : N ≤ 1000000) (h : a.length < N) : Fb N a b = some (a == b) := by
 unfold Fb
 by_cases hl : a.length = b.length
 ·rw [hl, bne_self_eq_false, Ao]
  have := Dr (CM N a b fun _ => some true) a (some true) (fun i x => if x = b.getD i 0 then none else some false)
   (fun n i x hx => by
    have hi := (lI.1 hx).1
    rw [CM, AC (by omega), AW, hx, Ea (d := 0) (by omega)]
    simp only [oS]
    rw [AB (by omega)]
    by_cases h : x = b.getD i 0
    ·rw [if_pos h, h, bne_self_eq_false]; rfl
    ·rw [if_neg h, bne_iff_ne.2 h]; rfl)
   (fun n => by rw [CM, Ay (by simp)]) N 0 (Nat.zero_le _) (by omega)
  refine this.trans ?_
  rw [List.drop_zero]
  cases hs : En (fun i x => if x = b.getD i 0 then none else some false) 0 a with
  | none =>
   have : a = b := G6 hl fun q hq => by
    have hx : a[q]? = some (a.getD q 0) := by rw [lD]; simp [hq]
    have := F7 hs q _ hx
    rw [Nat.zero_add] at this
    split at this
    ·assumption
    ·cases this
   rw [this, beq_self_eq_true]; rfl
  | some r =>
   obtain ⟨j, x, hx, hf⟩ := FL hs
   rw [Nat.zero_add] at hf
   split at hf
   ·cases hf
   ·rename_i hne
    cases hf
    have : (a == b) = false := beq_eq_false_iff_ne.2 fun e => hne (by rw [← e, lD, hx]; rfl)
    rw [this]; rfl
 ·have h1 : ((a.length : Int) != (b.length : Int)) = true := bne_iff_ne.2 (by omega)
  have h2 : (a == b) = false := beq_eq_false_iff_ne.2 fun e => hl (by rw [e])
  rw [h1, h2]; rfl
theorem S1 (N : Nat) (a : List Int) (f : Int → Option Bool) (g : Int → Bool) (hN : N ≤ 1000000) (h : a.length < N) (hf : ∀ x, x ∈ a → f x = some (g x)) : Dq N a f = some (a.any g) := by
 unfold Dq Fd
 have := Dr (BE N a f fun _ => some (-1)) a (some (-1)) (fun i x => if g x then some (i : Int) else none)
  (fun n i x hx => by
   have hi := (lI.1 hx).1
   rw [BE, AC (by omega), AW, hx]
   simp only [oS]
   rw [hf x (lM hx), AB (by omega)]
   simp only [oS]
   cases g x <;> rfl)
  (fun n => by rw [BE, Ay (by simp)]) N 0 (Nat.zero_le _) (by omega)
 have e : BE N a f (fun _ => some (-1)) N 0 = _ := this
 rw [e, List.drop_zero]
 cases hs : En (fun i x => if g x then some (i : Int) else none) 0 a with
 | none =>
  have : a.any g = false := by
   rw [List.any_eq_false]
   intro x hx
   obtain ⟨j, hj⟩ := List.mem_iff_getElem?.1 hx
   have := F7 hs j x hj
   intro hg
   rw [hg] at this; cases this
  rw [this]; rfl
 | some r =>
  obtain ⟨j, x, hx, hf⟩ := FL hs
  split at hf
  ·rename_i hg
   cases hf
   have : a.any g = true := List.any_eq_true.2 ⟨x, lM hx, hg⟩
   rw [this]
   simp only [Cd, oS]
   rw [decide_eq_true (by omega)]
  ·cases hf
def Jk (p : Ac) (m : Af) : Bool := GH p m == 0 && (m.fG == p.fP && m.fD.all (fun n => decide (n < 0)))
theorem Ut (N : Nat) (p : Ac) (m : Af) (hN : N ≤ 1000000) (h20 : 100 ≤ N) (hw : PN MW m.fH) : JO N p m = some (Jk p m) := by
 unfold JO Jk
 rw [J7 N p m hN (by omega) hw]
 simp only [Bi, oS]
 by_cases hv : GH p m = 0
 ·obtain ⟨hp, hm⟩ := Kq hw hv
  have := hp.nv
  rw [hv, SP N _ _ hN (by rw [hm.base]; omega), S1 N m.fD (fun x => IB N x) (fun n => decide (0 ≤ n)) hN (by rw [hm.next]; omega) (fun x _ => rfl)]
  simp only [oS, beq_self_eq_true, AR, Bool.true_and]
  have : m.fD.all (fun n => decide (n < 0)) = !m.fD.any (fun n => decide (0 ≤ n)) := by
   rw [List.not_any_eq_all_not]
   congr 1; funext n
   by_cases h : 0 ≤ n
   ·rw [decide_eq_true h, decide_eq_false (by omega)]; rfl
   ·rw [decide_eq_false h, decide_eq_true (by omega)]; rfl
  rw [this]
  cases m.fG == p.fP <;> simp
 ·rw [beq_eq_false_iff_ne.2 hv]; rfl
theorem Ul (N : Nat) (p : Ac) (m : Af) (hN : N ≤ 1000000) (h20 : 100 ≤ N) (hw : PN MW m.fH) : Fp N p m = some (Jk p m) := by
 unfold Fp Jk
 rw [LN N p m hN (by omega)]
 simp only [oS]
 by_cases hv : GH p m = 0
 ·obtain ⟨hp, hm⟩ := Kq hw hv
  have h1 := hp.nv
  have h2 := hp.tgt
  have h3 := hm.base
  have h4 := hm.next
  rw [hv]
  simp only [bne_self_eq_false, Ao, beq_self_eq_true, Bool.true_and]
  have := Dr (DO N p m fun _ => some true) m.fG (some true) (fun i x => if 0 ≤ m.fD.getD i 0 ∨ x ≠ p.fP.getD i 0 then some false else none)
   (fun n i x hx => by
    have hi := (lI.1 hx).1
    rw [DO, AC (by omega)]
    simp only [Bi]
    rw [show A5 m.fG (i : Int) = some x from by rw [AW, hx], Ea (d := 0) (by omega), Ea (d := 0) (by omega)]
    simp only [oS]
    rw [AB (by omega)]
    by_cases k1 : 0 ≤ m.fD.getD i 0
    ·rw [AC k1, if_pos (.inl k1)]; rfl
    ·rw [Ay k1]
     by_cases k2 : x = p.fP.getD i 0
     ·rw [if_neg (fun h => h.elim k1 (fun h => h k2)), k2, bne_self_eq_false]; rfl
     ·rw [if_pos (.inr k2), bne_iff_ne.2 k2]; rfl)
   (fun n => by rw [DO, Ay (by simp)]) N 0 (Nat.zero_le _) (by omega)
  refine this.trans ?_
  rw [List.drop_zero]
  cases hs : En (fun i x => if 0 ≤ m.fD.getD i 0 ∨ x ≠ p.fP.getD i 0 then some false else none) 0 m.fG with
  | none =>
   have key : ∀ q, q < m.fG.length → m.fG.getD q 0 = p.fP.getD q 0 ∧ ¬ 0 ≤ m.fD.getD q 0 := by
    intro q hq
    have hx : m.fG[q]? = some (m.fG.getD q 0) := by rw [lD]; simp [hq]
    have := F7 hs q _ hx
    rw [Nat.zero_add] at this
    split at this
    ·cases this
    ·rename_i h; exact ⟨Decidable.not_not.1 fun h' => h (.inr h'), fun h' => h (.inl h')⟩
   have e1 : m.fG = p.fP := G6 (by omega) fun q hq => (key q hq).1
   have e2 : m.fD.all (fun n => decide (n < 0)) = true := by
    rw [List.all_eq_true]
    intro n hn
    obtain ⟨q, hq⟩ := List.mem_iff_getElem?.1 hn
    have hl := (lI.1 hq).1
    have := (key q (by omega)).2
    rw [lD, hq] at this
    simp only [Option.getD_some] at this
    simp only [decide_eq_true_eq]
    omega
   rw [e2, e1]; simp [Cd]
  | some r =>
   obtain ⟨j, x, hx, hf⟩ := FL hs
   rw [Nat.zero_add] at hf
   have hj := (lI.1 hx).1
   split at hf
   ·rename_i h
    cases hf
    have : (m.fG == p.fP && m.fD.all (fun n => decide (n < 0))) = false := by
     rw [Bool.and_eq_false_iff]
     rcases h with h | h
     ·right
      rw [List.all_eq_false]
      refine ⟨m.fD.getD j 0, ?_, ?_⟩
      ·rw [lD, List.getElem?_eq_getElem (by omega)]; exact List.getElem_mem _
      ·simp only [decide_eq_true_eq]; omega
     ·left
      exact beq_eq_false_iff_ne.2 fun e => h (by rw [← e, lD, hx]; rfl)
    rw [this]; rfl
   ·cases hf
 ·rw [bne_iff_ne.2 hv, beq_eq_false_iff_ne.2 hv]; rfl
open Go
def GT (p : Ac) (t : An) : Int := if Cx t = true then DC .u8 1 (p.fK.getD t.fJ.toNat 0) else 0
def EA (p : Ac) : Af := ⟨p.fK, List.replicate p.fK.length (-1), p.fF.map (GT p)⟩
theorem Xk (N : Nat) (h : 100 ≤ N) (n : Nat) (hn : n ≤ 6) : FR N [(-1)] (n : Int) = some (List.replicate n (-1)) := by
 obtain ⟨k, rfl⟩ : ∃ k, N = k + 100 := ⟨N - 100, by omega⟩
 have : n = 0 ∨ n = 1 ∨ n = 2 ∨ n = 3 ∨ n = 4 ∨ n = 5 ∨ n = 6 := by omega
 rcases this with rfl | rfl | rfl | rfl | rfl | rfl | rfl
 all_goals (show _ = _; kernel_rfl)
theorem TY (T : List Int) (i : Nat) (hi : i < T.length) : (T.take i ++ List.replicate (T.length - i) 0).set i (T.getD i 0) = T.take (i + 1) ++ List.replicate (T.length - (i + 1)) 0 := by
 have hl : (T.take i).length = i := by simp; omega
 rw [List.set_append_right _ _ (by omega), hl, Nat.sub_self, show T.length - i = (T.length - (i + 1)) + 1 from by omega, List.replicate_succ, List.set_cons_zero, List.take_add_one, List.append_assoc]
 have : T[i]? = some (T.getD i 0) := by rw [lD]; simp [hi]
 rw [this]; rfl
theorem Xo (T : List Int) (i : Nat) (hi : i < T.length) (h0 : T.getD i 0 = 0) : T.take i ++ List.replicate (T.length - i) 0 = T.take (i + 1) ++ List.replicate (T.length - (i + 1)) 0 := by
 rw [← TY T i hi, h0, List.set_append_right _ _ (by rw [List.length_take]; omega)]
 congr 1
 have hl : (T.take i).length = i := by simp; omega
 rw [hl, Nat.sub_self, show T.length - i = (T.length - (i + 1)) + 1 from by omega, List.replicate_succ, List.set_cons_zero]
theorem Vn {p : Ac} (hv : Bo p = 0) {t : An} (ht : t ∈ p.fF) : 0 ≤ t.fJ ∧ t.fJ.toNat < p.fK.length ∧ 0 ≤ p.fK.getD t.fJ.toNat 0 ∧ p.fK.getD t.fJ.toNat 0 < 6 ∧ p.fK.getD t.fJ.toNat 0 < p.fE.getD t.fJ.toNat 0 ∧ t.fJ.toNat < p.fE.length := by
 obtain ⟨hp, hr⟩ := Dt hv
 have h1 := Ky (hp.tab t ht)
 have h2 := hr t.fJ.toNat (by omega)
 have h3 := JX hp (i := t.fJ.toNat) (by omega)
 have := hp.now
 refine ⟨h1.1, by omega, h2.1, by omega, h2.2.1, by omega⟩
theorem LB {p : Ac} {i : Nat} {t : An} (ht : p.fF[i]? = some t) : (p.fF.map (GT p)).getD i 0 = GT p t := by
 rw [lD, List.getElem?_map, ht]; rfl
theorem SY (N : Nat) (p : Ac) (hN : N ≤ 1000000) (h20 : 100 ≤ N) : Ja N p = some (if Bo p = 0 then EA p else ⟨[], [], []⟩, Bo p) := by
 unfold Ja
 rw [Ic N p hN (by omega)]
 simp only [oS]
 by_cases hv : Bo p = 0
 ·rw [if_pos hv, hv]
  obtain ⟨hp, _⟩ := Dt hv
  have hnv := hp.nv
  have hnt := hp.nt
  have hnow := hp.now
  rw [bne_self_eq_false, Ao, Ls N _ (by simp only [DU]; omega)]
  simp only [oS]
  rw [Xk N h20 _ (by omega)]
  simp only [oS]
  rw [Ap (by simp only [DU]; omega)]
  obtain ⟨a', e, ha⟩ := F8 (Fy N p fun v7 => some (Af.mk p.fK (List.replicate p.fK.length (-1)) v7, 0)) (fun a i => (a, i)) p.fF.length (fun v7 => some (Af.mk p.fK (List.replicate p.fK.length (-1)) v7, 0))
   (fun i a => a = (p.fF.map (GT p)).take i ++ List.replicate ((p.fF.map (GT p)).length - i) 0)
   (fun n i a hi ha => by
    have hx : p.fF[i]? = some p.fF[i] := by simp [hi]
    have hm : p.fF[i] ∈ p.fF := List.getElem_mem hi
    obtain ⟨n1, n2, n3, n4, _⟩ := Vn hv hm
    rw [Fy, AC (by simp only; omega)]
    simp only [Bi, AW, hx, oS, Lh, AB (show i < 1000000 by omega)]
    have hal : i < (p.fF.map (GT p)).length := by simpa using hi
    cases hs : Cx p.fF[i]
    ·rw [Ao]
     refine ⟨a, rfl, ?_⟩
     rw [ha]
     exact Xo _ _ hal (by rw [LB hx]; unfold GT; rw [hs]; rfl)
    ·rw [AR]
     have e1 : A5 p.fK p.fF[i].fJ = some (p.fK.getD p.fF[i].fJ.toNat 0) := by
      obtain ⟨q, hq⟩ := Int.eq_ofNat_of_zero_le n1
      rw [hq]; exact Ea (by rw [hq] at n2; simpa using n2)
     rw [e1]
     simp only [oS]
     rw [Ap n3]
     have hl : i < a.length := by rw [ha]; simp; omega
     have e2 : a[i]? = some a[i] := by simp [hl]
     rw [e2]
     simp only [oS]
     refine ⟨_, rfl, ?_⟩
     rw [← TY _ _ hal, LB hx, ha]
     unfold GT; rw [hs]; rfl)
   (fun n a ha => by rw [Fy, Ay (by simp)]) N 0 (List.replicate p.fF.length 0) (Nat.zero_le _) (by omega) (by simp)
  have e' : Fy N p (fun v7 => some (Af.mk p.fK (List.replicate p.fK.length (-1)) v7, 0)) N (List.replicate ((p.fF.length : Int)).toNat (0 : Int), 0) = _ := e
  rw [e', ha]
  have e5 : (p.fF.map (GT p)).take p.fF.length = p.fF.map (GT p) := List.take_of_length_le (by simp)
  simp [EA, e5]
 ·rw [if_neg hv, bne_iff_ne.2 hv, AR]
theorem OP (N : Nat) (p : Ac) (hN : N ≤ 1000000) (h20 : 100 ≤ N) : E3 N p = some (if Bo p = 0 then EA p else ⟨[], [], []⟩, Bo p) := by
 unfold E3
 rw [P1 N p hN (by omega)]
 simp only [oS]
 by_cases hv : Bo p = 0
 ·rw [if_pos hv, hv]
  obtain ⟨hp, _⟩ := Dt hv
  have hnv := hp.nv
  have hnt := hp.nt
  have hnow := hp.now
  rw [bne_self_eq_false, Ao]
  obtain ⟨a', e, ha⟩ := F8 (CP N p fun v4 => BD N p (fun v10 => some (Af.mk v4.1 v4.2 v10, 0)) N (([] : List Int), 0)) (fun a i => (a.1, a.2, i)) p.fE.length (fun v4 => BD N p (fun v10 => some (Af.mk v4.1 v4.2 v10, 0)) N (([] : List Int), 0))
   (fun i a => a = (p.fK.take i, List.replicate i (-1)))
   (fun n i a hi ha => by
    subst ha
    rw [CP, AC (by simp only; omega)]
    have hx : p.fK[i]? = some p.fK[i] := by simp [show i < p.fK.length from by omega]
    simp only [AW, hx, oS, AB (show i < 1000000 by omega)]
    rw [Ap (by simp [DU]; omega), Ap (by simp [DU]; omega)]
    refine ⟨(p.fK.take i ++ [p.fK[i]], List.replicate i (-1) ++ [-1]), rfl, ?_⟩
    rw [List.take_add_one, hx, List.replicate_succ']; rfl)
   (fun n a ha => by rw [CP, Ay (by simp)]) N 0 ([], []) (Nat.zero_le _) (by omega) rfl
  have e' : CP N p (fun v4 => BD N p (fun v10 => some (Af.mk v4.1 v4.2 v10, 0)) N (([] : List Int), 0)) N (([] : List Int), ([] : List Int), 0) = _ := e
  rw [e', ha]
  simp only
  obtain ⟨b', e2, hb⟩ := F8 (BD N p fun v10 => some (Af.mk (p.fK.take p.fE.length) (List.replicate p.fE.length (-1)) v10, 0)) (fun a i => (a, i)) p.fF.length (fun v10 => some (Af.mk (p.fK.take p.fE.length) (List.replicate p.fE.length (-1)) v10, 0))
   (fun i a => a = (p.fF.map (GT p)).take i)
   (fun n i a hi ha => by
    subst ha
    have hx : p.fF[i]? = some p.fF[i] := by simp [hi]
    have hm : p.fF[i] ∈ p.fF := List.getElem_mem hi
    obtain ⟨n1, n2, n3, n4, _⟩ := Vn hv hm
    rw [BD, AC (by simp only; omega)]
    simp only [Bi, AW, hx, oS, IE, AB (show i < 1000000 by omega)]
    have hT : (p.fF.map (GT p))[i]? = some (GT p p.fF[i]) := by rw [List.getElem?_map, hx]; rfl
    have hlen : ((p.fF.map (GT p)).take i).length + 1 ≤ DU := by simp [DU]; omega
    cases hs : Cx p.fF[i]
    ·rw [Ao, Ap (by simpa using hlen)]
     refine ⟨_, rfl, ?_⟩
     rw [List.take_add_one, hT]
     unfold GT; rw [hs]; rfl
    ·rw [AR]
     have e1 : A5 p.fK p.fF[i].fJ = some (p.fK.getD p.fF[i].fJ.toNat 0) := by
      obtain ⟨q, hq⟩ := Int.eq_ofNat_of_zero_le n1
      rw [hq]; exact Ea (by rw [hq] at n2; simpa using n2)
     rw [e1]
     simp only [oS]
     rw [Ap n3, Ap (by simpa using hlen)]
     refine ⟨_, rfl, ?_⟩
     rw [List.take_add_one, hT]
     unfold GT; rw [hs]; rfl)
   (fun n a ha => by rw [BD, Ay (by simp)]) N 0 [] (Nat.zero_le _) (by omega) rfl
  have e3 : BD N p (fun v10 => some (Af.mk (p.fK.take p.fE.length) (List.replicate p.fE.length (-1)) v10, 0)) N (([] : List Int), 0) = _ := e2
  rw [e3, hb]
  simp only [EA, ← hnow, List.take_length]
  rw [show p.fF.length = (p.fF.map (GT p)).length from by simp, List.take_length]
 ·rw [if_neg hv, bne_iff_ne.2 hv, AR]
theorem Mz {p : Ac} (hv : Bo p = 0) : Cl p (EA p) := by
 obtain ⟨hp, hr⟩ := Dt hv
 have hnow := hp.now
 have hnx : ∀ i, i < p.fE.length → (List.replicate p.fK.length (-1 : Int)).getD i 0 = -1 := fun i hi => by
  rw [lD, List.getElem?_replicate, if_pos (by omega)]; rfl
 have hone : ∀ (i : Nat) (t : An), p.fF[i]? = some t → ∃ b : Nat, b < 6 ∧ p.fK.getD t.fJ.toNat 0 = (b : Int) ∧ (b : Int) < p.fE.getD t.fJ.toNat 0 ∧ t.fJ.toNat < p.fE.length := fun i t ht => by
  obtain ⟨n1, n2, n3, n4, n5, n6⟩ := Vn hv (lM ht)
  obtain ⟨b, hb⟩ := Int.eq_ofNat_of_zero_le n3
  exact ⟨b, by omega, hb, by omega, n6⟩
 have hbit : ∀ b : Nat, b < 8 → ∀ v, Fa (DC .u8 1 (b : Int)) v = decide (b = v) := fun b hb v => by
  by_cases h : v < 8
  ·exact (LV ⟨b, hb⟩ ⟨v, h⟩).1
  ·rw [LI (LV ⟨b, hb⟩ ⟨0, by omega⟩).2.2 (by omega)]
   symm; apply decide_eq_false; omega
 refine { base := hnow, next := by simp [EA, hnow], held := by simp [EA], b0 := fun i hi => ⟨(hr i hi).1, (hr i hi).2.1⟩, n0 := fun i hi => ?_, ne := fun i hi => ?_, range := fun i hi => ?_, low := fun i t ht hs v hv' => ?_, high := fun i t ht hs v hb => ?_, none := fun i t ht hs => ?_ }
 ·show -1 ≤ (List.replicate p.fK.length (-1 : Int)).getD i 0 ∧ (List.replicate p.fK.length (-1 : Int)).getD i 0 < _
  rw [hnx i hi]
  have := JX hp hi
  omega
 ·show p.fK.getD i 0 ≠ (List.replicate p.fK.length (-1 : Int)).getD i 0
  rw [hnx i hi]
  have := hr i hi
  omega
 ·have hx : p.fF[i]? = some p.fF[i] := by simp [hi]
  show 0 ≤ (p.fF.map (GT p)).getD i 0 ∧ (p.fF.map (GT p)).getD i 0 ≤ 255
  rw [LB hx]
  unfold GT
  split
  ·obtain ⟨b, h1, h2, _⟩ := hone i _ hx
   rw [h2]
   exact (LV ⟨b, by omega⟩ ⟨0, by omega⟩).2
  ·omega
 ·show Fa ((p.fF.map (GT p)).getD i 0) v = true
  obtain ⟨b, h1, h2, h3, h4⟩ := hone i t ht
  rw [LB ht]
  unfold GT
  rw [if_pos hs, h2, hbit b (by omega)]
  unfold Kb at hv'
  have h5 : (EA p).fG.getD t.fJ.toNat 0 = (b : Int) := h2
  have h6 : (EA p).fD.getD t.fJ.toNat 0 = -1 := hnx _ h4
  rw [h5, h6, Bool.or_eq_true, decide_eq_true_iff, decide_eq_true_iff] at hv'
  apply decide_eq_true; omega
 ·have hb : Fa ((p.fF.map (GT p)).getD i 0) v = true := hb
  obtain ⟨b, h1, h2, h3, h4⟩ := hone i t ht
  rw [LB ht] at hb
  unfold GT at hb
  rw [if_pos hs, h2, hbit b (by omega), decide_eq_true_iff] at hb
  omega
 ·show (p.fF.map (GT p)).getD i 0 = 0
  rw [LB ht]; unfold GT; rw [hs]; rfl
theorem Um {p : Ac} (hv : Bo p = 0) : GH p (EA p) = 0 := I8 hv (Mz hv)
theorem Pw (x : BitVec 8) : wI .u8 (x.toNat : Int) = (x.toNat : Int) := by
 have := x.isLt
 simp [wI, IntKind.signed, IntKind.bits]
 omega
theorem Tz (x : BitVec 8) : 0 ≤ (x.toNat : Int) ∧ (x.toNat : Int) ≤ 255 := by
 have := x.isLt
 omega
theorem X3 (x : BitVec 8) (v : Nat) : Fa (x.toNat : Int) v = x.getLsbD v := by
 unfold Fa; rw [Int.toNat_natCast]; rfl
theorem SU {a : Int} (ha : 0 ≤ a ∧ a ≤ 255) (v : Nat) : (BitVec.ofInt 8 a).getLsbD v = Fa a v := by
 obtain ⟨a, rfl⟩ := Int.eq_ofNat_of_zero_le ha.1
 unfold BitVec.getLsbD Fa
 rw [Ya (by omega), Int.toNat_natCast]
theorem Vh {a b : Int} (ha : 0 ≤ a ∧ a ≤ 255) (hb : 0 ≤ b ∧ b ≤ 255) : (∀ v, Fa (Er .u8 a b) v = (Fa a v && !Fa b v)) ∧ 0 ≤ Er .u8 a b ∧ Er .u8 a b ≤ 255 := by
 have e : Er .u8 a b = ((BitVec.ofInt 8 a &&& ~~~BitVec.ofInt 8 b).toNat : Int) := Pw (BitVec.ofInt 8 a &&& ~~~BitVec.ofInt 8 b)
 rw [e]
 refine ⟨fun v => ?_, Tz _⟩
 rw [X3, BitVec.getLsbD_and, BitVec.getLsbD_not, SU ha, SU hb]
 by_cases h : v < 8
 ·simp [h]
 ·rw [LI ha.2 (by omega)]; simp
theorem VZ {a b : Int} (ha : 0 ≤ a ∧ a ≤ 255) (hb : 0 ≤ b ∧ b ≤ 255) : (∀ v, Fa (Re .u8 a b) v = (Fa a v || Fa b v)) ∧ 0 ≤ Re .u8 a b ∧ Re .u8 a b ≤ 255 := by
 have e : Re .u8 a b = ((BitVec.ofInt 8 a ||| BitVec.ofInt 8 b).toNat : Int) := Pw (BitVec.ofInt 8 a ||| BitVec.ofInt 8 b)
 rw [e]
 refine ⟨fun v => ?_, Tz _⟩
 rw [X3, BitVec.getLsbD_or, SU ha, SU hb]
theorem ZH {b : Nat} (hb : b < 8) : (∀ v, Fa (DC .u8 1 (b : Int)) v = decide (b = v)) ∧ 0 ≤ DC .u8 1 (b : Int) ∧ DC .u8 1 (b : Int) ≤ 255 := by
 refine ⟨fun v => ?_, (LV ⟨b, hb⟩ ⟨0, by omega⟩).2⟩
 by_cases h : v < 8
 ·exact (LV ⟨b, hb⟩ ⟨v, h⟩).1
 ·rw [LI (LV ⟨b, hb⟩ ⟨0, by omega⟩).2.2 (by omega)]
  symm; apply decide_eq_false; omega
theorem X5 (N : Nat) {s : Int} {v : Nat} (hs : 0 ≤ s ∧ s ≤ 255) (hv : v < 8) : Df N s (v : Int) = some (Fa s v) := by
 unfold Df
 rw [Ap (by omega), SZ hs.1 hs.2 hv]
 cases Fa s v <;> rfl
def aG (v : Nat) : Nat := ((List.range 8).find? fun u => v.testBit u).getD 8
def d6 (v : Nat) : Nat := ((List.range 8).filter fun u => v.testBit u).length
theorem bA : ∀ v : Fin 256, D8 0 (v.val : Int) = some (aG v.val : Int) := by decide +kernel
theorem d9 (N : Nat) {v : Nat} (h : v < 256) : D8 N (v : Int) = some (aG v : Int) := bA ⟨v, h⟩
theorem ZP : ∀ v : Fin 256, v.val ≠ 0 → aG v.val < 8 ∧ Fa (v.val : Int) (aG v.val) = true ∧ 0 ≤ HI .u8 (v.val : Int) (wI .u8 ((v.val : Int) - 1)) ∧ HI .u8 (v.val : Int) (wI .u8 ((v.val : Int) - 1)) ≤ 255 ∧
  d6 (HI .u8 (v.val : Int) (wI .u8 ((v.val : Int) - 1))).toNat + 1 = d6 v.val ∧
  ∀ u : Fin 8, Fa (HI .u8 (v.val : Int) (wI .u8 ((v.val : Int) - 1))) u.val = (Fa (v.val : Int) u.val && decide (u.val ≠ aG v.val)) := by decide +kernel
theorem dq (v : Nat) : d6 v ≤ 8 := by
 have := List.length_filter_le (fun u => v.testBit u) (List.range 8)
 simpa [d6] using this
theorem Us (N : Nat) (t : An) (b : Int) (rw_ : Nat → Bool) : ∀ (k n v : Nat), d6 v ≤ k → k < n → v < 256 →
  (∀ u, u < 8 → Fa (v : Int) u = true → ∃ row, A5 t.fQ (u : Int) = some row ∧ A5 row b = some (rw_ u)) →
  EK N t b (fun _ => some true) n (v : Int) = some ((List.range 8).all fun u => !Fa (v : Int) u || rw_ u)
 | k, 0, v, _, h, _, _ => by omega
 | k, n + 1, v, hk, hn, hv, hr => by
  rw [EK]
  by_cases h0 : v = 0
  ·subst h0
   have : (((0 : Nat) : Int) != 0) = false := rfl
   rw [this, Ao]
   congr 1
  ·have h1 : ((v : Int) != 0) = true := bne_iff_ne.2 (by omega)
   obtain ⟨l1, l2, l3, l4, l5, l6⟩ := ZP ⟨v, hv⟩ h0
   simp only at l1 l2 l3 l4 l5 l6
   obtain ⟨row, e1, e2⟩ := hr _ l1 l2
   rw [h1, AR, d9 N hv]
   simp only [oS, e1, e2]
   obtain ⟨w, hw⟩ := Int.eq_ofNat_of_zero_le l3
   rw [hw] at l4 l5 l6 ⊢
   rw [Int.toNat_natCast] at l5
   cases hq : rw_ (aG v)
   ·rw [Bool.not_false, AR]
    congr 1
    symm
    rw [List.all_eq_false]
    exact ⟨aG v, by simpa using l1, by rw [l2, hq]; simp⟩
   ·rw [Bool.not_true, Ao]
    match k, hk with
    | 0, hk => exfalso; omega
    | k + 1, hk =>
    rw [Us N t b rw_ k n w (by omega) (by omega) (by omega) (fun u hu hb => hr u hu (by have := l6 ⟨u, hu⟩; simp only at this; rw [hb] at this; simpa using (Bool.and_eq_true_iff.1 this.symm).1))]
    congr 1
    rw [Bool.eq_iff_iff, List.all_eq_true, List.all_eq_true]
    refine ⟨fun h u hu => ?_, fun h u hu => ?_⟩
    ·have hu8 : u < 8 := by simpa using hu
     have h3 := h u hu
     have h4 := l6 ⟨u, hu8⟩
     simp only at h4
     rw [h4] at h3
     by_cases e : u = aG v
     ·rw [e, hq]; simp
     ·simpa [e] using h3
    ·have hu8 : u < 8 := by simpa using hu
     have h3 := h u hu
     have h4 := l6 ⟨u, hu8⟩
     simp only at h4
     rw [h4]
     cases hb : Fa (v : Int) u
     ·simp
     ·rw [hb] at h3; simp at h3; simp [h3]
theorem TX (N : Nat) (m : Af) (s : Int) (h0 : 0 ≤ s) (h1 : s < (m.fG.length : Int)) (h2 : s < (m.fD.length : Int)) (hb : 0 ≤ m.fG.getD s.toNat 0) : HC N m s = some (Iw m s.toNat) := by
 unfold HC Iw
 rw [Gj (d := 0) h0 h1, Gj (d := 0) h0 h2]
 simp only [oS, Be]
 rw [show Eo (0 ≤ m.fG.getD s.toNat 0) = some () from by unfold Eo; rw [if_pos hb]]
 simp only [oS]
 by_cases h : 0 ≤ m.fD.getD s.toNat 0
 ·rw [AC h, if_pos h, show Eo (0 ≤ m.fD.getD s.toNat 0) = some () from by unfold Eo; rw [if_pos h]]; rfl
 ·rw [Ay h, if_neg h]
theorem Mx (N : Nat) (t : An) : Hi N t = some (Cx t) := by
 unfold Hi Cx
 simp only [Be]
 cases h : t.fI == 3 <;> simp
def HW (s : Ag) : Bool := decide (1 ≤ s.fI ∧ s.fI ≤ 4 ∧ 0 ≤ s.fL ∧ 0 ≤ s.fT) && (s.fI == 1 || s.fT == 0)
def He (p : Ac) (s : Ag) : Bool :=
 if s.fI = 3 then decide (s.fL < (p.fF.length : Int)) else decide (s.fL < (p.fE.length : Int)) && (s.fI != 1 || decide (s.fT < p.fE.getD s.fL.toNat 0))
theorem Rm (N : Nat) (s : Ag) : IC N s = some (HW s) := by
 unfold IC HW Y4
 simp only [Be]
 by_cases h1 : (if s.fT < s.fL then s.fT else s.fL) < 0
 ·rw [AC h1, AR, decide_eq_false (by split at h1 <;> omega)]; rfl
 ·rw [Ay h1]
  by_cases h2 : s.fI < 1
  ·rw [AC h2, AR, decide_eq_false (by omega)]; rfl
  ·rw [Ay h2]
   by_cases h3 : 4 < s.fI
   ·rw [decide_eq_true h3, AR, decide_eq_false (by omega)]; rfl
   ·rw [decide_eq_false h3, Ao, decide_eq_true (by split at h1 <;> omega), Bool.true_and]
    cases h4 : s.fI == 1 <;> simp
theorem Tf (N : Nat) (s : Ag) : F2 N s = some (HW s) := by
 unfold F2 HW
 simp only [Be]
 by_cases h1 : 1 ≤ s.fI
 ·rw [AC h1]
  by_cases h2 : s.fI ≤ 4
  ·rw [AC h2]
   by_cases h3 : 0 ≤ s.fL
   ·rw [AC h3]
    by_cases h4 : 0 ≤ s.fT
    ·rw [AC h4, decide_eq_true (by omega), Bool.true_and]
     cases h5 : s.fI == 1 <;> simp
    ·rw [Ay h4, decide_eq_false (by omega)]; rfl
   ·rw [Ay h3, decide_eq_false (by omega)]; rfl
  ·rw [Ay h2, decide_eq_false (by omega)]; rfl
 ·rw [Ay h1, decide_eq_false (by omega)]; rfl
theorem Qd (N : Nat) (p : Ac) (s : Ag) (hv : HW s = true) : H2 N p s = some (He p s) := by
 have h0 : 0 ≤ s.fL := by
  unfold HW at hv
  rw [Bool.and_eq_true, decide_eq_true_iff] at hv
  exact hv.1.2.2.1
 unfold H2 He
 simp only [Be]
 by_cases h1 : s.fI = 3
 ·rw [if_pos h1, beq_iff_eq.2 h1, AR]
 ·rw [if_neg h1, beq_eq_false_iff_ne.2 h1, Ao]
  by_cases h2 : s.fL < (p.fE.length : Int)
  ·rw [AC h2, decide_eq_true h2, Bool.true_and]
   cases h3 : s.fI != 1
   ·rw [Ao, Gj (d := 0) h0 h2, Bool.false_or]; rfl
   ·rw [AR]; rfl
  ·rw [Ay h2, decide_eq_false h2]; rfl
def V3 (s : Ag) (t : An) : Bool := t.fJ == s.fL && Cx t
def Up (s : Ag) (i : Nat) (t : An) (a : List Int) : List Int := if V3 s t = true then a.set i (Re .u8 (a.getD i 0) (DC .u8 1 s.fT)) else a
def I4 (p : Ac) (s : Ag) (held : List Int) : List Int := IY (Up s) 0 p.fF held
theorem PM {_R : Type} (N : Nat) (p : Ac) (s : Ag) (held : List Int) (hv : 0 ≤ s.fT) (hl : held.length = p.fF.length) (h12 : p.fF.length < N) (hN : N ≤ 1000000) (j : List Int → Option (Bool × List Int × List Int)) :
  EX N p s j N (held, 0) = j (I4 p s held) ∧ (I4 p s held).length = p.fF.length := by
 have := IS (EX N p s j) (fun a i => (a, i)) p.fF j (Up s) (fun i a => a.length = p.fF.length)
  (fun n i x a hx ha => by
   have hi := (lI.1 hx).1
   rw [EX, AC (by simp only; omega)]
   simp only [Bi, AW, hx, oS, Mx, AB (show i < 1000000 by omega)]
   have e2 : a[i]? = some (a.getD i 0) := by rw [lD]; simp [show i < a.length from by omega]
   unfold Up V3
   cases h1 : x.fJ == s.fL
   ·rw [Ao, Ao, Bool.false_and, if_neg (by simp)]; exact ⟨rfl, ha⟩
   ·rw [AR, Bool.true_and]
    cases h2 : Cx x
    ·rw [Ao, if_neg (by simp)]; exact ⟨rfl, ha⟩
    ·rw [AR, e2, if_pos rfl]
     simp only [oS]
     rw [Ap hv]
     exact ⟨rfl, by simpa using ha⟩)
  (fun n a ha => by rw [EX, Ay (by simp)]) N 0 held (Nat.zero_le _) (by omega) hl
 rw [List.drop_zero] at this
 exact this
theorem Qe (N : Nat) (p : Ac) (s : Ag) (held : List Int) (hv : 0 ≤ s.fT) (hl : held.length = p.fF.length) (h12 : p.fF.length < N) (hN : N ≤ 1000000) (j : List Int → Option (Af × Bool)) :
  Cy N p s j N (held, 0) = j (I4 p s held) := by
 have := IS (Cy N p s j) (fun a i => (a, i)) p.fF j (Up s) (fun i a => a.length = p.fF.length)
  (fun n i x a hx ha => by
   have hi := (lI.1 hx).1
   rw [Cy, AC (by simp only; omega)]
   simp only [Bi, AW, hx, oS, IE, AB (show i < 1000000 by omega)]
   have e2 : a[i]? = some (a.getD i 0) := by rw [lD]; simp [show i < a.length from by omega]
   unfold Up V3
   cases h1 : x.fJ == s.fL
   ·rw [Ao, Ao, Bool.false_and, if_neg (by simp)]; exact ⟨rfl, ha⟩
   ·rw [AR, Bool.true_and]
    cases h2 : Cx x
    ·rw [Ao, if_neg (by simp)]; exact ⟨rfl, ha⟩
    ·rw [AR, e2, if_pos rfl]
     simp only [oS]
     rw [Ap hv]
     exact ⟨rfl, by simpa using ha⟩)
  (fun n a ha => by rw [Cy, Ay (by simp)]) N 0 held (Nat.zero_le _) (by omega) hl
 rw [List.drop_zero] at this
 exact this.1
def Mh (m : Af) (t : An) (u : Nat) : Bool := (t.fQ.getD u []).getD (m.fG.getD t.fJ.toNat 0).toNat false
def PL (m : Af) (i : Nat) (t : An) (u : Nat) : Bool := Fa (m.fH.getD i 0) u && !Kb m t.fJ.toNat u
def IG (_p : Ac) (m : Af) (i : Nat) (t : An) : Bool := t.fI == 4 && (List.range 8).any fun u => PL m i t u && !Mh m t u
def GB (p : Ac) (m : Af) (s : Ag) : Option Af :=
 let i := s.fL.toNat
 if s.fI = 1 then (if 0 ≤ m.fD.getD i 0 ∨ m.fG.getD i 0 = s.fT then none else some ⟨m.fG, m.fD.set i s.fT, I4 p s m.fH⟩)
 else if s.fI = 3 then match p.fF[i]? with
  | none => none
  | some t => if Cx t = false ∨ m.fH.getD i 0 = Iw m t.fJ.toNat ∨ IG p m i t = true then none else some ⟨m.fG, m.fD, m.fH.set i (Iw m t.fJ.toNat)⟩
 else if m.fD.getD i 0 < 0 then none
 else some ⟨if s.fI = 2 then m.fG.set i (m.fD.getD i 0) else m.fG, m.fD.set i (-1), m.fH⟩
def A4 (p : Ac) (m : Af) (s : Ag) : Af × Int :=
 if HW s = false then (HB, 1) else if He p s = false then (HB, 4) else match GB p m s with
  | none => (HB, 11)
  | some x => (x, 0)
end Go.Lift
namespace Go.Lift
open Option renaming bind_some → oS
open List renaming mem_of_getElem? → lM
open List renaming getElem?_eq_some_iff → lI
open List renaming getD_eq_getElem?_getD → lD
open Go
section clear
variable {p : Ac} {m : Af} {i : Nat} {t : An}
theorem Xw (hp : Bk p) (hm : Cl p m) (ht : p.fF[i]? = some t) (hs : Cx t = true) {u : Nat} (h : Fa (m.fH.getD i 0) u = true) : (u : Int) < p.fE.getD t.fJ.toNat 0 ∧ u < 6 ∧ t.fJ.toNat < p.fE.length := by
 have h1 := hm.high i t ht hs u h
 have hin := Ky (hp.tab t (lM ht))
 have h2 := JX hp (i := t.fJ.toNat) (by omega)
 exact ⟨h1, by omega, by omega⟩
theorem X6 (hp : Bk p) (hm : Cl p m) (ht : p.fF[i]? = some t) (hs : Cx t = true) (h4 : t.fI = 4) {u : Nat} (h : Fa (m.fH.getD i 0) u = true) :
  A5 t.fQ (u : Int) = some (t.fQ.getD u []) ∧ A5 (t.fQ.getD u []) (m.fG.getD t.fJ.toNat 0) = some (Mh m t u) := by
 have hT := JA (hp.tab t (lM ht))
 obtain ⟨h1, h2, h3⟩ := Xw hp hm ht hs h
 have hl := hT.reL h4
 have e : t.fQ[u]? = some (t.fQ.getD u []) := by rw [lD]; simp [show u < t.fQ.length from by omega]
 have hr := hT.reR _ (lM e)
 have hb := hm.b0 t.fJ.toNat h3
 refine ⟨by rw [AW, e], ?_⟩
 unfold Mh
 obtain ⟨b, hb'⟩ := Int.eq_ofNat_of_zero_le hb.1
 rw [hb'] at hb ⊢
 rw [Int.toNat_natCast]
 exact Ea (by omega)
theorem Rz (N : Nat) (hN : N ≤ 1000000) (h20 : 100 ≤ N) (hp : Bk p) (hm : Cl p m) (ht : p.fF[i]? = some t) :
  Ir N p m (i : Int) = some (if Cx t = false ∨ m.fH.getD i 0 = Iw m t.fJ.toNat ∨ IG p m i t = true then (false, m.fH) else (true, m.fH.set i (Iw m t.fJ.toNat))) := by
 have hi := (lI.1 ht).1
 have hin := Ky (hp.tab t (lM ht))
 have hb := hm.base
 have hnx := hm.next
 have hh := hm.held
 have hr := JL hp hm.toMixServ (s := t.fJ.toNat) (by omega)
 have hrg := hm.range i hi
 have eh : A5 m.fH (i : Int) = some (m.fH.getD i 0) := Ea (by omega)
 unfold Ir
 simp only [Bi, AW, ht, oS, Mx]
 have eh' : m.fH[i]? = some (m.fH.getD i 0) := by rw [← AW, eh]
 cases hs : Cx t
 ·rw [Bool.not_false, AR, if_pos (.inl rfl)]
 ·rw [Bool.not_true, Ao, TX N m _ hin.1 (by omega) (by omega) (hm.b0 _ (by omega)).1]
  simp only [oS, eh']
  by_cases h1 : m.fH.getD i 0 = Iw m t.fJ.toNat
  ·rw [beq_iff_eq.2 h1, AR, AR, if_pos (.inr (.inl h1))]
  ·rw [beq_eq_false_iff_ne.2 h1, Ao]
   by_cases h4 : t.fI = 4
   ·rw [beq_iff_eq.2 h4, AR, Gj (d := 0) hin.1 (by omega)]
    simp only [oS]
    obtain ⟨a1, a2, a3⟩ := Vh hrg hr.2
    obtain ⟨w, hw⟩ := Int.eq_ofNat_of_zero_le a2
    unfold Hs
    rw [hw] at a1 a3 ⊢
    rw [Us N t _ (Mh m t) 8 N w (dq _) (by omega) (by omega) (fun u hu hbu => by
     have := a1 u; rw [hbu] at this
     exact ⟨_, X6 hp hm ht hs h4 (Bool.and_eq_true_iff.1 this.symm).1⟩)]
    simp only [oS]
    have e : (!(List.range 8).all fun u => !Fa (w : Int) u || Mh m t u) = IG p m i t := by
     unfold IG
     rw [beq_iff_eq.2 h4, Bool.true_and, List.not_all_eq_any_not]
     congr 1
     funext u
     rw [a1 u, hr.1 u]
     unfold PL
     cases Fa (m.fH.getD i 0) u <;> cases Kb m t.fJ.toNat u <;> cases Mh m t u <;> rfl
    rw [e]
    cases hst : IG p m i t
    ·rw [Ao, if_neg (by rintro (h | h | h); cases h; exact h1 h; cases h)]; rfl
    ·rw [AR, if_pos (.inr (.inr rfl))]
   ·have e : IG p m i t = false := by unfold IG; rw [beq_eq_false_iff_ne.2 h4]; rfl
    rw [beq_eq_false_iff_ne.2 h4, Ao, Ao, e, if_neg (by rintro (h | h | h); cases h; exact h1 h; cases h)]; rfl
theorem P9 (N : Nat) (hN : N ≤ 1000000) (h20 : 100 ≤ N) (hp : Bk p) (hm : Cl p m) (ht : p.fF[i]? = some t) (hs : Cx t = true) (s : Ag) (hsi : s.fL = (i : Int)) (j : Option (Af × Bool)) :
  B8 N p m s t (Iw m t.fJ.toNat) (fun _ => j) N 0 = if IG p m i t = true then some (HB, false) else j := by
 have hi := (lI.1 ht).1
 have hin := Ky (hp.tab t (lM ht))
 have hb := hm.base
 have hh := hm.held
 have hr := JL hp hm.toMixServ (s := t.fJ.toNat) (by omega)
 have hrg := hm.range i hi
 have hver := JX hp (i := t.fJ.toNat) (by omega)
 obtain ⟨nv, hnv⟩ := Int.eq_ofNat_of_zero_le (show 0 ≤ p.fE.getD t.fJ.toNat 0 by omega)
 have eh' : m.fH[i]? = some (m.fH.getD i 0) := by rw [lD]; simp [show i < m.fH.length from by omega]
 have := Dr (B8 N p m s t (Iw m t.fJ.toNat) fun _ => j) (List.range nv) j (fun u _ => if (PL m i t u && (t.fI == 4 && !Mh m t u)) = true then some (HB, false) else none)
  (fun n u x hx => by
   have hu : u < nv := by
    have := (lI.1 hx).1
    simpa using this
   rw [B8, Gj (d := 0) hin.1 (by omega), hnv]
   simp only [oS]
   rw [AC (by omega)]
   simp only [Bi, hsi, AW, eh', oS]
   rw [X5 N hrg (by omega), AB (by omega)]
   simp only [oS]
   cases h1 : Fa (m.fH.getD i 0) u
   ·have e : PL m i t u = false := by unfold PL; rw [h1]; rfl
    rw [Ao, Ao, Ao, e]; rfl
   ·rw [AR, X5 N hr.2 (by omega), hr.1 u]
    simp only [oS]
    have e : PL m i t u = !Kb m t.fJ.toNat u := by unfold PL; rw [h1]; rfl
    rw [← e]
    cases h2 : PL m i t u
    ·rw [Ao, Ao]; rfl
    ·rw [AR]
     by_cases h4 : t.fI = 4
     ·obtain ⟨e1, e2⟩ := X6 hp hm ht hs h4 h1
      rw [AW] at e1
      rw [beq_iff_eq.2 h4, AR, e1, Gj (d := 0) hin.1 (by omega)]
      simp only [oS]
      rw [e2]
      simp only [oS]
      cases Mh m t u <;> rfl
     ·rw [beq_eq_false_iff_ne.2 h4, Ao, Ao]; rfl)
  (fun n => by
   rw [B8, Gj (d := 0) hin.1 (by omega), hnv]
   simp only [oS, List.length_range]
   rw [Ay (by omega)]) N 0 (Nat.zero_le _) (by simp; omega)
 have e0 : B8 N p m s t (Iw m t.fJ.toNat) (fun _ => j) N 0 = _ := this
 rw [e0, List.drop_zero]
 by_cases hst : IG p m i t = true
 ·rw [if_pos hst]
  unfold IG at hst
  rw [Bool.and_eq_true, List.any_eq_true] at hst
  obtain ⟨h4, u, hu, h5⟩ := hst
  rw [Bool.and_eq_true] at h5
  have h6 : Fa (m.fH.getD i 0) u = true := by have := h5.1; unfold PL at this; exact (Bool.and_eq_true_iff.1 this).1
  have h7 := Xw hp hm ht hs h6
  cases hsc : En (fun u (_ : Nat) => if (PL m i t u && (t.fI == 4 && !Mh m t u)) = true then some (HB, false) else none) 0 (List.range nv) with
  | some r =>
   obtain ⟨q, x, hx, hf⟩ := FL hsc
   split at hf
   ·cases hf; rfl
   ·cases hf
  | none =>
   exfalso
   have hx : (List.range nv)[u]? = some u := List.getElem?_range (by omega)
   have := F7 hsc u u hx
   rw [Nat.zero_add, h5.1, h4, h5.2] at this
   cases this
 ·rw [if_neg hst]
  have : En (fun u (_ : Nat) => if (PL m i t u && (t.fI == 4 && !Mh m t u)) = true then some (HB, false) else none) 0 (List.range nv) = none := GU fun q x hx => by
   rw [Nat.zero_add]
   split
   ·rename_i h5
    exfalso; apply hst
    rw [Bool.and_eq_true, Bool.and_eq_true] at h5
    unfold IG
    rw [h5.2.1, Bool.true_and, List.any_eq_true]
    have hq : q < nv := by
     have := (lI.1 hx).1
     simpa using this
    exact ⟨q, List.mem_range.2 (by omega), by rw [h5.1, h5.2.2]; rfl⟩
   ·rfl
  rw [this]; rfl
end clear
end Go.Lift
namespace Go.Lift
open Option renaming bind_some → oS
open List renaming mem_of_getElem? → lM
open Go
theorem JC {s : Ag} (h : HW s = true) : 1 ≤ s.fI ∧ s.fI ≤ 4 ∧ 0 ≤ s.fL ∧ 0 ≤ s.fT ∧ (s.fI ≠ 1 → s.fT = 0) := by
 unfold HW at h
 rw [Bool.and_eq_true, decide_eq_true_iff, Bool.or_eq_true, beq_iff_eq, beq_iff_eq] at h
 exact ⟨h.1.1, h.1.2.1, h.1.2.2.1, h.1.2.2.2, fun hk => h.2.elim (fun e => (hk e).elim) id⟩
theorem Kg {p : Ac} {s : Ag} (h : He p s = true) : (s.fI = 3 → s.fL < (p.fF.length : Int)) ∧ (s.fI ≠ 3 → s.fL < (p.fE.length : Int)) ∧ (s.fI = 1 → s.fT < p.fE.getD s.fL.toNat 0) := by
 unfold He at h
 split at h
 ·rename_i hk
  rw [decide_eq_true_iff] at h
  exact ⟨fun _ => h, fun hn => (hn hk).elim, fun h1 => by omega⟩
 ·rename_i hk
  rw [Bool.and_eq_true, decide_eq_true_iff, Bool.or_eq_true, decide_eq_true_iff, bne_iff_ne] at h
  exact ⟨fun h3 => (hk h3).elim, fun _ => h.1, fun h1 => h.2.elim (fun hn => (hn h1).elim) id⟩
theorem WT (N : Nat) {p : Ac} {m : Af} (hp : Bk p) (hm : Cl p m) : H7 N m = some m := by
 have hnv := hp.nv
 have hnt := hp.nt
 have h1 := hm.base
 have h2 := hm.next
 have h3 := hm.held
 unfold H7
 rw [Ls N _ (by simp only [DU]; omega), Ls N _ (by simp only [DU]; omega), RM N _ (by simp only [DU]; omega)]
 rfl
theorem Nk (N : Nat) (hN : N ≤ 1000000) (h20 : 100 ≤ N) {p : Ac} {m : Af} (hp : Bk p) (hm : Cl p m) {s : Ag} (hv : HW s = true) (hx : He p s = true) :
  ∃ o, Hd N p m s = some (o, (GB p m s).isSome) ∧ ∀ x, GB p m s = some x → o = x := by
 obtain ⟨k1, k4, i0, v0, vk⟩ := JC hv
 obtain ⟨x3, xn, x1⟩ := Kg hx
 have hnv := hp.nv
 have hnt := hp.nt
 have hb := hm.base
 have hn := hm.next
 have hh := hm.held
 obtain ⟨i, hi⟩ := Int.eq_ofNat_of_zero_le i0
 unfold Hd GB
 rw [WT N hp hm]
 simp only [oS, Bi]
 by_cases hk1 : s.fI = 1
 ·have hi1 : (i : Int) < p.fE.length := by have := xn (by omega); omega
  rw [beq_iff_eq.2 hk1, AR, if_pos hk1]
  unfold JH
  simp only [Bi, hi, Int.toNat_natCast]
  rw [Ea (d := 0) (show i < m.fD.length by omega)]
  simp only [oS]
  by_cases c1 : 0 ≤ m.fD.getD i 0
  ·rw [AC c1, AR, if_pos (.inl c1)]
   exact ⟨_, rfl, fun x hx => by cases hx⟩
  ·rw [Ay c1, Ea (d := 0) (show i < m.fG.length by omega)]
   simp only [oS]
   by_cases c2 : m.fG.getD i 0 = s.fT
   ·rw [beq_iff_eq.2 c2, AR, if_pos (.inr c2)]
    exact ⟨_, rfl, fun x hx => by cases hx⟩
   ·rw [beq_eq_false_iff_ne.2 c2, Ao, (PM (_R := Unit) N p s m.fH v0 hh (by omega) hN _).1, if_neg (by rintro (h | h); exact c1 h; exact c2 h)]
    exact ⟨_, rfl, fun x hx => by cases hx; rfl⟩
 ·rw [beq_eq_false_iff_ne.2 hk1, Ao, if_neg hk1]
  by_cases hk3 : s.fI = 3
  ·have hi3 : i < p.fF.length := by have := x3 hk3; omega
   have ht : p.fF[i]? = some p.fF[i] := by simp [hi3]
   rw [beq_iff_eq.2 hk3, AR, if_pos hk3, hi, Rz N hN h20 hp hm ht]
   simp only [oS, Int.toNat_natCast, ht]
   split
   ·exact ⟨_, rfl, fun x hx => by cases hx⟩
   ·exact ⟨_, rfl, fun x hx => by cases hx; rfl⟩
  ·have hi1 : (i : Int) < p.fE.length := by have := xn hk3; omega
   rw [beq_eq_false_iff_ne.2 hk3, Ao, if_neg hk3, hi, Ea (d := 0) (show i < m.fD.length by omega)]
   simp only [oS, Int.toNat_natCast]
   by_cases c1 : m.fD.getD i 0 < 0
   ·rw [AC c1, if_pos c1]
    exact ⟨_, rfl, fun x hx => by cases hx⟩
   ·rw [Ay c1, if_neg c1]
    by_cases hk2 : s.fI = 2
    ·rw [beq_iff_eq.2 hk2, AR, Ea (d := 0) (show i < m.fG.length by omega), if_pos hk2]
     exact ⟨_, rfl, fun x hx => by cases hx; rfl⟩
    ·rw [beq_eq_false_iff_ne.2 hk2, Ao, if_neg hk2]
     exact ⟨_, rfl, fun x hx => by cases hx; rfl⟩
theorem Rt (N : Nat) (hN : N ≤ 1000000) (h20 : 100 ≤ N) {p : Ac} {m : Af} (hp : Bk p) (hm : Cl p m) (s : Ag) : Iy N p m s = some (A4 p m s) := by
 unfold Iy A4
 rw [Rm]
 simp only [oS]
 cases hv : HW s
 ·rw [Bool.not_false, AR, if_pos rfl]; rfl
 ·rw [Bool.not_true, Ao, if_neg (by simp), Qd N p s hv]
  simp only [oS]
  cases hx : He p s
  ·rw [Bool.not_false, AR, if_pos rfl]; rfl
  ·rw [Bool.not_true, Ao, if_neg (by simp)]
   obtain ⟨o, e, ho⟩ := Nk N hN h20 hp hm hv hx
   rw [e]
   simp only [oS]
   cases ha : GB p m s with
   | none => rfl
   | some x => rw [ho x ha]; rfl
theorem OD (N : Nat) (hN : N ≤ 1000000) (h20 : 100 ≤ N) {p : Ac} {m : Af} (hp : Bk p) (hm : Cl p m) {s : Ag} (hv : HW s = true) (hx : He p s = true) :
  DI N p m s = some (match GB p m s with | none => (HB, false) | some x => (x, true)) := by
 obtain ⟨k1, k4, i0, v0, vk⟩ := JC hv
 obtain ⟨x3, xn, x1⟩ := Kg hx
 have hnv := hp.nv
 have hnt := hp.nt
 have hb := hm.base
 have hn := hm.next
 have hh := hm.held
 obtain ⟨i, hi⟩ := Int.eq_ofNat_of_zero_le i0
 unfold DI GB
 rw [Ap (by simp [DU]; omega), Ap (by simp [DU]; omega), Ap (by simp [DU]; omega)]
 simp only [Bi, List.nil_append]
 by_cases hk1 : s.fI = 1
 ·have hi1 : (i : Int) < p.fE.length := by have := xn (by omega); omega
  rw [beq_iff_eq.2 hk1, AR, if_pos hk1]
  simp only [hi, Int.toNat_natCast]
  rw [Ea (d := 0) (show i < m.fD.length by omega)]
  simp only [oS]
  by_cases c1 : 0 ≤ m.fD.getD i 0
  ·rw [AC c1, AR, if_pos (.inl c1)]; rfl
  ·rw [Ay c1, Ea (d := 0) (show i < m.fG.length by omega)]
   simp only [oS]
   by_cases c2 : m.fG.getD i 0 = s.fT
   ·rw [beq_iff_eq.2 c2.symm, AR, if_pos (.inr c2)]; rfl
   ·rw [beq_eq_false_iff_ne.2 (fun h => c2 h.symm), Ao, Qe N p s m.fH v0 hh (by omega) hN _, if_neg (by rintro (h | h); exact c1 h; exact c2 h)]
 ·rw [beq_eq_false_iff_ne.2 hk1, Ao, if_neg hk1]
  by_cases hk3 : s.fI = 3
  ·have hi3 : i < p.fF.length := by have := x3 hk3; omega
   have ht : p.fF[i]? = some p.fF[i] := by simp [hi3]
   have hin := Ky (hp.tab _ (lM ht))
   have eh' : A5 m.fH (i : Int) = some (m.fH.getD i 0) := Ea (by omega)
   rw [beq_eq_false_iff_ne.2 (show s.fI ≠ 2 by omega), Ao, beq_iff_eq.2 hk3, AR, if_pos hk3, hi, AW, ht]
   simp only [oS, IE, Int.toNat_natCast, ht]
   cases hs : Cx p.fF[i]
   ·rw [Bool.not_false, AR, if_pos (.inl rfl)]; rfl
   ·rw [Bool.not_true, Ao, LL N m _ hin.1 (by omega) (by omega) (hm.b0 _ (by omega)).1, eh']
    simp only [oS]
    by_cases h1 : m.fH.getD i 0 = Iw m (p.fF[i]).fJ.toNat
    ·rw [beq_iff_eq.2 h1, AR, if_pos (.inr (.inl h1))]; rfl
    ·rw [beq_eq_false_iff_ne.2 h1, Ao]
     rw [P9 N hN h20 hp hm ht hs s hi]
     cases hst : IG p m i p.fF[i]
     ·rw [if_neg (by simp), if_neg (by rintro (h | h | h); cases h; exact h1 h; cases h)]
     ·rw [if_pos rfl, if_pos (.inr (.inr rfl))]
  ·have hi1 : (i : Int) < p.fE.length := by have := xn hk3; omega
   rw [if_neg hk3, hi, Ea (d := 0) (show i < m.fD.length by omega)]
   simp only [oS, Int.toNat_natCast]
   by_cases hk2 : s.fI = 2
   ·rw [beq_iff_eq.2 hk2, AR, if_pos hk2]
    by_cases c1 : m.fD.getD i 0 < 0
    ·rw [AC c1, if_pos c1]; rfl
    ·rw [Ay c1, if_neg c1, Ea (d := 0) (show i < m.fG.length by omega)]; rfl
   ·rw [beq_eq_false_iff_ne.2 hk2, Ao, beq_eq_false_iff_ne.2 hk3, Ao, if_neg hk2]
    by_cases c1 : m.fD.getD i 0 < 0
    ·rw [AC c1, if_pos c1]; rfl
    ·rw [Ay c1, if_neg c1]
end Go.Lift
namespace Go.Lift
open Option renaming bind_some → oS
open List renaming mem_of_getElem? → lM
open List renaming getElem?_eq_some_iff → lI
open Go
theorem TP (s : Ag) : ∀ (xs : List An) (i : Nat) (a : List Int), i + xs.length ≤ a.length → (IY (Up s) i xs a).length = a.length ∧ ∀ q, (IY (Up s) i xs a).getD q 0 = match (if i ≤ q then xs[q - i]? else none) with
  | some t => if V3 s t = true then Re .u8 (a.getD q 0) (DC .u8 1 s.fT) else a.getD q 0
  | none => a.getD q 0
 | [], i, a, _ => by
  refine ⟨rfl, fun q => ?_⟩
  split
  ·rename_i h; split at h
   ·simp at h
   ·cases h
  ·rfl
 | x :: xs, i, a, hl => by
  have hl' : i + (xs.length + 1) ≤ a.length := by simpa using hl
  have ha : (Up s i x a).length = a.length := by unfold Up; split <;> simp
  obtain ⟨ih1, ih2⟩ := TP s xs (i + 1) (Up s i x a) (by omega)
  refine ⟨by rw [IY, ih1, ha], fun q => ?_⟩
  rw [IY, ih2 q]
  have hu : (Up s i x a).getD q 0 = if q = i ∧ V3 s x = true then Re .u8 (a.getD q 0) (DC .u8 1 s.fT) else a.getD q 0 := by
   unfold Up
   by_cases hc : V3 s x = true
   ·rw [if_pos hc, Ko (by omega)]
    by_cases hq : q = i
    ·subst hq; rw [if_pos rfl, if_pos ⟨rfl, hc⟩]
    ·rw [if_neg hq, if_neg (fun h => hq h.1)]
   ·rw [if_neg hc, if_neg (fun h => hc h.2)]
  by_cases h1 : i + 1 ≤ q
  ·rw [if_pos h1, if_pos (show i ≤ q by omega), hu, if_neg (by omega)]
   rw [show (x :: xs)[q - i]? = xs[q - (i + 1)]? from by rw [show q - i = (q - (i + 1)) + 1 from by omega, List.getElem?_cons_succ]]
  ·rw [if_neg h1]
   by_cases h2 : q = i
   ·subst h2
    rw [if_pos (Nat.le_refl _), Nat.sub_self, hu]
    simp
   ·rw [if_neg (show ¬ i ≤ q by omega), hu, if_neg (by omega)]
theorem W4 {p : Ac} {s : Ag} {held : List Int} (hl : held.length = p.fF.length) : (I4 p s held).length = p.fF.length ∧ ∀ q t, p.fF[q]? = some t → (I4 p s held).getD q 0 = if V3 s t = true then Re .u8 (held.getD q 0) (DC .u8 1 s.fT) else held.getD q 0 := by
 obtain ⟨h1, h2⟩ := TP s p.fF 0 held (by omega)
 refine ⟨h1.trans hl, fun q t ht => ?_⟩
 have := h2 q
 rw [if_pos (Nat.zero_le _), Nat.sub_zero, ht] at this
 exact this
theorem Qs {m : Af} {s v : Nat} : Kb m s v = true ↔ m.fG.getD s 0 = (v : Int) ∨ m.fD.getD s 0 = (v : Int) := by
 unfold Kb; rw [Bool.or_eq_true, decide_eq_true_iff, decide_eq_true_iff]
theorem YR {p : Ac} {m x : Af} (hp : Bk p) (hm : Cl p m) {s : Ag} (hv : HW s = true) (hx : He p s = true) (h : GB p m s = some x) : Cl p x := by
 obtain ⟨k1, k4, i0, v0, vk⟩ := JC hv
 obtain ⟨x3, xn, x1⟩ := Kg hx
 obtain ⟨i, hi⟩ := Int.eq_ofNat_of_zero_le i0
 have hb := hm.base
 have hn := hm.next
 have hh := hm.held
 unfold GB at h
 simp only [hi, Int.toNat_natCast] at h
 rw [hi, Int.toNat_natCast] at x1
 split at h
 ·rename_i hk1
  have hi1 : i < p.fE.length := by have := xn (by omega); omega
  have hx1 := x1 hk1
  have hvi := JX hp hi1
  split at h
  ·cases h
  rename_i hc
  cases h
  obtain ⟨u1, u2⟩ := W4 (s := s) hh
  obtain ⟨b, hbv⟩ := Int.eq_ofNat_of_zero_le v0
  have hob := ZH (b := b) (by omega)
  have hN : ∀ q, (m.fD.set i s.fT).getD q 0 = if q = i then s.fT else m.fD.getD q 0 := fun q => Ko (by omega)
  refine { base := hb, next := by simpa using hn, held := u1, b0 := hm.b0, n0 := fun q hq => ?_, ne := fun q hq => ?_, range := fun q hq => ?_, low := fun q t ht hs v hr => ?_, high := fun q t ht hs v hbit => ?_, none := fun q t ht hs => ?_ }
  ·show -1 ≤ (m.fD.set i s.fT).getD q 0 ∧ (m.fD.set i s.fT).getD q 0 < _
   rw [hN q]
   split
   ·rename_i e; subst e; omega
   ·exact hm.n0 q hq
  ·show m.fG.getD q 0 ≠ (m.fD.set i s.fT).getD q 0
   rw [hN q]
   split
   ·rename_i e; subst e; exact fun h => hc (.inr h)
   ·exact hm.ne q hq
  ·have ht : p.fF[q]? = some p.fF[q] := by simp [hq]
   show 0 ≤ (I4 p s m.fH).getD q 0 ∧ (I4 p s m.fH).getD q 0 ≤ 255
   rw [u2 q _ ht, hbv]
   split
   ·exact (VZ (hm.range q hq) hob.2).2
   ·exact hm.range q hq
  ·have hq := (lI.1 ht).1
   show Fa ((I4 p s m.fH).getD q 0) v = true
   have hin := Ky (hp.tab t (lM ht))
   rw [Qs] at hr
   have hr : m.fG.getD t.fJ.toNat 0 = (v : Int) ∨ (m.fD.set i s.fT).getD t.fJ.toNat 0 = (v : Int) := hr
   rw [hN] at hr
   rw [u2 q t ht, hbv]
   have hlow := hm.low q t ht hs v
   rw [Qs] at hlow
   by_cases hf : t.fJ.toNat = i
   ·have hup : V3 s t = true := by unfold V3; rw [hs, Bool.and_true, beq_iff_eq, hi]; omega
    rw [if_pos hup, (VZ (hm.range q hq) hob.2).1, hob.1 v, Bool.or_eq_true, decide_eq_true_iff]
    rw [if_pos hf] at hr
    rcases hr with h | h
    ·exact .inl (hlow (.inl h))
    ·right; omega
   ·rw [if_neg hf] at hr
    have hup : V3 s t = false := by unfold V3; rw [hs, Bool.and_true, beq_eq_false_iff_ne, hi]; omega
    rw [hup, if_neg (by simp)]
    exact hlow hr
  ·have hq := (lI.1 ht).1
   have hbit : Fa ((I4 p s m.fH).getD q 0) v = true := hbit
   have hin := Ky (hp.tab t (lM ht))
   rw [u2 q t ht, hbv] at hbit
   split at hbit
   ·rename_i hup
    rw [(VZ (hm.range q hq) hob.2).1, hob.1 v, Bool.or_eq_true, decide_eq_true_iff] at hbit
    rcases hbit with h | h
    ·exact hm.high q t ht hs v h
    ·unfold V3 at hup
     rw [hs, Bool.and_true, beq_iff_eq, hi] at hup
     rw [hup, Int.toNat_natCast]; omega
   ·exact hm.high q t ht hs v hbit
  ·show (I4 p s m.fH).getD q 0 = 0
   have hup : V3 s t = false := by unfold V3; rw [hs, Bool.and_false]
   rw [u2 q t ht, hup, if_neg (by simp)]
   exact hm.none q t ht hs
 ·rename_i hk1
  split at h
  ·rename_i hk3
   have hi3 : i < p.fF.length := by have := x3 hk3; omega
   have ht0 : p.fF[i]? = some p.fF[i] := by simp [hi3]
   rw [ht0] at h
   simp only at h
   split at h
   ·cases h
   rename_i hc
   cases h
   have hin0 := Ky (hp.tab _ (lM ht0))
   have hr0 := JL hp hm.toMixServ (s := (p.fF[i]).fJ.toNat) (by omega)
   have hs0 : Cx p.fF[i] = true := by
    cases hs : Cx p.fF[i]
    ·exact (hc (.inl hs)).elim
    ·rfl
   have hH : ∀ q, (m.fH.set i (Iw m (p.fF[i]).fJ.toNat)).getD q 0 = if q = i then Iw m (p.fF[i]).fJ.toNat else m.fH.getD q 0 := fun q => Ko (by omega)
   refine { base := hb, next := hn, held := by simpa using hh, b0 := hm.b0, n0 := hm.n0, ne := hm.ne, range := fun q hq => ?_, low := fun q t ht hs v hr => ?_, high := fun q t ht hs v hbit => ?_, none := fun q t ht hs => ?_ }
   ·show 0 ≤ (m.fH.set i (Iw m (p.fF[i]).fJ.toNat)).getD q 0 ∧ (m.fH.set i (Iw m (p.fF[i]).fJ.toNat)).getD q 0 ≤ 255
    rw [hH q]
    split
    ·exact hr0.2
    ·exact hm.range q hq
   ·show Fa ((m.fH.set i (Iw m (p.fF[i]).fJ.toNat)).getD q 0) v = true
    have hr : Kb m t.fJ.toNat v = true := hr
    rw [hH q]
    split
    ·rename_i e; subst e
     rw [ht0] at ht; cases ht
     rw [hr0.1]; exact hr
    ·exact hm.low q t ht hs v hr
   ·have hbit : Fa ((m.fH.set i (Iw m (p.fF[i]).fJ.toNat)).getD q 0) v = true := hbit
    rw [hH q] at hbit
    split at hbit
    ·rename_i e; subst e
     rw [ht0] at ht; cases ht
     rw [hr0.1] at hbit
     exact hm.high q _ ht0 hs0 v (hm.low q _ ht0 hs0 v hbit)
    ·exact hm.high q t ht hs v hbit
   ·show (m.fH.set i (Iw m (p.fF[i]).fJ.toNat)).getD q 0 = 0
    rw [hH q, if_neg (fun e => by subst e; rw [ht0] at ht; cases ht; rw [hs0] at hs; cases hs)]
    exact hm.none q t ht hs
  ·rename_i hk3
   have hi1 : i < p.fE.length := by have := xn hk3; omega
   have hvi := JX hp hi1
   split at h
   ·cases h
   rename_i hc
   cases h
   have hN : ∀ q, (m.fD.set i (-1)).getD q 0 = if q = i then -1 else m.fD.getD q 0 := fun q => Ko (by omega)
   have hB : ∀ q, (if s.fI = 2 then m.fG.set i (m.fD.getD i 0) else m.fG).getD q 0 = if s.fI = 2 ∧ q = i then m.fD.getD i 0 else m.fG.getD q 0 := fun q => by
    by_cases hk2 : s.fI = 2
    ·rw [if_pos hk2, Ko (by omega)]
     by_cases e : q = i
     ·rw [if_pos e, if_pos ⟨hk2, e⟩]
     ·rw [if_neg e, if_neg (fun h => e h.2)]
    ·rw [if_neg hk2, if_neg (fun h => hk2 h.1)]
   have hrun : ∀ q v, Kb ⟨if s.fI = 2 then m.fG.set i (m.fD.getD i 0) else m.fG, m.fD.set i (-1), m.fH⟩ q v = true → Kb m q v = true := fun q v hr => by
    rw [Qs] at hr ⊢
    simp only [hN q, hB q] at hr
    by_cases e : q = i
    ·subst e
     rw [if_pos rfl] at hr
     by_cases hk2 : s.fI = 2
     ·rw [if_pos ⟨hk2, rfl⟩] at hr; omega
     ·rw [if_neg (fun h => hk2 h.1)] at hr; omega
    ·rw [if_neg e, if_neg (fun h => e h.2)] at hr; exact hr
   refine { base := by simp only; split <;> simp [hb], next := by simpa using hn, held := hh, b0 := fun q hq => ?_, n0 := fun q hq => ?_, ne := fun q hq => ?_, range := hm.range, low := fun q t ht hs v hr => hm.low q t ht hs v (hrun _ _ hr), high := hm.high, none := hm.none }
   ·simp only [hB q]
    split
    ·rename_i e; obtain ⟨_, e⟩ := e; subst e
     have := hm.n0 q hq
     omega
    ·exact hm.b0 q hq
   ·simp only [hN q]
    split
    ·rename_i e; subst e; omega
    ·exact hm.n0 q hq
   ·simp only [hB q, hN q]
    have h1 := hm.b0 q hq
    by_cases e : q = i
    ·rw [if_pos e]
     split
     ·rename_i e2; obtain ⟨_, e2⟩ := e2; subst e2; omega
     ·omega
    ·rw [if_neg e, if_neg (fun h => e h.2)]; exact hm.ne q hq
theorem NY (N : Nat) (hN : N ≤ 1000000) (h20 : 100 ≤ N) {p : Ac} {m : Af} (hw : PN MW m.fH) (s : Ag) : E5 N p m s = some (if GH p m = 0 then A4 p m s else (HB, GH p m)) := by
 unfold E5 A4
 rw [LN N p m hN (by omega)]
 simp only [oS, Bi]
 by_cases hval : GH p m = 0
 ·obtain ⟨hp, hm⟩ := Kq hw hval
  rw [if_pos hval, hval, bne_self_eq_false, Ao, Tf]
  simp only [oS]
  cases hv : HW s
  ·rw [Bool.not_false, AR, if_pos rfl]; rfl
  ·rw [Bool.not_true, Ao, if_neg (by simp)]
   obtain ⟨k1, k4, i0, v0, vk⟩ := JC hv
   have key : ∀ b : Bool, He p s = b → (if b = false then (HB, (4 : Int)) else match GB p m s with | none => (HB, 11) | some x => (x, 0)) = (if b = false then (HB, (4 : Int)) else match GB p m s with | none => (HB, 11) | some x => (x, 0)) := fun _ _ => rfl
   have tail : He p s = true → ((DI N p m s).bind fun v15 => AU (!v15.2) (some (Af.mk [] [] [], (11 : Int))) (some (v15.1, 0))) = some (match GB p m s with | none => (HB, 11) | some x => (x, 0)) := fun hx => by
    rw [OD N hN h20 hp hm hv hx]
    cases GB p m s <;> rfl
   have zz : (Af.mk [] [] [], (4 : Int)) = (HB, 4) := rfl
   by_cases hk3 : s.fI = 3
   ·rw [beq_iff_eq.2 hk3, AR, show (s.fI != 3) = false from by rw [hk3]; rfl]
    have hX : He p s = decide (s.fL < (p.fF.length : Int)) := by unfold He; rw [if_pos hk3]
    by_cases c : (p.fF.length : Int) ≤ s.fL
    ·rw [AC c, AR, hX, decide_eq_false (by omega), if_pos rfl]; rfl
    ·have hx : He p s = true := by rw [hX, decide_eq_true (by omega)]
     rw [Ay c, Ao, Ao, beq_eq_false_iff_ne.2 (show s.fI ≠ 1 by omega), Ao, Ao, hx, if_neg (by simp)]
     exact tail hx
   ·rw [beq_eq_false_iff_ne.2 hk3, Ao, bne_iff_ne.2 hk3, AR]
    have hX : He p s = (decide (s.fL < (p.fE.length : Int)) && (s.fI != 1 || decide (s.fT < p.fE.getD s.fL.toNat 0))) := by unfold He; rw [if_neg hk3]
    by_cases c : (p.fE.length : Int) ≤ s.fL
    ·rw [decide_eq_true c, AR, hX, decide_eq_false (show ¬ s.fL < (p.fE.length : Int) by omega), Bool.false_and, if_pos rfl]; rfl
    ·rw [decide_eq_false c, Ao]
     by_cases hk1 : s.fI = 1
     ·rw [beq_iff_eq.2 hk1, AR, Gj (d := 0) i0 (by omega)]
      simp only [oS]
      by_cases c2 : p.fE.getD s.fL.toNat 0 ≤ s.fT
      ·rw [decide_eq_true c2, AR, hX, decide_eq_false (show ¬ s.fT < p.fE.getD s.fL.toNat 0 by omega), show (s.fI != 1) = false from by rw [hk1]; rfl, Bool.false_or, Bool.and_false, if_pos rfl]; rfl
      ·have hx : He p s = true := by rw [hX, decide_eq_true (by omega), decide_eq_true (by omega), Bool.or_true]; rfl
       rw [decide_eq_false c2, Ao, hx, if_neg (by simp)]
       exact tail hx
     ·have hx : He p s = true := by rw [hX, decide_eq_true (by omega), bne_iff_ne.2 hk1]; rfl
      rw [beq_eq_false_iff_ne.2 hk1, Ao, Ao, hx, if_neg (by simp)]
      exact tail hx
 ·rw [if_neg hval, bne_iff_ne.2 hval, AR]; rfl
theorem Rv (N : Nat) (hN : N ≤ 1000000) (h20 : 100 ≤ N) {p : Ac} {m : Af} (hw : PN MW m.fH) (s : Ag) : ID N p m s = some (if GH p m = 0 then A4 p m s else (HB, GH p m)) := by
 unfold ID
 rw [J7 N p m hN (by omega) hw]
 simp only [oS]
 by_cases hval : GH p m = 0
 ·obtain ⟨hp, hm⟩ := Kq hw hval
  rw [if_pos hval, hval, bne_self_eq_false, Ao, Rt N hN h20 hp hm s]; rfl
 ·rw [if_neg hval, bne_iff_ne.2 hval, AR]; rfl
theorem Lw {p : Ac} {m : Af} (hp : Bk p) (hm : Cl p m) {s : Ag} (h : (A4 p m s).2 = 0) : Cl p (A4 p m s).1 := by
 unfold A4 at h ⊢
 split at h
 ·cases h
 rename_i h1
 rw [if_neg h1]
 split at h
 ·cases h
 rename_i h2
 rw [if_neg h2]
 cases ha : GB p m s with
 | none => rw [ha] at h; cases h
 | some x => exact YR hp hm (by simpa using h1) (by simpa using h2) ha
end Go.Lift
namespace Go.Lift
open IntKind renaming wrap → wI
open Option renaming bind_some → oS
open Go
def Mp (p : Ac) (total : Nat) : List Ag → Nat → Af → Int × Af × Aa × Int
 | [], _, m => if Jk p m = true then (0, HB, OJ, 15) else ((total : Int), HB, OJ, 14)
 | s :: l, i, m => if (A4 p m s).2 ≠ 0 ∨ s.fI = 4 then ((i : Int), HB, OJ, 0) else match Jw p (A4 p m s).1 with
  | some (x, c) => ((i : Int), x, c, 0)
  | none => Mp p total l (i + 1) (A4 p m s).1
def Wt (p : Ac) (l : List Ag) : Int × Af × Aa × Int :=
 if Bo p ≠ 0 then (0, HB, OJ, Bo p) else match Jw p (EA p) with
  | some (x, c) => (-1, x, c, 0)
  | none => Mp p l.length l 0 (EA p)
section
variable {N : Nat} {p : Ac} {l : List Ag}
theorem Nj (hN : N ≤ 1000000) (h20 : 100 ≤ N) (hv : Bo p = 0) (hl : l.length ≤ 1000) : ∀ (n i : Nat) (m : Af), i ≤ l.length → l.length - i < n → Cl p m →
  CZ N p l (fun v4 => (Fp N p v4).bind fun v16 => AU (!v16) (some ((l.length : Int), (Af.mk ([] : List Int) ([] : List Int) ([] : List Int)), (Aa.mk 0 0 0), 14)) (some (0, (Af.mk ([] : List Int) ([] : List Int) ([] : List Int)), (Aa.mk 0 0 0), 15))) n (m.fG, m.fD, m.fH, (i : Int)) = some (Mp p l.length (l.drop i) i m)
 | 0, i, m, _, h, _ => by omega
 | n + 1, i, m, hi, h, hm => by
  obtain ⟨hp, _⟩ := Dt hv
  have hval := I8 hv hm
  rw [CZ]
  by_cases hlt : i < l.length
  ·have hx : l[i]? = some l[i] := by simp [hlt]
   rw [AC (by simp only; omega), Hj hx, Mp]
   simp only [Bi, AW, hx, oS, AB (show i < 1000000 by omega)]
   rw [AC (by omega), NY N hN h20 (LA hm), if_pos hval]
   simp only [oS]
   by_cases h1 : (A4 p m l[i]).2 = 0
   ·rw [h1, bne_self_eq_false, Ao]
    by_cases h2 : l[i].fI = 4
    ·rw [beq_iff_eq.2 h2, AR, if_pos (.inr h2)]; rfl
    ·have hm' := Lw hp hm h1
     rw [beq_eq_false_iff_ne.2 h2, Ao, if_neg (by rintro (h | h); exact h rfl; exact h2 h), N0 N p _ hN h20 (LA hm') (I8 hv hm')]
     unfold Nz
     simp only [oS]
     cases hb : Jw p (A4 p m l[i]).1 with
     | some y => rfl
     | none =>
      have e : ((15 : Int) == 0) = false := rfl
      simp only
      rw [e, Ao]
      exact Nj hN h20 hv hl n (i + 1) _ (by omega) (by omega) hm'
   ·rw [bne_iff_ne.2 h1, AR, AR, if_pos (.inl h1)]; rfl
  ·have hd : l.drop i = [] := List.drop_eq_nil_of_le (by omega)
   rw [Ay (by simp only; omega), hd, Mp, Ul N p _ hN h20 (LA hm)]
   simp only [oS]
   cases Jk p m <;> rfl
theorem TG (hN : N ≤ 1000000) (h20 : 100 ≤ N) (hl : l.length ≤ 1000) (hln : l.length + 1 < N) : Fl N p l = some (Wt p l) := by
 unfold Fl Wt
 rw [OP N p hN h20]
 simp only [oS]
 by_cases hv : Bo p = 0
 ·have hm := Mz hv
  rw [if_pos hv, hv, bne_self_eq_false, Ao, if_neg (by simp)]
  obtain ⟨k, rfl⟩ : ∃ k, N = k + 1 := ⟨N - 1, by omega⟩
  rw [CZ, AC (by simp only; omega)]
  simp only [Bi]
  rw [Ay (by omega), N0 (k + 1) p _ hN h20 (LA hm) (Um hv)]
  unfold Nz
  simp only [oS]
  cases hb : Jw p (EA p) with
  | some y => rfl
  | none =>
   have e : ((15 : Int) == 0) = false := rfl
   simp only
   rw [e, Ao, show wI .i64 ((-1 : Int) + 1) = ((0 : Nat) : Int) from by decide +kernel]
   have := Nj (N := k + 1) (p := p) (l := l) hN h20 hv hl k 0 (EA p) (Nat.zero_le _) (by omega) hm
   rw [List.drop_zero] at this
   exact this
 ·rw [if_neg hv, bne_iff_ne.2 hv, AR, if_pos hv]; rfl
def VN (p : Ac) (l : List Ag) : Bool := (Wt p l).2.2.2 == 15
theorem Ts (hN : N ≤ 1000000) (h20 : 100 ≤ N) (hl : l.length ≤ 1000) (hln : l.length + 1 < N) : E7 N p l = some (VN p l) := by
 unfold E7
 rw [TG hN h20 hl hln]; rfl
end
end Go.Lift
namespace Go.Lift
open Go
theorem XG {α : Type} (l : List α) (i : Nat) : l.eraseIdx i = l.take i ++ l.drop (i + 1) := List.eraseIdx_eq_take_drop_succ ..
def Nq (p : Ac) (m : Af) (s : Ag) : Option Af := if (A4 p m s).2 = 0 ∧ s.fI ≠ 4 ∧ By p (A4 p m s).1 = true then some (A4 p m s).1 else none
def OY (p : Ac) : Af → List Ag → Option Af
 | m, [] => some m
 | m, s :: l => (Nq p m s).bind fun x => OY p x l
def Lv (p : Ac) (m : Af) (l : List Ag) : Bool := match OY p m l with
 | some x => Jk p x
 | none => false
theorem PC (p : Ac) (total : Nat) : ∀ (l : List Ag) (i : Nat) (m : Af), ((Mp p total l i m).2.2.2 == 15) = Lv p m l
 | [], i, m => by
  rw [Mp]
  unfold Lv
  rw [OY]
  cases h : Jk p m
  ·rw [if_neg (by simp)]; exact h.symm
  ·rw [if_pos rfl]; exact h.symm
 | s :: l, i, m => by
  rw [Mp]
  unfold Lv OY Nq By
  by_cases h1 : (A4 p m s).2 ≠ 0 ∨ s.fI = 4
  ·rw [if_pos h1, if_neg (fun h => h1.elim (fun a => a h.1) (fun a => h.2.1 a))]; rfl
  ·rw [if_neg h1]
   have h2 : (A4 p m s).2 = 0 := Decidable.byContradiction fun h => h1 (.inl h)
   have h3 : s.fI ≠ 4 := fun h => h1 (.inr h)
   cases hb : Jw p (A4 p m s).1 with
   | some y => rw [if_neg (fun h => by have := h.2.2; cases this)]; rfl
   | none =>
    rw [if_pos ⟨h2, h3, rfl⟩]
    exact PC p total l (i + 1) _
theorem Xj (p : Ac) (l : List Ag) : VN p l = (decide (Bo p = 0) && (By p (EA p) && Lv p (EA p) l)) := by
 unfold VN Wt By
 by_cases hv : Bo p = 0
 ·rw [if_neg (fun h => h hv), decide_eq_true hv, Bool.true_and]
  cases hb : Jw p (EA p) with
  | some y => rfl
  | none => exact PC p l.length l 0 _
 ·rw [if_pos hv, decide_eq_false hv, Bool.false_and, beq_eq_false_iff_ne]
  rcases I3 p with h | h <;> (simp only; omega)
theorem Xg {p : Ac} {m x : Af} {s : Ag} : Nq p m s = some x ↔ HW s = true ∧ He p s = true ∧ GB p m s = some x ∧ s.fI ≠ 4 ∧ By p x = true := by
 unfold Nq A4
 cases h1 : HW s
 ·simp
 cases h2 : He p s
 ·simp
 cases h3 : GB p m s with
 | none => simp
 | some y =>
  simp only [Bool.true_eq_false, if_false, true_and, Option.some.injEq]
  constructor
  ·intro h
   split at h
   ·rename_i hc; cases h; exact ⟨rfl, hc.1, hc.2⟩
   ·cases h
  ·rintro ⟨rfl, h4, h5⟩
   rw [if_pos ⟨h4, h5⟩]
structure ct (p : Ac) (m x : Af) : Prop where
 base : m.fG = x.fG
 next : m.fD = x.fD
 held : ∀ i, i < p.fF.length → ∀ v, Fa (m.fH.getD i 0) v = true → Fa (x.fH.getD i 0) v = true
theorem ct.refl (p : Ac) (m : Af) : ct p m m := ⟨rfl, rfl, fun _ _ _ h => h⟩
theorem ct.trans {p : Ac} {a b c : Af} (h : ct p a b) (g : ct p b c) : ct p a c := ⟨h.base.trans g.base, h.next.trans g.next, fun i hi v hv => g.held i hi v (h.held i hi v hv)⟩
theorem R1 {p : Ac} {m : Af} {l : List Ag} (h : Lv p m l = true) : ∃ x, OY p m l = some x ∧ Jk p x = true := by
 unfold Lv at h
 cases hr : OY p m l with
 | none => rw [hr] at h; cases h
 | some x => rw [hr] at h; exact ⟨x, rfl, h⟩
end Go.Lift
namespace Go.Lift
open IntKind renaming wrap → wI
open Option renaming bind_some → oS
open List renaming getElem?_eq_some_iff → lI
open List renaming getD_eq_getElem?_getD → lD
open Go
def HM (m : Af) (i : Nat) (b : Int) : List Int := [wI .u8 b, wI .u8 (wI .i64 (m.fD.getD i 0 + 1))]
def Mu (m : Af) : List Int := Cm (HM m) 0 m.fG ++ m.fH
theorem XC (N : Nat) (hN : N ≤ 1000000) (h20 : 100 ≤ N) {p : Ac} {m : Af} (hp : Bk p) (hm : Cl p m) : IU N m = some (Do (Mu m)) := by
 have hnv := hp.nv
 have hnt := hp.nt
 have hb := hm.base
 have hn := hm.next
 have hh := hm.held
 unfold IU
 have e1 : wI .i64 (2 * (m.fG.length : Int)) = 2 * (m.fG.length : Int) := Dy (by omega) (by omega)
 rw [e1, Dy (n := 2 * (m.fG.length : Int) + (m.fH.length : Int)) (by omega) (by omega), Ap ⟨Int.le_refl 0, by omega, by simp only [DU]; omega⟩]
 have l1 := DM (F0 N m fun v3 => EN N m (fun v9 => some (Do v9)) N (v3, 0)) (fun a i => (a, i)) m.fG (fun v3 => EN N m (fun v9 => some (Do v9)) N (v3, 0)) (HM m) 2 100
  (fun i x hx => by simp [HM])
  (fun n i x a hx hl => by
   have hi := (lI.1 hx).1
   rw [F0, AC (by simp only; omega)]
   simp only [AW, hx, oS, AB (show i < 1000000 by omega)]
   have e2 : m.fD[i]? = some (m.fD.getD i 0) := by rw [lD]; simp [show i < m.fD.length by omega]
   rw [e2]
   simp only [oS]
   rw [Ap (by simp [DU]; simp [HM] at hl; omega)]
   rfl)
  (fun n a => by rw [F0, Ay (by simp)]) N [] (by omega) (by simp; omega)
 have l1' : F0 N m (fun v3 => EN N m (fun v9 => some (Do v9)) N (v3, 0)) N (List.replicate (0 : Int).toNat (0 : Int), 0) = _ := l1
 rw [l1', List.nil_append]
 have hfl : (Cm (HM m) 0 m.fG).length ≤ 2 * m.fG.length := Gt fun j x hx => by simp [HM]
 have l2 := DM (EN N m fun v9 => some (Do v9)) (fun a i => (a, i)) m.fH (fun v9 => some (Do v9)) (fun _ x => [x]) 1 100
  (fun i x hx => by simp)
  (fun n i x a hx hl => by
   have hi := (lI.1 hx).1
   rw [EN, AC (by simp only; omega)]
   simp only [AW, hx, oS, AB (show i < 1000000 by omega)]
   rw [Ap (by simp [DU]; simp at hl; omega)])
  (fun n a => by rw [EN, Ay (by simp)]) N (Cm (HM m) 0 m.fG) (by omega) (by omega)
 have e3 : ∀ (i : Nat) (l : List Int), Cm (fun _ (x : Int) => [x]) i l = l := by
  intro i l
  induction l generalizing i with
  | nil => rfl
  | cons x l ih => rw [Cm, ih]; rfl
 refine l2.trans ?_
 rw [e3]; rfl
theorem U5 (xs : List Int) : ∀ b : ByteArray, (xs.foldl (fun s n => s.push (UInt8.ofNat n.toNat)) b).data.toList = b.data.toList ++ xs.map fun n => UInt8.ofNat n.toNat := by
 induction xs with
 | nil => intro b; simp
 | cons x xs ih => intro b; rw [List.foldl_cons, ih]; simp [ByteArray.push]
theorem N2 (xs : List Int) : (Do xs).data.toList = xs.map fun n => UInt8.ofNat n.toNat := by
 unfold Do
 rw [U5]; rfl
theorem bR {a b : Int} (ha : 0 ≤ a ∧ a ≤ 255) (hb : 0 ≤ b ∧ b ≤ 255) (h : UInt8.ofNat a.toNat = UInt8.ofNat b.toNat) : a = b := by
 have := congrArg UInt8.toNat h
 simp at this
 omega
theorem P7 : ∀ {xs ys : List Int}, (∀ x, x ∈ xs → 0 ≤ x ∧ x ≤ 255) → (∀ x, x ∈ ys → 0 ≤ x ∧ x ≤ 255) → (xs.map fun n => UInt8.ofNat n.toNat) = (ys.map fun n => UInt8.ofNat n.toNat) → xs = ys
 | [], [], _, _, _ => rfl
 | [], _ :: _, _, _, h => by cases h
 | _ :: _, [], _, _, h => by cases h
 | x :: xs, y :: ys, hx, hy, h => by
  rw [List.map_cons, List.map_cons, List.cons.injEq] at h
  rw [bR (hx x (by simp)) (hy y (by simp)) h.1, P7 (fun z hz => hx z (List.mem_cons_of_mem _ hz)) (fun z hz => hy z (List.mem_cons_of_mem _ hz)) h.2]
theorem UK {xs ys : List Int} (hx : ∀ x, x ∈ xs → 0 ≤ x ∧ x ≤ 255) (hy : ∀ x, x ∈ ys → 0 ≤ x ∧ x ≤ 255) (h : (Do xs == Do ys) = true) : xs = ys := by
 rw [Li, beq_iff_eq] at h
 have h := congrArg Array.toList h
 rw [N2, N2] at h
 exact P7 hx hy h
theorem S4 (xs : List Int) : (Do xs == Do xs) = true := by rw [Li]; simp
theorem R2 {α β : Type} {g h : Nat → α → List β} {c : Nat} : ∀ {i : Nat} {xs ys : List α}, xs.length = ys.length → (∀ i x, (g i x).length = c) → (∀ i x, (h i x).length = c) → Cm g i xs = Cm h i ys → ∀ j x y, xs[j]? = some x → ys[j]? = some y → g (i + j) x = h (i + j) y
 | i, [], ys, _, _, _, _, j, x, y, hx, _ => by simp at hx
 | i, x :: xs, [], hl, _, _, _, _, _, _, _, _ => by simp at hl
 | i, x :: xs, y :: ys, hl, hg, hh, e, j, x', y', hx, hy => by
  rw [Cm, Cm] at e
  have e1 := List.append_inj e ((hg i x).trans (hh i y).symm)
  cases j with
  | zero => simp at hx hy; subst hx; subst hy; exact e1.1
  | succ j =>
   have := R2 (i := i + 1) (by simpa using hl) hg hh e1.2 j x' y' (by simpa using hx) (by simpa using hy)
   rwa [show i + 1 + j = i + (j + 1) from by omega] at this
theorem RD {p : Ac} {m : Af} (_hp : Bk p) (hm : Cl p m) : ∀ x, x ∈ Mu m → 0 ≤ x ∧ x ≤ 255 := by
 intro x hx
 unfold Mu at hx
 rcases List.mem_append.1 hx with h | h
 ·obtain ⟨j, b, hb, hk⟩ := Gv.1 h
  have hw : ∀ n : Int, 0 ≤ wI .u8 n ∧ wI .u8 n ≤ 255 := fun n => by
   simp [wI, IntKind.signed, IntKind.bits]; omega
  unfold HM at hk
  rcases List.mem_cons.1 hk with e | e
  ·subst e; exact hw _
  ·rcases List.mem_cons.1 e with e | e
   ·subst e; exact hw _
   ·cases e
 ·obtain ⟨j, hj⟩ := List.mem_iff_getElem?.1 h
  have hl := (lI.1 hj).1
  have := hm.range j (by rw [← hm.held]; exact hl)
  rw [lD, hj] at this
  exact this
theorem JG {n : Int} (h : 0 ≤ n ∧ n ≤ 255) : wI .u8 n = n := by
 simp [wI, IntKind.signed, IntKind.bits]; omega
theorem ZY {p : Ac} {m x : Af} (hp : Bk p) (hm : Cl p m) (hx : Cl p x) (h : (Do (Mu m) == Do (Mu x)) = true) : m = x := by
 have e := UK (RD hp hm) (RD hp hx) h
 unfold Mu at e
 have hbl : m.fG.length = x.fG.length := hm.base.trans hx.base.symm
 have hfl : ∀ y : Af, (Cm (HM y) 0 y.fG).length = 2 * y.fG.length := fun y => by
  have : ∀ (i : Nat) (l : List Int), (Cm (HM y) i l).length = 2 * l.length := by
   intro i l
   induction l generalizing i with
   | nil => rfl
   | cons b l ih => rw [Cm, List.length_append, ih, List.length_cons]; simp [HM]; omega
  exact this 0 _
 obtain ⟨e1, e2⟩ := List.append_inj e (by rw [hfl, hfl, hbl])
 have key : ∀ j, j < p.fE.length → m.fG.getD j 0 = x.fG.getD j 0 ∧ m.fD.getD j 0 = x.fD.getD j 0 := fun j hj => by
  have h1 : m.fG[j]? = some (m.fG.getD j 0) := by rw [lD]; simp [hm.base, hj]
  have h2 : x.fG[j]? = some (x.fG.getD j 0) := by rw [lD]; simp [hx.base, hj]
  have h3 := R2 (c := 2) hbl (fun _ _ => by simp [HM]) (fun _ _ => by simp [HM]) e1 j _ _ h1 h2
  rw [Nat.zero_add] at h3
  have v := JX hp hj
  have b1 := hm.b0 j hj
  have b2 := hx.b0 j hj
  have n1 := hm.n0 j hj
  have n2 := hx.n0 j hj
  unfold HM at h3
  rw [Dy (n := m.fD.getD j 0 + 1) (by omega) (by omega), Dy (n := x.fD.getD j 0 + 1) (by omega) (by omega), JG (n := m.fG.getD j 0) (by omega), JG (n := x.fG.getD j 0) (by omega), JG (n := m.fD.getD j 0 + 1) (by omega), JG (n := x.fD.getD j 0 + 1) (by omega), List.cons.injEq, List.cons.injEq] at h3
  exact ⟨h3.1, by omega⟩
 have hB : m.fG = x.fG := G6 hbl fun q hq => (key q (by rw [← hm.base]; exact hq)).1
 have hN : m.fD = x.fD := G6 (hm.next.trans hx.next.symm) fun q hq => (key q (by rw [← hm.next]; exact hq)).2
 cases m; cases x
 simp only at hB hN e2
 rw [hB, hN, e2]
end Go.Lift
namespace Go.Lift
open Option renaming bind_some → oS
open List renaming mem_of_getElem? → lM
open List renaming getElem?_eq_some_iff → lI
open Go
def KQ (i : Nat) (n : Int) : List Ag := (List.range n.toNat).map fun v => ⟨1, (i : Int), ((v : Nat) : Int), ⟩
def E2 (p : Ac) : List Ag := Cm KQ 0 p.fE ++ ((List.range p.fE.length).map fun i => (⟨2, ((i : Nat) : Int), 0⟩ : Ag)) ++ ((List.range p.fF.length).map fun i => (⟨3, ((i : Nat) : Int), 0⟩ : Ag))
def Hb (p : Ac) (m : Af) : List Ag := (E2 p).filter fun s => (A4 p m s).2 == 0
theorem Wf {p : Ac} (hp : Bk p) : (E2 p).length ≤ 54 := by
 have h1 : (Cm KQ 0 p.fE).length ≤ 6 * p.fE.length := Gt fun j x hx => by
  have := hp.ver x (lM hx)
  simp [KQ]; omega
 have := hp.nv
 have := hp.nt
 unfold E2
 simp only [List.length_append, List.length_map, List.length_range]
 omega
theorem Uo (N : Nat) (hN : N ≤ 1000000) (h20 : 100 ≤ N) {p : Ac} (hp : Bk p) : JN N p = some (E2 p) := by
 have hnv := hp.nv
 have hnt := hp.nt
 unfold JN
 have l1 := DM (Ej N p fun v2 => C4 N p (fun v10 => BO N p (fun v14 => some v14) N (v10, 0)) N (v2, 0)) (fun a i => (a, i)) p.fE (fun v2 => C4 N p (fun v10 => BO N p (fun v14 => some v14) N (v10, 0)) N (v2, 0)) KQ 6 100
  (fun i x hx => by have := hp.ver x (lM hx); simp [KQ]; omega)
  (fun n i x a hx hl => by
   have hi := (lI.1 hx).1
   have hx6 := hp.ver x (lM hx)
   obtain ⟨k, hk⟩ := Int.eq_ofNat_of_zero_le (show 0 ≤ x by omega)
   rw [Ej, AC (by simp only; omega)]
   simp only [AW, hx, oS, AB (show i < 1000000 by omega)]
   subst hk
   obtain ⟨a', e, ha⟩ := F8 (FZ N (a, (i : Int)) (k : Int) fun v6 => Ej N p (fun v2 => C4 N p (fun v10 => BO N p (fun v14 => some v14) N (v10, 0)) N (v2, 0)) n (v6, ((i + 1 : Nat) : Int))) (fun b v => (b, v)) k (fun v6 => Ej N p (fun v2 => C4 N p (fun v10 => BO N p (fun v14 => some v14) N (v10, 0)) N (v2, 0)) n (v6, ((i + 1 : Nat) : Int)))
    (fun v b => b = a ++ (List.range v).map fun v => (⟨1, (i : Int), ((v : Nat) : Int)⟩ : Ag))
    (fun n v b hv hb => by
     subst hb
     rw [FZ, AC (by simp only; omega), Ap (by simp [DU]; simp [KQ] at hl; omega), AB (by omega)]
     exact ⟨_, rfl, by rw [List.range_succ, List.map_append, List.append_assoc]; rfl⟩)
    (fun n b hb => by rw [FZ, Ay (by simp)]) N 0 a (Nat.zero_le _) (by omega) (by simp)
   have e' : FZ N (a, (i : Int)) (k : Int) (fun v6 => Ej N p (fun v2 => C4 N p (fun v10 => BO N p (fun v14 => some v14) N (v10, 0)) N (v2, 0)) n (v6, ((i + 1 : Nat) : Int))) N (a, 0) = _ := e
   rw [e', ha]; rfl)
  (fun n a => by rw [Ej, Ay (by simp)]) N [] (by omega) (by simp; omega)
 have l1' : Ej N p (fun v2 => C4 N p (fun v10 => BO N p (fun v14 => some v14) N (v10, 0)) N (v2, 0)) N (([] : List Ag), 0) = _ := l1
 rw [l1', List.nil_append]
 have hA : (Cm KQ 0 p.fE).length ≤ 6 * p.fE.length := Gt fun j x hx => by
  have := hp.ver x (lM hx)
  simp [KQ]; omega
 generalize hAe : Cm KQ 0 p.fE = A at hA
 obtain ⟨b', e2, hb⟩ := F8 (C4 N p fun v10 => BO N p (fun v14 => some v14) N (v10, 0)) (fun b v => (b, v)) p.fE.length (fun v10 => BO N p (fun v14 => some v14) N (v10, 0))
  (fun v b => b = A ++ (List.range v).map fun i => (⟨2, ((i : Nat) : Int), 0⟩ : Ag))
  (fun n v b hv hb => by
   subst hb
   rw [C4, AC (by simp only; omega), Ap (by simp [DU]; omega), AB (by omega)]
   exact ⟨_, rfl, by rw [List.range_succ, List.map_append, List.append_assoc]; rfl⟩)
  (fun n b hb => by rw [C4, Ay (by simp)]) N 0 A (Nat.zero_le _) (by omega) (by simp)
 have e2' : C4 N p (fun v10 => BO N p (fun v14 => some v14) N (v10, 0)) N (A, 0) = _ := e2
 rw [e2', hb]
 generalize hBe : A ++ (List.range p.fE.length).map (fun i => (⟨2, ((i : Nat) : Int), 0⟩ : Ag)) = B
 have hB : B.length ≤ 50 := by rw [← hBe]; simp; omega
 obtain ⟨c', e3, hc⟩ := F8 (BO N p fun v14 => some v14) (fun b v => (b, v)) p.fF.length (fun v14 => some v14)
  (fun v b => b = B ++ (List.range v).map fun i => (⟨3, ((i : Nat) : Int), 0⟩ : Ag))
  (fun n v b hv hb => by
   subst hb
   rw [BO, AC (by simp only; omega), Ap (by simp [DU]; omega), AB (by omega)]
   exact ⟨_, rfl, by rw [List.range_succ, List.map_append, List.append_assoc]; rfl⟩)
  (fun n b hb => by rw [BO, Ay (by simp)]) N 0 B (Nat.zero_le _) (by omega) (by simp)
 have e3' : BO N p (fun v14 => some v14) N (B, 0) = _ := e3
 rw [e3', hc, ← hBe, ← hAe]; rfl
end Go.Lift
namespace Go.Lift
open Option renaming bind_some → oS
open List renaming mem_of_getElem? → lM
open List renaming getElem?_eq_some_iff → lI
open List renaming getD_eq_getElem?_getD → lD
open Go
theorem O0 {p : Ac} (hp : Bk p) {s : Ag} (h : s ∈ E2 p) : HW s = true ∧ He p s = true := by
 have hnv := hp.nv
 unfold E2 at h
 rcases List.mem_append.1 h with h | h
 ·rcases List.mem_append.1 h with h | h
  ·obtain ⟨j, x, hx, hk⟩ := Gv.1 h
   rw [Nat.zero_add] at hk
   unfold KQ at hk
   obtain ⟨v, hv, rfl⟩ := List.mem_map.1 hk
   have hx6 := hp.ver x (lM hx)
   have hv := List.mem_range.1 hv
   have hj := (lI.1 hx).1
   refine ⟨by unfold HW; simp, ?_⟩
   unfold He
   have e : p.fE.getD j 0 = x := by rw [lD, hx]; rfl
   simp only
   rw [if_neg (by omega), decide_eq_true (by omega), Int.toNat_natCast, e, decide_eq_true (by omega), Bool.or_true]; rfl
  ·obtain ⟨v, hv, rfl⟩ := List.mem_map.1 h
   have hv := List.mem_range.1 hv
   refine ⟨by unfold HW; simp, ?_⟩
   unfold He
   simp only
   rw [if_neg (by omega), decide_eq_true (by omega)]; rfl
 ·obtain ⟨v, hv, rfl⟩ := List.mem_map.1 h
  have hv := List.mem_range.1 hv
  refine ⟨by unfold HW; simp, ?_⟩
  unfold He
  simp only
  rw [if_pos trivial, decide_eq_true (by omega)]
theorem YY {p : Ac} {m : Af} {s : Ag} (hv : HW s = true) (hx : He p s = true) : ((A4 p m s).2 == 0) = (GB p m s).isSome := by
 unfold A4
 rw [hv, hx, if_neg (by simp), if_neg (by simp)]
 cases GB p m s <;> rfl
theorem Uj (N : Nat) (hN : N ≤ 1000000) (h20 : 100 ≤ N) {p : Ac} {m : Af} (hp : Bk p) (hm : Cl p m) {s : Ag} (h : s ∈ E2 p) :
  ED N s p.fE p.fK p.fP p.fF m.fG m.fD m.fH = some (!((A4 p m s).2 == 0)) := by
 obtain ⟨hv, hx⟩ := O0 hp h
 unfold ED
 obtain ⟨o, e, _⟩ := Nk N hN h20 hp hm hv hx
 have e' : Hd N ⟨p.fE, p.fK, p.fP, p.fF⟩ ⟨m.fG, m.fD, m.fH⟩ s = some (o, (GB p m s).isSome) := e
 rw [e', YY hv hx]; rfl
theorem Vl (N : Nat) (hN : N ≤ 1000000) (a : List Ag) (f : Ag → Option Bool) (g : Ag → Bool) (h : a.length < N) (hf : ∀ x, x ∈ a → f x = some (g x)) :
  Ch N a f = some ((En (fun i x => if g x = true then some (i : Int) else none) 0 a).getD (-1)) := by
 unfold Ch
 have := Dr (Bd N a f fun _ => some (-1)) a (some (-1)) (fun i x => if g x = true then some (i : Int) else none)
  (fun n i x hx => by
   have hi := (lI.1 hx).1
   rw [Bd, AC (by omega), AW, hx]
   simp only [oS]
   rw [hf x (lM hx), AB (by omega)]
   simp only [oS]
   cases g x <;> rfl)
  (fun n => by rw [Bd, Ay (by simp)]) N 0 (Nat.zero_le _) (by omega)
 refine this.trans ?_
 rw [List.drop_zero]
 cases En (fun i x => if g x = true then some (i : Int) else none) 0 a <;> rfl
theorem Rp {α : Type} {l : List α} {i : Nat} {v : α} (h : i < l.length) : (l.set i v).take (i + 1) = l.take i ++ [v] := by
 rw [List.take_add_one, List.take_set_of_le (Nat.le_refl i)]
 congr 1
 simp [h]
theorem UI (N : Nat) (hN : N ≤ 1000000) (a : List Ag) (f : Ag → Option Bool) (g : Ag → Bool) (h : a.length < N) (h9 : a.length ≤ 1000) (hf : ∀ x, x ∈ a → f x = some (g x)) :
  ∃ X n, Ca N a f = some (n, X) ∧ n ≤ X.length ∧ X.take n = a.filter fun x => !g x := by
 unfold Ca
 rw [Vl N hN a f g h hf]
 simp only [oS]
 cases hs : En (fun i x => if g x = true then some (i : Int) else none) 0 a with
 | none =>
  refine ⟨a, a.length, rfl, Nat.le_refl _, ?_⟩
  rw [List.take_length]
  symm
  rw [List.filter_eq_self]
  intro x hx
  obtain ⟨j, hj⟩ := List.mem_iff_getElem?.1 hx
  have := F7 hs j x hj
  cases hg : g x
  ·rfl
  ·rw [hg] at this; cases this
 | some r =>
  obtain ⟨j, x, hx, hr⟩ := FL hs
  rw [Nat.zero_add] at hr
  split at hr
  ·rename_i hg
   cases hr
   have hj := (lI.1 hx).1
   have e0 : ((some (j : Int)).getD (-1) == (-1 : Int)) = false := beq_eq_false_iff_ne.2 (by simp only [Option.getD_some]; omega)
   rw [e0, Ao]
   simp only [Option.getD_some]
   rw [AB (by omega)]
   -- what lies before the first that goes is kept
   have hpre : (a.take (j + 1)).filter (fun x => !g x) = a.take j := by
    rw [List.take_add_one, hx, List.filter_append]
    have h1 : (a.take j).filter (fun x => !g x) = a.take j := by
     rw [List.filter_eq_self]
     intro y hy
     obtain ⟨q, hq⟩ := List.mem_iff_getElem?.1 hy
     have hql := (lI.1 hq).1
     simp at hql
     rw [List.getElem?_take_of_lt (by omega)] at hq
     cases hgy : g y
     ·rfl
     ·exfalso
      have : ∀ (xs : List Ag) (i j q : Nat) (y : Ag), En (fun i x => if g x = true then some (i : Int) else none) i xs = some ((i + j : Nat) : Int) → q < j → xs[q]? = some y → g y = true → False := by
       intro xs
       induction xs with
       | nil => intro i j q y _ _ hq; simp at hq
       | cons z zs ih =>
        intro i j q y hs hqj hq hgy
        rw [Hf] at hs
        cases hz : g z
        ·rw [hz] at hs
         cases q with
         | zero => simp at hq; subst hq; rw [hz] at hgy; cases hgy
         | succ q =>
          cases j with
          | zero => omega
          | succ j => exact ih (i + 1) j q y (by rw [show i + 1 + j = i + (j + 1) from by omega]; exact hs) (by omega) (by simpa using hq) hgy
        ·rw [hz] at hs
         have hs : (some (i : Int)) = some ((i + j : Nat) : Int) := hs
         have := Option.some.inj hs
         omega
      exact this a 0 j q y (by rw [Nat.zero_add]; exact hs) (by omega) hq hgy
    rw [h1]
    simp [hg]
   obtain ⟨b, e, hb⟩ := F8 (A0 N f fun v4 => (Eo ((0 : Int) ≤ v4.2 ∧ (v4.2).toNat ≤ v4.1.length ∧ v4.1.length ≤ v4.1.length)).bind fun _ =>
     (Eo ((0 : Int) ≤ v4.2 ∧ 0 ≤ (v4.2).toNat ∧ (v4.2).toNat ≤ (HP v4.1 ((v4.2).toNat) (List.replicate ((v4.1.length - (v4.2).toNat)) ((Ag.mk 0 0 0)))).length)).bind fun _ =>
     some ((v4.2).toNat, HP v4.1 ((v4.2).toNat) (List.replicate ((v4.1.length - (v4.2).toNat)) ((Ag.mk 0 0 0)))))
    (fun (b : List Ag × Nat) i => (b.1, ((b.2 : Nat) : Int), i)) a.length (fun b => (Eo ((0 : Int) ≤ ((b.2 : Nat) : Int) ∧ (((b.2 : Nat) : Int)).toNat ≤ b.1.length ∧ b.1.length ≤ b.1.length)).bind fun _ =>
     (Eo ((0 : Int) ≤ ((b.2 : Nat) : Int) ∧ 0 ≤ (((b.2 : Nat) : Int)).toNat ∧ (((b.2 : Nat) : Int)).toNat ≤ (HP b.1 ((((b.2 : Nat) : Int)).toNat) (List.replicate ((b.1.length - (((b.2 : Nat) : Int)).toNat)) ((Ag.mk 0 0 0)))).length)).bind fun _ =>
     some ((((b.2 : Nat) : Int)).toNat, HP b.1 ((((b.2 : Nat) : Int)).toNat) (List.replicate ((b.1.length - (((b.2 : Nat) : Int)).toNat)) ((Ag.mk 0 0 0)))))
    (fun i b => b.1.length = a.length ∧ b.2 ≤ i ∧ b.1.drop i = a.drop i ∧ b.1.take b.2 = (a.take i).filter fun x => !g x)
    (fun n i b hi hb => by
     obtain ⟨b1, b2, b3, b4⟩ := hb
     rw [A0, AC (by simp only; omega)]
     have hai : a[i]? = some a[i] := by simp [hi]
     have hbi : b.1[i]? = some a[i] := by
      have := congrArg (fun l => l[0]?) b3
      simp only [List.getElem?_drop, Nat.add_zero] at this
      rw [this, hai]
     simp only [Bi, AW, hbi, oS]
     rw [hf a[i] (List.getElem_mem hi), AB (i := i) (by omega)]
     simp only [oS]
     have hnext : b.1.drop (i + 1) = a.drop (i + 1) := by
      have := congrArg (List.drop 1) b3
      rwa [List.drop_drop, List.drop_drop] at this
     cases hgi : g a[i]
     ·rw [Bool.not_false, AR]
      have hbj : b.1[b.2]? = some b.1[b.2] := by simp [show b.2 < b.1.length from by omega]
      rw [hbj, AB (i := b.2) (by omega)]
      refine ⟨(b.1.set b.2 a[i], b.2 + 1), rfl, by simpa using b1, by simp only; omega, ?_, ?_⟩
      ·simp only
       rw [List.drop_set_of_lt (by omega), hnext]
      ·simp only
       rw [Rp (by omega), b4, List.take_add_one, hai, List.filter_append]
       simp [hgi]
     ·rw [Bool.not_true, Ao]
      refine ⟨b, rfl, b1, by omega, hnext, ?_⟩
      rw [b4, List.take_add_one, hai, List.filter_append]
      simp [hgi])
    (fun n b hb => by rw [A0, Ay (by simp [hb.1])]) N (j + 1) (a, j) (by omega) (by omega) ⟨rfl, by simp only; omega, rfl, hpre.symm⟩
   obtain ⟨b1, b2, b3, b4⟩ := hb
   have e' : A0 N f (fun v4 => (Eo ((0 : Int) ≤ v4.2 ∧ (v4.2).toNat ≤ v4.1.length ∧ v4.1.length ≤ v4.1.length)).bind fun _ =>
     (Eo ((0 : Int) ≤ v4.2 ∧ 0 ≤ (v4.2).toNat ∧ (v4.2).toNat ≤ (HP v4.1 ((v4.2).toNat) (List.replicate ((v4.1.length - (v4.2).toNat)) ((Ag.mk 0 0 0)))).length)).bind fun _ =>
     some ((v4.2).toNat, HP v4.1 ((v4.2).toNat) (List.replicate ((v4.1.length - (v4.2).toNat)) ((Ag.mk 0 0 0))))) N (a, (j : Int), ((j + 1 : Nat) : Int)) = _ := e
   rw [e']
   have hsl : (HP b.1 b.2 (List.replicate (b.1.length - b.2) (Ag.mk 0 0 0))).length = b.1.length := Hw (by rw [List.length_replicate]; omega)
   simp only [Int.toNat_natCast]
   rw [Ap ⟨by omega, by omega, Nat.le_refl _⟩, Ap ⟨by omega, by omega, by rw [hsl]; omega⟩]
   refine ⟨_, _, rfl, by rw [hsl]; omega, ?_⟩
   unfold HP
   rw [List.append_assoc, List.take_append_of_le_length (by simp; omega), List.take_take, Nat.min_self, b4, List.take_length]
  ·cases hr
theorem Vs (N : Nat) (hN : N ≤ 1000000) (h20 : 100 ≤ N) {p : Ac} {m : Af} (hv : Bo p = 0) (hm : Cl p m) : Hz N p m = some (Hb p m, 0) := by
 obtain ⟨hp, _⟩ := Dt hv
 unfold Hz
 rw [J7 N p m hN (by omega) (LA hm), I8 hv hm]
 simp only [oS, bne_self_eq_false, Ao]
 rw [Uo N hN h20 hp]
 simp only [oS]
 have hl := Wf hp
 obtain ⟨X, n, e, h1, h2⟩ := UI N hN (E2 p) (fun x => ED N x p.fE p.fK p.fP p.fF m.fG m.fD m.fH) (fun s => !((A4 p m s).2 == 0)) (by omega) (by omega) (fun x hx => Uj N hN h20 hp hm hx)
 rw [e]
 simp only [oS]
 rw [Ap h1, h2]
 unfold Hb
 simp
theorem JT {β : Type} (g : Nat → List β) : ∀ n : Nat, Cm (fun i (_ : Nat) => g i) 0 (List.range n) = (List.range n).flatMap g
 | 0 => rfl
 | n + 1 => by rw [List.range_succ, NX, JT g n, List.flatMap_append]; simp [Cm]
def Y9 (p : Ac) (m : Af) (s : Ag) : Bool := (A4 p m s).2 == 0
def gS (p : Ac) (m : Af) (k : Int) (i v : Nat) : List Ag := if Y9 p m ⟨k, (i : Int), (v : Int)⟩ = true then [⟨k, (i : Int), (v : Int)⟩] else []
def bS (p : Ac) (m : Af) (k : Int) (i : Nat) : List Ag := (List.range 6).flatMap (gS p m k i)
def Vi (p : Ac) : Nat := max p.fE.length p.fF.length
def kS (p : Ac) (m : Af) (k : Int) : List Ag := (List.range (Vi p)).flatMap (bS p m k)
theorem ME {β : Type} (f : Nat → β) (q : β → Bool) : ∀ n : Nat, ((List.range n).flatMap fun v => if q (f v) = true then [f v] else []) = ((List.range n).map f).filter q
 | 0 => rfl
 | n + 1 => by
  rw [List.range_succ, List.flatMap_append, ME f q n, List.map_append, List.filter_append]
  cases h : q (f n) <;> simp [h]
theorem MO {β : Type} (g : Nat → List β) (a : Nat) (h : ∀ v, a ≤ v → g v = []) : ∀ n, a ≤ n → (List.range n).flatMap g = (List.range a).flatMap g
 | 0, hn => by rw [Nat.le_zero.1 hn]
 | n + 1, hn => by
  by_cases h1 : a = n + 1
  ·rw [h1]
  ·rw [List.range_succ, List.flatMap_append, MO g a h n (by omega)]
   simp [h n (by omega)]
theorem Yv (p : Ac) (m : Af) (k : Int) (i v : Nat) : (gS p m k i v).length ≤ 1 := by unfold gS; split <;> simp
theorem XJ (p : Ac) (m : Af) (k : Int) (i : Nat) : (bS p m k i).length ≤ 6 := by
 unfold bS
 rw [← JT]
 have := Gt (g := fun i' (_ : Nat) => gS p m k i i') (c := 1) (i := 0) (xs := List.range 6) fun j x _ => Yv p m k i _
 simpa using this
theorem bI {p : Ac} (hp : Bk p) (m : Af) (k : Int) : (kS p m k).length ≤ 72 := by
 have h1 := hp.nv
 have h2 := hp.nt
 unfold kS
 rw [← JT]
 have := Gt (g := fun i' (_ : Nat) => bS p m k i') (c := 6) (i := 0) (xs := List.range (Vi p)) fun j x _ => XJ p m k _
 simp only [List.length_range] at this
 have h3 : Vi p ≤ 12 := by unfold Vi; omega
 omega
theorem bT {p : Ac} {m : Af} {s : Ag} (h : Y9 p m s = true) : HW s = true ∧ He p s = true := by
 unfold Y9 A4 at h
 split at h
 ·cases h
 ·rename_i h1
  split at h
  ·cases h
  ·rename_i h2
   exact ⟨by simpa using h1, by simpa using h2⟩
theorem OU {p : Ac} {m : Af} {k : Int} {i v : Nat} (h : Y9 p m ⟨k, (i : Int), (v : Int)⟩ = true) : (k = 3 → i < p.fF.length) ∧ (k ≠ 3 → i < p.fE.length) ∧ (k = 1 → (v : Int) < p.fE.getD i 0) ∧ (k ≠ 1 → v = 0) := by
 obtain ⟨h1, h2⟩ := bT h
 obtain ⟨a1, a2, a3, a4, a5⟩ := JC h1
 obtain ⟨b1, b2, b3⟩ := Kg h2
 simp only [Int.toNat_natCast] at *
 exact ⟨fun e => by have := b1 e; omega, fun e => by have := b2 e; omega, b3, fun e => by have := a5 e; omega⟩
theorem YS {p : Ac} (hp : Bk p) (m : Af) : kS p m 1 ++ kS p m 2 ++ kS p m 3 = Hb p m := by
 have hnv := hp.nv
 have hnt := hp.nt
 unfold Hb E2
 rw [List.filter_append, List.filter_append]
 have e1 : kS p m 1 = (Cm KQ 0 p.fE).filter fun s => (A4 p m s).2 == 0 := by
  unfold kS
  rw [MO (bS p m 1) p.fE.length (fun i hi => by
   unfold bS
   rw [List.flatMap_eq_nil_iff]
   intro v _
   unfold gS
   rw [if_neg]
   intro h
   have := (OU h).2.1 (by decide)
   omega) (Vi p) (by unfold Vi; omega)]
  have e : ∀ (xs : List Int) (i : Nat), (∀ j x, xs[j]? = some x → 1 ≤ x ∧ x ≤ 6 ∧ p.fE.getD (i + j) 0 = x) → ((List.range xs.length).flatMap fun j => bS p m 1 (i + j)) = (Cm KQ i xs).filter fun s => (A4 p m s).2 == 0 := by
   intro xs
   induction xs with
   | nil => intro i _; rfl
   | cons x xs ih =>
    intro i hx
    rw [List.length_cons, List.range_succ_eq_map, List.flatMap_cons, List.flatMap_map, Cm, List.filter_append]
    have ih' := ih (i + 1) (fun j y hy => by
     have := hx (j + 1) y (by simpa using hy)
     rw [show i + 1 + j = i + (j + 1) from by omega]; exact this)
    have hx0 := hx 0 x rfl
    rw [Nat.add_zero] at hx0
    congr 1
    ·rw [Nat.add_zero]
     unfold bS KQ
     rw [MO (gS p m 1 i) x.toNat (fun v hv => by
      unfold gS
      rw [if_neg]
      intro h
      have := (OU h).2.2.1 rfl
      rw [hx0.2.2] at this
      omega) 6 (by omega)]
     exact ME (fun v => (⟨1, (i : Int), ((v : Nat) : Int)⟩ : Ag)) (Y9 p m) x.toNat
    ·rw [← ih']
     congr 1
     funext j
     rw [show i + (j + 1) = i + 1 + j from by omega]
  have := e p.fE 0 (fun j x hx => by
   have h1 := hp.ver x (lM hx)
   refine ⟨h1.1, h1.2, ?_⟩
   rw [Nat.zero_add, lD, hx]; rfl)
  simp only [Nat.zero_add] at this
  exact this
 have e23 : ∀ (k : Int) (n : Nat), k ≠ 1 → n ≤ Vi p → (∀ i v, Y9 p m ⟨k, ((i : Nat) : Int), ((v : Nat) : Int)⟩ = true → i < n) → kS p m k = (((List.range n).map fun i => (⟨k, ((i : Nat) : Int), 0⟩ : Ag)).filter fun s => (A4 p m s).2 == 0) := by
  intro k n hk hn hi
  unfold kS
  rw [MO (bS p m k) n (fun i hi' => by
   unfold bS
   rw [List.flatMap_eq_nil_iff]
   intro v _
   unfold gS
   rw [if_neg]
   intro h
   have := hi i v h
   omega) (Vi p) hn]
  show _ = List.filter (Y9 p m) _
  rw [← ME (fun i => (⟨k, ((i : Nat) : Int), 0⟩ : Ag)) (Y9 p m) n]
  congr 1
  funext i
  unfold bS
  rw [MO (gS p m k i) 1 (fun v hv => by
   unfold gS
   rw [if_neg]
   intro h
   have := (OU h).2.2.2 hk
   omega) 6 (by omega)]
  simp [gS]
 rw [e1, e23 2 p.fE.length (by decide) (by unfold Vi; omega) (fun i v h => (OU h).2.1 (by decide)), e23 3 p.fF.length (by decide) (by unfold Vi; omega) (fun i v h => (OU h).1 rfl)]
theorem TL (a b : Nat) : Xb (a : Int) (b : Int) = ((max a b : Nat) : Int) := by
 unfold Xb
 omega
theorem Tr (N : Nat) (hN : N ≤ 1000000) (h20 : 100 ≤ N) {p : Ac} {m : Af} (hv : Bo p = 0) (hm : Cl p m) : F1 N p m = some (Hb p m) := by
 obtain ⟨hp, _⟩ := Dt hv
 have hnv := hp.nv
 have hnt := hp.nt
 have hmx : Vi p ≤ 12 := by unfold Vi; omega
 unfold F1
 have hmix := I8 hv hm
 -- one number
 have inn : ∀ (k : Int) (c0 a : List Ag) (i : Nat) (d0 : List Ag) (j : List Ag → Option (List Ag)), a.length ≤ 1000 →
   CS N p m (c0, k) (d0, (i : Int)) j N (a, 0) = j (a ++ bS p m k i) := by
  intro k c0 a i d0 j ha
  have := DM (CS N p m (c0, k) (d0, (i : Int)) j) (fun a i => (a, i)) (List.range 6) j (fun v _ => gS p m k i v) 1 2000
   (fun v x _ => Yv _ _ _ _ _)
   (fun n v x a hx hl => by
    have hi := (lI.1 hx).1
    simp only [List.length_range] at hi
    rw [CS, AC (by simp only; omega)]
    simp only [Bi]
    rw [NY N hN h20 (LA hm), if_pos hmix]
    simp only [oS, AB (show v < 1000000 by omega)]
    unfold gS Y9
    cases hq : (A4 p m ⟨k, (i : Int), (v : Int)⟩).2 == 0
    ·rw [Ao, if_neg (by simp), List.append_nil]
    ·rw [AR, if_pos rfl, Ap (by simp [DU]; unfold gS Y9 at hl; rw [hq] at hl; simp at hl; omega)])
   (fun n a => by rw [CS, Ay (by simp)]) N a (by simp; omega) (by simp; omega)
  rw [JT] at this
  exact this
 have mid : ∀ (k : Int) (c0 a : List Ag) (j : List Ag → Option (List Ag)), a.length ≤ 500 →
   CT N p m (c0, k) j N (a, 0) = j (a ++ kS p m k) := by
  intro k c0 a j ha
  have := DM (CT N p m (c0, k) j) (fun a i => (a, i)) (List.range (Vi p)) j (fun i _ => bS p m k i) 6 900
   (fun v x _ => XJ _ _ _ _)
   (fun n i x a hx hl => by
    have hi := (lI.1 hx).1
    simp only [List.length_range] at hi
    rw [CT, AC (by simp only; rw [TL]; unfold Vi at hi; omega)]
    rw [inn k c0 a i a _ (by omega)]
    simp only [AB (show i < 1000000 by omega)])
   (fun n a => by rw [CT, Ay (by simp [TL, Vi])]) N a (by simp; omega) (by simp; omega)
  rw [JT] at this
  exact this
 have hk := bI hp m
 have go : ∀ (k : Int) (n : Nat) (a : List Ag), k ≤ 3 → 1 ≤ k → a.length ≤ 300 → BQ N p m (fun v2 => some v2) (n + 1) (a, k) = BQ N p m (fun v2 => some v2) n (a ++ kS p m k, k + 1) := by
  intro k n a h1 h2 ha
  rw [BQ, AC h1]
  rw [mid k a a _ (by omega), Dy (by omega) (by omega)]
 obtain ⟨N', hN'⟩ : ∃ q, N = q + 4 := ⟨N - 4, by omega⟩
 have e0 : BQ N p m (fun v2 => some v2) N ([], 1) = BQ N p m (fun v2 => some v2) (N' + 4) ([], 1) := by rw [hN']
 rw [e0, go 1 (N' + 3) [] (by decide) (by decide) (by simp), List.nil_append]
 rw [show (1 : Int) + 1 = 2 from rfl, go 2 (N' + 2) _ (by decide) (by decide) (by have := hk 1; omega)]
 rw [show (2 : Int) + 1 = 3 from rfl, go 3 (N' + 1) _ (by decide) (by decide) (by have h1 := hk 1; have h2 := hk 2; rw [List.length_append]; omega)]
 rw [BQ, Ay (by simp), YS hp]
end Go.Lift
namespace Go.Lift
open List renaming mem_of_getElem? → lM
open List renaming getElem?_eq_some_iff → lI
namespace Bfs
section
variable {α σ : Type}
def code (rk : σ → Nat) (K : Nat) (w : List σ) : Nat := w.foldl (fun c s => c * K + rk s) 0
theorem Kj (rk : σ → Nat) (K : Nat) (w : List σ) (s : σ) : code rk K (w ++ [s]) = code rk K w * K + rk s := by
 simp [code]
theorem UB (rk : σ → Nat) (K : Nat) : code rk K ([] : List σ) = 0 := rfl
def Dig (rk : σ → Nat) (K : Nat) (w : List σ) : Prop := ∀ s, s ∈ w → 1 ≤ rk s ∧ rk s ≤ K
theorem Dig.snoc {rk : σ → Nat} {K : Nat} {w : List σ} {s : σ} (h : Dig rk K w) (hs : 1 ≤ rk s ∧ rk s ≤ K) : Dig rk K (w ++ [s]) := by
 intro x hx; rcases List.mem_append.1 hx with h1 | h1
 ·exact h x h1
 ·rw [List.mem_singleton.1 h1]; exact hs
theorem Wg {c d K a b : Nat} (h : c < d) (_ : 1 ≤ b) (ha : a ≤ K) : c * K + a < d * K + b := by
 have : c * K + K ≤ d * K := by rw [← Nat.succ_mul]; exact Nat.mul_le_mul_right K h
 omega
theorem af {c d K a : Nat} (h : c ≤ d) : c * K + a ≤ d * K + a := Nat.add_le_add_right (Nat.mul_le_mul_right K h) a
theorem list_snoc {β : Type} (l : List β) : l = [] ∨ ∃ u s, l = u ++ [s] := by
 cases h : l.reverse with
 | nil => exact .inl (List.reverse_eq_nil_iff.1 h)
 | cons s r => exact .inr ⟨r.reverse, s, by rw [← List.reverse_cons, ← h, List.reverse_reverse]⟩
abbrev Nd (α σ : Type) := α × Int × σ
def put [DecidableEq α] (i : Nat) (l : List (Nd α σ)) (q : σ × α) : List (Nd α σ) := if (l.any fun n => decide (n.1 = q.2)) = true then l else l ++ [(q.2, (i : Int), q.1)]
def inner [DecidableEq α] (most i : Nat) : List (σ × α) → List (Nd α σ) → Option (List (Nd α σ))
 | [], l => some l
 | q :: qs, l => if most < (put i l q).length then none else inner most i qs (put i l q)
def go [DecidableEq α] (nxt : α → List (σ × α)) (most : Nat) : Nat → Nat → List (Nd α σ) → Option (List (Nd α σ))
 | 0, _, _ => none
 | n + 1, i, l => match l[i]? with
  | none => some l
  | some nd => (inner most i (nxt nd.1) l).bind fun l' => go nxt most n (i + 1) l'
structure Inv (nxt : α → List (σ × α)) (rk : σ → Nat) (K : Nat) (root : α) (i : Nat) (done : List (σ × α)) (l : List (Nd α σ)) (ws : List (List σ)) : Prop where
 len : ws.length = l.length
 root : ∃ s, l[0]? = some (root, -1, s)
 root' : ws[0]? = some []
 par : ∀ (k : Nat) x f s, 0 < k → l[k]? = some (x, f, s) → ∃ (j : Nat) (y : α) (g : Int) (t : σ) (w : List σ), f = (j : Int) ∧ j < k ∧ l[j]? = some (y, g, t) ∧ (s, x) ∈ nxt y ∧ ws[j]? = some w ∧ ws[k]? = some (w ++ [s]) ∧ (j < i ∨ (j = i ∧ (s, x) ∈ done))
 nodup : ∀ (a b : Nat) x f s g t, l[a]? = some (x, f, s) → l[b]? = some (x, g, t) → a = b
 inc : ∀ (a b : Nat) u w, ws[a]? = some u → ws[b]? = some w → a < b → code rk K u < code rk K w
 dig : ∀ (k : Nat) w, ws[k]? = some w → Dig rk K w
 closed : ∀ (j : Nat) x f s w, l[j]? = some (x, f, s) → ws[j]? = some w → ∀ q, (j < i ∧ q ∈ nxt x) ∨ (j = i ∧ q ∈ done) → ∃ (k : Nat) (f' : Int) (s' : σ) (w' : List σ), l[k]? = some (q.2, f', s') ∧ ws[k]? = some w' ∧ code rk K w' ≤ code rk K (w ++ [q.1])
theorem get_app {β : Type} {l : List β} {y x : β} {k : Nat} (h : (l ++ [y])[k]? = some x) : l[k]? = some x ∨ (k = l.length ∧ x = y) := by
 rcases Nat.lt_trichotomy k l.length with h1 | h1 | h1
 ·rw [List.getElem?_append_left h1] at h; exact .inl h
 ·subst h1; simp at h; exact .inr ⟨rfl, h.symm⟩
 ·rw [List.getElem?_eq_none (by simp; omega)] at h; cases h
theorem get_app_of {β : Type} {l : List β} {y x : β} {k : Nat} (h : l[k]? = some x) : (l ++ [y])[k]? = some x := by
 rw [List.getElem?_append_left ((lI.1 h).1)]; exact h
theorem get_app_new {β : Type} {l : List β} {y : β} : (l ++ [y])[l.length]? = some y := by simp
theorem lt_get {β : Type} {l : List β} {k : Nat} {x : β} (h : l[k]? = some x) : k < l.length := (lI.1 h).1
theorem get_ex {β : Type} {l : List β} {k : Nat} (h : k < l.length) : ∃ x, l[k]? = some x := ⟨l[k], List.getElem?_eq_getElem h⟩
theorem Zt [DecidableEq α] {nxt : α → List (σ × α)} {rk : σ → Nat} {K : Nat} {root : α} {i : Nat} {done : List (σ × α)} {l : List (Nd α σ)} {ws : List (List σ)} {x : α} {f : Int} {s : σ} {q : σ × α}
  (hI : Inv nxt rk K root i done l ws) (hx : l[i]? = some (x, f, s)) (hq : q ∈ nxt x) (hd : ∀ r, r ∈ done → rk r.1 < rk q.1) (hr : 1 ≤ rk q.1 ∧ rk q.1 ≤ K) :
  ∃ ws', Inv nxt rk K root i (done ++ [q]) (put i l q) ws' ∧ (∀ (k : Nat) w, ws[k]? = some w → ws'[k]? = some w) ∧ (∀ (k : Nat) n, l[k]? = some n → (put i l q)[k]? = some n) := by
 obtain ⟨w0, hw0⟩ := get_ex (l := ws) (k := i) (by rw [hI.len]; exact lt_get hx)
 unfold put
 by_cases hin : (l.any fun n => decide (n.1 = q.2)) = true
 ·rw [if_pos hin]
  refine ⟨ws, ⟨hI.len, hI.root, hI.root', ?_, hI.nodup, hI.inc, hI.dig, ?_⟩, fun _ _ h => h, fun _ _ h => h⟩
  ·intro k y g t hk hy
   obtain ⟨j, y', g', t', w, h1, h2, h3, h4, h5, h6, h7⟩ := hI.par k y g t hk hy
   exact ⟨j, y', g', t', w, h1, h2, h3, h4, h5, h6, h7.imp id fun h => ⟨h.1, List.mem_append_left _ h.2⟩⟩
  ·intro j y g t w hy hw r hr'
   by_cases hold : (j < i ∧ r ∈ nxt y) ∨ (j = i ∧ r ∈ done)
   ·exact hI.closed j y g t w hy hw r hold
   ·have hjr : j = i ∧ r = q := by
     rcases hr' with h | ⟨h1, h2⟩
     ·exact absurd (.inl h) hold
     ·rcases List.mem_append.1 h2 with h3 | h3
      ·exact absurd (.inr ⟨h1, h3⟩) hold
      ·exact ⟨h1, List.mem_singleton.1 h3⟩
    obtain ⟨rfl, rfl⟩ := hjr
    rw [hw0] at hw; cases hw
    obtain ⟨n, hn1, hn2⟩ := List.any_eq_true.1 hin
    obtain ⟨k, hk⟩ := List.mem_iff_getElem?.1 hn1
    obtain ⟨nx, nf, ns⟩ := n
    have hn2 : nx = r.2 := of_decide_eq_true hn2
    subst hn2
    obtain ⟨wk, hwk⟩ := get_ex (l := ws) (k := k) (by rw [hI.len]; exact lt_get hk)
    refine ⟨k, nf, ns, wk, hk, hwk, ?_⟩
    rw [Kj]
    rcases Nat.eq_zero_or_pos k with rfl | hk0
    ·rw [hI.root'] at hwk; cases hwk; rw [UB]; omega
    ·obtain ⟨j', y', g', t', w, h1, h2, h3, h4, h5, h6, h7⟩ := hI.par k _ _ _ hk0 hk
     rw [h6] at hwk; cases hwk
     rw [Kj]
     have hdg : 1 ≤ rk ns ∧ rk ns ≤ K := hI.dig k _ h6 ns (by simp)
     rcases h7 with h7 | ⟨h7, h8⟩
     ·exact Nat.le_of_lt (Wg (hI.inc _ _ _ _ h5 hw0 h7) hr.1 hdg.2)
     ·subst h7; rw [hw0] at h5; cases h5
      have := hd _ h8
      simp only at this; omega
 ·rw [if_neg hin]
  have hnew : ∀ (k : Nat) y g t, l[k]? = some (y, g, t) → y ≠ q.2 := fun k y g t hy e => hin (List.any_eq_true.2 ⟨_, lM hy, decide_eq_true e⟩)
  have hbig : ∀ (k : Nat) u, ws[k]? = some u → code rk K u < code rk K (w0 ++ [q.1]) := by
   intro k u hu
   rw [Kj]
   obtain ⟨⟨nx, nf, ns⟩, hk⟩ := get_ex (l := l) (k := k) (by rw [← hI.len]; exact lt_get hu)
   rcases Nat.eq_zero_or_pos k with rfl | hk0
   ·rw [hI.root'] at hu; cases hu; rw [UB]; omega
   ·obtain ⟨j', y', g', t', w, h1, h2, h3, h4, h5, h6, h7⟩ := hI.par k _ _ _ hk0 hk
    rw [h6] at hu; cases hu
    rw [Kj]
    have hdg : 1 ≤ rk ns ∧ rk ns ≤ K := hI.dig k _ h6 ns (by simp)
    rcases h7 with h7 | ⟨h7, h8⟩
    ·exact Wg (hI.inc _ _ _ _ h5 hw0 h7) hr.1 hdg.2
    ·subst h7; rw [hw0] at h5; cases h5
     have := hd _ h8
     simp only at this; omega
  refine ⟨ws ++ [w0 ++ [q.1]], ⟨by simp [hI.len], ?_, get_app_of hI.root', ?_, ?_, ?_, ?_, ?_⟩, fun _ _ h => get_app_of h, fun _ _ h => get_app_of h⟩
  ·obtain ⟨s0, hs0⟩ := hI.root; exact ⟨s0, get_app_of hs0⟩
  ·intro k y g t hk hy
   rcases get_app hy with hy | ⟨hk1, hy⟩
   ·obtain ⟨j, y', g', t', w, h1, h2, h3, h4, h5, h6, h7⟩ := hI.par k y g t hk hy
    exact ⟨j, y', g', t', w, h1, h2, get_app_of h3, h4, get_app_of h5, get_app_of h6, h7.imp id fun h => ⟨h.1, List.mem_append_left _ h.2⟩⟩
   ·cases hy
    refine ⟨i, x, f, s, w0, rfl, by rw [hk1]; exact lt_get hx, get_app_of hx, hq, get_app_of hw0, by rw [hk1, ← hI.len]; exact get_app_new, .inr ⟨rfl, by simp⟩⟩
  ·intro a b y g t g' t' ha hb
   rcases get_app ha with ha | ⟨ha1, ha⟩ <;> rcases get_app hb with hb | ⟨hb1, hb⟩
   ·exact hI.nodup a b y g t g' t' ha hb
   ·cases hb; exact absurd rfl (hnew _ _ _ _ ha)
   ·cases ha; exact absurd rfl (hnew _ _ _ _ hb)
   ·omega
  ·intro a b u w ha hb hab
   rcases get_app ha with ha | ⟨ha1, ha⟩ <;> rcases get_app hb with hb | ⟨hb1, hb⟩
   ·exact hI.inc a b u w ha hb hab
   ·rw [hb]; exact hbig _ _ ha
   ·have := lt_get hb; omega
   ·omega
  ·intro k w hw
   rcases get_app hw with hw | ⟨hw1, hw⟩
   ·exact hI.dig k w hw
   ·rw [hw]; exact (hI.dig _ _ hw0).snoc hr
  ·intro j y g t w hy hw r hr'
   rcases get_app hy with hy1 | ⟨hy1, hy2⟩
   ·have hw1 : ws[j]? = some w := by
     rcases get_app hw with h | ⟨h, _⟩
     ·exact h
     ·have := lt_get hy1; rw [← hI.len] at this; omega
    by_cases hold : (j < i ∧ r ∈ nxt y) ∨ (j = i ∧ r ∈ done)
    ·obtain ⟨k, f', s', w', h1, h2, h3⟩ := hI.closed j y g t w hy1 hw1 r hold
     exact ⟨k, f', s', w', get_app_of h1, get_app_of h2, h3⟩
    ·have hjr : j = i ∧ r = q := by
      rcases hr' with h | ⟨h1, h2⟩
      ·exact absurd (.inl h) hold
      ·rcases List.mem_append.1 h2 with h3 | h3
       ·exact absurd (.inr ⟨h1, h3⟩) hold
       ·exact ⟨h1, List.mem_singleton.1 h3⟩
     obtain ⟨rfl, rfl⟩ := hjr
     rw [hw0] at hw1; cases hw1
     exact ⟨l.length, _, _, _, get_app_new, by rw [← hI.len]; exact get_app_new, Nat.le_refl _⟩
   ·have := lt_get hx
    rcases hr' with h | h <;> omega
theorem RF [DecidableEq α] {nxt : α → List (σ × α)} {rk : σ → Nat} {K : Nat} {root : α} {i most : Nat} {x : α} {f : Int} {s : σ} (hP : (nxt x).Pairwise fun a b => rk a.1 < rk b.1) (hD : ∀ q, q ∈ nxt x → 1 ≤ rk q.1 ∧ rk q.1 ≤ K) :
  ∀ (qs done : List (σ × α)) (l l' : List (Nd α σ)) (ws : List (List σ)), done ++ qs = nxt x → Inv nxt rk K root i done l ws → l[i]? = some (x, f, s) → inner most i qs l = some l' →
   ∃ ws', Inv nxt rk K root i (nxt x) l' ws' ∧ (∀ (k : Nat) w, ws[k]? = some w → ws'[k]? = some w) ∧ (∀ (k : Nat) n, l[k]? = some n → l'[k]? = some n)
 | [], done, l, l', ws, he, hI, hx, h => by
  cases h; rw [List.append_nil] at he; subst he; exact ⟨ws, hI, fun _ _ h => h, fun _ _ h => h⟩
 | q :: qs, done, l, l', ws, he, hI, hx, h => by
  have hqm : q ∈ nxt x := by rw [← he]; simp
  have hlt : ∀ r, r ∈ done → rk r.1 < rk q.1 := fun r hr => by
   rw [← he] at hP
   exact (List.pairwise_append.1 hP).2.2 r hr q (by simp)
  obtain ⟨ws1, h1, h2, h3⟩ := Zt hI hx hqm hlt (hD q hqm)
  simp only [inner] at h
  split at h
  ·cases h
  ·obtain ⟨ws2, g1, g2, g3⟩ := RF hP hD qs (done ++ [q]) _ l' ws1 (by rw [List.append_assoc]; exact he) h1 (h3 _ _ hx) h
   exact ⟨ws2, g1, fun k w hw => g2 k w (h2 k w hw), fun k n hn => g3 k n (h3 k n hn)⟩
theorem YK {nxt : α → List (σ × α)} {rk : σ → Nat} {K : Nat} {root : α} {i : Nat} {x : α} {f : Int} {s : σ} {l : List (Nd α σ)} {ws : List (List σ)} (h : Inv nxt rk K root i (nxt x) l ws) (hx : l[i]? = some (x, f, s)) : Inv nxt rk K root (i + 1) [] l ws := by
 refine ⟨h.len, h.root, h.root', ?_, h.nodup, h.inc, h.dig, ?_⟩
 ·intro k y g t hk hy
  obtain ⟨j, y', g', t', w, h1, h2, h3, h4, h5, h6, h7⟩ := h.par k y g t hk hy
  exact ⟨j, y', g', t', w, h1, h2, h3, h4, h5, h6, .inl (by rcases h7 with h7 | h7 <;> omega)⟩
 ·intro j y g t w hy hw r hr
  rcases hr with ⟨h1, h2⟩ | ⟨_, h2⟩
  ·refine h.closed j y g t w hy hw r ?_
   by_cases hj : j < i
   ·exact .inl ⟨hj, h2⟩
   ·have : j = i := by omega
    subst this; rw [hx] at hy; cases hy; exact .inr ⟨rfl, h2⟩
  ·cases h2
theorem inv_go [DecidableEq α] {nxt : α → List (σ × α)} {rk : σ → Nat} {K : Nat} {root : α} {most : Nat} (P : α → Prop) (hP : ∀ x, P x → (nxt x).Pairwise fun a b => rk a.1 < rk b.1) (hD : ∀ x, P x → ∀ q, q ∈ nxt x → (1 ≤ rk q.1 ∧ rk q.1 ≤ K) ∧ P q.2) (hroot : P root) :
  ∀ (n i : Nat) (l l' : List (Nd α σ)) (ws : List (List σ)), i ≤ l.length → Inv nxt rk K root i [] l ws → (∀ (k : Nat) x f s, l[k]? = some (x, f, s) → P x) → go nxt most n i l = some l' → ∃ ws', Inv nxt rk K root l'.length [] l' ws' ∧ (∀ (k : Nat) x f s, l'[k]? = some (x, f, s) → P x)
 | 0, i, l, l', ws, _, _, _, h => by cases h
 | n + 1, i, l, l', ws, hi, hI, hA, h => by
  simp only [go] at h
  split at h
  ·rename_i hn
   cases h
   have : i = l.length := by
    have := List.getElem?_eq_none_iff.1 hn; omega
   subst this
   exact ⟨ws, hI, hA⟩
  ·rename_i nd hn
   obtain ⟨x, f, s⟩ := nd
   cases hin : inner most i (nxt x) l with
   | none => rw [hin] at h; cases h
   | some l1 =>
    rw [hin] at h
    have hx := hA _ _ _ _ hn
    obtain ⟨ws1, h1, h2, h3⟩ := RF (hP x hx) (fun q hq => (hD x hx q hq).1) (nxt x) [] l l1 ws rfl hI hn hin
    have hA1 : ∀ (k : Nat) y g t, l1[k]? = some (y, g, t) → P y := fun k y g t hy => by
     rcases Nat.eq_zero_or_pos k with rfl | hk
     ·obtain ⟨s0, hs0⟩ := h1.root; rw [hs0] at hy; cases hy; exact hroot
     ·obtain ⟨j, y', g', t', w, e1, e2, e3, e4, e5, e6, e7⟩ := h1.par k y g t hk hy
      have hj : P y' := by
       have hjl : j < l.length := by rcases e7 with h | h <;> have := lt_get hn <;> omega
       obtain ⟨⟨z, zf, zs⟩, hz⟩ := get_ex hjl
       have := h3 _ _ hz
       rw [e3] at this; cases this
       exact hA _ _ _ _ hz
      exact (hD y' hj _ e4).2
    exact inv_go P hP hD hroot n (i + 1) l1 l' ws1 (by have := lt_get (h3 _ _ hn); omega) (YK h1 (h3 _ _ hn)) hA1 h
theorem inv_start {nxt : α → List (σ × α)} {rk : σ → Nat} {K : Nat} {root : α} {s : σ} : Inv nxt rk K root 0 [] [(root, -1, s)] [[]] := by
 refine ⟨rfl, ⟨s, rfl⟩, rfl, ?_, ?_, ?_, ?_, ?_⟩
 ·intro k x f s hk h; rw [List.getElem?_eq_none (by simp; omega)] at h; cases h
 ·intro a b x f s g t ha hb; have := lt_get ha; have := lt_get hb; simp at *; omega
 ·intro a b u w ha hb hab; have := lt_get hb; simp at this; omega
 ·intro k w hw
  have := lt_get hw; simp at this; subst this; simp at hw; subst hw
  intro s hs; cases hs
 ·intro j x f s w _ _ q h
  rcases h with h | h
  ·omega
  ·cases h.2
def run (nxt : α → List (σ × α)) (x : α) : List σ → α → Prop
 | [], y => y = x
 | s :: w, y => ∃ z, (s, z) ∈ nxt x ∧ run nxt z w y
theorem Ht {nxt : α → List (σ × α)} : ∀ {u w : List σ} {x y : α}, run nxt x (u ++ w) y ↔ ∃ z, run nxt x u z ∧ run nxt z w y
 | [], w, x, y => by simp [run]
 | s :: u, w, x, y => by
  simp only [List.cons_append, run]
  constructor
  ·rintro ⟨z, h1, h2⟩
   obtain ⟨z', h3, h4⟩ := Ht.1 h2
   exact ⟨z', ⟨z, h1, h3⟩, h4⟩
  ·rintro ⟨z', ⟨z, h1, h3⟩, h4⟩
   exact ⟨z, h1, Ht.2 ⟨z', h3, h4⟩⟩
theorem way_run {nxt : α → List (σ × α)} {rk : σ → Nat} {K : Nat} {root : α} {i : Nat} {l : List (Nd α σ)} {ws : List (List σ)} (h : Inv nxt rk K root i [] l ws) : ∀ (n k : Nat) {x : α} {f : Int} {s : σ} {w : List σ}, k < n → l[k]? = some (x, f, s) → ws[k]? = some w → run nxt root w x
 | 0, k, _, _, _, _, hk, _, _ => by omega
 | n + 1, k, x, f, s, w, hk, hx, hw => by
  rcases Nat.eq_zero_or_pos k with rfl | hk0
  ·obtain ⟨s0, hs0⟩ := h.root; rw [hs0] at hx; cases hx
   rw [h.root'] at hw; cases hw; rfl
  ·obtain ⟨j, y', g', t', w', e1, e2, e3, e4, e5, e6, e7⟩ := h.par k _ _ _ hk0 hx
   rw [e6] at hw; cases hw
   exact Ht.2 ⟨y', way_run h n j (by omega) e3 e5, x, e4, rfl⟩
theorem reach_node {nxt : α → List (σ × α)} {rk : σ → Nat} {K : Nat} {root : α} {l : List (Nd α σ)} {ws : List (List σ)} (h : Inv nxt rk K root l.length [] l ws) : ∀ (n : Nat) {w : List σ} {y : α}, w.length = n → run nxt root w y → ∃ (k : Nat) (f : Int) (s : σ) (u : List σ), l[k]? = some (y, f, s) ∧ ws[k]? = some u ∧ code rk K u ≤ code rk K w
 | 0, w, y, hn, hr => by
  rw [List.length_eq_zero_iff.1 hn] at hr ⊢
  simp only [run] at hr; subst hr
  obtain ⟨s, hs⟩ := h.root
  exact ⟨0, _, _, _, hs, h.root', Nat.le_refl _⟩
 | n + 1, w, y, hn, hr => by
  rcases list_snoc w with rfl | ⟨w', s, rfl⟩
  ·simp at hn
  obtain ⟨z, h1, h2⟩ := Ht.1 hr
  simp only [run] at h2
  obtain ⟨z', h2, rfl⟩ := h2
  simp only [List.length_append, List.length_singleton] at hn
  obtain ⟨k, f, t, u, g1, g2, g3⟩ := reach_node h n (by omega) h1
  obtain ⟨k', f', s', u', e1, e2, e3⟩ := h.closed k z f t u g1 g2 (s, y) (.inl ⟨lt_get g1, h2⟩)
  refine ⟨k', f', s', u', e1, e2, Nat.le_trans e3 ?_⟩
  rw [Kj, Kj]
  exact af g3
theorem QR [DecidableEq α] {most more i : Nat} (hm : most ≤ more) : ∀ (qs : List (σ × α)) (l l' : List (Nd α σ)), inner most i qs l = some l' → inner more i qs l = some l'
 | [], l, l', h => h
 | q :: qs, l, l', h => by
  simp only [inner] at h ⊢
  split at h
  ·cases h
  ·rw [if_neg (by omega)]; exact QR hm qs _ _ h
theorem go_more [DecidableEq α] {nxt : α → List (σ × α)} {most more : Nat} (hm : most ≤ more) : ∀ (n m i : Nat) (l l' : List (Nd α σ)), n ≤ m → go nxt most n i l = some l' → go nxt more m i l = some l'
 | 0, m, i, l, l', _, h => by cases h
 | n + 1, m, i, l, l', hnm, h => by
  obtain ⟨m, rfl⟩ : ∃ k, m = k + 1 := ⟨m - 1, by omega⟩
  simp only [go] at h ⊢
  cases hl : l[i]? with
  | none => rw [hl] at h; exact h
  | some nd =>
   rw [hl] at h
   simp only at h ⊢
   cases hin : inner most i (nxt nd.1) l with
   | none => rw [hin] at h; cases h
   | some l1 =>
    rw [hin] at h
    rw [QR hm _ _ _ hin]
    exact go_more hm n m (i + 1) l1 l' (by omega) h
theorem inner_len [DecidableEq α] {most i : Nat} : ∀ (qs : List (σ × α)) (l l' : List (Nd α σ)), l.length ≤ most → inner most i qs l = some l' → l'.length ≤ most
 | [], l, l', h0, h => by cases h; exact h0
 | q :: qs, l, l', h0, h => by
  simp only [inner] at h
  split at h
  ·cases h
  ·exact inner_len qs _ _ (by omega) h
theorem go_len [DecidableEq α] {nxt : α → List (σ × α)} {most : Nat} : ∀ (n i : Nat) (l l' : List (Nd α σ)), l.length ≤ most → go nxt most n i l = some l' → l'.length ≤ most
 | 0, i, l, l', _, h => by cases h
 | n + 1, i, l, l', h0, h => by
  simp only [go] at h
  split at h
  ·cases h; exact h0
  ·rename_i nd hn
   cases hin : inner most i (nxt nd.1) l with
   | none => rw [hin] at h; cases h
   | some l1 => rw [hin] at h; exact go_len n (i + 1) l1 l' (inner_len _ _ _ h0 hin) h
end
end Bfs
end Go.Lift
namespace Go.Lift
open IntKind renaming wrap → wI
open Option renaming bind_some → oS
open List renaming mem_of_getElem? → lM
open List renaming getElem?_eq_some_iff → lI
open List renaming getD_eq_getElem?_getD → lD
open Go
theorem U1 : ∀ {l : List Int}, ck l = 0 → ∀ x, x ∈ l → x = 0
 | [], _, x, hx => by cases hx
 | y :: ys, h, x, hx => by
  unfold ck at h
  split at h
  ·rename_i hy
   rcases List.mem_cons.1 hx with rfl | hx
   ·exact hy
   ·exact U1 h x hx
  ·rename_i hy; exact absurd h hy
theorem Sr {a b : Af} (h : Vd a b = 0) : a = b := by
 have := U1 h
 have h1 := PV _ _ (this (J9 a.fG b.fG) (by simp))
 have h2 := PV _ _ (this (J9 a.fD b.fD) (by simp))
 have h3 := PV _ _ (this (J9 a.fH b.fH) (by simp))
 cases a; cases b; simp only at h1 h2 h3; subst h1; subst h2; subst h3; rfl
instance fq : DecidableEq Af := fun a b => if h : Vd a b = 0 then isTrue (Sr h) else isFalse (fun e => h (by rw [e]; exact R4 b))
theorem XI (a b : Af) : (Vd a b == 0) = decide (a = b) := by
 by_cases h : a = b
 ·rw [decide_eq_true h, h, R4]; rfl
 ·rw [decide_eq_false h]
  exact beq_eq_false_iff_ne.2 fun e => h (Sr e)
def R6 (p : Ac) (m : Af) (ss : List Ag) : List (Ag × Af) := ss.filterMap fun s => if By p (A4 p m s).1 = true then some (s, (A4 p m s).1) else none
def JP (p : Ac) (m : Af) : List (Ag × Af) := R6 p m (Hb p m)
def NV (s : Ag) : Nat := if s.fI = 1 then 1 + 8 * s.fL.toNat + s.fT.toNat else if s.fI = 2 then 60 + s.fL.toNat else 70 + s.fL.toNat
theorem Ji {p : Ac} {m : Af} {s : Ag} (h : s ∈ Hb p m) : s ∈ E2 p ∧ (A4 p m s).2 = 0 := by
 unfold Hb at h
 have := List.mem_filter.1 h
 exact ⟨this.1, by simpa using this.2⟩
theorem PY {p : Ac} {m : Af} {ss : List Ag} {q : Ag × Af} : q ∈ R6 p m ss ↔ q.1 ∈ ss ∧ q.2 = (A4 p m q.1).1 ∧ By p q.2 = true := by
 unfold R6
 rw [List.mem_filterMap]
 constructor
 ·rintro ⟨s, h1, h2⟩
  split at h2
  ·rename_i h3; cases h2; exact ⟨h1, rfl, h3⟩
  ·cases h2
 ·rintro ⟨h1, h2, h3⟩
  refine ⟨q.1, h1, ?_⟩
  rw [← h2, if_pos h3]
theorem OS {p : Ac} {m : Af} {q : Ag × Af} : q ∈ JP p m ↔ q.1 ∈ Hb p m ∧ q.2 = (A4 p m q.1).1 ∧ By p q.2 = true := PY
theorem VP {p : Ac} {m : Af} (hp : Bk p) (hm : Cl p m) {q : Ag × Af} (h : q ∈ JP p m) : Cl p q.2 ∧ By p q.2 = true := by
 obtain ⟨h1, h2, h3⟩ := OS.1 h
 exact ⟨by rw [h2]; exact Lw hp hm (Ji h1).2, h3⟩
theorem P4 {p : Ac} (hp : Bk p) {s : Ag} (h : s ∈ E2 p) : s.fI ≤ 3 ∧ 1 ≤ NV s ∧ NV s ≤ 100 := by
 obtain ⟨h1, h2⟩ := O0 hp h
 obtain ⟨a1, a2, a3, a4, a5⟩ := JC h1
 obtain ⟨b1, b2, b3⟩ := Kg h2
 have hnv := hp.nv
 have hnt := hp.nt
 have hk : s.fI ≤ 3 := by
  unfold E2 at h
  rcases List.mem_append.1 h with h | h
  ·rcases List.mem_append.1 h with h | h
   ·obtain ⟨j, x, hx, hk⟩ := Gv.1 h
    unfold KQ at hk
    obtain ⟨v, hv, rfl⟩ := List.mem_map.1 hk
    exact (by decide : (1 : Int) ≤ 3)
   ·obtain ⟨v, hv, rfl⟩ := List.mem_map.1 h
    exact (by decide : (2 : Int) ≤ 3)
  ·obtain ⟨v, hv, rfl⟩ := List.mem_map.1 h
   exact (by decide : (3 : Int) ≤ 3)
 refine ⟨hk, ?_⟩
 unfold NV
 by_cases h1 : s.fI = 1
 ·rw [if_pos h1]
  have := b2 (by omega)
  have h3 := b3 h1
  have h4 := (JX hp (i := s.fL.toNat) (by omega)).2
  omega
 ·rw [if_neg h1]
  by_cases h2 : s.fI = 2
  ·rw [if_pos h2]
   have := b2 (by omega)
   omega
  ·rw [if_neg h2]
   have := b1 (by omega)
   omega
theorem Zj (i : Nat) (n : Int) : (KQ i n).Pairwise fun a b => NV a < NV b := by
 unfold KQ
 rw [List.pairwise_map]
 refine List.Pairwise.imp ?_ List.pairwise_lt_range
 intro a b h
 simp [NV]; omega
theorem Ze {p : Ac} (hp : Bk p) : (E2 p).Pairwise fun a b => NV a < NV b := by
 have hnv := hp.nv
 have hnt := hp.nt
 have e1 : ∀ (xs : List Int) (i : Nat), (∀ x, x ∈ xs → x ≤ 6) → (Cm KQ i xs).Pairwise fun a b => NV a < NV b := by
  intro xs
  induction xs with
  | nil => intro i _; exact List.Pairwise.nil
  | cons x xs ih =>
   intro i hx
   rw [Cm, List.pairwise_append]
   refine ⟨Zj i x, ih (i + 1) fun y hy => hx y (List.mem_cons_of_mem _ hy), ?_⟩
   intro a ha b hb
   unfold KQ at ha
   obtain ⟨v, hv, rfl⟩ := List.mem_map.1 ha
   obtain ⟨j, y, hy, hb⟩ := Gv.1 hb
   unfold KQ at hb
   obtain ⟨w, hw, rfl⟩ := List.mem_map.1 hb
   have := hx x (by simp)
   have := List.mem_range.1 hv
   simp [NV]; omega
 unfold E2
 rw [List.pairwise_append, List.pairwise_append]
 refine ⟨⟨e1 _ 0 fun x hx => (hp.ver x hx).2, ?_, ?_⟩, ?_, ?_⟩
 ·rw [List.pairwise_map]
  refine List.Pairwise.imp ?_ List.pairwise_lt_range
  intro a b h
  simp [NV]; omega
 ·intro a ha b hb
  obtain ⟨w, hw, rfl⟩ := List.mem_map.1 hb
  obtain ⟨j, y, hy, ha⟩ := Gv.1 ha
  unfold KQ at ha
  obtain ⟨v, hv, rfl⟩ := List.mem_map.1 ha
  have := List.mem_range.1 hv
  have := (hp.ver y (lM hy)).2
  have := (lI.1 hy).1
  simp [NV]; omega
 ·rw [List.pairwise_map]
  refine List.Pairwise.imp ?_ List.pairwise_lt_range
  intro a b h
  simp [NV]; omega
 ·intro a ha b hb
  obtain ⟨w, hw, rfl⟩ := List.mem_map.1 hb
  have hw := List.mem_range.1 hw
  rcases List.mem_append.1 ha with ha | ha
  ·obtain ⟨j, y, hy, ha⟩ := Gv.1 ha
   unfold KQ at ha
   obtain ⟨v, hv, rfl⟩ := List.mem_map.1 ha
   have := List.mem_range.1 hv
   have := (hp.ver y (lM hy)).2
   have := (lI.1 hy).1
   simp [NV]; omega
  ·obtain ⟨v, hv, rfl⟩ := List.mem_map.1 ha
   have := List.mem_range.1 hv
   simp [NV]; omega
theorem bo {p : Ac} {m : Af} {ss : List Ag} (h : ss.Pairwise fun a b => NV a < NV b) : (R6 p m ss).Pairwise fun a b => NV a.1 < NV b.1 := by
 unfold R6
 rw [List.pairwise_filterMap]
 refine List.Pairwise.imp ?_ h
 intro a b hab x hx y hy
 split at hx
 ·cases hx
  split at hy
  ·cases hy; exact hab
  ·cases hy
 ·cases hx
theorem bV {p : Ac} (hp : Bk p) (m : Af) : (JP p m).Pairwise fun a b => NV a.1 < NV b.1 := bo ((Ze hp).filter _)
theorem ZO {p : Ac} {s : Ag} (hv : HW s = true) (hx : He p s = true) (hk : s.fI ≠ 4) : s ∈ E2 p := by
 obtain ⟨a1, a2, a3, a4, a5⟩ := JC hv
 obtain ⟨b1, b2, b3⟩ := Kg hx
 obtain ⟨k, i, v⟩ := s
 simp only at *
 unfold E2
 obtain ⟨i, rfl⟩ := Int.eq_ofNat_of_zero_le a3
 by_cases h1 : k = 1
 ·subst h1
  have h2 := b2 (by decide)
  have h3 := b3 rfl
  obtain ⟨v, rfl⟩ := Int.eq_ofNat_of_zero_le a4
  refine List.mem_append_left _ (List.mem_append_left _ (Gv.2 ⟨i, p.fE.getD i 0, ?_, ?_⟩))
  ·rw [lD]
   have hi : i < p.fE.length := by omega
   simp [hi]
  ·unfold KQ
   refine List.mem_map.2 ⟨v, List.mem_range.2 ?_, by simp⟩
   simp only [Int.toNat_natCast] at h3
   omega
 ·have hv0 := a5 h1
  subst hv0
  by_cases h2 : k = 2
  ·subst h2
   have := b2 (by decide)
   exact List.mem_append_left _ (List.mem_append_right _ (List.mem_map.2 ⟨i, List.mem_range.2 (by omega), rfl⟩))
  ·have h3 : k = 3 := by omega
   subst h3
   have := b1 rfl
   exact List.mem_append_right _ (List.mem_map.2 ⟨i, List.mem_range.2 (by omega), rfl⟩)
theorem RW {p : Ac} {m x : Af} {s : Ag} : Nq p m s = some x → (s, x) ∈ JP p m := by
 intro h
 obtain ⟨h1, h2, h3, h4, h5⟩ := Xg.1 h
 unfold Nq at h
 split at h
 ·rename_i h6
  cases h
  refine OS.2 ⟨?_, rfl, h6.2.2⟩
  unfold Hb
  exact List.mem_filter.2 ⟨ZO h1 h2 h4, by simpa using h6.1⟩
 ·cases h
theorem W5 {p : Ac} (hp : Bk p) {m x : Af} {s : Ag} (h : (s, x) ∈ JP p m) : Nq p m s = some x := by
 obtain ⟨h1, h2, h3⟩ := OS.1 h
 have h1 : s ∈ Hb p m := h1
 obtain ⟨h4, h5⟩ := Ji h1
 have := (P4 hp h4).1
 have h2 : x = (A4 p m s).1 := h2
 have h3 : By p x = true := h3
 unfold Nq
 rw [if_pos ⟨h5, by omega, by rw [← h2]; exact h3⟩, h2]
theorem Or {p : Ac} (hp : Bk p) : ∀ {w : List Ag} {m x : Af}, OY p m w = some x ↔ Bfs.run (JP p) m w x
 | [], m, x => by simp only [OY, Bfs.run, Option.some.injEq]; exact eq_comm
 | s :: w, m, x => by
  simp only [OY, Bfs.run]
  constructor
  ·intro h
   cases hs : Nq p m s with
   | none => rw [hs] at h; cases h
   | some z => rw [hs] at h; exact ⟨z, RW hs, (Or hp).1 h⟩
  ·rintro ⟨z, h1, h2⟩
   rw [W5 hp h1]
   exact (Or hp).2 h2
abbrev KN := Bfs.Nd Af Ag
def Me (n : KN) : AK := ⟨n.1, n.2.1, n.2.2⟩
def Nl : Ag := ⟨0, 0, 0⟩
theorem XW {N : Nat} {p : Ac} {a b : Af} (hN : N ≤ 1000000) (h20 : 100 ≤ N) (hp : Bk p) (ha : Cl p a) (hb : Cl p b) : zFS N a b = some (decide (a = b)) := by
 have hnv := hp.nv
 have hnt := hp.nt
 unfold zFS
 rw [T7 hN (by rw [ha.base]; omega) (by rw [ha.next]; omega) (by rw [ha.held]; omega) (by rw [hb.held]; omega) (LA ha) (LA hb)]
 simp only [oS]
 rw [XI]
theorem Un {N : Nat} (hN : N ≤ 1000000) (h20 : 100 ≤ N) {p : Ac} (hp : Bk p) {x : Af} (hx : Cl p x) {l : List KN} (hl : l.length < N) (hA : ∀ n, n ∈ l → Cl p n.1) :
  ∃ r, Fq N (l.map Me) x = some r ∧ decide (r < 0) = !(l.any fun n => decide (n.1 = x)) := by
 unfold Fq
 have := Dr (C7 N (l.map Me) x fun _ => some (-1)) l (some (-1)) (fun i n => if n.1 = x then some (i : Int) else none)
  (fun n i nd hnd => by
   have hi := (lI.1 hnd).1
   rw [C7, AC (by rw [List.length_map]; omega), AW, List.getElem?_map, hnd]
   simp only [Option.map_some, oS, Me]
   have e := XW hN h20 hp (hA nd (lM hnd)) hx
   rw [show (Af.mk nd.1.fG nd.1.fD nd.1.fH) = nd.1 from rfl, e, AB (by omega)]
   simp only [oS]
   by_cases h : nd.1 = x
   ·rw [decide_eq_true h, if_pos h]; rfl
   ·rw [decide_eq_false h, if_neg h]; rfl)
  (fun n => by rw [C7, Ay (by simp)]) N 0 (Nat.zero_le _) (by omega)
 have e' : C7 N (l.map Me) x (fun _ => some (-1)) N 0 = _ := this
 rw [e', List.drop_zero]
 cases hs : En (fun i (n : KN) => if n.1 = x then some (i : Int) else none) 0 l with
 | none =>
  refine ⟨_, rfl, ?_⟩
  have : (l.any fun n => decide (n.1 = x)) = false := by
   rw [List.any_eq_false]
   intro n hn
   obtain ⟨j, hj⟩ := List.mem_iff_getElem?.1 hn
   have := F7 hs j n hj
   split at this
   ·cases this
   ·rename_i h; simpa using h
  rw [this]; rfl
 | some r =>
  refine ⟨_, rfl, ?_⟩
  obtain ⟨j, n, hj, hr⟩ := FL hs
  split at hr
  ·rename_i h
   cases hr
   have : (l.any fun n => decide (n.1 = x)) = true := List.any_eq_true.2 ⟨n, lM hj, decide_eq_true h⟩
   rw [this]
   exact decide_eq_false (by omega)
  ·cases hr
theorem Uk {i : Nat} {l : List KN} {q : Ag × Af} {k : Nat} {n : KN} (h : l[k]? = some n) : (Bfs.put i l q)[k]? = some n := by
 unfold Bfs.put
 split
 ·exact h
 ·exact Bfs.get_app_of h
theorem Wd {i : Nat} {l : List KN} {q : Ag × Af} {n : KN} (h : n ∈ Bfs.put i l q) : n ∈ l ∨ n.1 = q.2 := by
 unfold Bfs.put at h
 split at h
 ·exact .inl h
 ·rcases List.mem_append.1 h with h | h
  ·exact .inl h
  ·rw [List.mem_singleton.1 h]; exact .inr rfl
theorem UP {p : Ac} {m : Af} {s : Ag} {ss : List Ag} : R6 p m (s :: ss) = if By p (A4 p m s).1 = true then (s, (A4 p m s).1) :: R6 p m ss else R6 p m ss := by
 unfold R6
 rw [List.filterMap_cons]
 split <;> rename_i h
 ·split at h
  ·cases h
  ·rename_i h2; rw [if_neg h2]
 ·split at h
  ·rename_i h2; cases h; rw [if_pos h2]
  ·cases h
theorem LM {p : Ac} {most i : Nat} : ∀ {qs : List (Ag × Af)} {l l' : List KN}, Bfs.inner most i qs l = some l' → (∀ q, q ∈ qs → Cl p q.2 ∧ By p q.2 = true) → (∀ n, n ∈ l → Cl p n.1 ∧ By p n.1 = true) → (∀ n, n ∈ l' → Cl p n.1 ∧ By p n.1 = true) ∧ (∀ (k : Nat) n, l[k]? = some n → l'[k]? = some n)
 | [], l, l', h, _, hA => by cases h; exact ⟨hA, fun _ _ h => h⟩
 | q :: qs, l, l', h, hq, hA => by
  simp only [Bfs.inner] at h
  split at h
  ·cases h
  ·obtain ⟨h1, h2⟩ := LM h (fun q hq' => hq q (List.mem_cons_of_mem _ hq')) (fun n hn => by
    rcases Wd hn with h | h
    ·exact hA n h
    ·rw [h]; exact hq q (by simp))
   exact ⟨h1, fun k n hn => h2 k n (Uk hn)⟩
theorem Sx (N : Nat) (hN : N ≤ 1000000) (h20 : 100 ≤ N) {p : Ac} {m : Af} (hp : Bk p) (hm : Cl p m) {s : Ag} (hs : s ∈ Hb p m) : ∃ b, DI N p m s = some ((A4 p m s).1, b) := by
 obtain ⟨h1, h2⟩ := Ji hs
 obtain ⟨h3, h4⟩ := O0 hp h1
 rw [OD N hN h20 hp hm h3 h4]
 unfold A4 at h2 ⊢
 rw [h3, h4, if_neg (by simp), if_neg (by simp)] at h2 ⊢
 cases h : GB p m s with
 | none => rw [h] at h2; cases h2
 | some x => exact ⟨true, rfl⟩
theorem LH {N : Nat} (hN : N ≤ 1000000) (h20 : 100 ≤ N) {p : Ac} (hp : Bk p) {m : Af} (hm : Cl p m) {f : Int} {t : Ag} {most i : Nat} (hmo : most ≤ 20000) {v1 : List AK × Int} (hv1 : v1.2 = (i : Int)) (ss : List Ag) (hss : ∀ s, s ∈ ss → s ∈ Hb p m) (hsl : ss.length ≤ 1000) (j : List AK → Option (List AK × Bool)) :
  ∀ (n k : Nat) (l : List KN), k ≤ ss.length → ss.length - k < n → l[i]? = some (m, f, t) → (∀ n, n ∈ l → Cl p n.1 ∧ By p n.1 = true) → l.length ≤ most → (l.length < N ∧ most < N ∨ ∃ l', Bfs.inner most i (R6 p m (ss.drop k)) l = some l' ∧ l'.length < N) →
   Ce N p (most : Int) v1 ss j n (l.map Me, (k : Int)) = match Bfs.inner most i (R6 p m (ss.drop k)) l with
    | none => some ([], false)
    | some l' => j (l'.map Me)
 | 0, k, l, _, h, _, _, _, _ => by omega
 | n + 1, k, l, hk, h, hi, hA, hlm, hfu => by
  by_cases h1 : k < ss.length
  ·have hs : ss[k]? = some ss[k] := by simp [h1]
   have hsm := hss _ (lM hs)
   have hl1 : l.length < N := by
    rcases hfu with h | ⟨l', h, h2⟩
    ·exact h.1
    ·have hk := (LM (p := p) h (fun q hq => by
      obtain ⟨g1, g2, g3⟩ := PY.1 hq
      exact ⟨by rw [g2]; exact Lw hp hm (Ji (hss _ (List.mem_of_mem_drop g1))).2, g3⟩) hA).2
     by_cases h0 : l.length = 0
     ·omega
     ·have := hk (l.length - 1) l[l.length - 1] (by simp)
      have := (lI.1 this).1
      omega
   rw [Ce, AC (by simp only; omega)]
   simp only [Bi, hv1, AW, List.getElem?_map, hi, hs, Option.map_some, oS, Me]
   obtain ⟨b, ea⟩ := Sx N hN h20 hp hm hsm
   rw [show (Af.mk m.fG m.fD m.fH) = m from rfl, ea]
   simp only [oS]
   have hxo := Lw hp hm (Ji hsm).2
   rw [Ns N p _ hN h20 hp hxo]
   simp only [oS]
   rw [Hj hs, UP] at hfu ⊢
   cases hr : By p (A4 p m ss[k]).1
   ·rw [hr] at hfu
    rw [Ao, Ao, if_neg (by simp), Ay (by rw [List.length_map]; omega), AB (by omega)]
    rw [if_neg (by simp)] at hfu
    exact LH hN h20 hp hm hmo hv1 ss hss hsl j n (k + 1) l (by omega) (by omega) hi hA hlm hfu
   ·rw [hr] at hfu
    rw [AR, if_pos rfl]
    rw [if_pos rfl] at hfu
    obtain ⟨r, er, hr2⟩ := Un hN h20 hp hxo hl1 (fun n hn => (hA n hn).1)
    have er' : Fq N (l.map fun n => AK.mk n.1 n.2.1 n.2.2) (A4 p m ss[k]).1 = some r := er
    have em : (l.map fun n : KN => AK.mk n.1 n.2.1 n.2.2) = l.map Me := rfl
    rw [← em, er']
    simp only [oS]
    rw [hr2]
    have hput : Bfs.put i l (ss[k], (A4 p m ss[k]).1) = if (l.any fun n => decide (n.1 = (A4 p m ss[k]).1)) = true then l else l ++ [((A4 p m ss[k]).1, (i : Int), ss[k])] := rfl
    simp only [Bfs.inner] at hfu ⊢
    have hA2 : ∀ n, n ∈ Bfs.put i l (ss[k], (A4 p m ss[k]).1) → Cl p n.1 ∧ By p n.1 = true := fun n hn => by
     rcases Wd hn with h | h
     ·exact hA n h
     ·rw [h]; exact ⟨hxo, hr⟩
    have hi2 : (Bfs.put i l (ss[k], (A4 p m ss[k]).1))[i]? = some (m, f, t) := Uk hi
    have main : (AU (decide ((most : Int) < (((Bfs.put i l (ss[k], (A4 p m ss[k]).1)).map Me).length : Int))) (some (([] : List AK), false)) (Ce N p (most : Int) v1 ss j n ((Bfs.put i l (ss[k], (A4 p m ss[k]).1)).map Me, (wI .i64 ((k : Int) + 1))))) =
      match (if most < (Bfs.put i l (ss[k], (A4 p m ss[k]).1)).length then none else Bfs.inner most i (R6 p m (ss.drop (k + 1))) (Bfs.put i l (ss[k], (A4 p m ss[k]).1))) with
      | none => some ([], false)
      | some l' => j (l'.map Me) := by
     by_cases hb : most < (Bfs.put i l (ss[k], (A4 p m ss[k]).1)).length
     ·rw [if_pos hb, AC (by rw [List.length_map]; omega)]
     ·rw [if_neg hb] at hfu
      rw [if_neg hb, Ay (by rw [List.length_map]; omega), AB (by omega)]
      exact LH hN h20 hp hm hmo hv1 ss hss hsl j n (k + 1) _ (by omega) (by omega) hi2 hA2 (by omega) (hfu.imp (fun h => ⟨by omega, h.2⟩) id)
    cases hin : (l.any fun n => decide (n.1 = (A4 p m ss[k]).1))
    ·rw [hin] at hput
     rw [Bool.not_false, AR, Ap (by simp [DU]; omega)]
     rw [if_neg (by simp)] at hput
     rw [hput, List.map_append] at main
     rw [hput]
     exact main
    ·rw [hin] at hput
     rw [Bool.not_true, Ao]
     rw [if_pos rfl] at hput
     rw [hput] at main
     rw [hput]
     exact main
  ·have : k = ss.length := by omega
   subst this
   rw [Ce, Ay (by simp), List.drop_eq_nil_of_le (Nat.le_refl _)]
   rfl
theorem WC {p : Ac} {m : Af} (hm : Cl p m) (hr : By p m = true) : ∀ n, n ∈ ([(m, -1, Nl)] : List KN) → Cl p n.1 ∧ By p n.1 = true := fun n hn => by
 rw [List.mem_singleton.1 hn]; exact ⟨hm, hr⟩
theorem RZ {p : Ac} (hp : Bk p) (m : Af) : (Hb p m).length ≤ 54 := Nat.le_trans (List.length_filter_le _ _) (Wf hp)
theorem Mv {N : Nat} (hN : N ≤ 1000000) (h20 : 100 ≤ N) {p : Ac} (hv : Bo p = 0) {most : Nat} (hmo : most ≤ 20000) (j : List AK → Option (List AK × Bool)) :
  ∀ (n i : Nat) (l : List KN), i ≤ l.length → (∀ n, n ∈ l → Cl p n.1 ∧ By p n.1 = true) → l.length ≤ most → (most < N ∧ most < n + i ∨ ∃ l', Bfs.go (JP p) most n i l = some l' ∧ l'.length < N) →
   Cg N p (most : Int) j n (l.map Me, (i : Int)) = match Bfs.go (JP p) most n i l with
    | none => some ([], false)
    | some l' => j (l'.map Me)
 | 0, i, l, hi, _, hlm, hfu => by
  rcases hfu with h | ⟨l', h, _⟩
  ·omega
  ·cases h
 | n + 1, i, l, hi, hA, hlm, hfu => by
  obtain ⟨hp, _⟩ := Dt hv
  simp only [Bfs.go] at hfu ⊢
  rw [Cg]
  by_cases h1 : i < l.length
  ·obtain ⟨⟨m, f, t⟩, hx⟩ := Bfs.get_ex h1
   have hm := (hA _ (lM hx)).1
   rw [hx] at hfu ⊢
   simp only at hfu ⊢
   rw [AC (by rw [List.length_map]; omega)]
   simp only [AW, List.getElem?_map, hx, Option.map_some, oS, Me]
   rw [show (Af.mk m.fG m.fD m.fH) = m from rfl, Tr N hN h20 hv hm]
   simp only [oS]
   have hgo : R6 p m ((Hb p m).drop 0) = JP p m := rfl
   have hsl := RZ hp m
   have e := LH hN h20 hp hm hmo (v1 := (l.map Me, (i : Int))) rfl (Hb p m) (fun s hs => hs) (by omega) (fun (v7 : (List AK)) =>
    Cg N p (most : Int) j n (v7, (wI .i64 ((i : Int) + 1)))) N 0 l (Nat.zero_le _) (by omega) hx hA hlm (by
     rcases hfu with ⟨g1, g2⟩ | ⟨l', h, hl'⟩
     ·exact .inl ⟨by omega, g1⟩
     ·right
      rw [hgo]
      cases hin : Bfs.inner most i (JP p m) l with
      | none => rw [hin] at h; cases h
      | some l1 =>
       rw [hin] at h
       refine ⟨l1, rfl, ?_⟩
       have : l1.length ≤ l'.length := by
        have : ∀ (n i : Nat) (l l' : List KN), Bfs.go (JP p) most n i l = some l' → l.length ≤ l'.length := by
         intro n
         induction n with
         | zero => intro i l l' h; cases h
         | succ n ih =>
          intro i l l' h
          simp only [Bfs.go] at h
          split at h
          ·cases h; exact Nat.le_refl _
          ·rename_i nd _
           cases hin : Bfs.inner most i (JP p nd.1) l with
           | none => rw [hin] at h; cases h
           | some l1 =>
            rw [hin] at h
            refine Nat.le_trans ?_ (ih _ _ _ h)
            have : ∀ (qs : List (Ag × Af)) (l l1 : List KN), Bfs.inner most i qs l = some l1 → l.length ≤ l1.length := by
             intro qs
             induction qs with
             | nil => intro l l1 h; cases h; exact Nat.le_refl _
             | cons q qs ih =>
              intro l l1 h
              simp only [Bfs.inner] at h
              split at h
              ·cases h
              ·refine Nat.le_trans ?_ (ih _ _ h)
               unfold Bfs.put; split
               ·exact Nat.le_refl _
               ·simp
            exact this _ _ _ hin
        exact this _ _ _ _ h
       omega)
   have e' : Ce N p (most : Int) (l.map Me, (i : Int)) (Hb p m) (fun (v7 : (List AK)) => Cg N p (most : Int) j n (v7, (wI .i64 ((i : Int) + 1)))) N (l.map Me, 0) = _ := e
   rw [e', hgo]
   cases hin : Bfs.inner most i (JP p m) l with
   | none => rfl
   | some l1 =>
    rw [hin] at hfu
    obtain ⟨k1, k2⟩ := LM hin (fun q hq => VP hp hm hq) hA
    have := (lI.1 (k2 _ _ hx)).1
    simp only [oS] at hfu ⊢
    rw [AB (by omega)]
    exact Mv hN h20 hv hmo j n (i + 1) l1 (by omega) k1 (Bfs.inner_len _ _ _ hlm hin) (hfu.imp (fun h => ⟨h.1, by omega⟩) id)
  ·have hi' : i = l.length := by omega
   subst hi'
   rw [List.getElem?_eq_none (Nat.le_refl _)]
   rw [Ay (by simp)]
def KM (p : Ac) (m : Af) (most n : Nat) : Option (List KN) := Bfs.go (JP p) most n 0 [(m, -1, Nl)]
theorem Tv {N : Nat} (hN : N ≤ 1000000) (h20 : 100 ≤ N) {p : Ac} (hv : Bo p = 0) {m : Af} (hm : Cl p m) (hr : By p m = true) {most : Nat} (hmo : most ≤ 20000) (h1 : 1 ≤ most) (hfu : most < N ∨ ∃ l', KM p m most N = some l' ∧ l'.length < N) :
  E9 N p m (most : Int) = some (match KM p m most N with
   | none => ([], false)
   | some l' => (l'.map Me, true)) := by
 unfold E9
 have e := Mv hN h20 hv hmo (fun (v2 : (List AK)) => some (v2, true)) N 0 [(m, -1, Nl)] (Nat.zero_le _) (WC hm hr) h1 (hfu.imp (fun h => ⟨h, by omega⟩) id)
 have e' : Cg N p (most : Int) (fun (v2 : (List AK)) => some (v2, true)) N (([(AK.mk m ((-1)) ((Ag.mk 0 0 0)))] : List AK), 0) = _ := e
 rw [e']
 unfold KM
 cases Bfs.go (JP p) most N 0 [(m, -1, Nl)] <;> rfl
structure bz (p : Ac) (m : Af) (l : List KN) (ws : List (List Ag)) : Prop where
 inv : Bfs.Inv (JP p) NV 100 m l.length [] l ws
 ok : ∀ (k : Nat) x f s, l[k]? = some (x, f, s) → Cl p x ∧ By p x = true
theorem VV {p : Ac} (hp : Bk p) {m : Af} (hm : Cl p m) (hr : By p m = true) {most n : Nat} {l : List KN} (h : KM p m most n = some l) : ∃ ws, bz p m l ws := by
 obtain ⟨ws, h1, h2⟩ := Bfs.inv_go (rk := NV) (K := 100) (fun x => Cl p x ∧ By p x = true) (fun x _ => bV hp x) (fun x hx q hq => by
  refine ⟨?_, VP hp hx.1 hq⟩
  exact (P4 hp (Ji (OS.1 hq).1).1).2) ⟨hm, hr⟩ n 0 [(m, -1, Nl)] l [[]] (Nat.zero_le _) Bfs.inv_start (fun k x f s hk => by
   have := Bfs.lt_get hk
   simp at this; subst this
   cases hk; exact ⟨hm, hr⟩) h
 exact ⟨ws, h1, h2⟩
theorem Zr {p : Ac} (hp : Bk p) {m : Af} {l : List KN} {ws : List (List Ag)} (h : bz p m l ws) {k : Nat} {x : Af} {f : Int} {s : Ag} {w : List Ag} (hx : l[k]? = some (x, f, s)) (hw : ws[k]? = some w) : OY p m w = some x :=
 (Or hp).2 (Bfs.way_run h.inv (k + 1) k (Nat.lt_succ_self k) hx hw)
theorem Sq {p : Ac} (hp : Bk p) {m x : Af} {l : List KN} {ws : List (List Ag)} (h : bz p m l ws) {w : List Ag} (hw : OY p m w = some x) : ∃ (k : Nat) (f : Int) (s : Ag) (u : List Ag), l[k]? = some (x, f, s) ∧ ws[k]? = some u ∧ Bfs.code NV 100 u ≤ Bfs.code NV 100 w :=
 Bfs.reach_node h.inv w.length rfl ((Or hp).1 hw)
theorem Tg {p : Ac} {m : Af} {l : List KN} {ws : List (List Ag)} (h : bz p m l ws) : ∀ (n k : Nat) {w : List Ag}, k < n → ws[k]? = some w → w.length ≤ k
 | 0, k, _, hk, _ => by omega
 | n + 1, k, w, hk, hw => by
  obtain ⟨⟨x, f, s⟩, hx⟩ := Bfs.get_ex (l := l) (k := k) (by rw [← h.inv.len]; exact Bfs.lt_get hw)
  rcases Nat.eq_zero_or_pos k with rfl | hk0
  ·rw [h.inv.root'] at hw; cases hw; exact Nat.le_refl _
  ·obtain ⟨j, y', g', t', w', e1, e2, e3, e4, e5, e6, e7⟩ := h.inv.par k _ _ _ hk0 hx
   rw [e6] at hw; cases hw
   have := Tg h n j (by omega) e5
   simp; omega
def MC (p : Ac) (l : List KN) : Option Nat := En (fun i (n : KN) => if Jk p n.1 = true then some i else none) 0 l
theorem RC {p : Ac} {l : List KN} {k : Nat} (h : MC p l = some k) : (∃ x f s, l[k]? = some (x, f, s) ∧ Jk p x = true) ∧ ∀ j x f s, j < k → l[j]? = some (x, f, s) → Jk p x = false := by
 have : ∀ (xs : List KN) (i k : Nat), En (fun i (n : KN) => if Jk p n.1 = true then some i else none) i xs = some (i + k) → (∃ x f s, xs[k]? = some (x, f, s) ∧ Jk p x = true) ∧ ∀ j x f s, j < k → xs[j]? = some (x, f, s) → Jk p x = false := by
  intro xs
  induction xs with
  | nil => intro i k h; cases h
  | cons n xs ih =>
   intro i k h
   rw [Hf] at h
   cases hg : Jk p n.1
   ·rw [hg] at h
    simp only [Bool.false_eq_true, if_false] at h
    cases k with
    | zero =>
     exfalso
     obtain ⟨j, x, _, hj⟩ := FL h
     split at hj
     ·have := Option.some.inj hj; omega
     ·cases hj
    | succ k =>
     obtain ⟨⟨x, f, s, h1, h2⟩, h3⟩ := ih (i + 1) k (by rw [show i + 1 + k = i + (k + 1) from by omega]; exact h)
     refine ⟨⟨x, f, s, by simpa using h1, h2⟩, ?_⟩
     intro j x f s hj hx
     cases j with
     | zero => simp at hx; subst hx; exact hg
     | succ j => exact h3 j x f s (by omega) (by simpa using hx)
   ·rw [hg] at h
    simp only [if_true, Option.some.injEq] at h
    have : k = 0 := by omega
    subst this
    exact ⟨⟨n.1, n.2.1, n.2.2, rfl, hg⟩, fun j _ _ _ hj => by omega⟩
 exact this l 0 k (by rw [Nat.zero_add]; exact h)
theorem WU {p : Ac} {l : List KN} (h : MC p l = none) {k : Nat} {x : Af} {f : Int} {s : Ag} (hx : l[k]? = some (x, f, s)) : Jk p x = false := by
 have := F7 h k _ hx
 split at this
 ·cases this
 ·rename_i h; simpa using h
def Qt (p : Ac) (l : List KN) (ws : List (List Ag)) : List Ag × Int := match MC p l with
 | none => ([], 14)
 | some k => (ws.getD k [], 0)
def FJ (n : AH) : KN := (n.fS, n.fJ, n.fU)
def Kv (x : Af) : List (Af × Int) → Option Int
 | [] => none
 | e :: r => if x = e.1 then some e.2 else Kv x r
def M8 (q : List (Af × Int)) : List (ByteArray × Int) := q.map fun e => (Do (Mu e.1), e.2)
theorem Zq {p : Ac} (hp : Bk p) {x y : Af} (hx : Cl p x) (hy : Cl p y) : (Do (Mu x) == Do (Mu y)) = decide (x = y) := by
 by_cases h : x = y
 ·rw [decide_eq_true h, h, S4]
 ·rw [decide_eq_false h]
  cases hb : Do (Mu x) == Do (Mu y)
  ·rfl
  ·exact absurd (ZY hp hx hy hb) h
theorem QU {p : Ac} (hp : Bk p) {x : Af} (hx : Cl p x) : ∀ {q : List (Af × Int)}, (∀ e, e ∈ q → Cl p e.1) → MT (Do (Mu x)) (M8 q) = Kv x q
 | [], _ => rfl
 | e :: q, h => by
  have ih := QU hp hx (q := q) fun e he => h e (List.mem_cons_of_mem _ he)
  show (if (Do (Mu x) == Do (Mu e.1)) = true then some e.2 else MT (Do (Mu x)) (M8 q)) = if x = e.1 then some e.2 else Kv x q
  rw [Zq hp hx (h e (by simp)), ih]
  by_cases h : x = e.1
  ·rw [decide_eq_true h, if_pos rfl, if_pos h]
  ·rw [decide_eq_false h, if_neg (by simp), if_neg h]
theorem MR (x y : Af) (r : Int) : ∀ q : List (Af × Int), Kv x (q ++ [(y, r)]) = match Kv x q with
  | some v => some v
  | none => if x = y then some r else none
 | [] => rfl
 | e :: q => by
  simp only [List.cons_append, Kv]
  by_cases h : x = e.1
  ·rw [if_pos h, if_pos h]
  ·rw [if_neg h, if_neg h, MR x y r q]
theorem XV (q : List (Af × Int)) (x : Af) (r : Int) : M8 (q ++ [(x, r)]) = M8 q ++ [(Do (Mu x), r)] := by simp [M8]
structure PU (p : Ac) (q : List (Af × Int)) (l : List KN) : Prop where
 ok : ∀ e, e ∈ q → Cl p e.1
 none : ∀ x, Cl p x → Kv x q = none → ∀ n, n ∈ l → n.1 ≠ x
 some : ∀ x r, Cl p x → Kv x q = some r → (r = -1 ∧ By p x = false) ∨ ∃ (j : Nat) (f : Int) (s : Ag), r = (j : Int) ∧ l[j]? = some (x, f, s)
structure NB (p : Ac) (i : Nat) (done : List (Ag × Af)) (pl : List AH) : Prop where
 to : ∀ (b : Nat) nd, pl[b]? = some nd → ∀ r, r ∈ nd.fD → ∃ s y, ((b < i ∧ (s, y) ∈ JP p nd.fS) ∨ (b = i ∧ (s, y) ∈ done)) ∧ ∃ (a : Nat) (f : Int) (t : Ag), r = (a : Int) ∧ (pl.map FJ)[a]? = some (y, f, t)
 of : ∀ (b : Nat) nd, pl[b]? = some nd → ∀ s y, ((b < i ∧ (s, y) ∈ JP p nd.fS) ∨ (b = i ∧ (s, y) ∈ done)) → ∃ (a : Nat) (f : Int) (t : Ag), ((a : Nat) : Int) ∈ nd.fD ∧ (pl.map FJ)[a]? = some (y, f, t)
def Na (pl : List AH) (i : Nat) (nd : AH) (r : Int) : List AH := if 0 ≤ r then pl.set i ⟨nd.fS, nd.fJ, nd.fU, nd.fD ++ [r]⟩ else pl
theorem Ob {pl : List AH} {i : Nat} {nd : AH} {r : Int} (h : pl[i]? = some nd) : (Na pl i nd r).map FJ = pl.map FJ := by
 unfold Na
 split
 ·apply List.ext_getElem?
  intro k
  rw [List.getElem?_map, List.getElem?_map, List.getElem?_set]
  by_cases hk : i = k
  ·subst hk
   rw [if_pos rfl, if_pos (Bfs.lt_get h), h]; rfl
  ·rw [if_neg hk]
 ·rfl
theorem MV {pl : List AH} {i : Nat} {nd : AH} {r : Int} (h : pl[i]? = some nd) {b : Nat} {nb : AH} (hb : (Na pl i nd r)[b]? = some nb) : (b ≠ i ∧ pl[b]? = some nb) ∨ (b = i ∧ nb.fS = nd.fS ∧ nb.fJ = nd.fJ ∧ nb.fU = nd.fU ∧ nb.fD = if 0 ≤ r then nd.fD ++ [r] else nd.fD) := by
 unfold Na at hb
 split at hb
 ·rename_i hr
  rw [List.getElem?_set] at hb
  by_cases hk : i = b
  ·subst hk
   rw [if_pos rfl, if_pos (Bfs.lt_get h)] at hb
   cases hb
   exact .inr ⟨rfl, rfl, rfl, rfl, by rw [if_pos hr]⟩
  ·rw [if_neg hk] at hb
   exact .inl ⟨fun e => hk e.symm, hb⟩
 ·rename_i hr
  by_cases hk : b = i
  ·subst hk; rw [h] at hb; cases hb
   exact .inr ⟨rfl, rfl, rfl, rfl, by rw [if_neg hr]⟩
  ·exact .inl ⟨hk, hb⟩
theorem TO {p : Ac} {i : Nat} {done : List (Ag × Af)} {pl pl2 : List AH} {nd : AH} {s : Ag} {x : Af} {a : Nat} {f : Int} {t : Ag} (h : NB p i done pl)
  (hkeep : ∀ (b : Nat) nb, pl2[b]? = some nb → pl[b]? = some nb ∨ (i < b ∧ nb.fD = [])) (hk2 : ∀ (b : Nat) n, (pl.map FJ)[b]? = some n → (pl2.map FJ)[b]? = some n) (hi : pl2[i]? = some nd) (ha : (pl2.map FJ)[a]? = some (x, f, t)) : NB p i (done ++ [(s, x)]) (Na pl2 i nd (a : Int)) := by
 constructor
 ·intro b nb hb r hr
  rw [Ob hi]
  rcases MV hi hb with ⟨h1, h2⟩ | ⟨h1, h2, h3, h4, h5⟩
  ·rcases hkeep b nb h2 with h3 | ⟨h3, h4⟩
   ·obtain ⟨s', y, g1, a', f', t', g2, g3⟩ := h.to b nb h3 r hr
    refine ⟨s', y, ?_, a', f', t', g2, hk2 _ _ g3⟩
    rcases g1 with g1 | g1
    ·exact .inl g1
    ·exact absurd g1.1 h1
   ·rw [h4] at hr; cases hr
  ·subst h1
   rw [h5, if_pos (Int.natCast_nonneg a)] at hr
   rcases List.mem_append.1 hr with hr | hr
   ·rcases hkeep b nd hi with h6 | ⟨h6, _⟩
    ·obtain ⟨s', y, g1, a', f', t', g2, g3⟩ := h.to b nd h6 r hr
     refine ⟨s', y, ?_, a', f', t', g2, hk2 _ _ g3⟩
     rcases g1 with g1 | g1
     ·exact .inl ⟨g1.1, by rw [h2]; exact g1.2⟩
     ·exact .inr ⟨rfl, List.mem_append_left _ g1.2⟩
    ·omega
   ·rw [List.mem_singleton.1 hr]
    exact ⟨s, x, .inr ⟨rfl, by simp⟩, a, f, t, rfl, ha⟩
 ·intro b nb hb s' y hs
  rw [Ob hi]
  rcases MV hi hb with ⟨h1, h2⟩ | ⟨h1, h2, h3, h4, h5⟩
  ·rcases hkeep b nb h2 with h3 | ⟨h3, h4⟩
   ·obtain ⟨a', f', t', g2, g3⟩ := h.of b nb h3 s' y (by
     rcases hs with hs | hs
     ·exact .inl hs
     ·exact absurd hs.1 h1)
    exact ⟨a', f', t', g2, hk2 _ _ g3⟩
   ·rcases hs with hs | hs <;> omega
  ·subst h1
   rw [h5, if_pos (Int.natCast_nonneg a)]
   rcases hkeep b nd hi with h6 | ⟨h6, _⟩
   ·rcases hs with hs | ⟨_, hs⟩
    ·omega
    ·rcases List.mem_append.1 hs with hs | hs
     ·obtain ⟨a', f', t', g2, g3⟩ := h.of b nd h6 s' y (.inr ⟨rfl, hs⟩)
      exact ⟨a', f', t', List.mem_append_left _ g2, hk2 _ _ g3⟩
     ·cases List.mem_singleton.1 hs
      exact ⟨a, f, t, by simp, ha⟩
   ·omega
theorem Is {N : Nat} (hN : N ≤ 1000000) (h20 : 100 ≤ N) {p : Ac} (hv : Bo p = 0) {m : Af} (hm : Cl p m) {most i : Nat} (hmo : most ≤ 20000) {v2 : List AH × List (ByteArray × Int) × Int} (hv2 : v2.2.2 = (i : Int)) (ss : List Ag) (e0 : Int) (hss : ∀ s, s ∈ ss → s ∈ Hb p m) (hsl : ss.length ≤ 1000) (j : List AH × List (ByteArray × Int) → Option (List AH × Int)) :
  ∀ (n k : Nat) (pl : List AH) (q : List (Af × Int)) (l' : List KN), k ≤ ss.length → ss.length - k < n → (∃ nd, pl[i]? = some nd ∧ nd.fS = m) → (∀ n, n ∈ pl.map FJ → Cl p n.1 ∧ By p n.1 = true) → pl.length ≤ most → PU p q (pl.map FJ) → NB p i (R6 p m (ss.take k)) pl →
   (∃ nd, pl[i]? = some nd ∧ nd.fD.length ≤ k) → Bfs.inner most i (R6 p m (ss.drop k)) (pl.map FJ) = some l' →
   ∃ pl' q', C2 N p v2 (ss, e0) j n (pl, M8 q, (k : Int)) = j (pl', M8 q') ∧ pl'.map FJ = l' ∧ PU p q' l' ∧ NB p i (R6 p m ss) pl' ∧ (∀ (b : Nat) nb, pl'[b]? = some nb → b ≠ i → pl[b]? = some nb ∨ nb.fD = [])
 | 0, k, pl, q, l', _, h, _, _, _, _, _, _, _ => by omega
 | n + 1, k, pl, q, l', hk, h, hi, hA, hlm, hpl, hnx, hfl, hin => by
  obtain ⟨hp, _⟩ := Dt hv
  obtain ⟨nd, hnd, hndm⟩ := hi
  obtain ⟨nd', hnd', hfl⟩ := hfl
  rw [hnd] at hnd'; cases hnd'
  by_cases h1 : k < ss.length
  ·have hs : ss[k]? = some ss[k] := by simp [h1]
   have hsm := hss _ (lM hs)
   have hstep := (Ji hsm).2
   have hxo := Lw hp hm hstep
   have hil := Bfs.lt_get hnd
   rw [C2, AC (by simp only; omega)]
   simp only [Bi, hv2, AW, hnd, hs, oS]
   rw [show (Af.mk nd.fS.fG nd.fS.fD nd.fS.fH) = m from hndm, Rv N hN h20 (LA hm), if_pos (I8 hv hm)]
   simp only [oS]
   rw [hstep, bne_self_eq_false, Ao, XC N hN h20 hp hxo]
   simp only [oS]
   rw [QU hp hxo hpl.ok]
   have htk : ss.take (k + 1) = ss.take k ++ [ss[k]] := by rw [List.take_add_one, hs]; rfl
   have hgo : R6 p m (ss.take (k + 1)) = if By p (A4 p m ss[k]).1 = true then R6 p m (ss.take k) ++ [(ss[k], (A4 p m ss[k]).1)] else R6 p m (ss.take k) := by
    rw [htk]; unfold R6; rw [List.filterMap_append]
    cases hr : By p (A4 p m ss[k]).1 <;> simp [hr]
   rw [Hj hs, UP] at hin
   -- what follows when the node's number is known
   have tail : ∀ (pl2 : List AH) (q2 : List (Af × Int)) (r : Int) (nd2 : AH), pl2[i]? = some nd2 → nd2.fS = m → nd2.fD.length ≤ k → pl2.length ≤ most →
     AU (decide (0 ≤ r)) ((A5 pl2 (i : Int)).bind fun v26 => (Eo (v26.fD.length + (([r] : List Int)).length ≤ DU)).bind fun _ => (A5 pl2 (i : Int)).bind fun v28 =>
      AU (decide ((20000 : Int) < ((pl2.set ((i : Int)).toNat (AH.mk (Af.mk v28.fS.fG v28.fS.fD v28.fS.fH) v28.fJ (Ag.mk v28.fU.fI v28.fU.fL v28.fU.fT) (v26.fD ++ ([r] : List Int)))).length : Int))) (some (([] : List AH), 3))
       (C2 N p v2 (ss, e0) j n (pl2.set ((i : Int)).toNat (AH.mk (Af.mk v28.fS.fG v28.fS.fD v28.fS.fH) v28.fJ (Ag.mk v28.fU.fI v28.fU.fL v28.fU.fT) (v26.fD ++ ([r] : List Int))), M8 q2, (wI .i64 ((k : Int) + 1)))))
      (AU (decide ((20000 : Int) < (pl2.length : Int))) (some (([] : List AH), 3)) (C2 N p v2 (ss, e0) j n (pl2, M8 q2, (wI .i64 ((k : Int) + 1))))) =
     C2 N p v2 (ss, e0) j n (Na pl2 i nd2 r, M8 q2, ((k + 1 : Nat) : Int)) := by
    intro pl2 q2 r nd2 h2 h3 h4 h5
    by_cases hr : 0 ≤ r
    ·rw [AC hr]
     simp only [AW, h2, oS, Int.toNat_natCast]
     rw [Ap (by simp [DU]; omega), Ay (by rw [List.length_set]; omega), AB (by omega)]
     unfold Na; rw [if_pos hr]
    ·rw [Ay hr, Ay (by omega), AB (by omega)]
     unfold Na; rw [if_neg hr]
   cases hlq : Kv (A4 p m ss[k]).1 q with
   | some r =>
    simp only [Option.isSome_some, Bool.not_true, Ao, Option.getD_some]
    have ht := tail pl q r nd hnd hndm hfl hlm
    simp only [AW, hnd, oS] at ht
    rw [show (Af.mk nd.fS.fG nd.fS.fD nd.fS.fH) = m from hndm] at ht
    rw [ht]
    rcases hpl.some _ _ hxo hlq with ⟨hr, hnr⟩ | ⟨a, f, t, hr, ha⟩
    ·subst hr
     rw [hnr, if_neg (by simp)] at hin
     rw [hnr, if_neg (by simp)] at hgo
     have hadd : Na pl i nd (-1) = pl := by unfold Na; rw [if_neg (by decide)]
     rw [hadd]
     exact Is hN h20 hv hm hmo hv2 ss e0 hss hsl j n (k + 1) pl q l' (by omega) (by omega) ⟨nd, hnd, hndm⟩ hA hlm hpl (by rw [hgo]; exact hnx) ⟨nd, hnd, by omega⟩ hin
    ·subst hr
     have hrob : By p (A4 p m ss[k]).1 = true := (hA _ (lM ha)).2
     rw [hrob, if_pos rfl] at hin hgo
     have hput : Bfs.put i (pl.map FJ) (ss[k], (A4 p m ss[k]).1) = pl.map FJ := by
      unfold Bfs.put
      rw [if_pos]
      exact List.any_eq_true.2 ⟨_, lM ha, decide_eq_true rfl⟩
     simp only [Bfs.inner] at hin
     rw [hput, if_neg (by rw [List.length_map]; omega)] at hin
     have hpr := Ob (r := (a : Int)) hnd
     have hnx2 := TO (s := ss[k]) hnx (pl2 := pl) (fun b nb hb => .inl hb) (fun b n hb => hb) hnd ha
     obtain ⟨nd3, hnd3⟩ := Bfs.get_ex (l := Na pl i nd (a : Int)) (k := i) (by
      have := congrArg List.length hpr; simp only [List.length_map] at this; omega)
     obtain ⟨g1, g2⟩ | ⟨_, g2, g3, g4, g5⟩ := MV hnd hnd3
     ·exact absurd rfl g1
     obtain ⟨pl', q', r1, r2, r3, r4, r5⟩ := Is hN h20 hv hm hmo hv2 ss e0 hss hsl j n (k + 1) (Na pl i nd (a : Int)) q l' (by omega) (by omega) ⟨nd3, hnd3, by rw [g2]; exact hndm⟩ (by rw [hpr]; exact hA) (by have := congrArg List.length hpr; simp only [List.length_map] at this; omega)  (by rw [hpr]; exact hpl) (by rw [hgo]; exact hnx2) ⟨nd3, hnd3, by rw [g5]; split <;> (try simp only [List.length_append, List.length_singleton]) <;> omega⟩ (by rw [hpr]; exact hin)
     refine ⟨pl', q', r1, r2, r3, r4, ?_⟩
     intro b nb hb hbi
     rcases r5 b nb hb hbi with h2 | h2
     ·rcases MV hnd h2 with ⟨_, h3⟩ | ⟨h3, _⟩
      ·exact .inl h3
      ·exact absurd h3 hbi
     ·exact .inr h2
   | none =>
    simp only [Option.isSome_none, Bool.not_false, AR]
    rw [Lg N p _ hN h20 (LA hxo) (I8 hv hxo)]
    simp only [oS, bne_self_eq_false, Ao]
    have hms : ∀ r, Ox (Do (Mu (A4 p m ss[k]).1)) r (M8 q) = M8 (q ++ [((A4 p m ss[k]).1, r)]) := fun r => by
     rw [XV]; exact M0 _ _ (by rw [QU hp hxo hpl.ok, hlq])
    have hok2 : ∀ r e, e ∈ q ++ [((A4 p m ss[k]).1, r)] → Cl p e.1 := fun r e he => by
     rcases List.mem_append.1 he with he | he
     ·exact hpl.ok e he
     ·rw [List.mem_singleton.1 he]; exact hxo
    cases hrob : By p (A4 p m ss[k]).1
    ·rw [Bool.not_false, AR]
     rw [hrob, if_neg (by simp)] at hin hgo
     rw [hms]
     have ht := tail pl (q ++ [((A4 p m ss[k]).1, -1)]) (-1) nd hnd hndm hfl hlm
     simp only [AW, hnd, oS] at ht
     rw [show (Af.mk nd.fS.fG nd.fS.fD nd.fS.fH) = m from hndm] at ht
     rw [ht]
     have hadd : Na pl i nd (-1) = pl := by unfold Na; rw [if_neg (by decide)]
     rw [hadd]
     refine Is hN h20 hv hm hmo hv2 ss e0 hss hsl j n (k + 1) pl _ l' (by omega) (by omega) ⟨nd, hnd, hndm⟩ hA hlm ⟨hok2 (-1), ?_, ?_⟩ (by rw [hgo]; exact hnx) ⟨nd, hnd, by omega⟩ hin
     ·intro x hx hq
      rw [MR] at hq
      cases hq2 : Kv x q with
      | none => exact hpl.none x hx hq2
      | some v => rw [hq2] at hq; cases hq
     ·intro x r hx hq
      rw [MR] at hq
      cases hq2 : Kv x q with
      | none =>
       rw [hq2] at hq
       simp only at hq
       split at hq
       ·rename_i he
        cases hq; left; exact ⟨rfl, by rw [he]; exact hrob⟩
       ·cases hq
      | some v => rw [hq2] at hq; cases hq; exact hpl.some x _ hx hq2
    ·rw [Bool.not_true, Ao]
     rw [hrob, if_pos rfl] at hin hgo
     rw [hms]
     have hnew : ((pl.map FJ).any fun n => decide (n.1 = (A4 p m ss[k]).1)) = false := by
      rw [List.any_eq_false]
      intro n hn
      simpa using hpl.none _ hxo hlq n hn
     have hput : Bfs.put i (pl.map FJ) (ss[k], (A4 p m ss[k]).1) = (pl ++ [AH.mk (A4 p m ss[k]).1 (i : Int) ss[k] []]).map FJ := by
      unfold Bfs.put
      rw [hnew, if_neg (by simp), List.map_append]; rfl
     simp only [Bfs.inner] at hin
     rw [hput] at hin
     split at hin
     ·cases hin
     rename_i hmm
     rw [List.length_map, List.length_append, List.length_singleton] at hmm
     rw [Ap (by simp [DU]; omega)]
     have hnd2 : (pl ++ [AH.mk (A4 p m ss[k]).1 (i : Int) ss[k] []])[i]? = some nd := Bfs.get_app_of hnd
     have ht := tail (pl ++ [AH.mk (A4 p m ss[k]).1 (i : Int) ss[k] []]) (q ++ [((A4 p m ss[k]).1, (pl.length : Int))]) (pl.length : Int) nd hnd2 hndm hfl (by rw [List.length_append, List.length_singleton]; omega)
     simp only [AW] at ht
     rw [ht]
     have hpr := Ob (r := (pl.length : Int)) hnd2
     have hlast : ((pl ++ [AH.mk (A4 p m ss[k]).1 (i : Int) ss[k] []]).map FJ)[pl.length]? = some ((A4 p m ss[k]).1, (i : Int), ss[k]) := by
      rw [List.getElem?_map, Bfs.get_app_new]; rfl
     have hold : ∀ (b : Nat) n, (pl.map FJ)[b]? = some n → ((pl ++ [AH.mk (A4 p m ss[k]).1 (i : Int) ss[k] []]).map FJ)[b]? = some n := fun b n hb => by
      rw [List.map_append]; exact Bfs.get_app_of hb
     have hkeep : ∀ (b : Nat) nb, (pl ++ [AH.mk (A4 p m ss[k]).1 (i : Int) ss[k] []])[b]? = some nb → pl[b]? = some nb ∨ (i < b ∧ nb.fD = []) := fun b nb hb => by
      rcases Bfs.get_app hb with h2 | ⟨h2, h3⟩
      ·exact .inl h2
      ·exact .inr ⟨by omega, by rw [h3]⟩
     have hnx2 := TO (s := ss[k]) hnx hkeep hold hnd2 hlast
     have hpl2 : PU p (q ++ [((A4 p m ss[k]).1, (pl.length : Int))]) ((pl ++ [AH.mk (A4 p m ss[k]).1 (i : Int) ss[k] []]).map FJ) := by
      refine ⟨hok2 _, ?_, ?_⟩
      ·intro x hx hq n hn
       rw [MR] at hq
       cases hq2 : Kv x q with
       | none =>
        rw [hq2] at hq
        simp only at hq
        split at hq
        ·cases hq
        ·rename_i hne
         rw [List.map_append] at hn
         rcases List.mem_append.1 hn with hn | hn
         ·exact hpl.none x hx hq2 n hn
         ·simp at hn; subst hn
          exact fun e => hne e.symm
       | some v => rw [hq2] at hq; cases hq
      ·intro x r hx hq
       rw [MR] at hq
       cases hq2 : Kv x q with
       | none =>
        rw [hq2] at hq
        simp only at hq
        split at hq
        ·rename_i he
         cases hq
         exact .inr ⟨pl.length, _, _, rfl, by rw [he]; exact hlast⟩
        ·cases hq
       | some v =>
        rw [hq2] at hq; cases hq
        rcases hpl.some x _ hx hq2 with g | ⟨a, f, t, g1, g2⟩
        ·exact .inl g
        ·exact .inr ⟨a, f, t, g1, hold _ _ g2⟩
     obtain ⟨nd3, hnd3⟩ := Bfs.get_ex (l := Na (pl ++ [AH.mk (A4 p m ss[k]).1 (i : Int) ss[k] []]) i nd (pl.length : Int)) (k := i) (by
      have := congrArg List.length hpr; simp only [List.length_map, List.length_append, List.length_singleton] at this; omega)
     obtain ⟨g1, g2⟩ | ⟨_, g2, g3, g4, g5⟩ := MV hnd2 hnd3
     ·exact absurd rfl g1
     obtain ⟨pl', q', r1, r2, r3, r4, r5⟩ := Is hN h20 hv hm hmo hv2 ss e0 hss hsl j n (k + 1) (Na (pl ++ [AH.mk (A4 p m ss[k]).1 (i : Int) ss[k] []]) i nd (pl.length : Int)) _ l' (by omega) (by omega) ⟨nd3, hnd3, by rw [g2]; exact hndm⟩ (by
       rw [hpr]
       intro n hn
       rw [List.map_append] at hn
       rcases List.mem_append.1 hn with hn | hn
       ·exact hA n hn
       ·simp at hn; subst hn; exact ⟨hxo, hrob⟩) (by have := congrArg List.length hpr; simp only [List.length_map, List.length_append, List.length_singleton] at this; omega)  (by rw [hpr]; exact hpl2) (by rw [hgo]; exact hnx2) ⟨nd3, hnd3, by rw [g5]; split <;> (try simp only [List.length_append, List.length_singleton]) <;> omega⟩ (by rw [hpr]; exact hin)
     refine ⟨pl', q', r1, r2, r3, r4, ?_⟩
     intro b nb hb hbi
     rcases r5 b nb hb hbi with h2 | h2
     ·rcases MV hnd2 h2 with ⟨_, h3⟩ | ⟨h3, _⟩
      ·rcases hkeep b nb h3 with h4 | ⟨_, h4⟩
       ·exact .inl h4
       ·exact .inr h4
      ·exact absurd h3 hbi
     ·exact .inr h2
  ·have : k = ss.length := by omega
   subst this
   rw [List.drop_eq_nil_of_le (Nat.le_refl _)] at hin
   have hin : some (pl.map FJ) = some l' := hin
   cases hin
   rw [List.take_length] at hnx
   rw [C2, Ay (by simp)]
   exact ⟨pl, q, rfl, rfl, hpl, hnx, fun b nb hb _ => .inl hb⟩
end Go.Lift
