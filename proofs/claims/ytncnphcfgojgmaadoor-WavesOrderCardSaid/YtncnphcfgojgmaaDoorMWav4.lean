/- Lemmas for WavesOrderCardSaid, which YtncnphcfgojgmaaDoorFinV5 proves. -/
import Derived.Test.YtncnphcfgojgmaaDoorDec
import Derived.KernelRfl
import Derived.Lib.ItoaLen
namespace Go.Lift
open IntKind renaming wrap → wI
open Option renaming bind_some → oS
open List renaming getElem?_eq_some_iff → lI
theorem BB {α : Type} (xs : List α) (i : Nat) : B3 xs (i : Int) = xs[i]? := by
 unfold B3; simp
theorem Cn {n : Int} (h0 : -9223372036854775808 ≤ n) (h1 : n ≤ 9223372036854775807) : wI .i64 n = n := by
 simp [wI, IntKind.signed, IntKind.bits]; omega
theorem A0 {i : Nat} (h : i < 1000000) : wI .i64 ((i : Int) + 1) = ((i + 1 : Nat) : Int) := by
 rw [Cn (by omega) (by omega)]; simp
@[simp] theorem AR {α : Type} {a b : Option α} : AM true a b = a := rfl
@[simp] theorem Aw {α : Type} {a b : Option α} : AM false a b = b := rfl
theorem AN {α : Type} {p : Prop} [Decidable p] {a b : Option α} (h : p) : AM (decide p) a b = a := by simp [h]
theorem AQ {α : Type} {p : Prop} [Decidable p] {a b : Option α} (h : ¬ p) : AM (decide p) a b = b := by simp [h]
def TG (a b : Int) : Int := if a < b then -1 else if b < a then 1 else 0
def F1 : List Int → List Int → Int
 | [], [] => 0
 | [], _ :: _ => -1
 | _ :: _, [] => 1
 | a :: as1, b :: bs => if a < b then -1 else if b < a then 1 else F1 as1 bs
theorem R3 (N : Nat) (a b : Int) : Db N a b = some (TG a b) := by
 unfold Db DK TG
 by_cases h1 : a < b <;> by_cases h2 : b < a <;> simp [h1, h2]
theorem RX (N : Nat) (a b : Int) : Cm N a b = some (TG a b) := by
 unfold Cm CL TG
 by_cases h1 : a < b <;> by_cases h2 : b < a <;> simp [h1, h2]
theorem Dg {α : Type} {xs : List α} {i : Nat} {x : α} (h : xs[i]? = some x) : xs.drop i = x :: xs.drop (i + 1) := by
 obtain ⟨hi, rfl⟩ := lI.1 h
 exact List.drop_eq_getElem_cons hi
theorem NX (N : Nat) (a b : List Int) (hb : a.length < 1000000) : ∀ (n i : Nat), i ≤ a.length → i ≤ b.length → a.length - i < n →
  Bk N a b (fun _ => AM (decide ((a.length : Int) < (b.length : Int))) (some (-1)) (some 0)) n (i : Int) = some (F1 (a.drop i) (b.drop i))
 | 0, i, _, _, h => by omega
 | n + 1, i, hi, hj, h => by
  unfold Bk
  by_cases h1 : i < a.length
  ·rw [AN (by omega), BB]
   have ha : a[i]? = some a[i] := by simp [h1]
   rw [ha, Dg ha]
   simp only [oS]
   by_cases h2 : i < b.length
   ·rw [AQ (by omega), BB]
    have hbb : b[i]? = some b[i] := by simp [h2]
    rw [hbb, Dg hbb]
    simp only [oS, R3, F1, TG]
    rw [A0 (by omega), NX N a b hb n (i + 1) (by omega) (by omega) (by omega)]
    by_cases h3 : a[i] < b[i]
    ·simp [h3]
    ·by_cases h4 : b[i] < a[i]
     ·simp [h3, h4]
     ·simp [h3, h4]
   ·rw [AN (by omega), List.drop_eq_nil_of_le (by omega : b.length ≤ i)]
    simp [F1]
  ·rw [AQ (by omega), List.drop_eq_nil_of_le (by omega : a.length ≤ i)]
   by_cases h2 : a.length < b.length
   ·rw [AN (by omega)]
    have hbb : b[i]? = some b[i] := by simp [show i < b.length from by omega]
    rw [Dg hbb]; simp [F1]
   ·rw [AQ (by omega), List.drop_eq_nil_of_le (by omega : b.length ≤ i)]
    simp [F1]
theorem L6 (N : Nat) (a b : List Int) (hb : a.length < 1000000) : ∀ (n i : Nat), i ≤ a.length → i ≤ b.length → a.length - i < n →
  AW N a b (fun _ => AM (decide ((a.length : Int) < (b.length : Int))) (some (-1)) (some 0)) n (i : Int) = some (F1 (a.drop i) (b.drop i))
 | 0, i, _, _, h => by omega
 | n + 1, i, hi, hj, h => by
  unfold AW
  by_cases h1 : i < a.length
  ·rw [AN (by omega), BB]
   have ha : a[i]? = some a[i] := by simp [h1]
   rw [ha, Dg ha]
   simp only [oS]
   by_cases h2 : i < b.length
   ·rw [AQ (by omega), BB]
    have hbb : b[i]? = some b[i] := by simp [h2]
    rw [hbb, Dg hbb]
    simp only [oS, RX, F1, TG]
    rw [A0 (by omega), L6 N a b hb n (i + 1) (by omega) (by omega) (by omega)]
    by_cases h3 : a[i] < b[i]
    ·simp [h3]
    ·by_cases h4 : b[i] < a[i]
     ·simp [h3, h4]
     ·simp [h3, h4]
   ·rw [AN (by omega), List.drop_eq_nil_of_le (by omega : b.length ≤ i)]
    simp [F1]
  ·rw [AQ (by omega), List.drop_eq_nil_of_le (by omega : a.length ≤ i)]
   by_cases h2 : a.length < b.length
   ·rw [AN (by omega)]
    have hbb : b[i]? = some b[i] := by simp [show i < b.length from by omega]
    rw [Dg hbb]; simp [F1]
   ·rw [AQ (by omega), List.drop_eq_nil_of_le (by omega : b.length ≤ i)]
    simp [F1]
theorem K4 {N : Nat} {a b : List Int} (h : a.length < N) (hN : N ≤ 1000000) : By N a b = some (F1 a b) := by
 have := NX N a b (by omega) N 0 (by omega) (by omega) (by omega)
 simpa [By] using this
theorem Nm {N : Nat} {a b : List Int} (h : a.length < N) (hN : N ≤ 1000000) : Bf N a b = some (F1 a b) := by
 have := L6 N a b (by omega) N 0 (by omega) (by omega) (by omega)
 simpa [Bf] using this
theorem LE : ∀ a : List Int, F1 a a = 0
 | [] => rfl
 | a :: as1 => by simp [F1, LE as1]
theorem Kr : ∀ a b : List Int, F1 a b = 0 → a = b
 | [], [], _ => rfl
 | [], _ :: _, h => by simp [F1] at h
 | _ :: _, [], h => by simp [F1] at h
 | a :: as1, b :: bs, h => by
  unfold F1 at h
  split at h
  ·omega
  ·split at h
   ·omega
   ·rw [Kr as1 bs h, show a = b from by omega]
def Q5 : List Int → Int
 | [] => 0
 | x :: xs => if x = 0 then Q5 xs else x
theorem VS (N : Nat) (a : List Int) (hb : a.length < 1000000) : ∀ (n i : Nat), i ≤ a.length → a.length - i < n →
  C8 N a (fun _ => some 0) n (i : Int) = some (Q5 (a.drop i))
 | 0, i, _, h => by omega
 | n + 1, i, hi, h => by
  unfold C8
  by_cases h1 : i < a.length
  ·have ha : a[i]? = some a[i] := by simp [h1]
   rw [AN (by omega), BB, ha, Dg ha]
   simp only [oS, Q5]
   rw [A0 (by omega), VS N a hb n (i + 1) (by omega) (by omega)]
   by_cases h3 : a[i] = 0
   ·simp [h3]
   ·have : (a[i] != 0) = true := by simpa using h3
    simp [h3, this]
  ·rw [AQ (by omega), List.drop_eq_nil_of_le (by omega : a.length ≤ i)]
   simp [Q5]
theorem Tt {N : Nat} {a : List Int} (h : a.length < N) (hN : N ≤ 1000000) : EJ N a = some (Q5 a) := by
 have := VS N a (by omega) N 0 (by omega) (by omega)
 simpa [EJ] using this
def V1 (a : Ad) : Prop := a.fe.length ≤ 8 ∧ a.fa.length ≤ 8 ∧ a.fc.length ≤ 14
def Oj (a b : Ad) : Int := Q5 [F1 a.fe b.fe, F1 a.fa b.fa, F1 a.fc b.fc]
theorem LJ (a : Ad) : Oj a a = 0 := by unfold Oj; simp [LE, Q5]
def CX {α R : Type} (f : Nat → α → Option R) : Nat → List α → Option R
 | _, [] => none
 | i, x :: xs => match f i x with
  | some r => some r
  | none => CX f (i + 1) xs
theorem E3 {α R : Type} (f : Nat → α → Option R) (i : Nat) (x : α) (xs : List α) : CX f i (x :: xs) = match f i x with
  | some r => some r
  | none => CX f (i + 1) xs := rfl
def Cq {R : Type} (a : Option R) (b : Option R) : Option R := match a with
 | some r => some r
 | none => b
theorem D5 {α R : Type} (L : Nat → Int → Option R) (xs : List α) (j : Option R) (f : Nat → α → Option R)
  (hs : ∀ (n i : Nat) (x : α), xs[i]? = some x → L (n + 1) (i : Int) = Cq (f i x) (L n ((i + 1 : Nat) : Int))) (he : ∀ n : Nat, L (n + 1) (xs.length : Int) = j) :
  ∀ n i : Nat, i ≤ xs.length → xs.length - i < n → L n (i : Int) = Cq (CX f i (xs.drop i)) j
 | 0, i, _, h => by omega
 | n + 1, i, hi, h => by
  by_cases h1 : i < xs.length
  ·have hx : xs[i]? = some xs[i] := by simp [h1]
   rw [hs n i _ hx, Dg hx, D5 L xs j f hs he n (i + 1) (by omega) (by omega)]
   rw [E3]
   cases f i xs[i] <;> rfl
  ·have : i = xs.length := by omega
   subst this
   rw [he n, List.drop_eq_nil_of_le (Nat.le_refl _)]
   rfl
theorem LZ (N : Nat) (k n : Int) : Cw N k n = some (decide (0 ≤ k) && decide (k < n)) := by
 unfold Cw
 simp only [Bs]
 by_cases h : 0 ≤ k
 ·rw [AN h]; simp [h]
 ·rw [AQ h]; simp [h]
theorem L3 (N : Nat) (t : Aq) : Bd N t = some (t.ff == 3 || t.ff == 4) := by
 unfold Bd
 simp only [Bs]
 cases h : t.ff == 3 <;> simp
def sq (l : List (List Bool)) (n m : Int) : Bool := decide ((l.length : Int) = n) && l.all fun r => decide ((r.length : Int) = m)
theorem NJ {α : Type} (p : α → Bool) {R : Type} (r : Nat → R) : ∀ (i : Nat) (xs : List α), (CX (fun i x => if p x then none else some (r i)) i xs).isNone = xs.all p
 | i, [] => rfl
 | i, x :: xs => by
  unfold CX
  cases h : p x <;> simp [h, NJ p r (i + 1) xs]
theorem L4 (N : Nat) (l : List (List Bool)) (n m : Int) (h : n < (N : Int)) (hN : N ≤ 1000000) : Dh N l n m = some (sq l n m) := by
 unfold Dh sq
 simp only [Bs]
 by_cases h1 : (l.length : Int) = n
 ·subst h1
  simp only [beq_self_eq_true, AR, decide_true, Bool.true_and]
  have := D5 (AV N l (fun x => Cj N x m) (fun _ => some (-1))) l (some (-1)) (fun i r => if decide ((r.length : Int) = m) then none else some (i : Int))
   (fun n i x hx => by
    have hi := (lI.1 hx).1
    rw [AV, AN (by omega), BB, hx]
    simp only [oS, Cj]
    rw [A0 (by omega)]
    by_cases h2 : (x.length : Int) = m
    ·simp [h2, Cq]
    ·have : ((x.length : Int) != m) = true := by simpa using h2
     simp [h2, this, Cq])
   (fun n => by rw [AV, AQ (by omega)]) N 0 (by omega) (by omega)
  simp only [Int.ofNat_zero, List.drop_zero] at this
  unfold BG BY
  rw [this]
  have h3 := NJ (fun r : List Bool => decide ((r.length : Int) = m)) (fun i : Nat => (i : Int)) 0 l
  cases hsc : CX (fun (i : Nat) (r : List Bool) => if decide ((r.length : Int) = m) = true then none else some (i : Int)) 0 l with
  | none => rw [hsc] at h3; rw [← h3]; rfl
  | some b =>
   rw [hsc] at h3
   rw [← h3]
   have : ∀ (i : Nat) (xs : List (List Bool)) b, CX (fun (i : Nat) (r : List Bool) => if decide ((r.length : Int) = m) = true then none else some (i : Int)) i xs = some b → 0 ≤ b := by
    intro i xs
    induction xs generalizing i with
    | nil => intro b hb; cases hb
    | cons x xs ih =>
     intro b hb
     rw [E3] at hb
     split at hb
     ·rename_i r hr
      cases hb
      split at hr
      ·cases hr
      ·cases hr; omega
     ·exact ih _ b hb
   have := this 0 l b hsc
   simp [Cq, this]
 ·have : ((l.length : Int) == n) = false := by simpa using h1
  simp [this, h1]
open List renaming mem_of_getElem? → lM
open List renaming getD_eq_getElem?_getD → lD
def HI (l : List (List Bool)) : Option Int := CX (fun i row => if row.getD i false then none else some 1) 0 l
theorem Qj {row : List Bool} {i : Nat} (h : i < row.length) : B3 row (i : Int) = some (row.getD i false) := by
 rw [BB, lD]; simp [h]
theorem Mb (N : Nat) (t : Aq) (h : t.fk.length < N) (hN : N ≤ 1000000) (hsq : ∀ row, row ∈ t.fk → row.length = t.fk.length) (j : Option Int) :
  BO N t (fun _ => j) N 0 = Cq (HI t.fk) j := by
 have := D5 (BO N t (fun _ => j)) t.fk j (fun i row => if row.getD i false then none else some 1)
  (fun n i x hx => by
   have hi := (lI.1 hx).1
   have hl := hsq x (lM hx)
   rw [BO, AN (by omega), BB, hx]
   simp only [oS]
   rw [Qj (by omega), A0 (by omega)]
   simp only [oS]
   cases x.getD i false <;> rfl)
  (fun n => by rw [BO, AQ (by omega)]) N 0 (by omega) (by omega)
 simpa [HI] using this
theorem Mu {l : List (List Bool)} {n m : Int} (h : sq l n m = true) : (l.length : Int) = n ∧ ∀ row, row ∈ l → (row.length : Int) = m := by
 unfold sq at h
 simp only [Bool.and_eq_true, decide_eq_true_eq, List.all_eq_true] at h
 exact h
def CW (p : Aa) (t : Aq) : Int :=
 if t.ff < 1 ∨ 4 < t.ff ∨ (t.fq = true ∧ (t.ff = 3 ∨ t.ff = 4)) then 1
 else if t.fg < 0 ∨ (p.fb.length : Int) ≤ t.fg ∨ t.fj < 0 ∨ (p.fb.length : Int) ≤ t.fj then 4
 else
  let f := p.fb.getD t.fg.toNat 0
  let g := p.fb.getD t.fj.toNat 0
  if sq t.fp f g = false then 6
  else if t.ff = 4 then (if sq t.fk f f = false then 6 else (HI t.fk).getD 0)
  else if t.fk.length = 0 then 0 else 6
theorem Fi {α : Type} {xs : List α} {i : Int} {d : α} (h0 : 0 ≤ i) (h1 : i < (xs.length : Int)) : B3 xs i = some (xs.getD i.toNat d) := by
 obtain ⟨k, rfl⟩ := Int.eq_ofNat_of_zero_le h0
 rw [BB, lD, Int.toNat_natCast]
 simp [show k < xs.length from by omega]
theorem JE {p : Aa} {i : Int} (hv : ∀ v, v ∈ p.fb → 1 ≤ v ∧ v ≤ 6) (h0 : 0 ≤ i) (h1 : i < (p.fb.length : Int)) : 1 ≤ p.fb.getD i.toNat 0 ∧ p.fb.getD i.toNat 0 ≤ 6 := by
 refine hv _ ?_
 rw [lD, List.getElem?_eq_getElem (by omega)]
 exact List.getElem_mem _
theorem Rg (N : Nat) (k : Int) (a : Bool) : EF N k a = some (k == 1 || (k == 2 || ((k == 3 || k == 4) && !a))) := by
 unfold EF
 simp only [Bs]
 cases h1 : k == 1 <;> cases h2 : k == 2 <;> cases h3 : k == 3 <;> cases h4 : k == 4 <;> cases a <;> rfl
theorem K6 (N : Nat) (p : Aa) (t : Aq) (hN : N ≤ 1000000) (h6 : 7 ≤ N) (hv : ∀ v, v ∈ p.fb → 1 ≤ v ∧ v ≤ 6) : El N p t = some (CW p t) := by
 unfold El CW
 simp only [Bs, Rg, LZ, oS]
 by_cases hb : t.ff < 1 ∨ 4 < t.ff ∨ (t.fq = true ∧ (t.ff = 3 ∨ t.ff = 4))
 ·have : (t.ff == 1 || (t.ff == 2 || ((t.ff == 3 || t.ff == 4) && !t.fq))) = false := by
   rcases hb with h | h | ⟨ha, h | h⟩
   ·rw [beq_eq_false_iff_ne.2 (by omega : t.ff ≠ 1), beq_eq_false_iff_ne.2 (by omega : t.ff ≠ 2), beq_eq_false_iff_ne.2 (by omega : t.ff ≠ 3), beq_eq_false_iff_ne.2 (by omega : t.ff ≠ 4)]; rfl
   ·rw [beq_eq_false_iff_ne.2 (by omega : t.ff ≠ 1), beq_eq_false_iff_ne.2 (by omega : t.ff ≠ 2), beq_eq_false_iff_ne.2 (by omega : t.ff ≠ 3), beq_eq_false_iff_ne.2 (by omega : t.ff ≠ 4)]; rfl
   ·simp [ha, h]
   ·simp [ha, h]
  rw [this, if_pos hb]; rfl
 ·have : (t.ff == 1 || (t.ff == 2 || ((t.ff == 3 || t.ff == 4) && !t.fq))) = true := by
   have hk : t.ff = 1 ∨ t.ff = 2 ∨ t.ff = 3 ∨ t.ff = 4 := by
    have h1 : ¬ t.ff < 1 := fun h => hb (.inl h)
    have h2 : ¬ 4 < t.ff := fun h => hb (.inr (.inl h))
    omega
   rcases hk with h | h | h | h
   ·simp [h]
   ·simp [h]
   ·cases ha : t.fq
    ·simp [h]
    ·exact (hb (.inr (.inr ⟨ha, .inl h⟩))).elim
   ·cases ha : t.fq
    ·simp [h]
    ·exact (hb (.inr (.inr ⟨ha, .inr h⟩))).elim
  rw [this, if_neg hb]
  simp only [Bool.not_true, Aw]
  by_cases f1 : t.fg < 0
  ·simp [f1, show ¬ (0 ≤ t.fg) from by omega]
  by_cases f2 : (p.fb.length : Int) ≤ t.fg
  ·simp [f2, show ¬ (t.fg < (p.fb.length : Int)) from by omega]
  by_cases f3 : t.fj < 0
  ·simp [f3, show 0 ≤ t.fg from by omega, show t.fg < (p.fb.length : Int) from by omega, show ¬ (0 ≤ t.fj) from by omega]
  by_cases f4 : (p.fb.length : Int) ≤ t.fj
  ·simp [f4, show 0 ≤ t.fg from by omega, show t.fg < (p.fb.length : Int) from by omega, show ¬ (t.fj < (p.fb.length : Int)) from by omega]
  rw [if_neg (fun h => h.elim f1 fun h => h.elim f2 fun h => h.elim f3 f4)]
  have hf := JE hv (i := t.fg) (by omega) (by omega)
  have hg := JE hv (i := t.fj) (by omega) (by omega)
  rw [decide_eq_true (by omega : 0 ≤ t.fg), decide_eq_true (by omega : t.fg < (p.fb.length : Int)), decide_eq_true (by omega : 0 ≤ t.fj), decide_eq_true (by omega : t.fj < (p.fb.length : Int)), Fi (d := 0) (by omega : 0 ≤ t.fg) (by omega), Fi (d := 0) (by omega : 0 ≤ t.fj) (by omega)]
  simp only [Bool.and_self, Bool.not_true, Aw, oS]
  generalize p.fb.getD t.fg.toNat 0 = f at *
  generalize p.fb.getD t.fj.toNat 0 = g at *
  rw [L4 N t.fp f g (by omega) hN, L4 N t.fk f f (by omega) hN]
  simp only [oS]
  cases hq : sq t.fp f g
  ·rfl
  simp only [Bool.not_true, Aw]
  by_cases k4 : t.ff = 4
  ·simp only [k4, beq_self_eq_true, AR, if_true]
   cases hr : sq t.fk f f
   ·rfl
   ·have h7 := Mu hr
    simp only [Bool.not_true, Aw]
    rw [Mb N t (by omega) hN (fun row hm => by have := h7.2 row hm; omega)]
    cases HI t.fk <;> simp [Cq]
  ·have : (t.ff == 4) = false := beq_eq_false_iff_ne.2 k4
   rw [this, Aw]
   simp only [k4, if_false, Bool.not_false, AR]
   by_cases hr : t.fk.length = 0
   ·rw [Mb N t (by omega) hN (fun row hm => by rw [List.eq_nil_of_length_eq_zero hr] at hm; cases hm), List.eq_nil_of_length_eq_zero hr]
    simp [HI, CX, Cq]
   ·rw [decide_eq_true (by omega : 0 < (t.fk.length : Int))]
    simp [hr]
def Fq (p : Aa) (i : Nat) (v : Int) : Option Int :=
 if v < 1 ∨ 6 < v ∨ p.fm.getD i 0 < 0 ∨ v ≤ p.fm.getD i 0 ∨ p.fo.getD i 0 < 0 ∨ v ≤ p.fo.getD i 0 then some 7 else none
def Ld (p : Aa) (_ : Nat) (t : Aq) : Option Int := if CW p t = 0 then none else some (CW p t)
def C4 (p : Aa) : Int :=
 if 6 < p.fb.length ∨ 12 < p.fd.length then 3
 else if p.fm.length ≠ p.fb.length ∨ p.fo.length ≠ p.fb.length then 6
 else ((Cq (CX (Fq p) 0 p.fb) (CX (Ld p) 0 p.fd)).getD 0)
theorem FB {α R : Type} {f : Nat → α → Option R} : ∀ {i : Nat} {xs : List α}, CX f i xs = none → ∀ j x, xs[j]? = some x → f (i + j) x = none
 | _, [], _, j, x, hx => by simp at hx
 | i, y :: ys, h, j, x, hx => by
  rw [E3] at h
  split at h
  ·cases h
  ·rename_i h0
   cases j with
   | zero => simp at hx; subst hx; exact h0
   | succ j =>
    have := FB h j x (by simpa using hx)
    rwa [show i + 1 + j = i + (j + 1) from by omega] at this
theorem M3 {p : Aa} (h : CX (Fq p) 0 p.fb = none) : ∀ v, v ∈ p.fb → 1 ≤ v ∧ v ≤ 6 := by
 intro v hv
 obtain ⟨i, hi⟩ := List.mem_iff_getElem?.1 hv
 have := FB h i v hi
 unfold Fq at this
 split at this
 ·cases this
 ·rename_i hn
  constructor
  ·exact Int.not_lt.1 fun h => hn (.inl h)
  ·exact Int.not_lt.1 fun h => hn (.inr (.inl h))
theorem DV {α : Type} {xs : List α} {i : Nat} {d : α} (h : i < xs.length) : B3 xs (i : Int) = some (xs.getD i d) := by
 rw [BB, lD]; simp [h]
theorem Mm (N : Nat) (p : Aa) (hN : N ≤ 1000000) (h1 : p.fb.length < N) (h2 : p.fm.length = p.fb.length) (h3 : p.fo.length = p.fb.length) (j : Option Int) :
  A8 N p (fun _ => j) N 0 = Cq (CX (Fq p) 0 p.fb) j := by
 have := D5 (A8 N p (fun _ => j)) p.fb j (Fq p)
  (fun n i x hx => by
   have hi := (lI.1 hx).1
   rw [A8, AN (by omega), BB, hx]
   simp only [oS, Bs, LZ]
   rw [DV (d := 0) (by omega), DV (d := 0) (by omega), A0 (by omega)]
   simp only [oS]
   unfold Fq
   generalize p.fm.getD i 0 = a
   generalize p.fo.getD i 0 = b
   have e1 : decide (0 ≤ a) = !decide (a < 0) := by rw [← decide_not]; congr 1; simp
   have e2 : decide (a < x) = !decide (x ≤ a) := by rw [← decide_not]; congr 1; simp
   have e3 : decide (0 ≤ b) = !decide (b < 0) := by rw [← decide_not]; congr 1; simp
   have e4 : decide (b < x) = !decide (x ≤ b) := by rw [← decide_not]; congr 1; simp
   rw [e1, e2, e3, e4]
   by_cases k1 : x < 1 <;> by_cases k2 : 6 < x <;> by_cases k3 : a < 0 <;> by_cases k4 : x ≤ a <;> by_cases k5 : b < 0 <;> by_cases k6 : x ≤ b <;> simp [k1, k2, k3, k4, k5, k6, Cq])
  (fun n => by rw [A8, AQ (by omega)]) N 0 (by omega) (by omega)
 simpa using this
theorem Oc (N : Nat) (p : Aa) (hN : N ≤ 1000000) (h6 : 7 ≤ N) (h1 : p.fd.length < N) (hv : ∀ v, v ∈ p.fb → 1 ≤ v ∧ v ≤ 6) (j : Option Int) :
  A2 N p (fun _ => j) N 0 = Cq (CX (Ld p) 0 p.fd) j := by
 have := D5 (A2 N p (fun _ => j)) p.fd j (Ld p)
  (fun n i x hx => by
   have hi := (lI.1 hx).1
   rw [A2, AN (by omega), BB, hx]
   simp only [oS]
   rw [K6 N p x hN h6 hv, A0 (by omega)]
   simp only [oS]
   unfold Ld
   by_cases k : CW p x = 0
   ·simp [k, Cq]
   ·rw [bne_iff_ne.2 k, if_neg k]; rfl)
  (fun n => by rw [A2, AQ (by omega)]) N 0 (by omega) (by omega)
 simpa using this
theorem Mz (N : Nat) (p : Aa) (hN : N ≤ 1000000) (h : 20 ≤ N) : BD N p = some (C4 p) := by
 unfold BD C4
 simp only [Bs]
 by_cases k1 : 6 < p.fb.length
 ·rw [AN (by omega)]; simp [k1]
 rw [AQ (by omega)]
 by_cases k2 : 12 < p.fd.length
 ·rw [decide_eq_true (by omega : (12 : Int) < (p.fd.length : Int))]; simp [k2]
 rw [decide_eq_false (by omega : ¬ (12 : Int) < (p.fd.length : Int)), Aw, if_neg (by omega)]
 by_cases k3 : p.fm.length = p.fb.length
 ·by_cases k4 : p.fo.length = p.fb.length
  ·rw [k3, k4]
   simp only [bne_self_eq_false, Aw, ne_eq, not_true_eq_false, or_self, if_false]
   rw [Mm N p hN (by omega) k3 k4]
   cases hs : CX (Fq p) 0 p.fb with
   | some r => rfl
   | none =>
    simp only [Cq]
    rw [Oc N p hN (by omega) (by omega) (M3 hs)]
    cases CX (Ld p) 0 p.fd <;> rfl
  ·have : ((p.fo.length : Int) != (p.fb.length : Int)) = true := bne_iff_ne.2 (by omega)
   rw [this, k3]; simp [k4]
 ·have : ((p.fm.length : Int) != (p.fb.length : Int)) = true := bne_iff_ne.2 (by omega)
  rw [this]; simp [k3]
theorem Gv {n : Int} (h : IY n) : 0 ≤ n ∧ n ≤ 255 := by
 unfold IY at h
 simpa [Lit.wf, IntKind.min, IntKind.max, IntKind.signed, IntKind.bits] using h
theorem Lh : ∀ k : Fin 256, CH .u8 0 (k.val : Int) = 0 := by decide +kernel
theorem LB : ∀ k : Fin 256, CH .u8 (k.val : Int) 0 = (k.val : Int) := by decide +kernel
theorem Qv {n : Int} (h : IY n) : CH .u8 0 n = 0 := by
 have := Gv h
 obtain ⟨k, rfl⟩ := Int.eq_ofNat_of_zero_le this.1
 exact Lh ⟨k, by omega⟩
theorem QP {n : Int} (h : IY n) : CH .u8 n 0 = n := by
 have := Gv h
 obtain ⟨k, rfl⟩ := Int.eq_ofNat_of_zero_le this.1
 exact LB ⟨k, by omega⟩
theorem D8 {α R : Type} {f : Nat → α → Option R} : ∀ {i : Nat} {xs : List α} {r : R}, CX f i xs = some r → ∃ j x, xs[j]? = some x ∧ f (i + j) x = some r
 | _, [], _, h => by cases h
 | i, y :: ys, r, h => by
  rw [E3] at h
  split at h
  ·rename_i r' h0
   cases h
   exact ⟨0, y, rfl, h0⟩
  ·obtain ⟨j, x, h1, h2⟩ := D8 h
   exact ⟨j + 1, x, by simpa using h1, by rwa [show i + (j + 1) = i + 1 + j from by omega]⟩
structure Ci (p : Aa) : Prop where
 nv : p.fb.length ≤ 6
 nt : p.fd.length ≤ 12
 now : p.fm.length = p.fb.length
 tgt : p.fo.length = p.fb.length
 ver : ∀ v, v ∈ p.fb → 1 ≤ v ∧ v ≤ 6
 tab : ∀ t, t ∈ p.fd → CW p t = 0
theorem Or (l : List (List Bool)) : (HI l).getD 0 = 0 ∨ (HI l).getD 0 = 1 := by
 cases h : HI l with
 | none => exact .inl rfl
 | some r =>
  obtain ⟨j, x, _, h⟩ := D8 h
  split at h
  ·cases h
  ·cases h; exact .inr rfl
theorem Mn (p : Aa) (t : Aq) : CW p t = 0 ∨ CW p t = 1 ∨ CW p t = 4 ∨ CW p t = 6 := by
 unfold CW
 split
 ·exact .inr (.inl rfl)
 split
 ·exact .inr (.inr (.inl rfl))
 simp only
 split
 ·exact .inr (.inr (.inr rfl))
 split
 ·split
  ·exact .inr (.inr (.inr rfl))
  ·rcases Or t.fk with h | h
   ·exact .inl h
   ·exact .inr (.inl h)
 ·split
  ·exact .inl rfl
  ·exact .inr (.inr (.inr rfl))
theorem Hj (p : Aa) : (C4 p = 0 ∧ Ci p) ∨ (C4 p = 1 ∨ C4 p = 3 ∨ C4 p = 4 ∨ C4 p = 6 ∨ C4 p = 7) := by
 unfold C4
 split
 ·simp
 rename_i k1
 split
 ·simp
 rename_i k2
 cases hs : CX (Fq p) 0 p.fb with
 | some r =>
  obtain ⟨j, x, _, h⟩ := D8 hs
  unfold Fq at h
  split at h
  ·cases h; simp [Cq]
  ·cases h
 | none =>
  cases ht : CX (Ld p) 0 p.fd with
  | some r =>
   obtain ⟨j, t, _, h⟩ := D8 ht
   unfold Ld at h
   split at h
   ·cases h
   ·rename_i hne
    cases h
    simp only [Cq, Option.getD_some]
    right
    rcases Mn p t with h | h | h | h
    ·exact (hne h).elim
    ·exact .inl h
    ·exact .inr (.inr (.inl h))
    ·exact .inr (.inr (.inr (.inl h)))
  | none =>
   left
   refine ⟨rfl, by omega, by omega, by omega, by omega, M3 hs, fun t hm => ?_⟩
   obtain ⟨j, hj⟩ := List.mem_iff_getElem?.1 hm
   have := FB ht j t hj
   unfold Ld at this
   split at this
   ·assumption
   ·cases this
def Fy (m : Ad) (s : Nat) : Int :=
 if 0 ≤ m.fa.getD s 0 then Kc .u8 (CJ .u8 1 (m.fe.getD s 0)) (CJ .u8 1 (m.fa.getD s 0)) else CJ .u8 1 (m.fe.getD s 0)
def KL (m : Ad) (i : Nat) (v : Int) : Option Int :=
 if m.fe.getD i 0 < 0 ∨ v ≤ m.fe.getD i 0 ∨ m.fa.getD i 0 < -1 ∨ v ≤ m.fa.getD i 0 then some 7
 else if m.fe.getD i 0 = m.fa.getD i 0 then some 1 else none
def Bj (t : Aq) : Bool := t.ff == 3 || t.ff == 4
def To (p : Aa) (t : Aq) : Int := wI .u8 (CJ .u8 1 (p.fb.getD t.fg.toNat 0) - 1)
def IB (p : Aa) (m : Ad) (i : Nat) (t : Aq) : Option Int :=
 if Bj t = true then (if CH .u8 (Fy m t.fg.toNat) (m.fc.getD i 0) ≠ 0 ∨ CH .u8 (m.fc.getD i 0) (To p t) ≠ 0 then some 1 else none)
 else if m.fc.getD i 0 ≠ 0 then some 1 else none
def DR (p : Aa) (m : Ad) : Int :=
 if C4 p ≠ 0 then C4 p
 else if m.fe.length ≠ p.fb.length ∨ m.fa.length ≠ p.fb.length ∨ m.fc.length ≠ p.fd.length then 6
 else (Cq (CX (KL m) 0 p.fb) (CX (IB p m) 0 p.fd)).getD 0
theorem IT {p : Aa} {t : Aq} (h : CW p t = 0) : 0 ≤ t.fg ∧ t.fg < (p.fb.length : Int) ∧ 0 ≤ t.fj ∧ t.fj < (p.fb.length : Int) := by
 unfold CW at h
 split at h
 ·cases h
 ·split at h
  ·cases h
  ·omega
theorem IK (N : Nat) (m : Ad) (s : Int) (h0 : 0 ≤ s) (h1 : s < (m.fe.length : Int)) (h2 : s < (m.fa.length : Int)) (hb : 0 ≤ m.fe.getD s.toNat 0) : Dc N m s = some (Fy m s.toNat) := by
 unfold Dc Fy
 rw [Fi (d := 0) h0 h1, Fi (d := 0) h0 h2]
 simp only [oS, Bs]
 rw [show Dd (0 ≤ m.fe.getD s.toNat 0) = some () from by unfold Dd; rw [if_pos hb]]
 simp only [oS]
 by_cases h : 0 ≤ m.fa.getD s.toNat 0
 ·rw [AN h, if_pos h, show Dd (0 ≤ m.fa.getD s.toNat 0) = some () from by unfold Dd; rw [if_pos h]]; rfl
 ·rw [AQ h, if_neg h]
theorem OE (N : Nat) (m : Ad) (s : Int) (h0 : 0 ≤ s) (h1 : s < (m.fe.length : Int)) (h2 : s < (m.fa.length : Int)) (hb : 0 ≤ m.fe.getD s.toNat 0) : Cp N m s = some (Fy m s.toNat) := by
 unfold Cp Fy
 rw [Fi (d := 0) h0 h1, Fi (d := 0) h0 h2]
 simp only [oS, Bs]
 rw [show Dd (0 ≤ m.fe.getD s.toNat 0) = some () from by unfold Dd; rw [if_pos hb]]
 simp only [oS]
 by_cases h : 0 ≤ m.fa.getD s.toNat 0
 ·rw [AN h, if_pos h, show Dd (0 ≤ m.fa.getD s.toNat 0) = some () from by unfold Dd; rw [if_pos h]]; rfl
 ·rw [AQ h, if_neg h]
theorem Mi (N : Nat) (p : Aa) (m : Ad) (hN : N ≤ 1000000) (h1 : p.fb.length < N) (h2 : m.fe.length = p.fb.length) (h3 : m.fa.length = p.fb.length) (j : Option Int) :
  Cx N p m (fun _ => j) N 0 = Cq (CX (KL m) 0 p.fb) j := by
 have := D5 (Cx N p m (fun _ => j)) p.fb j (KL m)
  (fun n i x hx => by
   have hi := (lI.1 hx).1
   rw [Cx, AN (by omega), BB, hx]
   simp only [oS, Bs]
   rw [DV (d := 0) (by omega), DV (d := 0) (by omega), A0 (by omega)]
   simp only [oS]
   unfold KL
   generalize m.fe.getD i 0 = a
   generalize m.fa.getD i 0 = b
   by_cases k7 : a = b
   ·subst k7
    by_cases k3 : a < 0 <;> by_cases k4 : x ≤ a <;> by_cases k5 : a < -1 <;> simp [k3, k4, k5, Cq]
   ·have k8 : (a == b) = false := beq_eq_false_iff_ne.2 k7
    by_cases k3 : a < 0 <;> by_cases k4 : x ≤ a <;> by_cases k5 : b < -1 <;> by_cases k6 : x ≤ b <;> simp [k3, k4, k5, k6, k7, k8, Cq])
  (fun n => by rw [Cx, AQ (by omega)]) N 0 (by omega) (by omega)
 simpa using this
structure MixServ (p : Aa) (m : Ad) : Prop where
 base : m.fe.length = p.fb.length
 next : m.fa.length = p.fb.length
 held : m.fc.length = p.fd.length
 b0 : ∀ i, i < p.fb.length → 0 ≤ m.fe.getD i 0 ∧ m.fe.getD i 0 < p.fb.getD i 0
 n0 : ∀ i, i < p.fb.length → -1 ≤ m.fa.getD i 0 ∧ m.fa.getD i 0 < p.fb.getD i 0
 ne : ∀ i, i < p.fb.length → m.fe.getD i 0 ≠ m.fa.getD i 0
theorem Pe {p : Aa} {m : Ad} (h2 : m.fe.length = p.fb.length) (h3 : m.fa.length = p.fb.length) (h4 : m.fc.length = p.fd.length) (h : CX (KL m) 0 p.fb = none) : MixServ p m := by
 have key : ∀ i, i < p.fb.length → ¬ (m.fe.getD i 0 < 0 ∨ p.fb.getD i 0 ≤ m.fe.getD i 0 ∨ m.fa.getD i 0 < -1 ∨ p.fb.getD i 0 ≤ m.fa.getD i 0) ∧ ¬ m.fe.getD i 0 = m.fa.getD i 0 := by
  intro i hi
  have hx : p.fb[i]? = some (p.fb.getD i 0) := by rw [lD]; simp [hi]
  have := FB h i _ hx
  rw [Nat.zero_add] at this
  unfold KL at this
  split at this
  ·cases this
  ·split at this
   ·cases this
   ·rename_i k1 k2; exact ⟨k1, k2⟩
 exact ⟨h2, h3, h4, fun i hi => by have := (key i hi).1; omega, fun i hi => by have := (key i hi).1; omega, fun i hi => (key i hi).2⟩
theorem Na {m : Ad} (hw : JY IY m.fc) {i : Nat} (h : i < m.fc.length) : IY (m.fc.getD i 0) := by
 refine hw _ ?_
 rw [lD, List.getElem?_eq_getElem h]
 exact List.getElem_mem _
theorem Iw (N : Nat) (t : Aq) : Dv N t = some (Bj t) := by
 unfold Dv Bj
 simp only [Bs]
 cases h : t.ff == 3 <;> simp
theorem Is (N : Nat) (t : Aq) : Bd N t = some (Bj t) := L3 N t
theorem OF (N : Nat) (p : Aa) (m : Ad) (hN : N ≤ 1000000) (h1 : p.fd.length < N) (hp : Ci p) (hm : MixServ p m) (hw : JY IY m.fc) (j : Option Int) :
  B8 N p m (fun _ => j) N 0 = Cq (CX (IB p m) 0 p.fd) j := by
 have := D5 (B8 N p m (fun _ => j)) p.fd j (IB p m)
  (fun n i x hx => by
   have hi := (lI.1 hx).1
   have hin := IT (hp.tab x (lM hx))
   have hheld := Na hw (show i < m.fc.length from by rw [hm.held]; exact hi)
   have hv := JE hp.ver hin.1 hin.2.1
   rw [B8, AN (by omega), BB, hx]
   simp only [oS, Bs, Iw]
   rw [IK N m x.fg hin.1 (by rw [hm.base]; exact hin.2.1) (by rw [hm.next]; exact hin.2.1) (hm.b0 _ (by omega)).1, Fi (d := 0) hin.1 hin.2.1, DV (d := 0) (show i < m.fc.length from by rw [hm.held]; exact hi), A0 (by omega)]
   simp only [oS]
   rw [show Dd (0 ≤ p.fb.getD x.fg.toNat 0) = some () from by unfold Dd; rw [if_pos (by omega)]]
   simp only [oS]
   unfold IB To
   rw [Qv hheld, QP hheld]
   generalize CH .u8 (Fy m x.fg.toNat) (m.fc.getD i 0) = A
   generalize CH .u8 (m.fc.getD i 0) (wI .u8 (CJ .u8 1 (p.fb.getD x.fg.toNat 0) - 1)) = B
   generalize m.fc.getD i 0 = H
   cases Bj x
   ·simp only [Aw, bne_self_eq_false]
    by_cases k : H = 0
    ·simp [k, Cq]
    ·have : (H != 0) = true := bne_iff_ne.2 k
     simp [k, this, Cq]
   ·simp only [AR]
    by_cases k : A = 0
    ·by_cases k2 : B = 0
     ·simp [k, k2, Cq]
     ·have : (B != 0) = true := bne_iff_ne.2 k2
      simp [k, k2, this, Cq]
    ·have : (A != 0) = true := bne_iff_ne.2 k
     simp [k, this, Cq])
  (fun n => by rw [B8, AQ (by omega)]) N 0 (by omega) (by omega)
 simpa using this
theorem Hr (N : Nat) (p : Aa) (m : Ad) (hN : N ≤ 1000000) (h : 20 ≤ N) (hw : JY IY m.fc) : Di N p m = some (DR p m) := by
 unfold Di DR
 rw [Mz N p hN h]
 simp only [oS, Bs]
 by_cases k0 : C4 p = 0
 ·have hp : Ci p := by
   rcases Hj p with h | h
   ·exact h.2
   ·omega
  have hnv := hp.nv
  have hnt := hp.nt
  rw [k0]
  simp only [bne_self_eq_false, Aw, ne_eq, not_true_eq_false, if_false]
  by_cases k1 : m.fe.length = p.fb.length
  ·by_cases k2 : m.fa.length = p.fb.length
   ·by_cases k3 : m.fc.length = p.fd.length
    ·rw [k1, k2, k3]
     simp only [bne_self_eq_false, Aw, not_true_eq_false, or_self, if_false]
     rw [Mi N p m hN (by omega) k1 k2]
     cases hs : CX (KL m) 0 p.fb with
     | some r => rfl
     | none =>
      simp only [Cq]
      rw [OF N p m hN (by omega) hp (Pe k1 k2 k3 hs) hw]
      cases CX (IB p m) 0 p.fd <;> rfl
    ·have : ((m.fc.length : Int) != (p.fd.length : Int)) = true := bne_iff_ne.2 (by omega)
     rw [this, k1, k2]; simp [k3]
   ·have : ((m.fa.length : Int) != (p.fb.length : Int)) = true := bne_iff_ne.2 (by omega)
    rw [this, k1]; simp [k2]
  ·have : ((m.fe.length : Int) != (p.fb.length : Int)) = true := bne_iff_ne.2 (by omega)
   rw [this]; simp [k1]
 ·rw [bne_iff_ne.2 k0]; simp [k0]
@[simp] theorem Bu {α β : Type} (k : α) (f : α → β) : Bs k f = f k := rfl
@[simp] theorem QS {p : Prop} [Decidable p] (h : p) : Dd p = some () := by unfold Dd; rw [if_pos h]
theorem Au {β : Type} {p : Prop} [Decidable p] (h : p) (f : Unit → Option β) : (Dd p).bind f = f () := by rw [QS h]; rfl
def Gb {α β : Type} (g : Nat → α → List β) : Nat → List α → List β
 | _, [] => []
 | i, x :: xs => g i x ++ Gb g (i + 1) xs
def F9 {α A : Type} (f : Nat → α → A → A) : Nat → List α → A → A
 | _, [], a => a
 | i, x :: xs, a => F9 f (i + 1) xs (f i x a)
theorem Ig {α β : Type} {g : Nat → α → List β} {c : Nat} : ∀ {i : Nat} {xs : List α}, (∀ j x, xs[j]? = some x → (g (i + j) x).length ≤ c) → (Gb g i xs).length ≤ c * xs.length
 | _, [], _ => by simp [Gb]
 | i, x :: xs, h => by
  have h1 := h 0 x rfl
  have h2 := Ig (g := g) (c := c) (i := i + 1) (xs := xs) fun j y hy => by
   have := h (j + 1) y (by simpa using hy)
   rwa [show i + (j + 1) = i + 1 + j from by omega] at this
  rw [Gb, List.length_append, List.length_cons, Nat.mul_add]
  simp only [Nat.add_zero] at h1
  omega
theorem Ik {α A S R : Type} (L : Nat → S → Option R) (mk : A → Int → S) (xs : List α) (j : A → Option R) (f : Nat → α → A → A) (I : Nat → A → Prop)
  (hs : ∀ (n i : Nat) (x : α) (a : A), xs[i]? = some x → I i a → L (n + 1) (mk a (i : Int)) = L n (mk (f i x a) ((i + 1 : Nat) : Int)) ∧ I (i + 1) (f i x a))
  (he : ∀ (n : Nat) (a : A), I xs.length a → L (n + 1) (mk a (xs.length : Int)) = j a) :
  ∀ (n i : Nat) (a : A), i ≤ xs.length → xs.length - i < n → I i a → L n (mk a (i : Int)) = j (F9 f i (xs.drop i) a) ∧ I xs.length (F9 f i (xs.drop i) a)
 | 0, i, _, _, h, _ => by omega
 | n + 1, i, a, hi, h, ha => by
  by_cases h1 : i < xs.length
  ·have hx : xs[i]? = some xs[i] := by simp [h1]
   obtain ⟨e1, e2⟩ := hs n i _ a hx ha
   rw [e1, Dg hx, F9]
   exact Ik L mk xs j f I hs he n (i + 1) _ (by omega) (by omega) e2
  ·have : i = xs.length := by omega
   subst this
   rw [List.drop_eq_nil_of_le (Nat.le_refl _), F9]
   exact ⟨he n a ha, ha⟩
theorem KU {α β : Type} (g : Nat → α → List β) : ∀ (i : Nat) (xs : List α) (acc : List β), F9 (fun i x a => a ++ g i x) i xs acc = acc ++ Gb g i xs
 | _, [], acc => by simp [F9, Gb]
 | i, x :: xs, acc => by rw [F9, KU g (i + 1) xs, Gb, List.append_assoc]
theorem LO {α β S R : Type} (L : Nat → S → Option R) (mk : List β → Int → S) (xs : List α) (j : List β → Option R) (g : Nat → α → List β) (c B : Nat)
  (hg : ∀ i x, xs[i]? = some x → (g i x).length ≤ c)
  (hs : ∀ (n i : Nat) (x : α) (a : List β), xs[i]? = some x → a.length + (g i x).length ≤ B → L (n + 1) (mk a (i : Int)) = L n (mk (a ++ g i x) ((i + 1 : Nat) : Int)))
  (he : ∀ (n : Nat) (a : List β), L (n + 1) (mk a (xs.length : Int)) = j a) (n : Nat) (a : List β) (hn : xs.length < n) (ha : a.length + c * xs.length ≤ B) :
  L n (mk a 0) = j (a ++ Gb g 0 xs) := by
 have := Ik L mk xs j (fun i x a => a ++ g i x) (fun i b => i ≤ xs.length ∧ b.length ≤ a.length + c * i)
  (fun n i x b hx hb => by
   have h1 := hg i x hx
   have hi := (lI.1 hx).1
   have h2 : c * (i + 1) ≤ c * xs.length := Nat.mul_le_mul_left c hi
   have h3 : c * (i + 1) = c * i + c := Nat.mul_succ c i
   refine ⟨hs n i x b hx (by have := hb.2; omega), hi, ?_⟩
   rw [List.length_append]
   have := hb.2
   omega)
  (fun n b _ => he n b) n 0 a (Nat.zero_le _) (by omega) ⟨Nat.zero_le _, by omega⟩
 have h2 := this.1
 rw [List.drop_zero, KU] at h2
 exact h2
def B1 (s : Int) (v : Nat) : Bool := s.toNat.testBit v
def F0 (m : Ad) (s v : Nat) : Bool := decide (m.fe.getD s 0 = (v : Int)) || decide (m.fa.getD s 0 = (v : Int))
theorem Rd : ∀ (s : Fin 256) (v : Fin 8), Ea .u8 (Ee .u8 (s.val : Int) (v.val : Int)) 1 = if B1 (s.val : Int) v.val then 1 else 0 := by decide +kernel
theorem Sn {s : Int} {v : Nat} (h0 : 0 ≤ s) (h1 : s ≤ 255) (hv : v < 8) : Ea .u8 (Ee .u8 s (v : Int)) 1 = if B1 s v then 1 else 0 := by
 obtain ⟨k, rfl⟩ := Int.eq_ofNat_of_zero_le h0
 exact Rd ⟨k, by omega⟩ ⟨v, hv⟩
theorem NU {s : Int} {v : Nat} (h0 : 0 ≤ s) (h1 : s ≤ 255) (hv : v < 8) : (Ea .u8 (Ee .u8 s (v : Int)) 1 == 0) = !B1 s v := by
 rw [Sn h0 h1 hv]; cases B1 s v <;> rfl
theorem Ih {s : Int} {v : Nat} (h1 : s ≤ 255) (hv : 8 ≤ v) : B1 s v = false := by
 unfold B1
 apply Nat.testBit_lt_two_pow
 have : (2 : Nat) ^ 8 ≤ 2 ^ v := Nat.pow_le_pow_right (by omega) hv
 omega
theorem Kp : ∀ (b : Fin 8) (v : Fin 8), B1 (CJ .u8 1 (b.val : Int)) v.val = decide (b.val = v.val) ∧ 0 ≤ CJ .u8 1 (b.val : Int) ∧ CJ .u8 1 (b.val : Int) ≤ 255 := by decide +kernel
theorem Sc : ∀ (b n : Fin 8) (v : Fin 8), B1 (Kc .u8 (CJ .u8 1 (b.val : Int)) (CJ .u8 1 (n.val : Int))) v.val = (decide (b.val = v.val) || decide (n.val = v.val))
  ∧ 0 ≤ Kc .u8 (CJ .u8 1 (b.val : Int)) (CJ .u8 1 (n.val : Int)) ∧ Kc .u8 (CJ .u8 1 (b.val : Int)) (CJ .u8 1 (n.val : Int)) ≤ 255 := by decide +kernel
theorem NK {m : Ad} {s : Nat} (hb0 : 0 ≤ m.fe.getD s 0) (hb1 : m.fe.getD s 0 < 8) (hn1 : m.fa.getD s 0 < 8) :
  (∀ v, B1 (Fy m s) v = F0 m s v) ∧ 0 ≤ Fy m s ∧ Fy m s ≤ 255 := by
 unfold Fy F0
 obtain ⟨b, hb⟩ := Int.eq_ofNat_of_zero_le hb0
 rw [hb] at hb1 ⊢
 by_cases h : 0 ≤ m.fa.getD s 0
 ·obtain ⟨n, hn⟩ := Int.eq_ofNat_of_zero_le h
  rw [hn] at hn1 ⊢
  rw [if_pos (by omega)]
  have h1 := Sc ⟨b, by omega⟩ ⟨n, by omega⟩
  refine ⟨fun v => ?_, (h1 0).2⟩
  by_cases hv : v < 8
  ·rw [(h1 ⟨v, hv⟩).1]
   simp only [Int.ofNat_inj]
  ·rw [Ih (h1 0).2.2 (by omega)]
   simp; omega
 ·rw [if_neg h]
  have h1 := Kp ⟨b, by omega⟩
  refine ⟨fun v => ?_, (h1 0).2⟩
  have h3 : decide (m.fa.getD s 0 = (v : Int)) = false := decide_eq_false (by omega)
  rw [h3, Bool.or_false]
  by_cases hv : v < 8
  ·rw [(h1 ⟨v, hv⟩).1]
   simp only [Int.ofNat_inj]
  ·rw [Ih (h1 0).2.2 (by omega)]
   simp; omega
theorem O5 {a : Nat} (h : a < 256) : (BitVec.ofInt 8 (a : Int)).toNat = a := by
 simp; omega
theorem KJ {a b : Int} (ha : 0 ≤ a ∧ a ≤ 255) (hb : 0 ≤ b ∧ b ≤ 255) : CH .u8 a b = 0 ↔ ∀ v, B1 a v = true → B1 b v = true := by
 obtain ⟨a, rfl⟩ := Int.eq_ofNat_of_zero_le ha.1
 obtain ⟨b, rfl⟩ := Int.eq_ofNat_of_zero_le hb.1
 have hA := O5 (a := a) (by omega)
 have hB := O5 (a := b) (by omega)
 unfold CH B1
 simp only [IntKind.bits, Int.toNat_natCast]
 have hx : ∀ x : BitVec 8, wI .u8 (x.toNat : Int) = (x.toNat : Int) := by
  intro x
  have := x.isLt
  simp [wI, IntKind.signed, IntKind.bits]
  omega
 rw [hx]
 constructor
 ·intro h v hv
  have h0 : (BitVec.ofInt 8 (a : Int) &&& ~~~BitVec.ofInt 8 (b : Int)) = (BitVec.ofNat 8 0) := by
   apply BitVec.eq_of_toNat_eq
   simp only [BitVec.toNat_ofNat, Nat.zero_mod]
   exact Int.ofNat_inj.1 h
  by_cases hv8 : v < 8
  ·have h1 : (BitVec.ofInt 8 (a : Int) &&& ~~~BitVec.ofInt 8 (b : Int)).getLsbD v = false := by rw [h0]; simp
   rw [BitVec.getLsbD_and, BitVec.getLsbD_not] at h1
   have e1 : (BitVec.ofInt 8 (a : Int)).getLsbD v = a.testBit v := by unfold BitVec.getLsbD; rw [hA]
   have e2 : (BitVec.ofInt 8 (b : Int)).getLsbD v = b.testBit v := by unfold BitVec.getLsbD; rw [hB]
   rw [e1, e2, hv] at h1
   simpa [hv8] using h1
  ·have := Ih (s := (a : Int)) (v := v) (by omega) (by omega)
   unfold B1 at this
   rw [Int.toNat_natCast, hv] at this
   cases this
 ·intro h
  have h0 : (BitVec.ofInt 8 (a : Int) &&& ~~~BitVec.ofInt 8 (b : Int)) = (BitVec.ofNat 8 0) := by
   apply BitVec.eq_of_getLsbD_eq
   intro i hi
   rw [BitVec.getLsbD_and, BitVec.getLsbD_not]
   have e1 : (BitVec.ofInt 8 (a : Int)).getLsbD i = a.testBit i := by unfold BitVec.getLsbD; rw [hA]
   have e2 : (BitVec.ofInt 8 (b : Int)).getLsbD i = b.testBit i := by unfold BitVec.getLsbD; rw [hB]
   rw [e1, e2]
   have := h i
   cases h3 : a.testBit i
   ·simp
   ·rw [this h3]; simp
  have h2 : ∀ x : BitVec 8, x = (BitVec.ofNat 8 0) → (x.toNat : Int) = 0 := fun x hx => by rw [hx]; rfl
  exact h2 _ h0
theorem RY : ∀ n : Fin 9, (∀ v : Fin 8, B1 (wI .u8 (CJ .u8 1 (n.val : Int) - 1)) v.val = decide (v.val < n.val)) ∧ 0 ≤ wI .u8 (CJ .u8 1 (n.val : Int) - 1) ∧ wI .u8 (CJ .u8 1 (n.val : Int) - 1) ≤ 255 := by decide +kernel
theorem OR {n : Int} (h0 : 0 ≤ n) (h1 : n ≤ 8) : (∀ v, B1 (wI .u8 (CJ .u8 1 n - 1)) v = decide ((v : Int) < n)) ∧ 0 ≤ wI .u8 (CJ .u8 1 n - 1) ∧ wI .u8 (CJ .u8 1 n - 1) ≤ 255 := by
 obtain ⟨n, rfl⟩ := Int.eq_ofNat_of_zero_le h0
 have h := RY ⟨n, by omega⟩
 refine ⟨fun v => ?_, h.2⟩
 by_cases hv : v < 8
 ·rw [h.1 ⟨v, hv⟩]; simp
 ·rw [Ih h.2.2 (by omega)]
  symm; apply decide_eq_false; omega
structure DJ (p : Aa) (m : Ad) : Prop extends MixServ p m where
 range : ∀ i, i < p.fd.length → 0 ≤ m.fc.getD i 0 ∧ m.fc.getD i 0 ≤ 255
 low : ∀ i t, p.fd[i]? = some t → Bj t = true → ∀ v, F0 m t.fg.toNat v = true → B1 (m.fc.getD i 0) v = true
 high : ∀ i t, p.fd[i]? = some t → Bj t = true → ∀ v, B1 (m.fc.getD i 0) v = true → (v : Int) < p.fb.getD t.fg.toNat 0
 none : ∀ i t, p.fd[i]? = some t → Bj t = false → m.fc.getD i 0 = 0
theorem G4 {p : Aa} (hp : Ci p) {i : Nat} (hi : i < p.fb.length) : 1 ≤ p.fb.getD i 0 ∧ p.fb.getD i 0 ≤ 6 := by
 have := JE (i := (i : Int)) hp.ver (by omega) (by omega)
 simpa using this
theorem Ic {p : Aa} {m : Ad} (hp : Ci p) (hm : MixServ p m) {s : Nat} (hs : s < p.fb.length) :
  (∀ v, B1 (Fy m s) v = F0 m s v) ∧ 0 ≤ Fy m s ∧ Fy m s ≤ 255 := by
 have h1 := hm.b0 s hs
 have h2 := hm.n0 s hs
 have h3 := G4 hp hs
 exact NK h1.1 (by omega) (by omega)
theorem Nk {p : Aa} {m : Ad} (hp : Ci p) (hm : MixServ p m) {i : Nat} {t : Aq} (ht : p.fd[i]? = some t) (hr : 0 ≤ m.fc.getD i 0 ∧ m.fc.getD i 0 ≤ 255) :
  IB p m i t = none ↔ ((Bj t = true → (∀ v, F0 m t.fg.toNat v = true → B1 (m.fc.getD i 0) v = true) ∧ (∀ v, B1 (m.fc.getD i 0) v = true → (v : Int) < p.fb.getD t.fg.toNat 0)) ∧ (Bj t = false → m.fc.getD i 0 = 0)) := by
 have hin := IT (hp.tab t (lM ht))
 have hrun := Ic hp hm (s := t.fg.toNat) (by omega)
 have hver := G4 hp (i := t.fg.toNat) (by omega)
 have hall := OR (n := p.fb.getD t.fg.toNat 0) (by omega) (by omega)
 unfold IB To
 have e1 := KJ hrun.2 hr
 have e2 := KJ hr hall.2
 cases hst : Bj t
 ·simp
 ·simp only [if_true, true_implies, Bool.true_eq_false, false_implies, and_true, ite_eq_right_iff, reduceCtorEq, imp_false, not_or, Decidable.not_not]
  rw [e1, e2]
  simp only [hrun.1, hall.1, decide_eq_true_eq]
theorem KP {p : Aa} {m : Ad} (hw : JY IY m.fc) (h : DR p m = 0) : Ci p ∧ DJ p m := by
 unfold DR at h
 split at h
 ·rename_i k; exact (k h).elim
 ·rename_i k0
  have hp : Ci p := by
   rcases Hj p with h | h
   ·exact h.2
   ·omega
  split at h
  ·cases h
  ·rename_i k1
   have b1 : m.fe.length = p.fb.length := Decidable.not_not.1 fun h => k1 (.inl h)
   have b2 : m.fa.length = p.fb.length := Decidable.not_not.1 fun h => k1 (.inr (.inl h))
   have b3 : m.fc.length = p.fd.length := Decidable.not_not.1 fun h => k1 (.inr (.inr h))
   cases hs : CX (KL m) 0 p.fb with
   | some r =>
    obtain ⟨j, x, _, he⟩ := D8 hs
    rw [hs] at h
    unfold KL at he
    simp only [Cq, Option.getD_some] at h
    split at he
    ·cases he; cases h
    ·split at he
     ·cases he; cases h
     ·cases he
   | none =>
    have hm := Pe b1 b2 b3 hs
    rw [hs] at h
    simp only [Cq] at h
    cases ht : CX (IB p m) 0 p.fd with
    | some r =>
     obtain ⟨j, x, _, he⟩ := D8 ht
     rw [ht] at h
     simp only [Option.getD_some] at h
     subst h
     unfold IB at he
     split at he
     ·split at he <;> cases he
     ·split at he <;> cases he
    | none =>
     have hr : ∀ i, i < p.fd.length → 0 ≤ m.fc.getD i 0 ∧ m.fc.getD i 0 ≤ 255 := fun i hi => Gv (Na hw (by omega))
     have key : ∀ i t, p.fd[i]? = some t → _ := fun i t hi => (Nk hp hm hi (hr i (lI.1 hi).1)).1 (by have := FB ht i t hi; rwa [Nat.zero_add] at this)
     exact ⟨hp, hm, hr, fun i t hi hst => ((key i t hi).1 hst).1, fun i t hi hst => ((key i t hi).1 hst).2, fun i t hi hst => (key i t hi).2 hst⟩
theorem DQ {α R : Type} {f : Nat → α → Option R} : ∀ {i : Nat} {xs : List α}, (∀ j x, xs[j]? = some x → f (i + j) x = none) → CX f i xs = none
 | _, [], _ => rfl
 | i, y :: ys, h => by
  rw [E3, show f i y = none from h 0 y rfl]
  exact DQ fun j x hx => by
   have := h (j + 1) x (by simpa using hx)
   rwa [show i + (j + 1) = i + 1 + j from by omega] at this
theorem MU {p : Aa} (hp : Ci p) (hr : ∀ i, i < p.fb.length → 0 ≤ p.fm.getD i 0 ∧ p.fm.getD i 0 < p.fb.getD i 0 ∧ 0 ≤ p.fo.getD i 0 ∧ p.fo.getD i 0 < p.fb.getD i 0) : C4 p = 0 := by
 have := hp.nv
 have := hp.nt
 have := hp.now
 have := hp.tgt
 unfold C4
 rw [if_neg (by omega), if_neg (by omega)]
 have h1 : CX (Fq p) 0 p.fb = none := DQ fun j x hx => by
  have hj := (lI.1 hx).1
  have h1 := hr j hj
  have h2 := G4 hp hj
  have e : p.fb.getD j 0 = x := by rw [lD, hx]; rfl
  rw [e] at h1 h2
  unfold Fq
  rw [Nat.zero_add, if_neg (by omega)]
 have h2 : CX (Ld p) 0 p.fd = none := DQ fun j x hx => by
  unfold Ld
  rw [if_pos (hp.tab x (lM hx))]
 rw [h1, h2]; rfl
theorem Hu {p : Aa} (h : C4 p = 0) : Ci p ∧ ∀ i, i < p.fb.length → 0 ≤ p.fm.getD i 0 ∧ p.fm.getD i 0 < p.fb.getD i 0 ∧ 0 ≤ p.fo.getD i 0 ∧ p.fo.getD i 0 < p.fb.getD i 0 := by
 have hp : Ci p := by
  rcases Hj p with h | h
  ·exact h.2
  ·omega
 refine ⟨hp, fun i hi => ?_⟩
 have h1 := hp.nv
 have h2 := hp.nt
 have h3 := hp.now
 have h4 := hp.tgt
 unfold C4 at h
 rw [if_neg (by omega), if_neg (by omega)] at h
 cases hs : CX (Fq p) 0 p.fb with
 | some r =>
  obtain ⟨j, x, _, he⟩ := D8 hs
  rw [hs] at h
  unfold Fq at he
  split at he
  ·cases he; cases h
  ·cases he
 | none =>
  have hx : p.fb[i]? = some (p.fb.getD i 0) := by rw [lD]; simp [hi]
  have := FB hs i _ hx
  rw [Nat.zero_add] at this
  unfold Fq at this
  split at this
  ·cases this
  ·rename_i hn; omega
theorem HQ {p : Aa} {m : Ad} (hv : C4 p = 0) (hm : DJ p m) : DR p m = 0 := by
 obtain ⟨hp, _⟩ := Hu hv
 unfold DR
 rw [hv, if_neg (by simp), if_neg (by have := hm.base; have := hm.next; have := hm.held; omega)]
 have h1 : CX (KL m) 0 p.fb = none := DQ fun j x hx => by
  have hj := (lI.1 hx).1
  have e : p.fb.getD j 0 = x := by rw [lD, hx]; rfl
  have h1 := hm.b0 j hj
  have h2 := hm.n0 j hj
  have h3 := hm.ne j hj
  rw [e] at h1 h2
  unfold KL
  rw [Nat.zero_add, if_neg (by omega), if_neg h3]
 have h2 : CX (IB p m) 0 p.fd = none := DQ fun j x hx => by
  have hj := (lI.1 hx).1
  rw [Nat.zero_add]
  exact (Nk hp hm.toMixServ hx (hm.range j hj)).2 ⟨fun hst => ⟨hm.low j x hx hst, hm.high j x hx hst⟩, fun hst => hm.none j x hx hst⟩
 rw [h1, h2]; rfl
def M5 {α : Type} (g : Nat → α → Bool) : Nat → List α → Bool
 | _, [] => false
 | i, x :: xs => g i x || M5 g (i + 1) xs
theorem KD {α β : Type} (g : Nat → α → List β) (h : Nat → α → Bool) : ∀ (i : Nat) (xs : List α) (a : List β) (b : Bool),
  F9 (fun i x (s : List β × Bool) => (s.1 ++ g i x, s.2 || h i x)) i xs (a, b) = (a ++ Gb g i xs, b || M5 h i xs)
 | _, [], a, b => by simp [F9, Gb, M5]
 | i, x :: xs, a, b => by rw [F9, KD g h, Gb, M5, List.append_assoc, Bool.or_assoc]
def gC (i u : Nat) (m : Ad) (t : Aq) (v : Nat) (ok : Bool) : List An :=
 if F0 m t.fj.toNat v && (!ok && !t.fq) then [⟨(i : Int), (u : Int), (v : Int)⟩] else []
def hC (m : Ad) (t : Aq) (v : Nat) (ok : Bool) : Bool := F0 m t.fj.toNat v && ok
def IQ (i : Nat) (m : Ad) (t : Aq) (u : Nat) (row : List Bool) : List An :=
 Gb (gC i u m t) 0 row ++ if t.fq && !M5 (hC m t) 0 row then [⟨(i : Int), (u : Int), -1⟩] else []
def Ss (m : Ad) (i : Nat) (t : Aq) (u : Nat) : Bool := if Bj t then B1 (m.fc.getD i 0) u else F0 m t.fg.toNat u
def Jl (m : Ad) (i : Nat) (t : Aq) : List An := Gb (fun u row => if Ss m i t u then IQ i m t u row else []) 0 t.fp
def IS (p : Aa) (m : Ad) : List An := Gb (Jl m) 0 p.fd
structure Ni (p : Aa) (t : Aq) : Prop where
 kind : 1 ≤ t.ff ∧ t.ff ≤ 4
 aware : t.fq = true → Bj t = false
 from0 : 0 ≤ t.fg ∧ t.fg < (p.fb.length : Int)
 to0 : 0 ≤ t.fj ∧ t.fj < (p.fb.length : Int)
 okL : (t.fp.length : Int) = p.fb.getD t.fg.toNat 0
 okR : ∀ row, row ∈ t.fp → (row.length : Int) = p.fb.getD t.fj.toNat 0
 reL : t.ff = 4 → (t.fk.length : Int) = p.fb.getD t.fg.toNat 0
 reR : ∀ row, row ∈ t.fk → (row.length : Int) = p.fb.getD t.fg.toNat 0
 reD : t.ff = 4 → HI t.fk = none
 reN : t.ff ≠ 4 → t.fk = []
theorem Jt {p : Aa} {t : Aq} (h : CW p t = 0) : Ni p t := by
 unfold CW at h
 split at h
 ·cases h
 rename_i h1
 split at h
 ·cases h
 rename_i h2
 simp only at h
 split at h
 ·cases h
 rename_i h3
 have h3 : sq t.fp (p.fb.getD t.fg.toNat 0) (p.fb.getD t.fj.toNat 0) = true := by simpa using h3
 have h3 := Mu h3
 have ha : t.fq = true → Bj t = false := by
  intro ha
  unfold Bj
  rw [Bool.or_eq_false_iff, beq_eq_false_iff_ne, beq_eq_false_iff_ne]
  exact ⟨fun hk => h1 (.inr (.inr ⟨ha, .inl hk⟩)), fun hk => h1 (.inr (.inr ⟨ha, .inr hk⟩))⟩
 split at h
 ·rename_i h4
  split at h
  ·cases h
  rename_i h5
  have h5 : sq t.fk (p.fb.getD t.fg.toNat 0) (p.fb.getD t.fg.toNat 0) = true := by simpa using h5
  have h5 := Mu h5
  refine ⟨by omega, ha, by omega, by omega, h3.1, h3.2, fun _ => h5.1, h5.2, fun _ => ?_, fun h => (h h4).elim⟩
  cases hd : HI t.fk with
  | none => rfl
  | some r =>
   obtain ⟨j, x, _, hx⟩ := D8 hd
   rw [hd] at h
   split at hx
   ·cases hx
   ·cases hx; cases h
 ·rename_i h4
  split at h
  ·rename_i h5
   have h5 := List.eq_nil_of_length_eq_zero h5
   refine ⟨by omega, ha, by omega, by omega, h3.1, h3.2, fun h => (h4 h).elim, fun row hr => ?_, fun h => (h4 h).elim, fun _ => h5⟩
   rw [h5] at hr; cases hr
  ·cases h
theorem MA {R : Type} (b : Bool) (acc : List An) (x : An) (j : List An → Option R) (h : acc.length + 1 ≤ Dz) :
  AM b ((Dd (acc.length + ([x] : List An).length ≤ Dz)).bind fun _ => j (acc ++ [x])) (j acc) = j (acc ++ if b then [x] else []) := by
 cases b
 ·simp
 ·rw [AR, Au (by simpa using h)]; rfl
theorem N5 (N : Nat) (m : Ad) (t : Aq) (i u : Nat) (row : List Bool) (R : Int) (b1 b2 acc : List An) (j : List An × Bool → Option (List An))
  (hN : N ≤ 1000000) (h8 : 8 ≤ N) (hrow : row.length ≤ 6) (hacc : acc.length + 6 ≤ Dz) (hR0 : 0 ≤ R) (hR1 : R ≤ 255) (hRb : ∀ v, B1 R v = F0 m t.fj.toNat v) :
  A7 N (b1, (i : Int)) t R (b2, (u : Int)) row j N (acc, false, 0) = j (acc ++ Gb (gC i u m t) 0 row, M5 (hC m t) 0 row) := by
 have := Ik (A := List An × Bool) (A7 N (b1, (i : Int)) t R (b2, (u : Int)) row j) (fun a k => (a.1, a.2, k)) row (fun a => j a) (fun v ok s => (s.1 ++ gC i u m t v ok, s.2 || hC m t v ok))
  (fun v a => v ≤ row.length ∧ a.1.length ≤ acc.length + v)
  (fun n v ok a hx ha => by
   have hv := (lI.1 hx).1
   obtain ⟨c, f⟩ := a
   simp only at ha
   refine ⟨?_, by omega, ?_⟩
   ·rw [A7]
    simp only [Bu]
    rw [AN (by omega), BB, hx]
    simp only [oS]
    rw [Au (by omega), NU hR0 hR1 (by omega), hRb, A0 (by omega), MA _ _ _ (fun l => A7 N (b1, (i : Int)) t R (b2, (u : Int)) row j n (l, true, ((v + 1 : Nat) : Int))) (by omega)]
    unfold gC hC
    rw [MA _ _ _ (fun l => A7 N (b1, (i : Int)) t R (b2, (u : Int)) row j n (l, ok, ((v + 1 : Nat) : Int))) (by omega)]
    cases F0 m t.fj.toNat v
    ·simp
    ·cases ok <;> cases f <;> cases t.fq <;> simp
   ·simp only [gC, List.length_append]
    split <;> simp <;> omega)
  (fun n a _ => by
   rw [A7]
   simp only [Bu]
   rw [AQ (by omega)]) N 0 (acc, false) (by omega) (by omega) ⟨by omega, by simp⟩
 have h2 := this.1
 rw [List.drop_zero, KD, Bool.false_or] at h2
 exact h2
theorem Pg {p : Aa} {t : Aq} (hp : Ci p) (ht : Ni p t) : t.fp.length ≤ 6 ∧ ∀ row, row ∈ t.fp → row.length ≤ 6 := by
 have h1 := JE hp.ver ht.from0.1 ht.from0.2
 have h2 := JE hp.ver ht.to0.1 ht.to0.2
 have h3 := ht.okL
 exact ⟨by omega, fun row hr => by have := ht.okR row hr; omega⟩
theorem Qk (i u : Nat) (m : Ad) (t : Aq) (v : Nat) (ok : Bool) : (gC i u m t v ok).length ≤ 1 := by
 unfold gC; split <;> simp
theorem Oy (i : Nat) (m : Ad) (t : Aq) (u : Nat) (row : List Bool) (h : row.length ≤ 6) : (IQ i m t u row).length ≤ 7 := by
 unfold IQ
 rw [List.length_append]
 have := Ig (g := gC i u m t) (c := 1) (i := 0) (xs := row) (fun j x _ => Qk _ _ _ _ _ _)
 split <;> simp <;> omega
theorem QJ (i : Nat) (m : Ad) (t : Aq) (u : Nat) (row : List Bool) (h : row.length ≤ 6) : (if Ss m i t u = true then IQ i m t u row else []).length ≤ 7 := by
 have := Oy i m t u row h
 split <;> simp <;> omega
theorem NN {p : Aa} {t : Aq} (hp : Ci p) (ht : Ni p t) (i : Nat) (m : Ad) : (Jl m i t).length ≤ 42 := by
 have h1 := Pg hp ht
 have := Ig (g := fun u row => if Ss m i t u = true then IQ i m t u row else []) (c := 7) (i := 0) (xs := t.fp) (fun j x hx => QJ i m t _ x (h1.2 x (lM hx)))
 unfold Jl
 omega
theorem Jh (N : Nat) (p : Aa) (m : Ad) (t : Aq) (i : Nat) (W R : Int) (b1 acc : List An) (j : List An → Option (List An))
  (hN : N ≤ 1000000) (h8 : 8 ≤ N) (hp : Ci p) (ht : Ni p t) (hacc : acc.length + 42 ≤ 10000) (hR0 : 0 ≤ R) (hR1 : R ≤ 255) (hRb : ∀ v, B1 R v = F0 m t.fj.toNat v) (hW0 : 0 ≤ W) (hW1 : W ≤ 255) (hWb : ∀ v, B1 W v = Ss m i t v) :
  Bo N (b1, (i : Int)) t R W j N (acc, 0) = j (acc ++ Jl m i t) := by
 have hl := Pg hp ht
 exact LO (Bo N (b1, (i : Int)) t R W j) (fun a k => (a, k)) t.fp j (fun u row => if Ss m i t u then IQ i m t u row else []) 7 10000
  (fun u row hx => QJ i m t u row (hl.2 row (lM hx)))
  (fun n u row a hx ha => by
   have hu := (lI.1 hx).1
   have hrow := hl.2 row (lM hx)
   rw [Bo]
   simp only [Bu]
   rw [AN (by omega), Au (by omega), NU hW0 hW1 (by omega), hWb, BB, hx]
   simp only [oS]
   rw [N5 N m t i u row R b1 a a _ hN h8 hrow (by unfold Dz; omega) hR0 hR1 hRb, A0 (by omega)]
   cases hw : Ss m i t u
   ·simp
   ·simp only [Bool.not_true, Aw, if_true, IQ]
    have h1 := Ig (g := gC i u m t) (c := 1) (i := 0) (xs := row) (fun j x _ => Qk _ _ _ _ _ _)
    have := MA (R := List An) (t.fq && !M5 (hC m t) 0 row) (a ++ Gb (gC i u m t) 0 row) ⟨(i : Int), (u : Int), -1⟩ (fun l => Bo N (b1, (i : Int)) t R W j n (l, ((u + 1 : Nat) : Int))) (by rw [List.length_append]; unfold Dz; rw [hw, if_pos rfl] at ha; omega)
    rw [← List.append_assoc, ← this]
    cases t.fq <;> cases M5 (hC m t) 0 row <;> rfl)
  (fun n a => by
   rw [Bo]
   simp only [Bu]
   rw [AQ (by omega)]) N acc (by omega) (by omega)
theorem Jw (N : Nat) (p : Aa) (m : Ad) (hN : N ≤ 1000000) (h20 : 20 ≤ N) (hp : Ci p) (hm : DJ p m) : DF N p m = some (IS p m) := by
 unfold DF
 have hnt := hp.nt
 rw [LO (BW N p m _) (fun a k => (a, k)) p.fd some (Jl m) 42 9000
  (fun i t hx => NN hp (Jt (hp.tab t (lM hx))) i m)
  (fun n i t a hx ha => by
   have hi := (lI.1 hx).1
   have ht := Jt (hp.tab t (lM hx))
   have hto := ht.to0
   have hfr := ht.from0
   have hR := Ic hp hm.toMixServ (s := t.fj.toNat) (by omega)
   have hF := Ic hp hm.toMixServ (s := t.fg.toNat) (by omega)
   have hH := hm.range i hi
   rw [BW]
   simp only [Bu]
   rw [AN (by omega), BB, hx]
   simp only [oS, Iw]
   rw [IK N m t.fg hfr.1 (by rw [hm.base]; exact hfr.2) (by rw [hm.next]; exact hfr.2) (hm.b0 _ (by omega)).1, IK N m t.fj hto.1 (by rw [hm.base]; exact hto.2) (by rw [hm.next]; exact hto.2) (hm.b0 _ (by omega)).1, DV (d := 0) (by rw [hm.held]; exact hi), A0 (by omega)]
   simp only [oS]
   cases hs : Bj t
   ·rw [Aw, Jh N p m t i _ _ a a _ hN (by omega) hp ht (by omega) hR.2.1 hR.2.2 hR.1 hF.2.1 hF.2.2 (fun v => by unfold Ss; rw [hs, hF.1]; rfl)]
   ·rw [AR, Jh N p m t i _ _ a a _ hN (by omega) hp ht (by omega) hR.2.1 hR.2.2 hR.1 hH.1 hH.2 (fun v => by unfold Ss; rw [hs]; rfl)])
  (fun n a => by
   rw [BW]
   simp only [Bu]
   rw [AQ (by omega)]) N [] (by omega) (by simp; omega)]
 rfl
theorem FK {A S R : Type} (L : Nat → S → Option R) (mk : A → Int → S) (len : Nat) (j : A → Option R) (I : Nat → A → Prop)
  (hs : ∀ (n i : Nat) (a : A), i < len → I i a → ∃ a', L (n + 1) (mk a (i : Int)) = L n (mk a' ((i + 1 : Nat) : Int)) ∧ I (i + 1) a')
  (he : ∀ (n : Nat) (a : A), I len a → L (n + 1) (mk a (len : Int)) = j a) :
  ∀ (n i : Nat) (a : A), i ≤ len → len - i < n → I i a → ∃ a', L n (mk a (i : Int)) = j a' ∧ I len a'
 | 0, i, _, _, h, _ => by omega
 | n + 1, i, a, hi, h, ha => by
  by_cases h1 : i < len
  ·obtain ⟨a', e1, e2⟩ := hs n i a h1 ha
   rw [e1]
   exact FK L mk len j I hs he n (i + 1) _ (by omega) (by omega) e2
  ·have : i = len := by omega
   subst this
   exact ⟨a, he n a ha, ha⟩
theorem GP {α : Type} {xs ys : List α} {i : Nat} {d : α} (h : i < xs.length) : (xs ++ ys).getD i d = xs.getD i d := by
 rw [lD, lD, List.getElem?_append_left h]
theorem GU {α : Type} {xs : List α} {y : α} {i : Nat} {d : α} (h : i = xs.length) : (xs ++ [y]).getD i d = y := by
 subst h; rw [lD, List.getElem?_append_right (Nat.le_refl _)]; simp
theorem Eo {α : Type} {P : Nat → α → Prop} {xs : List α} {y : α} {d : α} {n : Nat} (hn : xs.length = n) (h : ∀ k, k < n → P k (xs.getD k d)) (hy : P n y) : ∀ k, k < n + 1 → P k ((xs ++ [y]).getD k d) := by
 intro k hk
 by_cases h1 : k < n
 ·rw [GP (by omega)]; exact h k h1
 ·have : k = n := by omega
  subst this
  rw [GU hn.symm]; exact hy
theorem OO (x : BitVec 8) : wI .u8 (x.toNat : Int) = (x.toNat : Int) := by
 have := x.isLt
 simp [wI, IntKind.signed, IntKind.bits]
 omega
theorem PU {a : Int} (h : 0 ≤ a ∧ a ≤ 255) : wI .u8 a = a := by
 simp [wI, IntKind.signed, IntKind.bits]
 omega
theorem Ht {a : Nat} (h : a < 256) (i : Nat) : (BitVec.ofInt 8 (a : Int)).toNat.testBit i = a.testBit i := by rw [O5 h]
theorem RH {a b : Int} (ha : 0 ≤ a ∧ a ≤ 255) (hb : 0 ≤ b ∧ b ≤ 255) : (∀ v, B1 (Kc .u8 a b) v = (B1 a v || B1 b v)) ∧ 0 ≤ Kc .u8 a b ∧ Kc .u8 a b ≤ 255 := by
 obtain ⟨a, rfl⟩ := Int.eq_ofNat_of_zero_le ha.1
 obtain ⟨b, rfl⟩ := Int.eq_ofNat_of_zero_le hb.1
 have e : Kc .u8 (a : Int) (b : Int) = ((BitVec.ofInt 8 (a : Int) ||| BitVec.ofInt 8 (b : Int)).toNat : Int) := OO _
 have hlt := (BitVec.ofInt 8 (a : Int) ||| BitVec.ofInt 8 (b : Int)).isLt
 rw [e]
 refine ⟨fun v => ?_, by omega, by omega⟩
 unfold B1
 simp only [Int.toNat_natCast, BitVec.toNat_or, Nat.testBit_or]
 rw [Ht (by omega), Ht (by omega)]
theorem Qz {a b : Int} (ha : 0 ≤ a ∧ a ≤ 255) (hb : 0 ≤ b ∧ b ≤ 255) : (∀ v, B1 (Ea .u8 a b) v = (B1 a v && B1 b v)) ∧ 0 ≤ Ea .u8 a b ∧ Ea .u8 a b ≤ 255 := by
 obtain ⟨a, rfl⟩ := Int.eq_ofNat_of_zero_le ha.1
 obtain ⟨b, rfl⟩ := Int.eq_ofNat_of_zero_le hb.1
 have e : Ea .u8 (a : Int) (b : Int) = ((BitVec.ofInt 8 (a : Int) &&& BitVec.ofInt 8 (b : Int)).toNat : Int) := OO _
 have hlt := (BitVec.ofInt 8 (a : Int) &&& BitVec.ofInt 8 (b : Int)).isLt
 rw [e]
 refine ⟨fun v => ?_, by omega, by omega⟩
 unfold B1
 simp only [Int.toNat_natCast, BitVec.toNat_and, Nat.testBit_and]
 rw [Ht (by omega), Ht (by omega)]
theorem Iu {l : List Int} (hw : JY IY l) (i : Nat) : 0 ≤ l.getD i 0 ∧ l.getD i 0 ≤ 255 := by
 by_cases h : i < l.length
 ·have : l.getD i 0 ∈ l := by rw [lD, List.getElem?_eq_getElem h]; exact List.getElem_mem _
  exact Gv (hw _ this)
 ·rw [lD, List.getElem?_eq_none (by omega)]
  exact ⟨by decide, by decide⟩
theorem Jv (N : Nat) {l : List Int} (hw : JY IY l) (i : Nat) : BX N l (i : Int) = some (l.getD i 0) := by
 unfold BX
 have h2 := Iu hw i
 by_cases h : i < l.length
 ·rw [AN (by omega), DV (d := 0) h]
  simp only [oS]
  rw [Cn (by omega) (by omega)]
 ·rw [AQ (by omega), lD, List.getElem?_eq_none (by omega)]; rfl
theorem L0 (N : Nat) {l : List Int} (hw : JY IY l) (i : Nat) : Cs N l (i : Int) = some (l.getD i 0) := by
 unfold Cs
 have h2 := Iu hw i
 by_cases h : i < l.length
 ·rw [AN (by omega), DV (d := 0) h]
  simp only [oS]
  rw [Cn (by omega) (by omega)]
 ·rw [AQ (by omega), lD, List.getElem?_eq_none (by omega)]; rfl
def SK (n b : Int) : Int := Int.tmod b n
def SA (n b k : Int) : Int := if 0 < Int.tmod k n then Int.tmod (Int.tmod b n + Int.tmod k n) n else -1
theorem C9 {a n : Int} (ha : 0 ≤ a) (hn : 0 < n) : 0 ≤ Int.tmod a n ∧ Int.tmod a n < n := ⟨Int.tmod_nonneg n ha, Int.tmod_lt_of_pos a hn⟩
theorem QA {n b k : Int} (hn : 0 < n) (hb : 0 ≤ b) (hk : 0 ≤ k) : (0 ≤ SK n b ∧ SK n b < n) ∧ (-1 ≤ SA n b k ∧ SA n b k < n) ∧ SK n b ≠ SA n b k := by
 unfold SK SA
 have h1 := C9 hb hn
 have h2 := C9 hk hn
 split
 ·rename_i h
  have h3 := C9 (a := Int.tmod b n + Int.tmod k n) (by omega) hn
  refine ⟨h1, by omega, fun he => ?_⟩
  generalize Int.tmod b n = x at *
  generalize Int.tmod k n = y at *
  rw [Int.tmod_eq_emod_of_nonneg (by omega)] at he
  by_cases hxy : x + y < n
  ·rw [Int.emod_eq_of_lt (by omega) hxy] at he; omega
  ·have : (x + y) % n = x + y - n := by
    rw [← Int.emod_eq_of_lt (show 0 ≤ x + y - n by omega) (show x + y - n < n by omega)]
    simp
   omega
 ·exact ⟨h1, by omega, by omega⟩
structure TY (p : Aa) (x : AZ) (m : Ad) : Prop where
 bl : m.fe.length = p.fb.length
 nl : m.fa.length = p.fb.length
 hl : m.fc.length = p.fd.length
 b : ∀ k, k < p.fb.length → m.fe.getD k 0 = SK (p.fb.getD k 0) (x.fe.getD k 0)
 n : ∀ k, k < p.fb.length → m.fa.getD k 0 = SA (p.fb.getD k 0) (x.fe.getD k 0) (x.fa.getD k 0)
 r : ∀ k, k < p.fd.length → 0 ≤ m.fc.getD k 0 ∧ m.fc.getD k 0 ≤ 255
 s : ∀ k t, p.fd[k]? = some t → Bj t = true → ∀ v, B1 (m.fc.getD k 0) v = (F0 m t.fg.toNat v || (B1 (x.fc.getD k 0) v && decide ((v : Int) < p.fb.getD t.fg.toNat 0)))
 z : ∀ k t, p.fd[k]? = some t → Bj t = false → m.fc.getD k 0 = 0
def Qe (p : Aa) (x : AZ) (bs ns : List Int) (k : Nat) (y : Int) : Prop :=
 ∀ t, p.fd[k]? = some t → Bj t = true → ∀ v, B1 y v = (F0 ⟨bs, ns, []⟩ t.fg.toNat v || (B1 (x.fc.getD k 0) v && decide ((v : Int) < p.fb.getD t.fg.toNat 0)))
def QF (p : Aa) (k : Nat) (y : Int) : Prop := ∀ t, p.fd[k]? = some t → Bj t = false → y = 0
theorem Vb (N : Nat) (p : Aa) (x : AZ) (hN : N ≤ 1000000) (h20 : 20 ≤ N) (hp : Ci p) (hw : Dm x) : ∃ m, CP N p x = some m ∧ TY p x m ∧ DJ p m := by
 obtain ⟨w1, w2, w3, _⟩ := hw
 have hnv := hp.nv
 have hnt := hp.nt
 unfold CP
 obtain ⟨⟨bs, ns⟩, e, h1, h2, h3, h4⟩ := FK (A := List Int × List Int) (Bw N p x fun v2 => AT N p x v2 (fun v15 => some (Ad.mk v2.1 v2.2 v15)) N ([], 0)) (fun a k => (a.1, a.2, k)) p.fb.length
  (fun v2 => AT N p x v2 (fun v15 => some (Ad.mk v2.1 v2.2 v15)) N ([], 0))
  (fun i a => a.1.length = i ∧ a.2.length = i ∧ (∀ k, k < i → a.1.getD k 0 = SK (p.fb.getD k 0) (x.fe.getD k 0)) ∧ (∀ k, k < i → a.2.getD k 0 = SA (p.fb.getD k 0) (x.fe.getD k 0) (x.fa.getD k 0)))
  (fun n i a hi ha => by
   obtain ⟨bs, ns⟩ := a
   obtain ⟨h1, h2, h3, h4⟩ := ha
   simp only at h1 h2 h3 h4
   have hv := G4 hp hi
   have hb := Iu w1 i
   have hk := Iu w2 i
   have m1 := C9 (n := p.fb.getD i 0) hb.1 (by omega)
   have m2 := C9 (n := p.fb.getD i 0) hk.1 (by omega)
   refine ⟨(bs ++ [SK (p.fb.getD i 0) (x.fe.getD i 0)], ns ++ [SA (p.fb.getD i 0) (x.fe.getD i 0) (x.fa.getD i 0)]), ?_, ?_⟩
   ·rw [Bw]
    simp only [Bu]
    rw [AN (by omega), DV (d := 0) hi, Jv N w1, Jv N w2]
    simp only [oS]
    rw [Au (by omega), A0 (by omega), Cn (n := _ + _) (by omega) (by omega)]
    simp only [Au (show p.fb.getD i 0 ≠ 0 by omega)]
    have l1 : bs.length + ([Int.tmod (x.fe.getD i 0) (p.fb.getD i 0)] : List Int).length ≤ Dz := by rw [h1]; unfold Dz; simp; omega
    have l2 : ∀ y : Int, ns.length + ([y] : List Int).length ≤ Dz := by intro y; rw [h2]; unfold Dz; simp; omega
    simp only [Au l1, Au (l2 _)]
    unfold SK SA
    by_cases h : 0 < Int.tmod (x.fa.getD i 0) (p.fb.getD i 0)
    ·rw [AN h, if_pos h]
    ·rw [AQ h, if_neg h]
   ·refine ⟨by simp [h1], by simp [h2], Eo (P := fun k y => y = _) h1 h3 rfl, Eo (P := fun k y => y = _) h2 h4 rfl⟩)
  (fun n a _ => by
   rw [Bw]
   simp only [Bu]
   rw [AQ (by omega)]) N 0 ([], []) (Nat.zero_le _) (by omega) ⟨rfl, rfl, fun k hk => by omega, fun k hk => by omega⟩
 simp only at h1 h2 h3 h4
 have e' : Bw N p x (fun v2 => AT N p x v2 (fun v15 => some (Ad.mk v2.1 v2.2 v15)) N ([], 0)) N ([], [], 0) = _ := e
 rw [e']
 have hrng : ∀ k, k < p.fb.length → (0 ≤ bs.getD k 0 ∧ bs.getD k 0 < p.fb.getD k 0) ∧ (-1 ≤ ns.getD k 0 ∧ ns.getD k 0 < p.fb.getD k 0) ∧ bs.getD k 0 ≠ ns.getD k 0 := by
  intro k hk
  rw [h3 k hk, h4 k hk]
  exact QA (by have := G4 hp hk; omega) (Iu w1 k).1 (Iu w2 k).1
 obtain ⟨hs, e2, g1, g2, g3, g4⟩ := FK (A := List Int) (AT N p x (bs, ns) (fun v15 => some (Ad.mk bs ns v15))) (fun a k => (a, k)) p.fd.length (fun v15 => some (Ad.mk bs ns v15))
  (fun i a => a.length = i ∧ (∀ k, k < i → 0 ≤ a.getD k 0 ∧ a.getD k 0 ≤ 255) ∧
   (∀ k, k < i → Qe p x bs ns k (a.getD k 0)) ∧
   (∀ k, k < i → QF p k (a.getD k 0)))
  (fun n i a hi ha => by
   obtain ⟨k1, k2, k3, k4⟩ := ha
   have hx : p.fd[i]? = some p.fd[i] := by simp [hi]
   generalize p.fd[i] = t at hx
   have ht := Jt (hp.tab t (lM hx))
   have hfr := ht.from0
   have hv := G4 hp (i := t.fg.toNat) (by omega)
   have hr := hrng t.fg.toNat (by omega)
   have hrun := NK (m := ⟨bs, ns, a⟩) (s := t.fg.toNat) hr.1.1 (show bs.getD _ 0 < 8 by omega) (show ns.getD _ 0 < 8 by omega)
   have hall := OR (n := p.fb.getD t.fg.toNat 0) (by omega) (by omega)
   have hh := Iu w3 i
   have e1 := Qz hh hall.2
   have e2 := RH hrun.2 e1.2
   cases hst : Bj t
   ·refine ⟨a ++ [0], ?_, by simp [k1], Eo (P := fun _ y => 0 ≤ y ∧ y ≤ 255) k1 k2 (by omega), Eo (P := Qe p x bs ns) k1 k3 (fun t' ht' hs' => by rw [hx] at ht'; cases ht'; rw [hst] at hs'; cases hs'), Eo (P := QF p) k1 k4 (fun _ _ _ => rfl)⟩
    rw [AT]
    simp only [Bu]
    rw [AN (by omega), BB, hx]
    simp only [oS, Is, hst, Aw]
    rw [Au (by rw [k1]; unfold Dz; simp; omega), A0 (by omega)]
   ·refine ⟨a ++ [Kc .u8 (Fy ⟨bs, ns, a⟩ t.fg.toNat) (Ea .u8 (x.fc.getD i 0) (wI .u8 (CJ .u8 1 (p.fb.getD t.fg.toNat 0) - 1)))], ?_, by simp [k1], Eo (P := fun _ y => 0 ≤ y ∧ y ≤ 255) k1 k2 e2.2, Eo (P := Qe p x bs ns) k1 k3 (fun t' ht' _ v => by
      rw [hx] at ht'; cases ht'
      rw [e2.1, e1.1, hall.1, hrun.1]; rfl), Eo (P := QF p) k1 k4 (fun t' ht' hs' => by rw [hx] at ht'; cases ht'; rw [hst] at hs'; cases hs')⟩
    rw [AT]
    simp only [Bu]
    rw [AN (by omega), BB, hx]
    simp only [oS, Is, hst, AR]
    rw [Fi (d := 0) hfr.1 hfr.2]
    simp only [oS]
    rw [Au (by omega), OE N ⟨bs, ns, a⟩ t.fg hfr.1 (show _ < (bs.length : Int) by omega) (show _ < (ns.length : Int) by omega) hr.1.1, Jv N w3]
    simp only [oS]
    rw [Au (by rw [k1]; unfold Dz; simp; omega), A0 (by omega), PU hh])
  (fun n a _ => by
   rw [AT]
   simp only [Bu]
   rw [AQ (by omega)]) N 0 [] (Nat.zero_le _) (by omega) ⟨rfl, fun k hk => by omega, fun k hk => by omega, fun k hk => by omega⟩
 have e2' : AT N p x (bs, ns) (fun v15 => some (Ad.mk bs ns v15)) N ([], 0) = _ := e2
 refine ⟨⟨bs, ns, hs⟩, e2', ⟨h1, h2, g1, h3, h4, g2, fun k t ht hst => g3 k (lI.1 ht).1 t ht hst, fun k t ht hst => g4 k (lI.1 ht).1 t ht hst⟩, ?_⟩
 refine ⟨⟨h1, h2, g1, fun i hi => (hrng i hi).1, fun i hi => (hrng i hi).2.1, fun i hi => (hrng i hi).2.2⟩, g2, ?_, ?_, fun k t ht hst => g4 k (lI.1 ht).1 t ht hst⟩
 ·intro k t ht hst v hv
  rw [g3 k (lI.1 ht).1 t ht hst v]
  rw [show F0 ⟨bs, ns, []⟩ t.fg.toNat v = true from hv]; rfl
 ·intro k t ht hst v hv
  have hin := (Jt (hp.tab t (lM ht))).from0
  have hr := hrng t.fg.toNat (by omega)
  have hv : B1 (hs.getD k 0) v = true := hv
  rw [g3 k (lI.1 ht).1 t ht hst v] at hv
  simp only [Bool.or_eq_true, Bool.and_eq_true, decide_eq_true_eq, F0] at hv
  rcases hv with (h | h) | h
  ·omega
  ·omega
  ·exact h.2
theorem Sv {l : List (List Bool)} {n m : Int} (h1 : (l.length : Int) = n) (h2 : ∀ row, row ∈ l → (row.length : Int) = m) : sq l n m = true := by
 unfold sq
 simp only [Bool.and_eq_true, decide_eq_true_eq, List.all_eq_true]
 exact ⟨h1, h2⟩
theorem Tw {p : Aa} {t : Aq} (h : Ni p t) : CW p t = 0 := by
 have hk := h.kind
 have hf := h.from0
 have ht := h.to0
 unfold CW
 rw [if_neg, if_neg (by omega)]
 ·simp only [Sv h.okL h.okR]
  rw [if_neg (by simp)]
  by_cases h4 : t.ff = 4
  ·rw [if_pos h4, Sv (h.reL h4) h.reR, if_neg (by simp), h.reD h4]; rfl
  ·rw [if_neg h4, h.reN h4]; rfl
 ·rintro (h1 | h1 | ⟨h1, h2⟩)
  ·omega
  ·omega
  ·have := h.aware h1
   unfold Bj at this
   rw [Bool.or_eq_false_iff, beq_eq_false_iff_ne, beq_eq_false_iff_ne] at this
   omega
theorem QL (N : Nat) (m bad : Int) (diag : Bool) (i : Nat) (acc : List (List Bool)) {_R : Type} (j : List Bool → Option (List (List Bool))) (hN : N ≤ 1000000) (h20 : 20 ≤ N) (hm : 0 ≤ m ∧ m ≤ 6) (hi : i < 6) :
  ∃ row, Bl N m bad diag (acc, (i : Int)) j N ([], 0) = j row ∧ (row.length : Int) = m ∧ (diag = true → (i : Int) < m → row.getD i false = true) := by
 obtain ⟨M, rfl⟩ := Int.eq_ofNat_of_zero_le hm.1
 obtain ⟨row, e, h1, h2⟩ := FK (A := List Bool) (Bl N (M : Int) bad diag (acc, (i : Int)) j) (fun a k => (a, k)) M j
  (fun k a => a.length = k ∧ ∀ q, q < k → diag = true → q = i → a.getD q false = true)
  (fun n k a hk ha => by
   refine ⟨a ++ [(diag && decide (i = k)) || (Int.tmod (Ee .u16 bad ((3 * i + k : Nat) : Int)) 2 == 0)], ?_, by simp [ha.1], Eo (P := fun q y => diag = true → q = i → y = true) ha.1 ha.2 (fun h1 h2 => by simp [h1, h2])⟩
   rw [Bl]
   simp only [Bu]
   rw [AN (by omega), A0 (by omega), Cn (n := 3 * (i : Int)) (by omega) (by omega), Cn (n := 3 * (i : Int) + (k : Int)) (by omega) (by omega)]
   have l1 : ∀ y : Bool, a.length + ([y] : List Bool).length ≤ Dz := by intro y; rw [ha.1]; unfold Dz; simp; omega
   simp only [Au (l1 _), Au (show (0 : Int) ≤ 3 * (i : Int) + (k : Int) by omega)]
   have e1 : ((3 * i + k : Nat) : Int) = 3 * (i : Int) + (k : Int) := by omega
   rw [e1]
   have e2 : (((i : Nat) : Int) == ((k : Nat) : Int)) = decide (i = k) := by
    by_cases h : i = k
    ·simp [h]
    ·rw [decide_eq_false h]; exact beq_eq_false_iff_ne.2 (by omega)
   rw [e2]
   cases diag <;> cases decide (i = k) <;> rfl)
  (fun n a _ => by
   rw [Bl]
   simp only [Bu]
   rw [AQ (by omega)]) N 0 [] (Nat.zero_le _) (by omega) ⟨rfl, fun q hq => by omega⟩
 exact ⟨row, e, by omega, fun hd hlt => h2 i (by omega) hd rfl⟩
theorem O7 (N : Nat) (n m bad : Int) (diag : Bool) (hN : N ≤ 1000000) (h20 : 20 ≤ N) (hn : 0 ≤ n ∧ n ≤ 6) (hm : 0 ≤ m ∧ m ≤ 6) :
  ∃ l, Ct N n m bad diag = some l ∧ (l.length : Int) = n ∧ (∀ row, row ∈ l → (row.length : Int) = m) ∧ (diag = true → n = m → HI l = none) := by
 obtain ⟨M, rfl⟩ := Int.eq_ofNat_of_zero_le hn.1
 unfold Ct
 obtain ⟨l, e, h1, h2⟩ := FK (A := List (List Bool)) (Bm N (M : Int) m bad diag (fun v => some v)) (fun a k => (a, k)) M some
  (fun k a => a.length = k ∧ ∀ q, q < k → (((a.getD q []).length : Nat) : Int) = m ∧ (diag = true → (q : Int) < m → (a.getD q []).getD q false = true))
  (fun n k a hk ha => by
   obtain ⟨row, e, h1, h2⟩ := QL (_R := Unit) N m bad diag k a (fun (v5 : List Bool) =>
    (Dd (a.length + (([v5] : List (List Bool))).length ≤ Dz)).bind fun _ =>
    Bm N (M : Int) m bad diag (fun v => some v) n (a ++ (([v5] : List (List Bool))), (wI .i64 ((k : Int) + 1)))) hN h20 hm (by omega)
   refine ⟨a ++ [row], ?_, by simp [ha.1], Eo (P := fun q y => ((y.length : Nat) : Int) = m ∧ (diag = true → (q : Int) < m → y.getD q false = true)) ha.1 ha.2 ⟨h1, h2⟩⟩
   rw [Bm]
   simp only
   rw [AN (by omega), e, Au (by rw [ha.1]; unfold Dz; simp; omega), A0 (by omega)])
  (fun n a _ => by
   rw [Bm]
   simp only
   rw [AQ (by omega)]) N 0 [] (Nat.zero_le _) (by omega) ⟨rfl, fun q hq => by omega⟩
 have key : ∀ q row, l[q]? = some row → l.getD q [] = row := fun q row hq => by rw [lD, hq]; rfl
 refine ⟨l, e, by omega, fun row hr => ?_, fun hd hnm => ?_⟩
 ·obtain ⟨q, hq⟩ := List.mem_iff_getElem?.1 hr
  have := (h2 q (by have := (lI.1 hq).1; omega)).1
  rwa [key q row hq] at this
 ·unfold HI
  refine DQ fun q row hq => ?_
  have hlt := (lI.1 hq).1
  have := (h2 q (by omega)).2 hd (by omega)
  rw [key q row hq] at this
  rw [Nat.zero_add, this]; rfl
structure P2 (p : Aa) : Prop where
 valid : C4 p = 0
 nv : p.fb.length ≤ 3
 nt : p.fd.length ≤ 4
 v3 : ∀ v, v ∈ p.fb → v ≤ 3
theorem Ph {p q : Aa} (h : p.fb = q.fb) (t : Aq) : CW p t = CW q t := by
 unfold CW; rw [h]
theorem Va (N : Nat) (d : A9) (hN : N ≤ 1000000) (h20 : 20 ≤ N) (hw : Dj d) : ∃ p ok, CR N d = some (p, ok) ∧ (ok = true → P2 p) := by
 obtain ⟨w1, w2, w3, w4, _⟩ := hw
 unfold CR
 simp only [Bu]
 by_cases k1 : 3 < d.fb.length
 ·rw [AN (by omega)]; exact ⟨_, false, rfl, fun h => by cases h⟩
 by_cases k2 : 4 < d.fr.length
 ·rw [AQ (by omega), decide_eq_true (by omega : (4 : Int) < (d.fr.length : Int))]; exact ⟨_, false, rfl, fun h => by cases h⟩
 rw [AQ (by omega), decide_eq_false (by omega : ¬ (4 : Int) < (d.fr.length : Int)), Aw]
 obtain ⟨⟨vs, ns, ts⟩, e, h1, h2, h3, h4⟩ := FK (A := List Int × List Int × List Int) (Bx N d fun v5 => AX N d v5 (fun v16 => some (Aa.mk v5.1 v5.2.1 v5.2.2 v16, true)) N ([], 0)) (fun a k => (a.1, a.2.1, a.2.2, k)) d.fb.length
  (fun v5 => AX N d v5 (fun v16 => some (Aa.mk v5.1 v5.2.1 v5.2.2 v16, true)) N ([], 0))
  (fun i a => a.1.length = i ∧ a.2.1.length = i ∧ a.2.2.length = i ∧ (∀ k, k < i → (1 ≤ a.1.getD k 0 ∧ a.1.getD k 0 ≤ 3) ∧ (0 ≤ a.2.1.getD k 0 ∧ a.2.1.getD k 0 < a.1.getD k 0) ∧ (0 ≤ a.2.2.getD k 0 ∧ a.2.2.getD k 0 < a.1.getD k 0)))
  (fun n i a hi ha => by
   obtain ⟨vs, ns, ts⟩ := a
   obtain ⟨h1, h2, h3, h4⟩ := ha
   simp only at h1 h2 h3 h4
   have hv := Iu w1 i
   have hb := Iu w2 i
   have hk := Iu w3 i
   have hm := C9 (n := 3) hv.1 (by omega)
   obtain ⟨v, hvd⟩ : ∃ v, v = 1 + Int.tmod (d.fb.getD i 0) 3 := ⟨_, rfl⟩
   have m1 := C9 (n := v) hb.1 (by omega)
   have m2 := C9 (n := v) hk.1 (by omega)
   refine ⟨(vs ++ [v], ns ++ [Int.tmod (d.fm.getD i 0) v], ts ++ [Int.tmod (d.fo.getD i 0) v]), ?_, by simp [h1], by simp [h2], by simp [h3], ?_⟩
   ·rw [Bx]
    simp only
    rw [AN (by omega), DV (d := 0) hi, L0 N w2, L0 N w3]
    simp only [oS]
    rw [Cn (n := Int.tmod _ _) (by omega) (by omega), Cn (n := 1 + _) (by omega) (by omega), ← hvd, A0 (by omega)]
    have l1 : ∀ y : Int, vs.length + ([y] : List Int).length ≤ Dz := by intro y; rw [h1]; unfold Dz; simp; omega
    have l2 : ∀ y : Int, ns.length + ([y] : List Int).length ≤ Dz := by intro y; rw [h2]; unfold Dz; simp; omega
    have l3 : ∀ y : Int, ts.length + ([y] : List Int).length ≤ Dz := by intro y; rw [h3]; unfold Dz; simp; omega
    simp only [Au (l1 _), Au (l2 _), Au (l3 _), Au (show v ≠ 0 by omega)]
   ·intro k hk
    simp only
    by_cases hki : k < i
    ·rw [GP (by omega), GP (by omega), GP (by omega)]; exact h4 k hki
    ·have : k = i := by omega
     subst this
     rw [GU h1.symm, GU h2.symm, GU h3.symm]
     omega)
  (fun n a _ => by
   rw [Bx]
   simp only
   rw [AQ (by omega)]) N 0 ([], [], []) (Nat.zero_le _) (by omega) ⟨rfl, rfl, rfl, fun k hk => by omega⟩
 simp only at h1 h2 h3 h4
 have e' : Bx N d (fun v5 => AX N d v5 (fun v16 => some (Aa.mk v5.1 v5.2.1 v5.2.2 v16, true)) N ([], 0)) N ([], [], [], 0) = _ := e
 rw [e']
 have hvs : ∀ v, v ∈ vs → 1 ≤ v ∧ v ≤ 3 := by
  intro v hv
  obtain ⟨q, hq⟩ := List.mem_iff_getElem?.1 hv
  have := (h4 q (by have := (lI.1 hq).1; omega)).1
  rwa [lD, hq] at this
 have fin : ∀ Kn : List Aq, Kn.length ≤ 4 → (∀ t, t ∈ Kn → CW ⟨vs, ns, ts, []⟩ t = 0) → P2 ⟨vs, ns, ts, Kn⟩ := by
  intro Kn ht h
  have hp : Ci ⟨vs, ns, ts, Kn⟩ := ⟨show vs.length ≤ 6 by omega, show Kn.length ≤ 12 by omega, show ns.length = vs.length by omega, show ts.length = vs.length by omega, fun v hv => by have := hvs v hv; omega, fun t ht => by rw [← h t ht]; exact Ph rfl t⟩
  exact ⟨MU hp fun i hi => by have := h4 i (by have : i < vs.length := hi; omega); simp only; omega, show vs.length ≤ 3 by omega, ht, fun v hv => (hvs v hv).2⟩
 by_cases k3 : vs.length = 0
 ·refine ⟨_, true, ?_, fun _ => fin [] (by simp) (fun t ht => by cases ht)⟩
  obtain ⟨M, rfl⟩ : ∃ M, N = M + 1 := ⟨N - 1, by omega⟩
  rw [AX]
  simp only [Bu]
  rw [k3]
  by_cases k4 : (0 : Int) < (d.fr.length : Int)
  ·rw [AN k4]; rfl
  ·rw [AQ k4]; rfl
 obtain ⟨Kn, e2, g1, g2⟩ := FK (A := List Aq) (AX N d (vs, ns, ts) (fun v16 => some (Aa.mk vs ns ts v16, true))) (fun a k => (a, k)) d.fr.length (fun v16 => some (Aa.mk vs ns ts v16, true))
  (fun i a => a.length = i ∧ ∀ t, t ∈ a → CW ⟨vs, ns, ts, []⟩ t = 0)
  (fun n i a hi ha => by
   have hx : d.fr[i]? = some d.fr[i] := by simp [hi]
   generalize d.fr[i] = l at hx
   obtain ⟨u1, u2, u3, _, u5, u6, _⟩ := w4 l (lM hx)
   have u1 := Gv u1
   have u2 := Gv u2
   have u3 := Gv u3
   have mk := C9 (n := 4) u1.1 (by omega)
   have hL : (0 : Int) < (vs.length : Int) := by omega
   have mf := C9 (n := (vs.length : Int)) u2.1 hL
   have mt := C9 (n := (vs.length : Int)) u3.1 hL
   rw [AX]
   simp only [Bu]
   rw [AN (by omega), decide_eq_true hL, AR, BB, hx]
   simp only [oS]
   rw [Au (by omega), Au (by omega), Cn (n := l.fg) (by omega) (by omega), Cn (n := l.fj) (by omega) (by omega), Cn (n := Int.tmod l.ff 4) (by omega) (by omega), Cn (n := 1 + _) (by omega) (by omega), A0 (by omega)]
   simp only [L3, oS]
   rw [Fi (d := 0) mf.1 mf.2, Fi (d := 0) mt.1 mt.2]
   simp only [oS]
   have hA : ∀ q : Int, 0 ≤ q → q < (vs.length : Int) → 1 ≤ vs.getD q.toNat 0 ∧ vs.getD q.toNat 0 ≤ 3 := fun q h0 h1 => (h4 q.toNat (by omega)).1
   have hf := hA _ mf.1 mf.2
   have ht := hA _ mt.1 mt.2
   obtain ⟨A, eA, a1, a2, _⟩ := O7 N (vs.getD (Int.tmod l.fg (vs.length : Int)).toNat 0) (vs.getD (Int.tmod l.fj (vs.length : Int)).toNat 0) l.ft false hN h20 (by omega) (by omega)
   obtain ⟨B, eB, b1, b2, b3⟩ := O7 N (vs.getD (Int.tmod l.fg (vs.length : Int)).toNat 0) (vs.getD (Int.tmod l.fg (vs.length : Int)).toNat 0) l.fu true hN h20 (by omega) (by omega)
   rw [eA, eB]
   simp only [oS]
   have l1 : ∀ y : Aq, a.length + ([y] : List Aq).length ≤ Dz := by intro y; rw [ha.1]; unfold Dz; simp; omega
   simp only [Au (l1 _)]
   obtain ⟨kd, hkd⟩ : ∃ kd, kd = 1 + Int.tmod l.ff 4 := ⟨_, rfl⟩
   rw [← hkd]
   have fin2 : ∀ (aw : Bool) (re : List (List Bool)), (aw = true → (kd == 3 || kd == 4) = false) → ((kd = 4 → re = B) ∧ (kd ≠ 4 → re = [])) →
     CW ⟨vs, ns, ts, []⟩ (Aq.mk kd (Int.tmod l.fg (vs.length : Int)) (Int.tmod l.fj (vs.length : Int)) aw A re) = 0 := by
    intro aw re haw hre
    refine Tw ⟨show 1 ≤ kd ∧ kd ≤ 4 by omega, haw, mf, mt, a1, a2, fun h => by rw [hre.1 h]; exact b1, fun row hr => ?_, fun h => by rw [hre.1 h]; exact b3 rfl rfl, fun h => hre.2 h⟩
    by_cases h4 : kd = 4
    ·simp only at hr; rw [hre.1 h4] at hr; exact b2 row hr
    ·simp only at hr; rw [hre.2 h4] at hr; cases hr
   have app : ∀ t, CW ⟨vs, ns, ts, []⟩ t = 0 → (a ++ [t]).length = i + 1 ∧ ∀ t', t' ∈ a ++ [t] → CW ⟨vs, ns, ts, []⟩ t' = 0 := by
    intro t ht
    refine ⟨by simp [ha.1], fun t' ht' => ?_⟩
    rcases List.mem_append.1 ht' with h | h
    ·exact ha.2 t' h
    ·rw [List.mem_singleton.1 h]; exact ht
   by_cases h4 : kd = 4
   ·have e4 : (kd == 4) = true := beq_iff_eq.2 h4
    have hre : (kd = 4 → B = B) ∧ (kd ≠ 4 → B = []) := ⟨fun _ => rfl, fun h => (h h4).elim⟩
    rw [e4]
    simp only [AR, Bool.or_true, Bool.not_true]
    cases l.fq
    ·exact ⟨_, rfl, app _ (fin2 false B (fun h => by cases h) hre)⟩
    ·exact ⟨_, rfl, app _ (fin2 false B (fun h => by cases h) hre)⟩
   ·have e4 : (kd == 4) = false := beq_eq_false_iff_ne.2 h4
    have hre : (kd = 4 → ([] : List (List Bool)) = B) ∧ (kd ≠ 4 → ([] : List (List Bool)) = []) := ⟨fun h => (h4 h).elim, fun _ => rfl⟩
    rw [e4]
    simp only [Aw, Bool.or_false]
    cases l.fq
    ·exact ⟨_, rfl, app _ (fin2 false [] (fun h => by cases h) hre)⟩
    ·cases e3 : kd == 3
     ·exact ⟨_, rfl, app _ (fin2 true [] (fun _ => by rw [e3, e4]; rfl) hre)⟩
     ·exact ⟨_, rfl, app _ (fin2 false [] (fun h => by cases h) hre)⟩)
  (fun n a _ => by
   rw [AX]
   simp only [Bu]
   rw [AQ (by omega), Aw]) N 0 [] (Nat.zero_le _) (by omega) ⟨rfl, fun t ht => by cases ht⟩
 exact ⟨_, true, e2, fun _ => fin Kn (by omega) g2⟩
def G9 : List Int → Nat → Nat
 | [], _ => 0
 | _, 0 => 0
 | n :: ns, q + 1 => (if 0 ≤ n then 1 else 0) + G9 ns q
theorem HZ (l : List Int) : G9 l 0 = 0 := by cases l <;> rfl
theorem GG : ∀ (l : List Int) (q : Nat), q < l.length → G9 l (q + 1) = G9 l q + if 0 ≤ l.getD q 0 then 1 else 0
 | [], q, h => by simp at h
 | n :: ns, 0, _ => by simp [G9, HZ]
 | n :: ns, q + 1, h => by
  rw [G9, GG ns q (by simpa using h), G9, List.getD_cons_succ, Nat.add_assoc]
theorem K5 (l : List Int) {a b : Nat} (h : a ≤ b) (hb : b ≤ l.length) : G9 l a ≤ G9 l b := by
 induction b with
 | zero => rw [Nat.le_zero.1 h]; exact Nat.le_refl _
 | succ b ih =>
  by_cases h1 : a = b + 1
  ·rw [h1]; exact Nat.le_refl _
  ·have := ih (by omega) (by omega)
   rw [GG l b (by omega)]; omega
theorem Kv (l : List Int) : ∀ q, q ≤ l.length → G9 l q ≤ q
 | 0, _ => by rw [HZ]; exact Nat.le_refl _
 | q + 1, h => by
  have := Kv l q (by omega)
  rw [GG l q h]
  split <;> omega
def MC (l : List Int) (k q : Nat) : Int := if 0 ≤ l.getD q 0 ∧ k.testBit (G9 l q) = true then -1 else l.getD q 0
def Sa (l : List Int) (k : Nat) : List Int := (List.range l.length).map (MC l k)
def TT (m : Ad) (k : Nat) : Ad := ⟨m.fe, Sa m.fa k, m.fc⟩
def Gg (m : Ad) : List Ad := (List.range (2 ^ G9 m.fa m.fa.length)).map (TT m)
theorem Kq (l : List Int) (k : Nat) : (Sa l k).length = l.length := by simp [Sa]
theorem Oo (l : List Int) (k q : Nat) (h : q < l.length) : (Sa l k).getD q 0 = MC l k q := by
 unfold Sa; rw [lD, List.getElem?_map, List.getElem?_range h]; rfl
theorem Iv {l1 l2 : List Int} (h1 : l1.length = l2.length) (h : ∀ q, q < l1.length → l1.getD q 0 = l2.getD q 0) : l1 = l2 := by
 apply List.ext_getElem h1
 intro q h2 h3
 have := h q h2
 rw [lD, lD, List.getElem?_eq_getElem h2, List.getElem?_eq_getElem h3] at this
 exact this
theorem Ri : ∀ (k : Fin 64) (b : Fin 7), Ea .i64 (Ee .i64 (k.val : Int) (b.val : Int)) 1 = (if k.val.testBit b.val then 1 else 0) ∧ Int.tmod (Ee .i64 (k.val : Int) (b.val : Int)) 2 = (if k.val.testBit b.val then 1 else 0) := by decide +kernel
theorem RA : ∀ n : Fin 7, CJ .i64 1 (n.val : Int) = ((2 ^ n.val : Nat) : Int) := by decide +kernel
structure Le (m x : Ad) : Prop where
 base : x.fe = m.fe
 held : x.fc = m.fc
 len : x.fa.length = m.fa.length
 next : ∀ q, q < m.fa.length → x.fa.getD q 0 = m.fa.getD q 0 ∨ (0 ≤ m.fa.getD q 0 ∧ x.fa.getD q 0 = -1)
theorem Le.refl (m : Ad) : Le m m := ⟨rfl, rfl, rfl, fun _ _ => .inl rfl⟩
theorem Le.trans {a b c : Ad} (h1 : Le a b) (h2 : Le b c) : Le a c :=
 ⟨h2.base.trans h1.base, h2.held.trans h1.held, h2.len.trans h1.len, fun q hq => by
  have e1 := h1.next q hq
  have e2 := h2.next q (by rw [h1.len]; exact hq)
  omega⟩
theorem Qq (m : Ad) (k : Nat) : Le m (TT m k) :=
 ⟨rfl, rfl, Kq _ _, fun q hq => by
  show (Sa m.fa k).getD q 0 = _ ∨ _ ∧ (Sa m.fa k).getD q 0 = _
  rw [Oo _ _ _ hq]; unfold MC
  split
  ·rename_i h; exact .inr ⟨h.1, rfl⟩
  ·exact .inl rfl⟩
theorem Pc : ∀ (l x : List Int), x.length = l.length → (∀ q, q < l.length → x.getD q 0 = l.getD q 0 ∨ (0 ≤ l.getD q 0 ∧ x.getD q 0 = -1)) → ∃ k, k < 2 ^ G9 l l.length ∧ ∀ q, q < l.length → x.getD q 0 = MC l k q
 | [], x, h, _ => ⟨0, by simp [G9], fun q hq => by simp at hq⟩
 | n :: ns, [], h, _ => by simp at h
 | n :: ns, y :: ys, h, hq => by
  obtain ⟨k, hk, hk2⟩ := Pc ns ys (by simpa using h) (fun q hq' => by have := hq (q + 1) (by simpa using hq'); simpa using this)
  have h0 := hq 0 (by simp)
  simp only [List.getD_cons_zero] at h0
  by_cases hn : 0 ≤ n
  ·refine ⟨2 * k + if y = n then 0 else 1, ?_, ?_⟩
   ·rw [List.length_cons, G9, if_pos hn, Nat.pow_add]
    split <;> omega
   ·intro q hq'
    cases q with
    | zero =>
     simp only [List.getD_cons_zero, MC, HZ]
     by_cases hy : y = n
     ·simp [hy]
     ·rw [if_neg hy, if_pos ⟨hn, by simp⟩]; omega
    | succ q =>
     have := hk2 q (by simpa using hq')
     simp only [List.getD_cons_succ, MC, G9, if_pos hn] at this ⊢
     rw [this, Nat.add_comm 1, Nat.testBit_succ]
     have : (2 * k + if y = n then 0 else 1) / 2 = k := by split <;> omega
     rw [this]
  ·refine ⟨k, ?_, ?_⟩
   ·rw [List.length_cons, G9, if_neg hn, Nat.zero_add]; exact hk
   ·intro q hq'
    cases q with
    | zero =>
     simp only [List.getD_cons_zero, MC, HZ]
     rw [if_neg (fun h => hn h.1)]
     omega
    | succ q =>
     have := hk2 q (by simpa using hq')
     simp only [List.getD_cons_succ, MC, G9, if_neg hn, Nat.zero_add] at this ⊢
     exact this
theorem OC {m x : Ad} : x ∈ Gg m ↔ Le m x := by
 unfold Gg
 rw [List.mem_map]
 constructor
 ·rintro ⟨k, _, rfl⟩; exact Qq m k
 ·intro h
  obtain ⟨k, hk, hq⟩ := Pc m.fa x.fa h.len h.next
  refine ⟨k, List.mem_range.2 hk, ?_⟩
  have : Sa m.fa k = x.fa := Iv (by rw [Kq, h.len]) fun q hq' => by
   rw [Kq] at hq'
   rw [Oo _ _ _ hq', hq q hq']
  unfold TT
  rw [this, ← h.base, ← h.held]
theorem Tm {m x : Ad} (h : Le m x) {s : Nat} (hs : s < m.fa.length) {v : Nat} (hv : F0 x s v = true) : F0 m s v = true := by
 unfold F0 at hv ⊢
 rw [h.base] at hv
 have := h.next s hs
 simp only [Bool.or_eq_true, decide_eq_true_eq] at hv ⊢
 omega
theorem UC {p : Aa} {m x : Ad} (hp : Ci p) (hm : DJ p m) (h : Le m x) : DJ p x := by
 refine ⟨⟨by rw [h.base]; exact hm.base, by rw [h.len]; exact hm.next, by rw [h.held]; exact hm.held, fun i hi => by rw [h.base]; exact hm.b0 i hi, fun i hi => ?_, fun i hi => ?_⟩, fun i hi => by rw [h.held]; exact hm.range i hi, fun i t ht hs v hv => ?_, fun i t ht hs v hv => ?_, fun i t ht hs => by rw [h.held]; exact hm.none i t ht hs⟩
 ·have h1 := hm.n0 i hi
  have h2 := h.next i (by rw [hm.next]; exact hi)
  have h3 := G4 hp hi
  omega
 ·have h1 := hm.ne i hi
  have h2 := h.next i (by rw [hm.next]; exact hi)
  have h3 := hm.b0 i hi
  rw [h.base]
  omega
 ·have hin := (Jt (hp.tab t (lM ht))).from0
  rw [h.held]
  exact hm.low i t ht hs v (Tm h (by rw [hm.next]; omega) hv)
 ·rw [h.held] at hv
  exact hm.high i t ht hs v hv
theorem Im (N : Nat) (l : List Int) (h : l.length ≤ Dz) : A1 N l = some l := by
 unfold A1
 rw [Au (by simpa using h)]; rfl
theorem Mg (N : Nat) (l : List Int) (h : l.length ≤ Dz) : A6 N l = some l := by
 unfold A6
 rw [Au (by simpa using h)]; rfl
theorem He {l : List Int} {i q : Nat} {y : Int} (hi : i < l.length) : (l.set i y).getD q 0 = if q = i then y else l.getD q 0 := by
 rw [lD, lD, List.getElem?_set]
 by_cases h : i = q
 ·subst h; simp [hi]
 ·rw [if_neg h, if_neg (fun e => h e.symm)]
theorem Sj {l : List Int} {a b : Nat} (ha : a < l.length) (hb : b < l.length) (h1 : 0 ≤ l.getD a 0) (h2 : 0 ≤ l.getD b 0) (h : G9 l a = G9 l b) : a = b := by
 rcases Nat.lt_trichotomy a b with h3 | h3 | h3
 ·have := K5 l (a := a + 1) (b := b) h3 (by omega)
  rw [GG l a ha, if_pos h1] at this; omega
 ·exact h3
 ·have := K5 l (a := b + 1) (b := a) h3 (by omega)
  rw [GG l b hb, if_pos h2] at this; omega
structure Qy (l : List Int) (o : List Int) : Prop where
 len : o.length = G9 l l.length
 at_ : ∀ b, b < o.length → ∃ i : Nat, o.getD b 0 = (i : Int) ∧ i < l.length ∧ 0 ≤ l.getD i 0 ∧ G9 l i = b
theorem NT (N : Nat) (l o : List Int) (k : Nat) (acc : List Ad) (hN : N ≤ 1000000) (h20 : 20 ≤ N) (hl : l.length ≤ 6) (ho : Qy l o) (hk : k < 64) (j : List Int → Option (List Ad × Int)) :
  BI N o (acc, (k : Int)) j N (l, 0) = j (Sa l k) := by
 have hol := Kv l l.length (Nat.le_refl _)
 have hoL := ho.len
 obtain ⟨x, e, h1, h2⟩ := FK (A := List Int) (BI N o (acc, (k : Int)) j) (fun a k => (a, k)) o.length j
  (fun b a => a.length = l.length ∧ ∀ q, q < l.length → a.getD q 0 = if 0 ≤ l.getD q 0 ∧ G9 l q < b ∧ k.testBit (G9 l q) = true then -1 else l.getD q 0)
  (fun n b a hb ha => by
   obtain ⟨i, hi1, hi2, hi3, hi4⟩ := ho.at_ b hb
   have hbit := Ri ⟨k, hk⟩ ⟨b, by omega⟩
   rw [BI]
   simp only [Bu]
   rw [AN (by omega), DV (d := 0) hb]
   simp only [oS]
   rw [Au (by omega), hi1, hbit.1, DV (d := 0) (show i < a.length by rw [ha.1]; exact hi2), A0 (by omega)]
   simp only [oS, Int.toNat_natCast]
   cases hkb : k.testBit b
   ·refine ⟨a, rfl, ha.1, fun q hq => ?_⟩
    rw [ha.2 q hq]
    by_cases hqb : G9 l q = b
    ·rw [hqb, hkb]; simp
    ·by_cases h3 : G9 l q < b
     ·have : G9 l q < b + 1 := by omega
      simp [h3, this]
     ·have : ¬ G9 l q < b + 1 := by omega
      simp [h3, this]
   ·refine ⟨a.set i (-1), rfl, by simp [ha.1], fun q hq => ?_⟩
    rw [He (by rw [ha.1]; exact hi2), ha.2 q hq]
    by_cases hqi : q = i
    ·subst hqi
     rw [if_pos rfl, if_pos ⟨hi3, by omega, by rw [hi4]; exact hkb⟩]
    ·rw [if_neg hqi]
     by_cases h0 : 0 ≤ l.getD q 0
     ·have hne : G9 l q ≠ b := fun h => hqi (Sj hq hi2 h0 hi3 (by omega))
      by_cases h3 : G9 l q < b
      ·have : G9 l q < b + 1 := by omega
       simp [h3, this]
      ·have : ¬ G9 l q < b + 1 := by omega
       simp [h3, this]
     ·rw [if_neg (fun h => h0 h.1), if_neg (fun h => h0 h.1)])
  (fun n a _ => by
   rw [BI]
   simp only [Bu]
   rw [AQ (by omega)]) N 0 l (Nat.zero_le _) (by omega) ⟨rfl, fun q hq => by simp⟩
 have e' : BI N o (acc, (k : Int)) j N (l, 0) = j x := e
 rw [e']
 congr 1
 refine Iv (by rw [Kq, h1]) fun q hq => ?_
 rw [h1] at hq
 rw [h2 q hq, Oo _ _ _ hq, MC]
 by_cases h0 : 0 ≤ l.getD q 0
 ·have h3 := K5 l (a := q + 1) (b := l.length) hq (Nat.le_refl _)
  rw [GG l q hq, if_pos h0] at h3
  have : G9 l q < o.length := by omega
  simp [this]
 ·rw [if_neg (fun h => h0 h.1), if_neg (fun h => h0 h.1)]
theorem Qn (N : Nat) (m : Ad) (hN : N ≤ 1000000) (h20 : 20 ≤ N) (hl : m.fa.length ≤ 6) (j : List Int → Option (List Ad × Int)) :
  ∃ o, Ca N m j N ([], 0) = j o ∧ Qy m.fa o := by
 obtain ⟨o, e, h1, h2⟩ := FK (A := List Int) (Ca N m j) (fun a k => (a, k)) m.fa.length j
  (fun i o => o.length = G9 m.fa i ∧ ∀ b, b < o.length → ∃ q : Nat, o.getD b 0 = (q : Int) ∧ q < m.fa.length ∧ 0 ≤ m.fa.getD q 0 ∧ G9 m.fa q = b)
  (fun n i o hi ho => by
   have hple := Kv m.fa i (by omega)
   have hs := GG m.fa i hi
   rw [Ca]
   simp only [Bu]
   rw [AN (by omega), DV (d := 0) hi]
   simp only [oS]
   rw [A0 (by omega)]
   by_cases h0 : 0 ≤ m.fa.getD i 0
   ·rw [AN h0, Au (by rw [ho.1]; unfold Dz; simp; omega)]
    refine ⟨o ++ [(i : Int)], rfl, by rw [hs, if_pos h0, ← ho.1]; simp, ?_⟩
    rw [List.length_append]
    exact Eo (P := fun b y => ∃ q : Nat, y = (q : Int) ∧ q < m.fa.length ∧ 0 ≤ m.fa.getD q 0 ∧ G9 m.fa q = b) rfl ho.2 ⟨i, rfl, hi, h0, ho.1.symm⟩
   ·rw [AQ h0]
    exact ⟨o, rfl, by rw [hs, if_neg h0, ho.1]; rfl, ho.2⟩)
  (fun n a _ => by
   rw [Ca]
   simp only [Bu]
   rw [AQ (by omega)]) N 0 [] (Nat.zero_le _) (by omega) ⟨(HZ _).symm, fun b hb => by simp at hb⟩
 exact ⟨o, e, h1, h2⟩
theorem KY {n : Nat} (h : n ≤ 6) : 2 ^ n ≤ 64 := Nat.pow_le_pow_right (n := 2) (by omega) h
theorem OJ {n : Nat} (h : n ≤ 6) : CJ .i64 1 (n : Int) = ((2 ^ n : Nat) : Int) := RA ⟨n, by omega⟩
theorem KW {β : Type} (f : Nat → β) (n : Nat) : (List.range (n + 1)).map f = (List.range n).map f ++ [f n] := by
 rw [List.range_succ, List.map_append]; rfl
theorem Ls (N : Nat) (p : Aa) (m : Ad) (hN : N ≤ 1000000) (h20 : 100 ≤ N) (hw : JY IY m.fc) (hv : DR p m = 0) : EM N p m = some (Gg m, 0) := by
 obtain ⟨hp, hm⟩ := KP hw hv
 have hnv := hp.nv
 have hnt := hp.nt
 have hl : m.fa.length ≤ 6 := by rw [hm.next]; omega
 unfold EM
 rw [Hr N p m hN (by omega) hw, hv]
 simp only [oS, bne_self_eq_false, Aw]
 obtain ⟨o, e, ho⟩ := Qn N m hN (by omega) hl (fun (v4 : (List Int)) =>
   (Dd (0 ≤ (v4.length : Int))).bind fun _ =>
   BE N m v4 (fun (v12 : (List Ad)) =>
    some (v12, 0)) N (([] : List Ad), 0))
 rw [e, Au (by omega)]
 have hoL := ho.len
 have hol := Kv m.fa m.fa.length (Nat.le_refl _)
 have hpow := KY (show G9 m.fa m.fa.length ≤ 6 by omega)
 obtain ⟨a, e2, h1⟩ := FK (A := List Ad) (BE N m o fun v12 => some (v12, 0)) (fun a k => (a, k)) (2 ^ G9 m.fa m.fa.length) (fun v12 => some (v12, 0))
  (fun i a => a = (List.range i).map (TT m))
  (fun n i a hi ha => by
   refine ⟨a ++ [TT m i], ?_, by rw [KW, ha]⟩
   have hal : a.length = i := by rw [ha]; simp
   rw [BE]
   rw [hoL, OJ (n := G9 m.fa m.fa.length) (by omega), AN (by omega), Im N m.fe (by have := hm.base; unfold Dz; omega), Im N m.fa (by unfold Dz; omega), Mg N m.fc (by have := hm.held; unfold Dz; omega)]
   simp only [oS]
   rw [NT N m.fa o i a hN (by omega) hl ho (by omega), Au (by rw [hal]; unfold Dz; simp; omega), A0 (by omega)]
   rfl)
  (fun n a _ => by
   rw [BE]
   rw [hoL, OJ (n := G9 m.fa m.fa.length) (by omega), AQ (by simp)]) N 0 [] (Nat.zero_le _) (by omega) rfl
 have e2' : BE N m o (fun v12 => some (v12, 0)) N ([], 0) = some (a, 0) := e2
 rw [e2', h1]; rfl
theorem NS {p : Aa} {m : Ad} (hm : DJ p m) : JY IY m.fc := by
 intro x hx
 obtain ⟨q, hq⟩ := List.mem_iff_getElem?.1 hx
 have h1 := (lI.1 hq).1
 have := hm.range q (by rw [← hm.held]; exact h1)
 rw [lD, hq] at this
 unfold IY
 simp only [Option.getD_some] at this
 simp [Lit.wf, IntKind.min, IntKind.max, IntKind.signed, IntKind.bits]
 omega
def Mx (p : Aa) (x : Ad) : Option (Ad × An) := match IS p x with
 | [] => none
 | c :: _ => some (x, c)
def MP (p : Aa) (m : Ad) : Option (Ad × An) := CX (fun _ x => Mx p x) 0 (Gg m)
def J1 : Ad := ⟨[], [], []⟩
def QQ : An := ⟨0, 0, 0⟩
def Ok (p : Aa) (m : Ad) : Ad × An × Int := match MP p m with
 | some (x, c) => (x, c, 0)
 | none => (J1, QQ, 15)
def Gd (p : Aa) (m : Ad) : Bool := (MP p m).isNone
theorem Oi {m : Ad} (hl : m.fa.length ≤ 6) : (Gg m).length ≤ 64 := by
 unfold Gg
 have hol := Kv m.fa m.fa.length (Nat.le_refl _)
 have hpow := KY (show G9 m.fa m.fa.length ≤ 6 by omega)
 simpa using hpow
theorem NO {α R R' : Type} (f : Nat → α → Option R) (g : R → R') : ∀ (i : Nat) (xs : List α), CX (fun i x => (f i x).map g) i xs = (CX f i xs).map g
 | _, [] => rfl
 | i, x :: xs => by
  rw [E3, E3]
  cases f i x
  ·exact NO f g (i + 1) xs
  ·rfl
theorem Mt (N : Nat) (p : Aa) (m : Ad) (hN : N ≤ 1000000) (h20 : 100 ≤ N) (hw : JY IY m.fc) (hv : DR p m = 0) : D0 N p m = some (Ok p m) := by
 obtain ⟨hp, hm⟩ := KP hw hv
 have hnv := hp.nv
 unfold D0
 rw [Ls N p m hN h20 hw hv]
 simp only [oS, bne_self_eq_false, Aw]
 have hal := Oi (m := m) (by rw [hm.next]; omega)
 have := D5 (CV N p (Gg m, 0) fun _ => some (J1, QQ, 15)) (Gg m) (some (J1, QQ, 15)) (fun _ x => (Mx p x).map fun y => (y.1, y.2, 0))
  (fun n i x hx => by
   have hi := (lI.1 hx).1
   have hx2 := UC hp hm (OC.1 (lM hx))
   rw [CV, AN (by simp only; omega)]
   simp only [BB, hx, oS]
   rw [Jw N p x hN (by omega) hp hx2, A0 (by omega)]
   simp only [oS, Mx]
   cases IS p x with
   | nil => rfl
   | cons c cs => rw [AN (by simp only [List.length_cons]; omega)]; rfl)
  (fun n => by rw [CV, AQ (by simp)]) N 0 (Nat.zero_le _) (by omega)
 rw [List.drop_zero, NO] at this
 exact this.trans (by
  unfold Ok MP
  cases CX (fun _ x => Mx p x) 0 (Gg m) <;> rfl)
theorem Ir (N : Nat) (p : Aa) (m : Ad) (hN : N ≤ 1000000) (h20 : 100 ≤ N) (hw : JY IY m.fc) (hv : DR p m = 0) : Dt N p m = some (Gd p m, 0) := by
 unfold Dt
 rw [Mt N p m hN h20 hw hv]
 unfold Gd Ok
 cases MP p m <;> rfl
theorem Ny {α R : Type} {f : Nat → α → Option R} {i : Nat} {xs : List α} : (CX f i xs).isNone = true ↔ ∀ j x, xs[j]? = some x → f (i + j) x = none := by
 constructor
 ·intro h
  exact FB (Option.isNone_iff_eq_none.1 h)
 ·intro h
  rw [DQ h]; rfl
theorem QY (d : A9) (x : AZ) (wd : Dj d) (wx : Dm x) :
  ∃ p ok, CR 1000 d = some (p, ok) ∧ (ok = true → P2 p ∧ Ci p ∧ ∃ m, CP 1000 p x = some m ∧ TY p x m ∧ DJ p m ∧ DR p m = 0 ∧ JY IY m.fc) := by
 obtain ⟨p, ok, e, h⟩ := Va 1000 d (by omega) (by omega) wd
 refine ⟨p, ok, e, fun hk => ?_⟩
 have hg := h hk
 have hp := (Hu hg.valid).1
 obtain ⟨m, e2, hi, ho⟩ := Vb 1000 p x (by omega) (by omega) hp wx
 exact ⟨hg, hp, m, e2, hi, ho, HQ hg.valid ho, NS ho⟩
open Go
structure VQ (x y : Aq) : Prop where
 k : y.ff = x.ff
 f : y.fg = x.fg
 t : y.fj = x.fj
 a : y.fq = x.fq
 r : y.fk = x.fk
 l : y.fp.length = x.fp.length
 o : ∀ (u : Nat) (row : List Bool), x.fp[u]? = some row → ∃ row', y.fp[u]? = some row' ∧ row'.length = row.length ∧ ∀ v : Nat, row[v]? = some true → row'[v]? = some true
theorem VQ.st {x y : Aq} (h : VQ x y) : Bj y = Bj x := by unfold Bj; rw [h.k]
structure TJ (p : Aa) (m x : Ad) : Prop where
 base : m.fe = x.fe
 next : m.fa = x.fa
 held : ∀ i, i < p.fd.length → ∀ v, B1 (m.fc.getD i 0) v = true → B1 (x.fc.getD i 0) v = true
theorem TJ.refl (p : Aa) (m : Ad) : TJ p m m := ⟨rfl, rfl, fun _ _ _ h => h⟩
theorem TJ.trans {p : Aa} {a b c : Ad} (h : TJ p a b) (g : TJ p b c) : TJ p a c := ⟨h.base.trans g.base, h.next.trans g.next, fun i hi v hv => g.held i hi v (h.held i hi v hv)⟩
theorem JT (x : BitVec 8) : wI .u8 (x.toNat : Int) = (x.toNat : Int) := by
 have := x.isLt
 simp [wI, IntKind.signed, IntKind.bits]
 omega
theorem NP (x : BitVec 8) : 0 ≤ (x.toNat : Int) ∧ (x.toNat : Int) ≤ 255 := by
 have := x.isLt
 omega
theorem QW (x : BitVec 8) (v : Nat) : B1 (x.toNat : Int) v = x.getLsbD v := by
 unfold B1; rw [Int.toNat_natCast]; rfl
theorem Mv {a : Int} (ha : 0 ≤ a ∧ a ≤ 255) (v : Nat) : (BitVec.ofInt 8 a).getLsbD v = B1 a v := by
 obtain ⟨a, rfl⟩ := Int.eq_ofNat_of_zero_le ha.1
 unfold BitVec.getLsbD B1
 rw [O5 (by omega), Int.toNat_natCast]
theorem Oe {a b : Int} (ha : 0 ≤ a ∧ a ≤ 255) (hb : 0 ≤ b ∧ b ≤ 255) : (∀ v, B1 (CH .u8 a b) v = (B1 a v && !B1 b v)) ∧ 0 ≤ CH .u8 a b ∧ CH .u8 a b ≤ 255 := by
 have e : CH .u8 a b = ((BitVec.ofInt 8 a &&& ~~~BitVec.ofInt 8 b).toNat : Int) := JT (BitVec.ofInt 8 a &&& ~~~BitVec.ofInt 8 b)
 rw [e]
 refine ⟨fun v => ?_, NP _⟩
 rw [QW, BitVec.getLsbD_and, BitVec.getLsbD_not, Mv ha, Mv hb]
 by_cases h : v < 8
 ·simp [h]
 ·rw [Ih ha.2 (by omega)]; simp
theorem Om {a b : Int} (ha : 0 ≤ a ∧ a ≤ 255) (hb : 0 ≤ b ∧ b ≤ 255) : (∀ v, B1 (Kc .u8 a b) v = (B1 a v || B1 b v)) ∧ 0 ≤ Kc .u8 a b ∧ Kc .u8 a b ≤ 255 := by
 have e : Kc .u8 a b = ((BitVec.ofInt 8 a ||| BitVec.ofInt 8 b).toNat : Int) := JT (BitVec.ofInt 8 a ||| BitVec.ofInt 8 b)
 rw [e]
 refine ⟨fun v => ?_, NP _⟩
 rw [QW, BitVec.getLsbD_or, Mv ha, Mv hb]
theorem Q9 {b : Nat} (hb : b < 8) : (∀ v, B1 (CJ .u8 1 (b : Int)) v = decide (b = v)) ∧ 0 ≤ CJ .u8 1 (b : Int) ∧ CJ .u8 1 (b : Int) ≤ 255 := by
 refine ⟨fun v => ?_, (Kp ⟨b, hb⟩ ⟨0, by omega⟩).2⟩
 by_cases h : v < 8
 ·exact (Kp ⟨b, hb⟩ ⟨v, h⟩).1
 ·rw [Ih (Kp ⟨b, hb⟩ ⟨0, by omega⟩).2.2 (by omega)]
  symm; apply decide_eq_false; omega
def Sx (v : Nat) : Nat := ((List.range 8).find? fun u => v.testBit u).getD 8
def UB (v : Nat) : Nat := ((List.range 8).filter fun u => v.testBit u).length
theorem Tq : ∀ v : Fin 256, BH 0 (v.val : Int) = some (Sx v.val : Int) := by decide +kernel
theorem T5 (N : Nat) {v : Nat} (h : v < 256) : BH N (v : Int) = some (Sx v : Int) := Tq ⟨v, h⟩
theorem Rj : ∀ v : Fin 256, v.val ≠ 0 → Sx v.val < 8 ∧ B1 (v.val : Int) (Sx v.val) = true ∧ 0 ≤ Ea .u8 (v.val : Int) (wI .u8 ((v.val : Int) - 1)) ∧ Ea .u8 (v.val : Int) (wI .u8 ((v.val : Int) - 1)) ≤ 255 ∧
  UB (Ea .u8 (v.val : Int) (wI .u8 ((v.val : Int) - 1))).toNat + 1 = UB v.val ∧
  ∀ u : Fin 8, B1 (Ea .u8 (v.val : Int) (wI .u8 ((v.val : Int) - 1))) u.val = (B1 (v.val : Int) u.val && decide (u.val ≠ Sx v.val)) := by decide +kernel
theorem Um (v : Nat) : UB v ≤ 8 := by
 have := List.length_filter_le (fun u => v.testBit u) (List.range 8)
 simpa [UB] using this
theorem NB (N : Nat) (t : Aq) (b : Int) (rw_ : Nat → Bool) : ∀ (k n v : Nat), UB v ≤ k → k < n → v < 256 →
  (∀ u, u < 8 → B1 (v : Int) u = true → ∃ row, B3 t.fk (u : Int) = some row ∧ B3 row b = some (rw_ u)) →
  B0 N t b (fun _ => some true) n (v : Int) = some ((List.range 8).all fun u => !B1 (v : Int) u || rw_ u)
 | k, 0, v, _, h, _, _ => by omega
 | k, n + 1, v, hk, hn, hv, hr => by
  rw [B0]
  by_cases h0 : v = 0
  ·subst h0
   have : (((0 : Nat) : Int) != 0) = false := rfl
   rw [this, Aw]
   congr 1
  ·have h1 : ((v : Int) != 0) = true := bne_iff_ne.2 (by omega)
   obtain ⟨l1, l2, l3, l4, l5, l6⟩ := Rj ⟨v, hv⟩ h0
   simp only at l1 l2 l3 l4 l5 l6
   obtain ⟨row, e1, e2⟩ := hr _ l1 l2
   rw [h1, AR, T5 N hv]
   simp only [oS, e1, e2]
   obtain ⟨w, hw⟩ := Int.eq_ofNat_of_zero_le l3
   rw [hw] at l4 l5 l6 ⊢
   rw [Int.toNat_natCast] at l5
   cases hq : rw_ (Sx v)
   ·rw [Bool.not_false, AR]
    congr 1
    symm
    rw [List.all_eq_false]
    exact ⟨Sx v, by simpa using l1, by rw [l2, hq]; simp⟩
   ·rw [Bool.not_true, Aw]
    match k, hk with
    | 0, hk => exfalso; omega
    | k + 1, hk =>
    rw [NB N t b rw_ k n w (by omega) (by omega) (by omega) (fun u hu hb => hr u hu (by have := l6 ⟨u, hu⟩; simp only at this; rw [hb] at this; simpa using (Bool.and_eq_true_iff.1 this.symm).1))]
    congr 1
    rw [Bool.eq_iff_iff, List.all_eq_true, List.all_eq_true]
    refine ⟨fun h u hu => ?_, fun h u hu => ?_⟩
    ·have hu8 : u < 8 := by simpa using hu
     have h3 := h u hu
     have h4 := l6 ⟨u, hu8⟩
     simp only at h4
     rw [h4] at h3
     by_cases e : u = Sx v
     ·rw [e, hq]; simp
     ·simpa [e] using h3
    ·have hu8 : u < 8 := by simpa using hu
     have h3 := h u hu
     have h4 := l6 ⟨u, hu8⟩
     simp only at h4
     rw [h4]
     cases hb : B1 (v : Int) u
     ·simp
     ·rw [hb] at h3; simp at h3; simp [h3]
theorem Nw (N : Nat) (m : Ad) (s : Int) (h0 : 0 ≤ s) (h1 : s < (m.fe.length : Int)) (h2 : s < (m.fa.length : Int)) (hb : 0 ≤ m.fe.getD s.toNat 0) : D2 N m s = some (Fy m s.toNat) := by
 unfold D2 Fy
 rw [Fi (d := 0) h0 h1, Fi (d := 0) h0 h2]
 simp only [oS, Bs]
 rw [show Dd (0 ≤ m.fe.getD s.toNat 0) = some () from by unfold Dd; rw [if_pos hb]]
 simp only [oS]
 by_cases h : 0 ≤ m.fa.getD s.toNat 0
 ·rw [AN h, if_pos h, show Dd (0 ≤ m.fa.getD s.toNat 0) = some () from by unfold Dd; rw [if_pos h]]; rfl
 ·rw [AQ h, if_neg h]
theorem Ie (N : Nat) (t : Aq) : DH N t = some (Bj t) := by
 unfold DH Bj
 simp only [Bs]
 cases h : t.ff == 3 <;> simp
def F7 (s : Ac) : Bool := decide (1 ≤ s.ff ∧ s.ff ≤ 4 ∧ 0 ≤ s.fh ∧ 0 ≤ s.fi) && (s.ff == 1 || s.fi == 0)
def Kg (p : Aa) (s : Ac) : Bool :=
 if s.ff = 3 then decide (s.fh < (p.fd.length : Int)) else decide (s.fh < (p.fb.length : Int)) && (s.ff != 1 || decide (s.fi < p.fb.getD s.fh.toNat 0))
theorem IA (N : Nat) (s : Ac) : D4 N s = some (F7 s) := by
 unfold D4 F7 Nu
 simp only [Bs]
 by_cases h1 : (if s.fi < s.fh then s.fi else s.fh) < 0
 ·rw [AN h1, AR, decide_eq_false (by split at h1 <;> omega)]; rfl
 ·rw [AQ h1]
  by_cases h2 : s.ff < 1
  ·rw [AN h2, AR, decide_eq_false (by omega)]; rfl
  ·rw [AQ h2]
   by_cases h3 : 4 < s.ff
   ·rw [decide_eq_true h3, AR, decide_eq_false (by omega)]; rfl
   ·rw [decide_eq_false h3, Aw, decide_eq_true (by split at h1 <;> omega), Bool.true_and]
    cases h4 : s.ff == 1 <;> simp
theorem KZ (N : Nat) (p : Aa) (s : Ac) (hv : F7 s = true) : Et N p s = some (Kg p s) := by
 have h0 : 0 ≤ s.fh := by
  unfold F7 at hv
  rw [Bool.and_eq_true, decide_eq_true_iff] at hv
  exact hv.1.2.2.1
 unfold Et Kg
 simp only [Bs]
 by_cases h1 : s.ff = 3
 ·rw [if_pos h1, beq_iff_eq.2 h1, AR]
 ·rw [if_neg h1, beq_eq_false_iff_ne.2 h1, Aw]
  by_cases h2 : s.fh < (p.fb.length : Int)
  ·rw [AN h2, decide_eq_true h2, Bool.true_and]
   cases h3 : s.ff != 1
   ·rw [Aw, Fi (d := 0) h0 h2, Bool.false_or]; rfl
   ·rw [AR]; rfl
  ·rw [AQ h2, decide_eq_false h2]; rfl
def Ps (s : Ac) (t : Aq) : Bool := t.fg == s.fh && Bj t
def QZ (s : Ac) (i : Nat) (t : Aq) (a : List Int) : List Int := if Ps s t = true then a.set i (Kc .u8 (a.getD i 0) (CJ .u8 1 s.fi)) else a
def GW (p : Aa) (s : Ac) (held : List Int) : List Int := F9 (QZ s) 0 p.fd held
theorem Kk {_R : Type} (N : Nat) (p : Aa) (s : Ac) (held : List Int) (hv : 0 ≤ s.fi) (hl : held.length = p.fd.length) (h12 : p.fd.length < N) (hN : N ≤ 1000000) (j : List Int → Option (Bool × List Int × List Int)) :
  Cc N p s j N (held, 0) = j (GW p s held) ∧ (GW p s held).length = p.fd.length := by
 have := Ik (Cc N p s j) (fun a i => (a, i)) p.fd j (QZ s) (fun i a => a.length = p.fd.length)
  (fun n i x a hx ha => by
   have hi := (lI.1 hx).1
   rw [Cc, AN (by simp only; omega)]
   simp only [Bu, BB, hx, oS, Ie, A0 (show i < 1000000 by omega)]
   have e2 : a[i]? = some (a.getD i 0) := by rw [lD]; simp [show i < a.length from by omega]
   unfold QZ Ps
   cases h1 : x.fg == s.fh
   ·rw [Aw, Aw, Bool.false_and, if_neg (by simp)]; exact ⟨rfl, ha⟩
   ·rw [AR, Bool.true_and]
    cases h2 : Bj x
    ·rw [Aw, if_neg (by simp)]; exact ⟨rfl, ha⟩
    ·rw [AR, e2, if_pos rfl]
     simp only [oS]
     rw [Au hv]
     exact ⟨rfl, by simpa using ha⟩)
  (fun n a ha => by rw [Cc, AQ (by simp)]) N 0 held (Nat.zero_le _) (by omega) hl
 rw [List.drop_zero] at this
 exact this
def L8 (m : Ad) (t : Aq) (u : Nat) : Bool := (t.fk.getD u []).getD (m.fe.getD t.fg.toNat 0).toNat false
def Uo (m : Ad) (i : Nat) (t : Aq) (u : Nat) : Bool := B1 (m.fc.getD i 0) u && !F0 m t.fg.toNat u
def IP (_p : Aa) (m : Ad) (i : Nat) (t : Aq) : Bool := t.ff == 4 && (List.range 8).any fun u => Uo m i t u && !L8 m t u
def H4 (p : Aa) (m : Ad) (s : Ac) : Option Ad :=
 let i := s.fh.toNat
 if s.ff = 1 then (if 0 ≤ m.fa.getD i 0 ∨ m.fe.getD i 0 = s.fi then none else some ⟨m.fe, m.fa.set i s.fi, GW p s m.fc⟩)
 else if s.ff = 3 then match p.fd[i]? with
  | none => none
  | some t => if Bj t = false ∨ m.fc.getD i 0 = Fy m t.fg.toNat ∨ IP p m i t = true then none else some ⟨m.fe, m.fa, m.fc.set i (Fy m t.fg.toNat)⟩
 else if m.fa.getD i 0 < 0 then none
 else some ⟨if s.ff = 2 then m.fe.set i (m.fa.getD i 0) else m.fe, m.fa.set i (-1), m.fc⟩
def Fn (p : Aa) (m : Ad) (s : Ac) : Ad × Int :=
 if F7 s = false then (J1, 1) else if Kg p s = false then (J1, 4) else match H4 p m s with
  | none => (J1, 11)
  | some x => (x, 0)
end Go.Lift
namespace Go.Lift
open Option renaming bind_some → oS
open List renaming mem_of_getElem? → lM
open List renaming getElem?_eq_some_iff → lI
open List renaming getD_eq_getElem?_getD → lD
open Go
section clear
variable {p : Aa} {m : Ad} {i : Nat} {t : Aq}
theorem SU (hp : Ci p) (hm : DJ p m) (ht : p.fd[i]? = some t) (hs : Bj t = true) {u : Nat} (h : B1 (m.fc.getD i 0) u = true) : (u : Int) < p.fb.getD t.fg.toNat 0 ∧ u < 6 ∧ t.fg.toNat < p.fb.length := by
 have h1 := hm.high i t ht hs u h
 have hin := IT (hp.tab t (lM ht))
 have h2 := G4 hp (i := t.fg.toNat) (by omega)
 exact ⟨h1, by omega, by omega⟩
theorem Th (hp : Ci p) (hm : DJ p m) (ht : p.fd[i]? = some t) (hs : Bj t = true) (h4 : t.ff = 4) {u : Nat} (h : B1 (m.fc.getD i 0) u = true) :
  B3 t.fk (u : Int) = some (t.fk.getD u []) ∧ B3 (t.fk.getD u []) (m.fe.getD t.fg.toNat 0) = some (L8 m t u) := by
 have hT := Jt (hp.tab t (lM ht))
 obtain ⟨h1, h2, h3⟩ := SU hp hm ht hs h
 have hl := hT.reL h4
 have e : t.fk[u]? = some (t.fk.getD u []) := by rw [lD]; simp [show u < t.fk.length from by omega]
 have hr := hT.reR _ (lM e)
 have hb := hm.b0 t.fg.toNat h3
 refine ⟨by rw [BB, e], ?_⟩
 unfold L8
 obtain ⟨b, hb'⟩ := Int.eq_ofNat_of_zero_le hb.1
 rw [hb'] at hb ⊢
 rw [Int.toNat_natCast]
 exact DV (by omega)
theorem Lu (N : Nat) (hN : N ≤ 1000000) (h20 : 100 ≤ N) (hp : Ci p) (hm : DJ p m) (ht : p.fd[i]? = some t) :
  ES N p m (i : Int) = some (if Bj t = false ∨ m.fc.getD i 0 = Fy m t.fg.toNat ∨ IP p m i t = true then (false, m.fc) else (true, m.fc.set i (Fy m t.fg.toNat))) := by
 have hi := (lI.1 ht).1
 have hin := IT (hp.tab t (lM ht))
 have hb := hm.base
 have hnx := hm.next
 have hh := hm.held
 have hr := Ic hp hm.toMixServ (s := t.fg.toNat) (by omega)
 have hrg := hm.range i hi
 have eh : B3 m.fc (i : Int) = some (m.fc.getD i 0) := DV (by omega)
 unfold ES
 simp only [Bu, BB, ht, oS, Ie]
 have eh' : m.fc[i]? = some (m.fc.getD i 0) := by rw [← BB, eh]
 cases hs : Bj t
 ·rw [Bool.not_false, AR, if_pos (.inl rfl)]
 ·rw [Bool.not_true, Aw, Nw N m _ hin.1 (by omega) (by omega) (hm.b0 _ (by omega)).1]
  simp only [oS, eh']
  by_cases h1 : m.fc.getD i 0 = Fy m t.fg.toNat
  ·rw [beq_iff_eq.2 h1, AR, AR, if_pos (.inr (.inl h1))]
  ·rw [beq_eq_false_iff_ne.2 h1, Aw]
   by_cases h4 : t.ff = 4
   ·rw [beq_iff_eq.2 h4, AR, Fi (d := 0) hin.1 (by omega)]
    simp only [oS]
    obtain ⟨a1, a2, a3⟩ := Oe hrg hr.2
    obtain ⟨w, hw⟩ := Int.eq_ofNat_of_zero_le a2
    unfold DW
    rw [hw] at a1 a3 ⊢
    rw [NB N t _ (L8 m t) 8 N w (Um _) (by omega) (by omega) (fun u hu hbu => by
     have := a1 u; rw [hbu] at this
     exact ⟨_, Th hp hm ht hs h4 (Bool.and_eq_true_iff.1 this.symm).1⟩)]
    simp only [oS]
    have e : (!(List.range 8).all fun u => !B1 (w : Int) u || L8 m t u) = IP p m i t := by
     unfold IP
     rw [beq_iff_eq.2 h4, Bool.true_and, List.not_all_eq_any_not]
     congr 1
     funext u
     rw [a1 u, hr.1 u]
     unfold Uo
     cases B1 (m.fc.getD i 0) u <;> cases F0 m t.fg.toNat u <;> cases L8 m t u <;> rfl
    rw [e]
    cases hst : IP p m i t
    ·rw [Aw, if_neg (by rintro (h | h | h); cases h; exact h1 h; cases h)]; rfl
    ·rw [AR, if_pos (.inr (.inr rfl))]
   ·have e : IP p m i t = false := by unfold IP; rw [beq_eq_false_iff_ne.2 h4]; rfl
    rw [beq_eq_false_iff_ne.2 h4, Aw, Aw, e, if_neg (by rintro (h | h | h); cases h; exact h1 h; cases h)]; rfl
end clear
end Go.Lift
namespace Go.Lift
open Option renaming bind_some → oS
open Go
theorem JQ {s : Ac} (h : F7 s = true) : 1 ≤ s.ff ∧ s.ff ≤ 4 ∧ 0 ≤ s.fh ∧ 0 ≤ s.fi ∧ (s.ff ≠ 1 → s.fi = 0) := by
 unfold F7 at h
 rw [Bool.and_eq_true, decide_eq_true_iff, Bool.or_eq_true, beq_iff_eq, beq_iff_eq] at h
 exact ⟨h.1.1, h.1.2.1, h.1.2.2.1, h.1.2.2.2, fun hk => h.2.elim (fun e => (hk e).elim) id⟩
theorem LK {p : Aa} {s : Ac} (h : Kg p s = true) : (s.ff = 3 → s.fh < (p.fd.length : Int)) ∧ (s.ff ≠ 3 → s.fh < (p.fb.length : Int)) ∧ (s.ff = 1 → s.fi < p.fb.getD s.fh.toNat 0) := by
 unfold Kg at h
 split at h
 ·rename_i hk
  rw [decide_eq_true_iff] at h
  exact ⟨fun _ => h, fun hn => (hn hk).elim, fun h1 => by omega⟩
 ·rename_i hk
  rw [Bool.and_eq_true, decide_eq_true_iff, Bool.or_eq_true, decide_eq_true_iff, bne_iff_ne] at h
  exact ⟨fun h3 => (hk h3).elim, fun _ => h.1, fun h1 => h.2.elim (fun hn => (hn h1).elim) id⟩
theorem Pu (N : Nat) {p : Aa} {m : Ad} (hp : Ci p) (hm : DJ p m) : Ei N m = some m := by
 have hnv := hp.nv
 have hnt := hp.nt
 have h1 := hm.base
 have h2 := hm.next
 have h3 := hm.held
 unfold Ei
 rw [Im N _ (by simp only [Dz]; omega), Im N _ (by simp only [Dz]; omega), Mg N _ (by simp only [Dz]; omega)]
 rfl
theorem Lg (N : Nat) (hN : N ≤ 1000000) (h20 : 100 ≤ N) {p : Aa} {m : Ad} (hp : Ci p) (hm : DJ p m) {s : Ac} (hv : F7 s = true) (hx : Kg p s = true) :
  ∃ o, EH N p m s = some (o, (H4 p m s).isSome) ∧ ∀ x, H4 p m s = some x → o = x := by
 obtain ⟨k1, k4, i0, v0, vk⟩ := JQ hv
 obtain ⟨x3, xn, x1⟩ := LK hx
 have hnv := hp.nv
 have hnt := hp.nt
 have hb := hm.base
 have hn := hm.next
 have hh := hm.held
 obtain ⟨i, hi⟩ := Int.eq_ofNat_of_zero_le i0
 unfold EH H4
 rw [Pu N hp hm]
 simp only [oS, Bu]
 by_cases hk1 : s.ff = 1
 ·have hi1 : (i : Int) < p.fb.length := by have := xn (by omega); omega
  rw [beq_iff_eq.2 hk1, AR, if_pos hk1]
  unfold FJ
  simp only [Bu, hi, Int.toNat_natCast]
  rw [DV (d := 0) (show i < m.fa.length by omega)]
  simp only [oS]
  by_cases c1 : 0 ≤ m.fa.getD i 0
  ·rw [AN c1, AR, if_pos (.inl c1)]
   exact ⟨_, rfl, fun x hx => by cases hx⟩
  ·rw [AQ c1, DV (d := 0) (show i < m.fe.length by omega)]
   simp only [oS]
   by_cases c2 : m.fe.getD i 0 = s.fi
   ·rw [beq_iff_eq.2 c2, AR, if_pos (.inr c2)]
    exact ⟨_, rfl, fun x hx => by cases hx⟩
   ·rw [beq_eq_false_iff_ne.2 c2, Aw, (Kk (_R := Unit) N p s m.fc v0 hh (by omega) hN _).1, if_neg (by rintro (h | h); exact c1 h; exact c2 h)]
    exact ⟨_, rfl, fun x hx => by cases hx; rfl⟩
 ·rw [beq_eq_false_iff_ne.2 hk1, Aw, if_neg hk1]
  by_cases hk3 : s.ff = 3
  ·have hi3 : i < p.fd.length := by have := x3 hk3; omega
   have ht : p.fd[i]? = some p.fd[i] := by simp [hi3]
   rw [beq_iff_eq.2 hk3, AR, if_pos hk3, hi, Lu N hN h20 hp hm ht]
   simp only [oS, Int.toNat_natCast, ht]
   split
   ·exact ⟨_, rfl, fun x hx => by cases hx⟩
   ·exact ⟨_, rfl, fun x hx => by cases hx; rfl⟩
  ·have hi1 : (i : Int) < p.fb.length := by have := xn hk3; omega
   rw [beq_eq_false_iff_ne.2 hk3, Aw, if_neg hk3, hi, DV (d := 0) (show i < m.fa.length by omega)]
   simp only [oS, Int.toNat_natCast]
   by_cases c1 : m.fa.getD i 0 < 0
   ·rw [AN c1, if_pos c1]
    exact ⟨_, rfl, fun x hx => by cases hx⟩
   ·rw [AQ c1, if_neg c1]
    by_cases hk2 : s.ff = 2
    ·rw [beq_iff_eq.2 hk2, AR, DV (d := 0) (show i < m.fe.length by omega), if_pos hk2]
     exact ⟨_, rfl, fun x hx => by cases hx; rfl⟩
    ·rw [beq_eq_false_iff_ne.2 hk2, Aw, if_neg hk2]
     exact ⟨_, rfl, fun x hx => by cases hx; rfl⟩
theorem Lt (N : Nat) (hN : N ≤ 1000000) (h20 : 100 ≤ N) {p : Aa} {m : Ad} (hp : Ci p) (hm : DJ p m) (s : Ac) : ER N p m s = some (Fn p m s) := by
 unfold ER Fn
 rw [IA]
 simp only [oS]
 cases hv : F7 s
 ·rw [Bool.not_false, AR, if_pos rfl]; rfl
 ·rw [Bool.not_true, Aw, if_neg (by simp), KZ N p s hv]
  simp only [oS]
  cases hx : Kg p s
  ·rw [Bool.not_false, AR, if_pos rfl]; rfl
  ·rw [Bool.not_true, Aw, if_neg (by simp)]
   obtain ⟨o, e, ho⟩ := Lg N hN h20 hp hm hv hx
   rw [e]
   simp only [oS]
   cases ha : H4 p m s with
   | none => rfl
   | some x => rw [ho x ha]; rfl
end Go.Lift
namespace Go.Lift
open Option renaming bind_some → oS
open List renaming mem_of_getElem? → lM
open List renaming getElem?_eq_some_iff → lI
open Go
theorem M4 (s : Ac) : ∀ (xs : List Aq) (i : Nat) (a : List Int), i + xs.length ≤ a.length → (F9 (QZ s) i xs a).length = a.length ∧ ∀ q, (F9 (QZ s) i xs a).getD q 0 = match (if i ≤ q then xs[q - i]? else none) with
  | some t => if Ps s t = true then Kc .u8 (a.getD q 0) (CJ .u8 1 s.fi) else a.getD q 0
  | none => a.getD q 0
 | [], i, a, _ => by
  refine ⟨rfl, fun q => ?_⟩
  split
  ·rename_i h; split at h
   ·simp at h
   ·cases h
  ·rfl
 | x :: xs, i, a, hl => by
  have hl' : i + (xs.length + 1) ≤ a.length := by simpa using hl
  have ha : (QZ s i x a).length = a.length := by unfold QZ; split <;> simp
  obtain ⟨ih1, ih2⟩ := M4 s xs (i + 1) (QZ s i x a) (by omega)
  refine ⟨by rw [F9, ih1, ha], fun q => ?_⟩
  rw [F9, ih2 q]
  have hu : (QZ s i x a).getD q 0 = if q = i ∧ Ps s x = true then Kc .u8 (a.getD q 0) (CJ .u8 1 s.fi) else a.getD q 0 := by
   unfold QZ
   by_cases hc : Ps s x = true
   ·rw [if_pos hc, He (by omega)]
    by_cases hq : q = i
    ·subst hq; rw [if_pos rfl, if_pos ⟨rfl, hc⟩]
    ·rw [if_neg hq, if_neg (fun h => hq h.1)]
   ·rw [if_neg hc, if_neg (fun h => hc h.2)]
  by_cases h1 : i + 1 ≤ q
  ·rw [if_pos h1, if_pos (show i ≤ q by omega), hu, if_neg (by omega)]
   rw [show (x :: xs)[q - i]? = xs[q - (i + 1)]? from by rw [show q - i = (q - (i + 1)) + 1 from by omega, List.getElem?_cons_succ]]
  ·rw [if_neg h1]
   by_cases h2 : q = i
   ·subst h2
    rw [if_pos (Nat.le_refl _), Nat.sub_self, hu]
    simp
   ·rw [if_neg (show ¬ i ≤ q by omega), hu, if_neg (by omega)]
theorem PB {p : Aa} {s : Ac} {held : List Int} (hl : held.length = p.fd.length) : (GW p s held).length = p.fd.length ∧ ∀ q t, p.fd[q]? = some t → (GW p s held).getD q 0 = if Ps s t = true then Kc .u8 (held.getD q 0) (CJ .u8 1 s.fi) else held.getD q 0 := by
 obtain ⟨h1, h2⟩ := M4 s p.fd 0 held (by omega)
 refine ⟨h1.trans hl, fun q t ht => ?_⟩
 have := h2 q
 rw [if_pos (Nat.zero_le _), Nat.sub_zero, ht] at this
 exact this
theorem KN {m : Ad} {s v : Nat} : F0 m s v = true ↔ m.fe.getD s 0 = (v : Int) ∨ m.fa.getD s 0 = (v : Int) := by
 unfold F0; rw [Bool.or_eq_true, decide_eq_true_iff, decide_eq_true_iff]
theorem Qc {p : Aa} {m x : Ad} (hp : Ci p) (hm : DJ p m) {s : Ac} (hv : F7 s = true) (hx : Kg p s = true) (h : H4 p m s = some x) : DJ p x := by
 obtain ⟨k1, k4, i0, v0, vk⟩ := JQ hv
 obtain ⟨x3, xn, x1⟩ := LK hx
 obtain ⟨i, hi⟩ := Int.eq_ofNat_of_zero_le i0
 have hb := hm.base
 have hn := hm.next
 have hh := hm.held
 unfold H4 at h
 simp only [hi, Int.toNat_natCast] at h
 rw [hi, Int.toNat_natCast] at x1
 split at h
 ·rename_i hk1
  have hi1 : i < p.fb.length := by have := xn (by omega); omega
  have hx1 := x1 hk1
  have hvi := G4 hp hi1
  split at h
  ·cases h
  rename_i hc
  cases h
  obtain ⟨u1, u2⟩ := PB (s := s) hh
  obtain ⟨b, hbv⟩ := Int.eq_ofNat_of_zero_le v0
  have hob := Q9 (b := b) (by omega)
  have hN : ∀ q, (m.fa.set i s.fi).getD q 0 = if q = i then s.fi else m.fa.getD q 0 := fun q => He (by omega)
  refine { base := hb, next := by simpa using hn, held := u1, b0 := hm.b0, n0 := fun q hq => ?_, ne := fun q hq => ?_, range := fun q hq => ?_, low := fun q t ht hs v hr => ?_, high := fun q t ht hs v hbit => ?_, none := fun q t ht hs => ?_ }
  ·show -1 ≤ (m.fa.set i s.fi).getD q 0 ∧ (m.fa.set i s.fi).getD q 0 < _
   rw [hN q]
   split
   ·rename_i e; subst e; omega
   ·exact hm.n0 q hq
  ·show m.fe.getD q 0 ≠ (m.fa.set i s.fi).getD q 0
   rw [hN q]
   split
   ·rename_i e; subst e; exact fun h => hc (.inr h)
   ·exact hm.ne q hq
  ·have ht : p.fd[q]? = some p.fd[q] := by simp [hq]
   show 0 ≤ (GW p s m.fc).getD q 0 ∧ (GW p s m.fc).getD q 0 ≤ 255
   rw [u2 q _ ht, hbv]
   split
   ·exact (Om (hm.range q hq) hob.2).2
   ·exact hm.range q hq
  ·have hq := (lI.1 ht).1
   show B1 ((GW p s m.fc).getD q 0) v = true
   have hin := IT (hp.tab t (lM ht))
   rw [KN] at hr
   have hr : m.fe.getD t.fg.toNat 0 = (v : Int) ∨ (m.fa.set i s.fi).getD t.fg.toNat 0 = (v : Int) := hr
   rw [hN] at hr
   rw [u2 q t ht, hbv]
   have hlow := hm.low q t ht hs v
   rw [KN] at hlow
   by_cases hf : t.fg.toNat = i
   ·have hup : Ps s t = true := by unfold Ps; rw [hs, Bool.and_true, beq_iff_eq, hi]; omega
    rw [if_pos hup, (Om (hm.range q hq) hob.2).1, hob.1 v, Bool.or_eq_true, decide_eq_true_iff]
    rw [if_pos hf] at hr
    rcases hr with h | h
    ·exact .inl (hlow (.inl h))
    ·right; omega
   ·rw [if_neg hf] at hr
    have hup : Ps s t = false := by unfold Ps; rw [hs, Bool.and_true, beq_eq_false_iff_ne, hi]; omega
    rw [hup, if_neg (by simp)]
    exact hlow hr
  ·have hq := (lI.1 ht).1
   have hbit : B1 ((GW p s m.fc).getD q 0) v = true := hbit
   have hin := IT (hp.tab t (lM ht))
   rw [u2 q t ht, hbv] at hbit
   split at hbit
   ·rename_i hup
    rw [(Om (hm.range q hq) hob.2).1, hob.1 v, Bool.or_eq_true, decide_eq_true_iff] at hbit
    rcases hbit with h | h
    ·exact hm.high q t ht hs v h
    ·unfold Ps at hup
     rw [hs, Bool.and_true, beq_iff_eq, hi] at hup
     rw [hup, Int.toNat_natCast]; omega
   ·exact hm.high q t ht hs v hbit
  ·show (GW p s m.fc).getD q 0 = 0
   have hup : Ps s t = false := by unfold Ps; rw [hs, Bool.and_false]
   rw [u2 q t ht, hup, if_neg (by simp)]
   exact hm.none q t ht hs
 ·rename_i hk1
  split at h
  ·rename_i hk3
   have hi3 : i < p.fd.length := by have := x3 hk3; omega
   have ht0 : p.fd[i]? = some p.fd[i] := by simp [hi3]
   rw [ht0] at h
   simp only at h
   split at h
   ·cases h
   rename_i hc
   cases h
   have hin0 := IT (hp.tab _ (lM ht0))
   have hr0 := Ic hp hm.toMixServ (s := (p.fd[i]).fg.toNat) (by omega)
   have hs0 : Bj p.fd[i] = true := by
    cases hs : Bj p.fd[i]
    ·exact (hc (.inl hs)).elim
    ·rfl
   have hH : ∀ q, (m.fc.set i (Fy m (p.fd[i]).fg.toNat)).getD q 0 = if q = i then Fy m (p.fd[i]).fg.toNat else m.fc.getD q 0 := fun q => He (by omega)
   refine { base := hb, next := hn, held := by simpa using hh, b0 := hm.b0, n0 := hm.n0, ne := hm.ne, range := fun q hq => ?_, low := fun q t ht hs v hr => ?_, high := fun q t ht hs v hbit => ?_, none := fun q t ht hs => ?_ }
   ·show 0 ≤ (m.fc.set i (Fy m (p.fd[i]).fg.toNat)).getD q 0 ∧ (m.fc.set i (Fy m (p.fd[i]).fg.toNat)).getD q 0 ≤ 255
    rw [hH q]
    split
    ·exact hr0.2
    ·exact hm.range q hq
   ·show B1 ((m.fc.set i (Fy m (p.fd[i]).fg.toNat)).getD q 0) v = true
    have hr : F0 m t.fg.toNat v = true := hr
    rw [hH q]
    split
    ·rename_i e; subst e
     rw [ht0] at ht; cases ht
     rw [hr0.1]; exact hr
    ·exact hm.low q t ht hs v hr
   ·have hbit : B1 ((m.fc.set i (Fy m (p.fd[i]).fg.toNat)).getD q 0) v = true := hbit
    rw [hH q] at hbit
    split at hbit
    ·rename_i e; subst e
     rw [ht0] at ht; cases ht
     rw [hr0.1] at hbit
     exact hm.high q _ ht0 hs0 v (hm.low q _ ht0 hs0 v hbit)
    ·exact hm.high q t ht hs v hbit
   ·show (m.fc.set i (Fy m (p.fd[i]).fg.toNat)).getD q 0 = 0
    rw [hH q, if_neg (fun e => by subst e; rw [ht0] at ht; cases ht; rw [hs0] at hs; cases hs)]
    exact hm.none q t ht hs
  ·rename_i hk3
   have hi1 : i < p.fb.length := by have := xn hk3; omega
   have hvi := G4 hp hi1
   split at h
   ·cases h
   rename_i hc
   cases h
   have hN : ∀ q, (m.fa.set i (-1)).getD q 0 = if q = i then -1 else m.fa.getD q 0 := fun q => He (by omega)
   have hB : ∀ q, (if s.ff = 2 then m.fe.set i (m.fa.getD i 0) else m.fe).getD q 0 = if s.ff = 2 ∧ q = i then m.fa.getD i 0 else m.fe.getD q 0 := fun q => by
    by_cases hk2 : s.ff = 2
    ·rw [if_pos hk2, He (by omega)]
     by_cases e : q = i
     ·rw [if_pos e, if_pos ⟨hk2, e⟩]
     ·rw [if_neg e, if_neg (fun h => e h.2)]
    ·rw [if_neg hk2, if_neg (fun h => hk2 h.1)]
   have hrun : ∀ q v, F0 ⟨if s.ff = 2 then m.fe.set i (m.fa.getD i 0) else m.fe, m.fa.set i (-1), m.fc⟩ q v = true → F0 m q v = true := fun q v hr => by
    rw [KN] at hr ⊢
    simp only [hN q, hB q] at hr
    by_cases e : q = i
    ·subst e
     rw [if_pos rfl] at hr
     by_cases hk2 : s.ff = 2
     ·rw [if_pos ⟨hk2, rfl⟩] at hr; omega
     ·rw [if_neg (fun h => hk2 h.1)] at hr; omega
    ·rw [if_neg e, if_neg (fun h => e h.2)] at hr; exact hr
   refine { base := by simp only; split <;> simp [hb], next := by simpa using hn, held := hh, b0 := fun q hq => ?_, n0 := fun q hq => ?_, ne := fun q hq => ?_, range := hm.range, low := fun q t ht hs v hr => hm.low q t ht hs v (hrun _ _ hr), high := hm.high, none := hm.none }
   ·simp only [hB q]
    split
    ·rename_i e; obtain ⟨_, e⟩ := e; subst e
     have := hm.n0 q hq
     omega
    ·exact hm.b0 q hq
   ·simp only [hN q]
    split
    ·rename_i e; subst e; omega
    ·exact hm.n0 q hq
   ·simp only [hB q, hN q]
    have h1 := hm.b0 q hq
    by_cases e : q = i
    ·rw [if_pos e]
     split
     ·rename_i e2; obtain ⟨_, e2⟩ := e2; subst e2; omega
     ·omega
    ·rw [if_neg e, if_neg (fun h => e h.2)]; exact hm.ne q hq
theorem Lx (N : Nat) (hN : N ≤ 1000000) (h20 : 100 ≤ N) {p : Aa} {m : Ad} (hw : JY IY m.fc) (s : Ac) : D6 N p m s = some (if DR p m = 0 then Fn p m s else (J1, DR p m)) := by
 unfold D6
 rw [Hr N p m hN (by omega) hw]
 simp only [oS]
 by_cases hval : DR p m = 0
 ·obtain ⟨hp, hm⟩ := KP hw hval
  rw [if_pos hval, hval, bne_self_eq_false, Aw, Lt N hN h20 hp hm s]; rfl
 ·rw [if_neg hval, bne_iff_ne.2 hval, AR]; rfl
theorem LI {p : Aa} {m : Ad} (hp : Ci p) (hm : DJ p m) {s : Ac} (h : (Fn p m s).2 = 0) : DJ p (Fn p m s).1 := by
 unfold Fn at h ⊢
 split at h
 ·cases h
 rename_i h1
 rw [if_neg h1]
 split at h
 ·cases h
 rename_i h2
 rw [if_neg h2]
 cases ha : H4 p m s with
 | none => rw [ha] at h; cases h
 | some x => exact Qc hp hm (by simpa using h1) (by simpa using h2) ha
end Go.Lift
namespace Go.Lift
open Go
section
variable {N : Nat} {p : Aa} {l : List Ac}
end
end Go.Lift
namespace Go.Lift
open Go
theorem QE {α : Type} (l : List α) (i : Nat) : l.eraseIdx i = l.take i ++ l.drop (i + 1) := List.eraseIdx_eq_take_drop_succ ..
theorem PG (N : Nat) (l : List Ac) (i : Nat) (hi : i < l.length) (hl : l.length ≤ 1000) : ∃ X, Bb N l (i : Int) (((i + 1 : Nat) : Int)) = some (l.length - 1, X) ∧ X.take (l.length - 1) = l.eraseIdx i ∧ l.length - 1 ≤ X.length := by
 unfold Bb
 have e1 : ((l.drop (i + 1)).take (l.length - (i + 1))) = l.drop (i + 1) := List.take_of_length_le (by simp)
 have e2 : i + (l.drop (i + 1)).length = l.length - 1 := by simp; omega
 have e3 : (FV l (0 + i) (l.drop (i + 1))).length = l.length := FI (by simp; omega)
 have e4 : ((i : Int) + ((l.drop (i + 1)).length : Int)).toNat = l.length - 1 := by omega
 simp only [Int.toNat_natCast, e1, e2, e4, e3]
 rw [Au ⟨by omega, by omega, by omega, by omega, by omega, Nat.le_refl _⟩, beq_eq_false_iff_ne.2 (show (i : Int) ≠ ((i + 1 : Nat) : Int) by omega), Aw,
  Au ⟨by omega, by omega, by omega⟩, Au ⟨by omega, by omega, Nat.le_refl _⟩, Au (by omega), Au ⟨by omega, by omega, by omega, Nat.le_refl _⟩]
 refine ⟨_, rfl, ?_, ?_⟩
 ·rw [QE]
  unfold FV
  rw [Nat.zero_add, List.append_assoc]
  have h1 : (l.take i ++ l.drop (i + 1) ++ l.drop (i + (l.drop (i + 1)).length)).take (l.length - 1) = l.take i ++ l.drop (i + 1) := by
   have : (l.take i ++ l.drop (i + 1)).length = l.length - 1 := by simp; omega
   rw [List.take_append_of_le_length (by omega), List.take_of_length_le (by omega)]
  rw [h1, List.take_append_of_le_length (by simp; omega), List.take_of_length_le (by simp; omega)]
 ·rw [FI (by rw [e3, List.length_replicate]; omega), e3]; omega
theorem Px {α : Type} {l : List α} {i : Nat} (h : i < l.length) : (l.eraseIdx i).length = l.length - 1 := List.length_eraseIdx_of_lt h
theorem Hw (N : Nat) (l : List Ac) (h : l.length ≤ Dz) : AJ N l = some l := by
 unfold AJ
 rw [Au (by simpa using h)]; rfl
end Go.Lift
namespace Go.Lift
namespace Bfs
section
variable {α σ : Type}
def code (rk : σ → Nat) (K : Nat) (w : List σ) : Nat := w.foldl (fun c s => c * K + rk s) 0
def UT (rk : σ → Nat) (K : Nat) (w : List σ) : Prop := ∀ s, s ∈ w → 1 ≤ rk s ∧ rk s ≤ K
theorem UT.snoc {rk : σ → Nat} {K : Nat} {w : List σ} {s : σ} (h : UT rk K w) (hs : 1 ≤ rk s ∧ rk s ≤ K) : UT rk K (w ++ [s]) := by
 intro x hx; rcases List.mem_append.1 hx with h1 | h1
 ·exact h x h1
 ·rw [List.mem_singleton.1 h1]; exact hs
abbrev Nd (α σ : Type) := α × Int × σ
def put [DecidableEq α] (i : Nat) (l : List (Nd α σ)) (q : σ × α) : List (Nd α σ) := if (l.any fun n => decide (n.1 = q.2)) = true then l else l ++ [(q.2, (i : Int), q.1)]
def QG [DecidableEq α] (most i : Nat) : List (σ × α) → List (Nd α σ) → Option (List (Nd α σ))
 | [], l => some l
 | q :: qs, l => if most < (put i l q).length then none else QG most i qs (put i l q)
def go [DecidableEq α] (nxt : α → List (σ × α)) (most : Nat) : Nat → Nat → List (Nd α σ) → Option (List (Nd α σ))
 | 0, _, _ => none
 | n + 1, i, l => match l[i]? with
  | none => some l
  | some nd => (QG most i (nxt nd.1) l).bind fun l' => go nxt most n (i + 1) l'
def run (nxt : α → List (σ × α)) (x : α) : List σ → α → Prop
 | [], y => y = x
 | s :: w, y => ∃ z, (s, z) ∈ nxt x ∧ run nxt z w y
theorem Gm {nxt : α → List (σ × α)} : ∀ {u w : List σ} {x y : α}, run nxt x (u ++ w) y ↔ ∃ z, run nxt x u z ∧ run nxt z w y
 | [], w, x, y => by simp [run]
 | s :: u, w, x, y => by
  simp only [List.cons_append, run]
  constructor
  ·rintro ⟨z, h1, h2⟩
   obtain ⟨z', h3, h4⟩ := Gm.1 h2
   exact ⟨z', ⟨z, h1, h3⟩, h4⟩
  ·rintro ⟨z', ⟨z, h1, h3⟩, h4⟩
   exact ⟨z, h1, Gm.2 ⟨z', h3, h4⟩⟩
end
end Bfs
end Go.Lift
namespace Go.Lift
open Go
theorem NA : ∀ {l : List Int}, Q5 l = 0 → ∀ x, x ∈ l → x = 0
 | [], _, x, hx => by cases hx
 | y :: ys, h, x, hx => by
  unfold Q5 at h
  split at h
  ·rename_i hy
   rcases List.mem_cons.1 hx with rfl | hx
   ·exact hy
   ·exact NA h x hx
  ·rename_i hy; exact absurd h hy
theorem LD {a b : Ad} (h : Oj a b = 0) : a = b := by
 have := NA h
 have h1 := Kr _ _ (this (F1 a.fe b.fe) (by simp))
 have h2 := Kr _ _ (this (F1 a.fa b.fa) (by simp))
 have h3 := Kr _ _ (this (F1 a.fc b.fc) (by simp))
 cases a; cases b; simp only at h1 h2 h3; subst h1; subst h2; subst h3; rfl
instance Vf : DecidableEq Ad := fun a b => if h : Oj a b = 0 then isTrue (LD h) else isFalse (fun e => h (by rw [e]; exact LJ b))
theorem PM (a b : Ad) : (Oj a b == 0) = decide (a = b) := by
 by_cases h : a = b
 ·rw [decide_eq_true h, h, LJ]; rfl
 ·rw [decide_eq_false h]
  exact beq_eq_false_iff_ne.2 fun e => h (LD e)
end Go.Lift
namespace Go.Lift
open Option renaming bind_some → oS
open List renaming mem_of_getElem? → lM
open List renaming getElem?_eq_some_iff → lI
open Go
def GC (p : Aa) : Ad → List Ac → Ad × Bool
 | m, [] => (m, true)
 | m, s :: l => if (Fn p m s).2 = 0 ∧ Gd p (Fn p m s).1 = true then GC p (Fn p m s).1 l else (J1, false)
theorem ON {p : Aa} (hp : Ci p) : ∀ {l : List Ac} {m : Ad}, DJ p m → (GC p m l).2 = true → DJ p (GC p m l).1
 | [], m, hm, _ => hm
 | s :: l, m, hm, h => by
  unfold GC at h ⊢
  by_cases hc : (Fn p m s).2 = 0 ∧ Gd p (Fn p m s).1 = true
  ·rw [if_pos hc] at h ⊢
   exact ON hp (LI hp hm hc.1) h
  ·rw [if_neg hc] at h; cases h
section
variable {N : Nat} {p : Aa} {l : List Ac}
theorem L1 (hN : N ≤ 1000000) (h20 : 100 ≤ N) (hv : C4 p = 0) (hl : l.length ≤ 1000) : ∀ (n i : Nat) (m : Ad), i ≤ l.length → l.length - i < n → DJ p m →
  Cv N p l (fun v2 => some (v2, true)) n (m.fe, m.fa, m.fc, (i : Int)) = some (GC p m (l.drop i))
 | 0, i, m, _, h, _ => by omega
 | n + 1, i, m, hi, h, hm => by
  obtain ⟨hp, _⟩ := Hu hv
  have hval := HQ hv hm
  rw [Cv]
  by_cases hlt : i < l.length
  ·have hx : l[i]? = some l[i] := by simp [hlt]
   rw [AN (by simp only; omega), Dg hx, GC]
   simp only [Bu, BB, hx, oS, A0 (show i < 1000000 by omega)]
   rw [Lx N hN h20 (NS hm), if_pos hval]
   simp only [oS]
   by_cases h1 : (Fn p m l[i]).2 = 0
   ·have hm' := LI hp hm h1
    rw [h1, bne_self_eq_false, Aw, Ir N p _ hN h20 (NS hm') (HQ hv hm')]
    simp only [oS, bne_self_eq_false, Aw]
    cases hr : Gd p (Fn p m l[i]).1
    ·rw [if_neg (by simp)]; rfl
    ·rw [if_pos ⟨by simp, by simp⟩, Bool.not_true, Aw]
     exact L1 hN h20 hv hl n (i + 1) _ (by omega) (by omega) hm'
   ·rw [bne_iff_ne.2 h1, AR, if_neg (fun q => h1 q.1)]; rfl
  ·rw [AQ (by simp only; omega), List.drop_eq_nil_of_le (by omega)]; rfl
theorem OS (hN : N ≤ 1000000) (h20 : 100 ≤ N) (hv : C4 p = 0) (hl : l.length ≤ 1000) (hln : l.length < N) {m : Ad} (hm : DJ p m) : BR N p m l = some (GC p m l) := by
 unfold BR
 have := L1 hN h20 hv hl N 0 m (Nat.zero_le _) (by omega) hm
 rwa [List.drop_zero] at this
end
def Pn (a b : Ac) : Bool := (a.ff == b.ff) && ((a.fh == b.fh) && ((a.fi == b.fi) && true))
theorem OQ (a b : Ac) : Pn a b = true ↔ a = b := by
 cases a; cases b
 simp [Pn]
def M9 (l : List Ac) (i : Nat) (s : Ac) : Bool := !F7 s || s.ff == 4 || (l.take i).any fun x => Pn s x
def G7 (l : List Ac) (i : Nat) (s : Ac) : Option Int := if M9 l i s = true then some 1 else none
def HH (l : List Ac) : Int := if l.length < 1 ∨ 5 < l.length then 6 else (CX (G7 l) 0 l).getD 0
theorem PF {N : Nat} {k : Int} {w : ByteArray} (h : Do N k = some w) : w.size ≤ 6 := by
 unfold Do at h
 obtain ⟨v, h1, h2⟩ := bind_some h
 cases h2
 unfold B3 at h1
 split at h1
 ·generalize k.toNat = i at h1
  match i, h1 with
  | 0, h1 => cases h1; decide
  | 1, h1 => cases h1; decide
  | 2, h1 => cases h1; decide
  | 3, h1 => cases h1; decide
  | 4, h1 => cases h1; decide
  | i + 5, h1 => simp at h1
 ·cases h1
def Nr (s : Ac) : Prop := (-9223372036854775808 ≤ s.fh ∧ s.fh ≤ 9223372036854775807) ∧ (-9223372036854775808 ≤ s.fi ∧ s.fi ≤ 9223372036854775807)
theorem L9 {n : Int} (h0 : -9223372036854775808 ≤ n) (h1 : n ≤ 9223372036854775807) : ∃ r : ByteArray, Np n = some r ∧ r.size ≤ 21 := by
 unfold Np
 rw [if_pos ⟨h0, h1⟩]
 exact ⟨_, rfl, by show (Lib.itoa n).toArray.size ≤ 21; simpa using Lib.itoa_length_le n h0 h1⟩
theorem I1 (a b : ByteArray) : (a ++ b).size = a.size + b.size := by simp
theorem Pr {N : Nat} {k : Int} (h1 : 1 ≤ k) (h4 : k ≤ 4) : ∃ w, Do N k = some w ∧ w.size ≤ 6 := by
 have : ∃ w, Do N k = some w := by
  unfold Do B3
  rw [if_pos (by omega)]
  obtain ⟨q, hq⟩ : ∃ q : Nat, k = (q : Int) := ⟨k.toNat, by omega⟩
  subst hq
  rw [Int.toNat_natCast]
  match q, h1, h4 with
  | 1, _, _ => exact ⟨_, rfl⟩
  | 2, _, _ => exact ⟨_, rfl⟩
  | 3, _, _ => exact ⟨_, rfl⟩
  | 4, _, _ => exact ⟨_, rfl⟩
 obtain ⟨w, hw⟩ := this
 exact ⟨w, hw, PF hw⟩
theorem Pv (N : Nat) {s : Ac} (hw : Nr s) : ∃ t, Ek N s = some (t, if F7 s = true then 0 else 1) := by
 unfold Ek
 rw [IA]
 simp only [oS, Bu]
 cases hv : F7 s
 ·exact ⟨_, rfl⟩
 ·obtain ⟨k1, k4, _⟩ := JQ hv
  obtain ⟨w, e1, l1⟩ := Pr (N := N) k1 k4
  obtain ⟨a, e2, l2⟩ := L9 hw.1.1 hw.1.2
  obtain ⟨b, e3, l3⟩ := L9 hw.2.1 hw.2.2
  have z1 : (⟨#[32]⟩ : ByteArray).size = 1 := rfl
  unfold EW
  rw [Bool.not_true, Aw, e1]
  simp only [oS]
  rw [Au (by rw [z1]; omega), e2]
  simp only [oS]
  rw [Au (by rw [I1, z1]; omega), e3]
  simp only [oS]
  cases s.ff == 1
  ·rw [Aw]; exact ⟨_, rfl⟩
  ·rw [AR, Au (by rw [z1]; omega), Au (by rw [I1, I1, I1, z1]; omega)]; exact ⟨_, rfl⟩
theorem Kh {N : Nat} (l : List Ac) (s : Ac) (hl : l.length ≤ 1000) (hln : l.length < N) : Bi N l s = some ((CX (fun i x => if Pn s x = true then some (i : Int) else none) 0 l).getD (-1)) := by
 unfold Bi
 have := D5 (AL N l s (fun _ => some (-1))) l (some (-1)) (fun i x => if Pn s x = true then some (i : Int) else none)
  (fun n i x hx => by
   have hi := (lI.1 hx).1
   rw [AL, AN (by omega)]
   simp only [BB, hx, oS, A0 (show i < 1000000 by omega)]
   show AM (Pn s x) _ _ = _
   cases Pn s x <;> rfl)
  (fun n => by rw [AL, AQ (by omega)]) N 0 (Nat.zero_le _) (by omega)
 rw [List.drop_zero] at this
 refine this.trans ?_
 cases CX (fun i x => if Pn s x = true then some (i : Int) else none) 0 l <;> rfl
theorem PD {l : List Ac} {s : Ac} : ∀ (i : Nat), decide (0 ≤ (CX (fun i x => if Pn s x = true then some (i : Int) else none) i l).getD (-1)) = l.any fun x => Pn s x := by
 induction l with
 | nil => intro i; rfl
 | cons x l ih =>
  intro i
  rw [E3, List.any_cons]
  cases h : Pn s x
  ·simp only [Bool.false_or]; exact ih (i + 1)
  ·simp only [Bool.true_or, if_true]; exact decide_eq_true (by simp only [Option.getD_some]; omega)
theorem Lm {N : Nat} (l : List Ac) (s : Ac) (hl : l.length ≤ 1000) (hln : l.length < N) : A4 N l s = some (l.any fun x => Pn s x) := by
 unfold A4
 rw [Kh l s hl hln]
 simp only [oS]
 rw [PD]
theorem Rl {N : Nat} (l : List Ac) (hln : 10 < N) (hw : ∀ s, s ∈ l → Nr s) : EG N l = some (HH l) := by
 unfold EG HH
 simp only [Bu]
 by_cases h1 : (l.length : Int) < 1
 ·rw [AN h1, AR, if_pos (.inl (by omega))]
 rw [AQ h1]
 by_cases h5 : (5 : Int) < (l.length : Int)
 ·rw [decide_eq_true h5, AR, if_pos (.inr (by omega))]
 rw [decide_eq_false h5, Aw, if_neg (by omega)]
 have := D5 (CD N l (fun _ => some 0)) l (some 0) (G7 l)
  (fun n i x hx => by
   have hi := (lI.1 hx).1
   obtain ⟨t, ht⟩ := Pv N (hw x (lM hx))
   rw [CD, AN (by omega)]
   simp only [Bu, BB, hx, oS, A0 (show i < 1000000 by omega), ht, Int.toNat_natCast, List.drop_zero, Nat.sub_zero]
   unfold G7 M9
   cases F7 x
   ·rw [if_neg (by simp)]; rfl
   ·rw [if_pos rfl, bne_self_eq_false, Aw]
    cases x.ff == 4
    ·rw [Aw, Au ⟨by omega, by omega, by omega⟩, Lm _ x (by simp; omega) (by simp; omega)]
     simp only [oS, Bool.not_true, Bool.false_or]
     cases (l.take i).any fun y => Pn x y <;> rfl
    ·rfl)
  (fun n => by rw [CD, AQ (by omega)]) N 0 (Nat.zero_le _) (by omega)
 rw [List.drop_zero] at this
 refine this.trans ?_
 cases CX (G7 l) 0 l <;> rfl
end Go.Lift
namespace Go.Lift
open Option renaming bind_some → oS
open Go
section
variable {α β : Type}
def HG : List α → List (α × List α)
 | [] => []
 | x :: xs => (x, xs) :: (HG xs).map fun q => (q.1, x :: q.2)
def Hm : Nat → List α → List (List α)
 | 0, _ => [[]]
 | k + 1, l => (HG l).flatMap fun q => (Hm k q.2).map (q.1 :: ·)
def J9 (l : List α) : List (List α) := Hm l.length l
theorem LQ : ∀ l : List α, (HG l).length = l.length
 | [] => rfl
 | x :: xs => by simp [HG, LQ xs]
theorem MY : ∀ {l : List α} {i : Nat} {x : α}, l[i]? = some x → (HG l)[i]? = some (x, l.eraseIdx i)
 | y :: ys, 0, x, h => by simp at h; subst h; rfl
 | y :: ys, i + 1, x, h => by
  rw [HG, List.getElem?_cons_succ, List.getElem?_map, MY (by simpa using h)]; rfl
theorem IL : ∀ {l : List α} {q : α × List α}, q ∈ HG l → (q.1 :: q.2).Perm l
 | x :: xs, q, h => by
  rw [HG] at h
  rcases List.mem_cons.1 h with e | e
  ·subst e; exact List.Perm.refl _
  ·obtain ⟨r, hr, rfl⟩ := List.mem_map.1 e
   exact (List.Perm.swap x r.1 r.2).trans ((IL hr).cons x)
theorem LN : ∀ {l : List α} {x : α}, x ∈ l → ∃ q, q ∈ HG l ∧ q.1 = x
 | y :: ys, x, h => by
  rcases List.mem_cons.1 h with e | e
  ·exact ⟨(y, ys), by simp [HG], e.symm⟩
  ·obtain ⟨q, h1, h2⟩ := LN e
   exact ⟨(q.1, y :: q.2), by simp only [HG, List.mem_cons, List.mem_map]; exact .inr ⟨q, h1, rfl⟩, h2⟩
theorem II : ∀ {k : Nat} {l x : List α}, l.length = k → (x ∈ Hm k l ↔ x.Perm l)
 | 0, l, x, h => by
  have := List.eq_nil_of_length_eq_zero h
  subst this
  simp [Hm]
 | k + 1, l, x, h => by
  simp only [Hm, List.mem_flatMap, List.mem_map]
  constructor
  ·rintro ⟨q, hq, z, hz, rfl⟩
   have hp := IL hq
   have hl : q.2.length = k := by have := hp.length_eq; simp at this; omega
   exact (((II hl).1 hz).cons q.1).trans hp
  ·intro hx
   cases x with
   | nil => have := hx.length_eq; simp at this; omega
   | cons y z =>
    obtain ⟨q, hq, rfl⟩ := LN (hx.mem_iff.1 (List.mem_cons_self : y ∈ y :: z))
    have hp := IL hq
    have hl : q.2.length = k := by have := hp.length_eq; simp at this; omega
    exact ⟨q, hq, z, (II hl).2 ((List.perm_cons q.1).1 (hx.trans hp.symm)), rfl⟩
theorem Jx {l x : List α} : x ∈ J9 l ↔ x.Perm l := II rfl
end
def IF (p : Aa) (m e : Ad) (x : List Ac) : Bool := !((GC p m x).2 && decide ((GC p m x).1 = e))
def Ry (p : Aa) (m : Ad) (l : List Ac) : List Ac × Int :=
 if DR p m ≠ 0 then ([], DR p m) else if HH l ≠ 0 then ([], HH l) else
 if (Gd p m && (GC p m l).2) = true then (match (J9 l).find? (IF p m (GC p m l).1) with | some x => (x, 0) | none => ([], 15)) else (l, 0)
def HD (p : Aa) (m : Ad) (l : List Ac) : Bool × Int :=
 if DR p m ≠ 0 then (false, DR p m) else ((Ry p m l).2 == 15, 0)
theorem Ov {N : Nat} (hN : N ≤ 1000000) (h20 : 100 ≤ N) {p : Aa} {a b : Ad} (hp : Ci p) (ha : DJ p a) : DI N a b = some (Oj a b) := by
 have := hp.nv
 have := hp.nt
 have h1 : a.fe.length < N := by rw [ha.base]; omega
 have h2 : a.fa.length < N := by rw [ha.next]; omega
 have h3 : a.fc.length < N := by rw [ha.held]; omega
 unfold DI
 rw [K4 h1 hN, K4 h2 hN, Nm h3 hN]
 simp only [oS]
 rw [Tt (by simp; omega) hN]
 rfl
theorem P8 {a b : Ad} : (Oj a b != 0) = !decide (a = b) := by rw [← PM]; rfl
section
variable {N : Nat} {p : Aa} {m e : Ad}
theorem Re (hN : N ≤ 1000000) (h20 : 100 ≤ N) (hv : C4 p = 0) (hm : DJ p m) {x : List Ac} (hl : x.length ≤ 90) (o : Option (List Ac)) :
  Em N x p.fb p.fm p.fo p.fd m.fe m.fa m.fc e.fe e.fa e.fc o = some (if IF p m e x = true then (false, some x) else (true, o)) := by
 obtain ⟨hp, _⟩ := Hu hv
 unfold Em
 show (BR N p m x).bind _ = _
 rw [OS hN h20 hv (by omega) (by omega) hm]
 simp only [oS, Bu]
 unfold IF
 cases h : (GC p m x).2
 ·rfl
 ·rw [Bool.not_true, Aw]
  show (DI N (GC p m x).1 e).bind _ = _
  rw [Ov hN h20 hp (ON hp hm h)]
  simp only [oS, P8, Bool.true_and]
  cases decide ((GC p m x).1 = e) <;> rfl
abbrev MH (taken : List Ac) (o : Option (List Ac)) : Option (List Ac) → Bool × Option (List Ac)
 | some x => (false, some (taken ++ x))
 | none => (true, o)
theorem Ma (hN : N ≤ 1000000) (h20 : 100 ≤ N) (hv : C4 p = 0) (hm : DJ p m) : ∀ (k : Nat) (rest taken : List Ac) (o : Option (List Ac)), rest.length < k → taken.length + rest.length ≤ 80 →
  BU N k taken rest p.fb p.fm p.fo p.fd m.fe m.fa m.fc e.fe e.fa e.fc o = some (MH taken o ((J9 rest).find? fun x => IF p m e (taken ++ x)))
 | 0, _, _, _, h, _ => by omega
 | k + 1, rest, taken, o, hk, hl => by
  rw [BU, DA]
  cases hr : rest with
  | nil =>
   rw [show ((([] : List Ac).length : Int) == 0) = true from rfl, AR, Re hN h20 hv hm (by omega)]
   simp only [J9, Hm, List.length_nil, List.find?_cons, List.append_nil, List.find?_nil, oS]
   cases IF p m e taken <;> simp [MH]
  | cons y ys =>
   rw [← hr]
   have hlen : rest.length = ys.length + 1 := by rw [hr]; rfl
   rw [beq_eq_false_iff_ne.2 (show (rest.length : Int) ≠ 0 by omega), Aw]
   have key : ∀ (n i : Nat), i ≤ rest.length → rest.length - i < n →
     Cb N taken rest p.fb p.fm p.fo p.fd m.fe m.fa m.fc e.fe e.fa e.fc (BU N k) (fun v4 => some (true, v4)) n (o, (i : Int)) =
      some (MH taken o (((HG rest).drop i).findSome? fun q => ((Hm ys.length q.2).find? fun x => IF p m e (taken ++ q.1 :: x)).map (q.1 :: ·))) := by
    intro n
    induction n with
    | zero => intro i _ h; omega
    | succ n ih =>
     intro i hi hn
     rw [Cb]
     by_cases hlt : i < rest.length
     ·have hx : rest[i]? = some rest[i] := by simp [hlt]
      obtain ⟨X, d1, d2, _⟩ := PG N rest i hlt (by omega)
      have d3 : rest.length - 1 ≤ X.length := by omega
      have hle : (rest.eraseIdx i).length = ys.length := by rw [Px hlt]; omega
      rw [AN (by simp only; omega), Dg (MY hx), List.findSome?_cons]
      simp only [BB, hx, oS, A0 (show i < 1000000 by omega)]
      rw [Hw N taken (by unfold Dz; omega), oS, Au (by simp [Dz]; omega), Hw N rest (by unfold Dz; omega), oS, d1, oS]
      simp only
      rw [Au d3, d2, Ma hN h20 hv hm k _ _ o (by omega) (by simp; omega)]
      have e1 : (fun x => IF p m e (taken ++ [rest[i]] ++ x)) = fun x => IF p m e (taken ++ rest[i] :: x) := by
       funext x; rw [List.append_assoc]; rfl
      unfold J9
      rw [hle, e1]
      simp only [oS]
      cases (Hm ys.length (rest.eraseIdx i)).find? fun x => IF p m e (taken ++ rest[i] :: x) with
      | some z => simp [MH]
      | none => exact ih (i + 1) (by omega) (by omega)
     ·rw [AQ (by simp only; omega), List.drop_eq_nil_of_le (by rw [LQ]; omega)]; rfl
   have := key N 0 (Nat.zero_le _) (by omega)
   rw [List.drop_zero] at this
   refine this.trans ?_
   congr 2
   unfold J9
   rw [hlen, Hm, List.find?_flatMap]
   congr 1
   funext q
   rw [List.find?_map]
   rfl
end
end Go.Lift
namespace Go.Lift
open Option renaming bind_some → oS
open Go
theorem PW {l : List Ac} (h : HH l = 0) : 1 ≤ l.length ∧ l.length ≤ 5 := by
 unfold HH at h
 split at h
 ·cases h
 ·omega
section
variable {p : Aa} {m : Ad} {l : List Ac}
theorem MO (hv : C4 p = 0) (hm : DJ p m) (hw : ∀ s, s ∈ l → Nr s) (hl : l.length ≤ 30) : EB 1000 p m l = some (Ry p m l) := by
 have hval := HQ hv hm
 unfold EB Ry
 rw [Ir 1000 p m (by omega) (by omega) (NS hm) hval, if_neg (fun q => q hval)]
 simp only [oS, bne_self_eq_false, Aw, Bu]
 rw [Rl l (by omega) hw]
 simp only [oS]
 by_cases hf : HH l = 0
 ·rw [hf, bne_self_eq_false, Aw, OS (by omega) (by omega) hv (by omega) (by omega) hm, if_neg (fun q => q rfl)]
  simp only [oS]
  have hlen := PW hf
  cases Gd p m
  ·rw [Bool.not_false, AR, AR, Hw 1000 l (by unfold Dz; omega)]; rfl
  ·rw [Bool.not_true, Aw]
   cases ho : (GC p m l).2
   ·rw [Bool.not_false, AR, Hw 1000 l (by unfold Dz; omega)]; rfl
   ·rw [Bool.not_true, Aw]
    simp only [Bool.and_self, if_true]
    have hs := Ma (N := 1000) (e := (GC p m l).1) (by omega) (by omega) hv hm 1000 l [] none (by omega) (by simp; omega)
    rw [show (fun x => IF p m (GC p m l).1 ([] ++ x)) = IF p m (GC p m l).1 from rfl] at hs
    unfold Fh
    rw [hs]
    simp only [oS]
    cases hq : (J9 l).find? (IF p m (GC p m l).1) with
    | none => rfl
    | some x =>
     have hx := (Jx.1 (List.mem_of_find?_eq_some hq)).length_eq
     cases x with
     | nil => simp at hx; omega
     | cons y ys => rfl
 ·rw [bne_iff_ne.2 hf, AR, if_pos hf]
theorem Iy (hv : C4 p = 0) (hm : DJ p m) (hw : ∀ s, s ∈ l → Nr s) (hl : l.length ≤ 30) : Ch 1000 p m l = some (HD p m l) := by
 have hval := HQ hv hm
 unfold Ch HD
 rw [Hr 1000 p m (by omega) (by omega) (NS hm), hval, if_neg (fun q => q rfl)]
 simp only [oS, bne_self_eq_false, Aw]
 rw [MO hv hm hw hl]; rfl
end
theorem NV {l : List Ac} (h : JY HU l) : ∀ s, s ∈ l → Nr s := by
 intro s hs
 obtain ⟨_, h2, h3, _⟩ := h s hs
 have h2 : (Lit.int .i64 s.fh).wf = true := h2
 have h3 : (Lit.int .i64 s.fi).wf = true := h3
 simp [Lit.wf, IntKind.min, IntKind.max, IntKind.signed, IntKind.bits] at h2 h3
 exact ⟨h2, h3⟩
theorem MF : CK 1000 = some true := by show _ = _; kernel_rfl
end Go.Lift
namespace Go.Lift
open IntKind renaming wrap → wI
open Option renaming bind_some → oS
open List renaming mem_of_getElem? → lM
open List renaming getElem?_eq_some_iff → lI
open Go
def Nh (l : List Ac) : Prop := (1 ≤ l.length ∧ l.length ≤ 5) ∧ (∀ s, s ∈ l → F7 s = true ∧ s.ff ≠ 4) ∧ l.Nodup
theorem JB {l : List Ac} {i : Nat} {s : Ac} : M9 l i s = false ↔ F7 s = true ∧ s.ff ≠ 4 ∧ ∀ x, x ∈ l.take i → s ≠ x := by
 unfold M9
 rw [Bool.or_eq_false_iff, Bool.or_eq_false_iff, beq_eq_false_iff_ne, List.any_eq_false]
 constructor
 ·rintro ⟨⟨h1, h2⟩, h3⟩
  exact ⟨by simpa using h1, h2, fun x hx e => h3 x hx ((OQ s x).2 e)⟩
 ·rintro ⟨h1, h2, h3⟩
  exact ⟨⟨by simp [h1], h2⟩, fun x hx e => h3 x hx ((OQ s x).1 e)⟩
theorem QR {l : List Ac} : HH l = 0 ↔ Nh l := by
 unfold HH Nh
 by_cases hl : l.length < 1 ∨ 5 < l.length
 ·rw [if_pos hl]
  constructor
  ·intro h; cases h
  ·rintro ⟨⟨h1, h2⟩, _⟩; omega
 rw [if_neg hl]
 have h1 : (CX (G7 l) 0 l).getD 0 = 0 ↔ (CX (G7 l) 0 l).isNone = true := by
  cases h : CX (G7 l) 0 l with
  | none => simp
  | some r =>
   obtain ⟨j, x, hx, hf⟩ := D8 h
   unfold G7 at hf
   split at hf
   ·cases hf; simp
   ·cases hf
 rw [h1, Ny]
 have h2 : (∀ j x, l[j]? = some x → G7 l (0 + j) x = none) ↔ ∀ j x, l[j]? = some x → M9 l j x = false := by
  constructor
  ·intro h j x hx
   have := h j x hx
   unfold G7 at this
   rw [Nat.zero_add] at this
   split at this
   ·cases this
   ·rename_i hb; simpa using hb
  ·intro h j x hx
   unfold G7
   rw [Nat.zero_add, if_neg (by rw [h j x hx]; simp)]
 rw [h2]
 constructor
 ·intro h
  refine ⟨by omega, fun s hs => ?_, ?_⟩
  ·obtain ⟨j, hj⟩ := List.mem_iff_getElem?.1 hs
   have := JB.1 (h j s hj)
   exact ⟨this.1, this.2.1⟩
  ·unfold List.Nodup
   rw [List.pairwise_iff_getElem]
   intro i j hi hj hij e
   have := (JB.1 (h j l[j] (by simp [hj]))).2.2 l[i] (List.mem_iff_getElem?.2 ⟨i, by rw [List.getElem?_take_of_lt hij]; simp [hi]⟩)
   exact this e.symm
 ·rintro ⟨_, h3, h4⟩ j x hx
  have hm := h3 x (lM hx)
  refine JB.2 ⟨hm.1, hm.2, fun y hy e => ?_⟩
  subst e
  obtain ⟨i, hi⟩ := List.mem_iff_getElem?.1 hy
  have hij : i < j := by
   have := (lI.1 hi).1
   simp at this; omega
  rw [List.getElem?_take_of_lt hij] at hi
  unfold List.Nodup at h4
  rw [List.pairwise_iff_getElem] at h4
  obtain ⟨a1, a2⟩ := lI.1 hi
  obtain ⟨b1, b2⟩ := lI.1 hx
  exact h4 i j a1 b1 hij (a2.trans b2.symm)
theorem PL {l : List Ac} : HH l ≠ 15 := by
 unfold HH
 split
 ·decide
 ·cases h : CX (G7 l) 0 l with
  | none => decide
  | some r =>
   obtain ⟨j, x, hx, hf⟩ := D8 h
   unfold G7 at hf
   split at hf
   ·cases hf; decide
   ·cases hf
theorem Po {l x : List Ac} (h : x.Perm l) : Nh l → Nh x := by
 rintro ⟨h1, h2, h3⟩
 exact ⟨by rw [h.length_eq]; exact h1, fun s hs => h2 s (h.mem_iff.1 hs), h.nodup_iff.2 h3⟩
def OP (p : Aa) (m : Ad) (l : List Ac) : Prop := Nh l ∧ Gd p m = true ∧ ∃ e, ∀ x, x.Perm l → GC p m x = (e, true)
theorem Nt {p : Aa} {m : Ad} {l : List Ac} (hv : DR p m = 0) : (HD p m l).1 = true ↔ OP p m l := by
 unfold HD Ry OP
 rw [if_neg (fun q => q hv), if_neg (fun q => q hv), ← QR]
 simp only [beq_iff_eq]
 by_cases hf : HH l = 0
 ·rw [if_neg (fun q => q hf)]
  by_cases hc : (Gd p m && (GC p m l).2) = true
  ·rw [if_pos hc]
   rw [Bool.and_eq_true] at hc
   cases hq : (J9 l).find? (IF p m (GC p m l).1) with
   | some x =>
    constructor
    ·intro h; cases h
    ·rintro ⟨_, _, e, he⟩
     have h1 := List.find?_some hq
     have h2 := he x (Jx.1 (List.mem_of_find?_eq_some hq))
     have h3 := he l (List.Perm.refl _)
     unfold IF at h1
     rw [h2, h3] at h1
     simp at h1
   | none =>
    refine ⟨fun _ => ⟨hf, hc.1, (GC p m l).1, fun x hx => ?_⟩, fun _ => rfl⟩
    have := List.find?_eq_none.1 hq x (Jx.2 hx)
    unfold IF at this
    simp only [Bool.not_eq_true, Bool.not_eq_false', Bool.and_eq_true, decide_eq_true_eq] at this
    exact Prod.ext this.2 this.1
  ·rw [if_neg hc]
   constructor
   ·intro h; cases h
   ·rintro ⟨_, hr, e, he⟩
    exact absurd (by rw [hr, he l (List.Perm.refl _)]; rfl) hc
 ·rw [if_pos hf]
  exact ⟨fun h => absurd h PL, fun h => absurd h.1 hf⟩
theorem Kt {p : Aa} {m : Ad} {l x : List Ac} (h : x.Perm l) : OP p m l → OP p m x := by
 rintro ⟨h1, h2, e, he⟩
 exact ⟨Po h h1, h2, e, fun y hy => he y (hy.trans h)⟩
theorem On {p : Aa} {m : Ad} {l x : List Ac} (hv : DR p m = 0) (h : x.Perm l) : HD p m x = HD p m l := by
 have h1 : (HD p m x).1 = (HD p m l).1 := by
  rw [Bool.eq_iff_iff, Nt hv, Nt hv]
  exact ⟨Kt h.symm, Kt h⟩
 have h2 : ∀ y, (HD p m y).2 = 0 := fun y => by unfold HD; rw [if_neg (fun q => q hv)]
 exact Prod.ext h1 ((h2 x).trans (h2 l).symm)
theorem NI {N : Nat} (l : List Ac) (hl : l.length ≤ 90) (j : List Ac → Option Bool) : ∀ (n i : Nat) (a : List Ac), i ≤ l.length → l.length - i < n → a.length ≤ i →
  Be N l j n (a, (i : Int)) = j (a ++ l.reverse.drop i)
 | 0, i, a, _, h, _ => by omega
 | n + 1, i, a, hi, h, ha => by
  rw [Be]
  by_cases hlt : i < l.length
  ·have hx : l.reverse[i]? = some (l[l.length - 1 - i]'(by omega)) := by
    rw [List.getElem?_reverse hlt]; simp [show l.length - 1 - i < l.length by omega]
   have hy : l[l.length - 1 - i]? = some (l[l.length - 1 - i]'(by omega)) := by simp [show l.length - 1 - i < l.length by omega]
   have e1 : wI .i64 ((l.length : Int) - 1) = ((l.length - 1 : Nat) : Int) := by rw [Cn (by omega) (by omega)]; omega
   have e2 : wI .i64 (((l.length - 1 : Nat) : Int) - (i : Int)) = ((l.length - 1 - i : Nat) : Int) := by rw [Cn (by omega) (by omega)]; omega
   rw [AN (by simp only; omega), Dg hx]
   simp only [e1, e2, BB, hy, oS, A0 (show i < 1000000 by omega)]
   rw [Au (by simp [Dz]; omega), NI l hl j n (i + 1) _ (by omega) (by omega) (by simp; omega), List.append_assoc]
   rfl
  ·rw [AQ (by simp only; omega), List.drop_eq_nil_of_le (by simp; omega), List.append_nil]
theorem JL (d : A9) (x : AZ) (l : List Ac) (wd : Dj d) (wx : Dm x) (wl : JY HU l) : BS 1000 d x l = some true := by
 obtain ⟨p, ok, e, h⟩ := QY d x wd wx
 unfold BS
 rw [e]
 simp only [oS, Bu, MF, Bool.not_true, Aw]
 cases ok
 ·rfl
 obtain ⟨hg, hp, m, e2, hi, ho, hv, hw⟩ := h rfl
 rw [Bool.not_true, Aw]
 by_cases h7 : (5 : Int) < (l.length : Int)
 ·rw [decide_eq_true h7]; rfl
 ·rw [decide_eq_false h7, Aw, e2]
  simp only [oS]
  rw [Iy hg.valid ho (NV wl) (by omega)]
  simp only [oS]
  have e3 := NI (N := 1000) l (by omega) (fun v11 => (Ch 1000 p m v11).bind fun v15 => AM ((HD p m l).1 == v15.1) (some ((HD p m l).2 == v15.2)) (some false)) 1000 0 [] (Nat.zero_le _) (by omega) (Nat.zero_le _)
  rw [List.drop_zero, List.nil_append] at e3
  refine Eq.trans e3 ?_
  rw [Iy hg.valid ho (fun s hs => NV wl s (List.mem_reverse.1 hs)) (by simp; omega), On hv (List.reverse_perm l)]
  simp only [oS, beq_self_eq_true, AR]
def gW : Nat → Nat → Int → Int
 | 0, _, A => A
 | c + 1, i, A => gW c (i + 1) (A * ((i + 1 : Nat) : Int))
def hW : List (List Ac) → Int → Int
 | [], A => A
 | w :: ws, A => hW ws (gW w.length 0 A)
end Go.Lift
