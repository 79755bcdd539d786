/- Lemmas for ReachRegionSaid, which YtfnobkfnohhmmaaGreatFinZ4 proves. -/
import Derived.Test.YtfnobkfnohhmmaaGreatDec
import Derived.KernelRfl
import Derived.Sort.AssemblyPlain
namespace Go.Lift
open IntKind renaming wrap → wI
open Option renaming bind_some → oS
open List renaming getElem?_eq_some_iff → lI
theorem A5 {α : Type} (xs : List α) (i : Nat) : A9 xs (i : Int) = xs[i]? := by
 unfold A9; simp
theorem CR {n : Int} (h0 : -9223372036854775808 ≤ n) (h1 : n ≤ 9223372036854775807) : wI .i64 n = n := by
 simp [wI, IntKind.signed, IntKind.bits]; omega
theorem AS {i : Nat} (h : i < 1000000) : wI .i64 ((i : Int) + 1) = ((i + 1 : Nat) : Int) := by
 rw [CR (by omega) (by omega)]; simp
@[simp] theorem AO {α : Type} {a b : Option α} : AV true a b = a := rfl
@[simp] theorem Au {α : Type} {a b : Option α} : AV false a b = b := rfl
theorem AC {α : Type} {p : Prop} [Decidable p] {a b : Option α} (h : p) : AV (decide p) a b = a := by simp [h]
theorem AB {α : Type} {p : Prop} [Decidable p] {a b : Option α} (h : ¬ p) : AV (decide p) a b = b := by simp [h]
def Xe (a b : Int) : Int := if a < b then -1 else if b < a then 1 else 0
def Eu : List Int → List Int → Int
 | [], [] => 0
 | [], _ :: _ => -1
 | _ :: _, [] => 1
 | a :: as1, b :: bs => if a < b then -1 else if b < a then 1 else Eu as1 bs
theorem UW (N : Nat) (a b : Int) : ES N a b = some (Xe a b) := by
 unfold ES Fl Xe
 by_cases h1 : a < b <;> by_cases h2 : b < a <;> simp [h1, h2]
theorem VW (N : Nat) (a b : Int) : DN N a b = some (Xe a b) := by
 unfold DN Eo Xe
 by_cases h1 : a < b <;> by_cases h2 : b < a <;> simp [h1, h2]
theorem CP {α : Type} {xs : List α} {i : Nat} {x : α} (h : xs[i]? = some x) : xs.drop i = x :: xs.drop (i + 1) := by
 obtain ⟨hi, rfl⟩ := lI.1 h
 exact List.drop_eq_getElem_cons hi
theorem Qr (N : Nat) (a b : List Int) (hb : a.length < 1000000) : ∀ (n i : Nat), i ≤ a.length → i ≤ b.length → a.length - i < n →
  Ch N a b (fun _ => AV (decide ((a.length : Int) < (b.length : Int))) (some (-1)) (some 0)) n (i : Int) = some (Eu (a.drop i) (b.drop i))
 | 0, i, _, _, h => by omega
 | n + 1, i, hi, hj, h => by
  unfold Ch
  by_cases h1 : i < a.length
  ·rw [AC (by omega), A5]
   have ha : a[i]? = some a[i] := by simp [h1]
   rw [ha, CP ha]
   simp only [oS]
   by_cases h2 : i < b.length
   ·rw [AB (by omega), A5]
    have hbb : b[i]? = some b[i] := by simp [h2]
    rw [hbb, CP hbb]
    simp only [oS, UW, Eu, Xe]
    rw [AS (by omega), Qr N a b hb n (i + 1) (by omega) (by omega) (by omega)]
    by_cases h3 : a[i] < b[i]
    ·simp [h3]
    ·by_cases h4 : b[i] < a[i]
     ·simp [h3, h4]
     ·simp [h3, h4]
   ·rw [AC (by omega), List.drop_eq_nil_of_le (by omega : b.length ≤ i)]
    simp [Eu]
  ·rw [AB (by omega), List.drop_eq_nil_of_le (by omega : a.length ≤ i)]
   by_cases h2 : a.length < b.length
   ·rw [AC (by omega)]
    have hbb : b[i]? = some b[i] := by simp [show i < b.length from by omega]
    rw [CP hbb]; simp [Eu]
   ·rw [AB (by omega), List.drop_eq_nil_of_le (by omega : b.length ≤ i)]
    simp [Eu]
theorem OI (N : Nat) (a b : List Int) (hb : a.length < 1000000) : ∀ (n i : Nat), i ≤ a.length → i ≤ b.length → a.length - i < n →
  Bu N a b (fun _ => AV (decide ((a.length : Int) < (b.length : Int))) (some (-1)) (some 0)) n (i : Int) = some (Eu (a.drop i) (b.drop i))
 | 0, i, _, _, h => by omega
 | n + 1, i, hi, hj, h => by
  unfold Bu
  by_cases h1 : i < a.length
  ·rw [AC (by omega), A5]
   have ha : a[i]? = some a[i] := by simp [h1]
   rw [ha, CP ha]
   simp only [oS]
   by_cases h2 : i < b.length
   ·rw [AB (by omega), A5]
    have hbb : b[i]? = some b[i] := by simp [h2]
    rw [hbb, CP hbb]
    simp only [oS, VW, Eu, Xe]
    rw [AS (by omega), OI N a b hb n (i + 1) (by omega) (by omega) (by omega)]
    by_cases h3 : a[i] < b[i]
    ·simp [h3]
    ·by_cases h4 : b[i] < a[i]
     ·simp [h3, h4]
     ·simp [h3, h4]
   ·rw [AC (by omega), List.drop_eq_nil_of_le (by omega : b.length ≤ i)]
    simp [Eu]
  ·rw [AB (by omega), List.drop_eq_nil_of_le (by omega : a.length ≤ i)]
   by_cases h2 : a.length < b.length
   ·rw [AC (by omega)]
    have hbb : b[i]? = some b[i] := by simp [show i < b.length from by omega]
    rw [CP hbb]; simp [Eu]
   ·rw [AB (by omega), List.drop_eq_nil_of_le (by omega : b.length ≤ i)]
    simp [Eu]
theorem Sb (N : Nat) (a b : List Int) (hb : a.length < 1000000) : ∀ (n i : Nat), i ≤ a.length → i ≤ b.length → a.length - i < n →
  Dd N a b (fun _ => AV (decide ((a.length : Int) < (b.length : Int))) (some (-1)) (AV (decide ((b.length : Int) < (a.length : Int))) (some 1) (some 0))) n (i : Int) = some (Eu (a.drop i) (b.drop i))
 | 0, i, _, _, h => by omega
 | n + 1, i, hi, hj, h => by
  unfold Dd
  simp only [Bb]
  by_cases h1 : i < a.length
  ·rw [AC (p := (i : Int) < (a.length : Int)) (by omega)]
   have ha : a[i]? = some a[i] := by simp [h1]
   rw [CP ha]
   by_cases h2 : i < b.length
   ·have hbb : b[i]? = some b[i] := by simp [h2]
    rw [show decide ((i : Int) < (b.length : Int)) = true from decide_eq_true (by omega), AO, A5, A5, ha, hbb, CP hbb]
    simp only [oS, Eu]
    rw [AS (by omega), Sb N a b hb n (i + 1) (by omega) (by omega) (by omega)]
    by_cases h3 : a[i] < b[i]
    ·simp [h3]
    ·by_cases h4 : b[i] < a[i]
     ·simp [h3, h4]
     ·simp [h3, h4]
   ·rw [show decide ((i : Int) < (b.length : Int)) = false from decide_eq_false (by omega), Au, AB (by omega), AC (by omega), List.drop_eq_nil_of_le (by omega : b.length ≤ i)]
    simp [Eu]
  ·rw [AB (p := (i : Int) < (a.length : Int)) (by omega), Au, List.drop_eq_nil_of_le (by omega : a.length ≤ i)]
   by_cases h2 : a.length < b.length
   ·rw [AC (by omega)]
    have hbb : b[i]? = some b[i] := by simp [show i < b.length from by omega]
    rw [CP hbb]; simp [Eu]
   ·rw [AB (by omega), AB (by omega), List.drop_eq_nil_of_le (by omega : b.length ≤ i)]
    simp [Eu]
theorem NO {N : Nat} {a b : List Int} (h : a.length < N) (hN : N ≤ 1000000) : CF N a b = some (Eu a b) := by
 have := Qr N a b (by omega) N 0 (by omega) (by omega) (by omega)
 simpa [CF] using this
theorem QG {N : Nat} {a b : List Int} (h : a.length < N) (hN : N ≤ 1000000) : Cc N a b = some (Eu a b) := by
 have := OI N a b (by omega) N 0 (by omega) (by omega) (by omega)
 simpa [Cc] using this
theorem Np {N : Nat} {a b : List Int} (h : a.length < N) (hN : N ≤ 1000000) : Dk N a b = some (Eu a b) := by
 have := Sb N a b (by omega) N 0 (by omega) (by omega) (by omega)
 simpa [Dk] using this
theorem OW : ∀ a : List Int, Eu a a = 0
 | [] => rfl
 | a :: as1 => by simp [Eu, OW as1]
theorem MO : ∀ a b : List Int, Eu a b = 0 → a = b
 | [], [], _ => rfl
 | [], _ :: _, h => by simp [Eu] at h
 | _ :: _, [], h => by simp [Eu] at h
 | a :: as1, b :: bs, h => by
  unfold Eu at h
  split at h
  ·omega
  ·split at h
   ·omega
   ·rw [MO as1 bs h, show a = b from by omega]
theorem IW : ∀ a b : List Int, Eu b a = - Eu a b
 | [], [] => rfl
 | [], _ :: _ => rfl
 | _ :: _, [] => rfl
 | a :: as1, b :: bs => by
  have := IW as1 bs
  unfold Eu
  by_cases h1 : a < b
  ·simp [h1, show ¬ b < a from by omega]
  ·by_cases h2 : b < a
   ·simp [h1, h2]
   ·simp [h1, h2, this]
theorem Sa : ∀ a b c : List Int, Eu a b ≤ 0 → Eu b c ≤ 0 → Eu a c ≤ 0
 | [], _, [], _, _ => by simp [Eu]
 | [], _, _ :: _, _, _ => by simp [Eu]
 | _ :: _, [], _, h, _ => by simp [Eu] at h
 | _ :: _, _ :: _, [], _, h => by simp [Eu] at h
 | a :: as1, b :: bs, c :: cs, h1, h2 => by
  have ih := Sa as1 bs cs
  unfold Eu at h1 h2 ⊢
  split at h1 <;> split at h2 <;> (try split at h1) <;> (try split at h2) <;> split <;> (try split) <;> omega
def Rc : List Int → Int
 | [] => 0
 | x :: xs => if x = 0 then Rc xs else x
theorem ZH (N : Nat) (a : List Int) (hb : a.length < 1000000) : ∀ (n i : Nat), i ≤ a.length → a.length - i < n →
  EI N a (fun _ => some 0) n (i : Int) = some (Rc (a.drop i))
 | 0, i, _, h => by omega
 | n + 1, i, hi, h => by
  unfold EI
  by_cases h1 : i < a.length
  ·have ha : a[i]? = some a[i] := by simp [h1]
   rw [AC (by omega), A5, ha, CP ha]
   simp only [oS, Rc]
   rw [AS (by omega), ZH N a hb n (i + 1) (by omega) (by omega)]
   by_cases h3 : a[i] = 0
   ·simp [h3]
   ·have : (a[i] != 0) = true := by simpa using h3
    simp [h3, this]
  ·rw [AB (by omega), List.drop_eq_nil_of_le (by omega : a.length ≤ i)]
   simp [Rc]
theorem WA {N : Nat} {a : List Int} (h : a.length < N) (hN : N ≤ 1000000) : GA N a = some (Rc a) := by
 have := ZH N a (by omega) N 0 (by omega) (by omega)
 simpa [GA] using this
theorem Yo (N : Nat) (a : List Int) (hb : a.length < 1000000) (hw : N8 KY a) : ∀ (n i : Nat), i ≤ a.length → a.length - i < n →
  CG N a (fun v => some v) n (a.take i, (i : Int)) = some a
 | 0, i, _, h => by omega
 | n + 1, i, hi, h => by
  unfold CG
  by_cases h1 : i < a.length
  ·have ha : a[i]? = some a[i] := by simp [h1]
   rw [AC (by simpa using h1)]
   simp only
   rw [A5, ha]
   have hr : wI .i64 a[i] = a[i] := by
    have := hw a[i] (List.getElem_mem h1)
    unfold KY at this
    have h2 : 0 ≤ a[i] ∧ a[i] ≤ 255 := by simpa [Lit.wf, IntKind.min, IntKind.max, IntKind.signed, IntKind.bits] using this
    exact CR (by omega) (by omega)
   simp only [oS, hr]
   have hlen : (a.take i).length + ([a[i]] : List Int).length ≤ Dy := by
    simp [Dy]; omega
   rw [show DP ((a.take i).length + ([a[i]] : List Int).length ≤ Dy) = some () from by unfold DP; rw [if_pos hlen]]
   simp only [oS]
   rw [AS (by omega), show a.take i ++ [a[i]] = a.take (i + 1) from by rw [List.take_add_one, ha]; rfl]
   exact Yo N a hb hw n (i + 1) (by omega) (by omega)
  ·rw [AB (by simpa using h1)]
   simp only
   rw [List.take_of_length_le (by omega)]
theorem My {N : Nat} {a : List Int} (h : a.length < N) (hN : N ≤ 1000000) (hw : N8 KY a) : C9 N a = some a := by
 have := Yo N a (by omega) hw N 0 (by omega) (by omega)
 simpa [C9] using this
def ZG (a : Ae) : Prop := a.fBase.length ≤ 8 ∧ a.fNext.length ≤ 8 ∧ a.fHeld.length ≤ 14
def Hl (a b : Ae) : Int := Rc [Eu a.fBase b.fBase, Eu a.fNext b.fNext, Eu a.fHeld b.fHeld]
theorem SY (a b : Ae) : Hl b a = - Hl a b := by
 unfold Hl
 rw [IW a.fBase b.fBase, IW a.fNext b.fNext, IW a.fHeld b.fHeld]
 simp only [Rc, Int.neg_eq_zero]
 split
 ·split
  ·split <;> simp_all
  ·rfl
 ·rfl
theorem O7 (a : Ae) : Hl a a = 0 := by unfold Hl; simp [OW, Rc]
def DX {α R : Type} (f : Nat → α → Option R) : Nat → List α → Option R
 | _, [] => none
 | i, x :: xs => match f i x with
  | some r => some r
  | none => DX f (i + 1) xs
theorem GT {α R : Type} (f : Nat → α → Option R) (i : Nat) (x : α) (xs : List α) : DX f i (x :: xs) = match f i x with
  | some r => some r
  | none => DX f (i + 1) xs := rfl
def BS {R : Type} (a : Option R) (b : Option R) : Option R := match a with
 | some r => some r
 | none => b
theorem Dr {α R : Type} (L : Nat → Int → Option R) (xs : List α) (j : Option R) (f : Nat → α → Option R)
  (hs : ∀ (n i : Nat) (x : α), xs[i]? = some x → L (n + 1) (i : Int) = BS (f i x) (L n ((i + 1 : Nat) : Int))) (he : ∀ n : Nat, L (n + 1) (xs.length : Int) = j) :
  ∀ n i : Nat, i ≤ xs.length → xs.length - i < n → L n (i : Int) = BS (DX f i (xs.drop i)) j
 | 0, i, _, h => by omega
 | n + 1, i, hi, h => by
  by_cases h1 : i < xs.length
  ·have hx : xs[i]? = some xs[i] := by simp [h1]
   rw [hs n i _ hx, CP hx, Dr L xs j f hs he n (i + 1) (by omega) (by omega)]
   rw [GT]
   cases f i xs[i] <;> rfl
  ·have : i = xs.length := by omega
   subst this
   rw [he n, List.drop_eq_nil_of_le (Nat.le_refl _)]
   rfl
theorem OQ (N : Nat) (k n : Int) : D2 N k n = some (decide (0 ≤ k) && decide (k < n)) := by
 unfold D2
 simp only [Bb]
 by_cases h : 0 ≤ k
 ·rw [AC h]; simp [h]
 ·rw [AB h]; simp [h]
theorem LW (N : Nat) (t : AI) : Ba N t = some (t.fKind == 3 || t.fKind == 4) := by
 unfold Ba
 simp only [Bb]
 cases h : t.fKind == 3 <;> simp
def sq (l : List (List Bool)) (n m : Int) : Bool := decide ((l.length : Int) = n) && l.all fun r => decide ((r.length : Int) = m)
theorem MZ {α : Type} (p : α → Bool) {R : Type} (r : Nat → R) : ∀ (i : Nat) (xs : List α), (DX (fun i x => if p x then none else some (r i)) i xs).isNone = xs.all p
 | i, [] => rfl
 | i, x :: xs => by
  unfold DX
  cases h : p x <;> simp [h, MZ p r (i + 1) xs]
theorem O3 (N : Nat) (l : List (List Bool)) (n m : Int) (h : n < (N : Int)) (hN : N ≤ 1000000) : Dt N l n m = some (sq l n m) := by
 unfold Dt sq
 by_cases h1 : (l.length : Int) = n
 ·subst h1
  simp only [bne_self_eq_false, Au, decide_true, Bool.true_and]
  have := Dr (Cp N l (l.length : Int) m (fun _ => some true)) l (some true) (fun _ r => if decide ((r.length : Int) = m) then none else some false)
   (fun n i x hx => by
    have hi := (lI.1 hx).1
    rw [Cp, AC (by omega), A5, hx]
    simp only [oS]
    rw [AS (by omega)]
    by_cases h2 : (x.length : Int) = m
    ·simp [h2, BS]
    ·have : ((x.length : Int) != m) = true := by simpa using h2
     simp [h2, this, BS])
   (fun n => by rw [Cp, AB (by omega)]) N 0 (by omega) (by omega)
  simp only [Int.ofNat_zero, List.drop_zero] at this
  rw [this]
  have h3 := MZ (fun r : List Bool => decide ((r.length : Int) = m)) (fun _ => false) 0 l
  cases hsc : DX (fun (_ : Nat) (r : List Bool) => if decide ((r.length : Int) = m) = true then none else some false) 0 l with
  | none => rw [hsc] at h3; rw [← h3]; rfl
  | some b =>
   rw [hsc] at h3
   rw [← h3]
   have : ∀ (i : Nat) (xs : List (List Bool)) b, DX (fun (_ : Nat) (r : List Bool) => if decide ((r.length : Int) = m) = true then none else some false) i xs = some b → b = false := by
    intro i xs
    induction xs generalizing i with
    | nil => intro b hb; cases hb
    | cons x xs ih =>
     intro b hb
     unfold DX at hb
     split at hb
     ·rename_i r hr; cases hb; split at hr <;> simp at hr; exact hr
     ·exact ih _ b hb
   rw [this 0 l b hsc]; rfl
 ·have : ((l.length : Int) != n) = true := by simpa using h1
  simp [this, h1]
theorem OL (N : Nat) (l : List (List Bool)) (n m : Int) (h : n < (N : Int)) (hN : N ≤ 1000000) : EZ N l n m = some (sq l n m) := by
 unfold EZ sq
 simp only [Bb]
 by_cases h1 : (l.length : Int) = n
 ·subst h1
  simp only [beq_self_eq_true, AO, decide_true, Bool.true_and]
  have := Dr (Bt N l (fun x => DO N x m) (fun _ => some (-1))) l (some (-1)) (fun i r => if decide ((r.length : Int) = m) then none else some (i : Int))
   (fun n i x hx => by
    have hi := (lI.1 hx).1
    rw [Bt, AC (by omega), A5, hx]
    simp only [oS, DO]
    rw [AS (by omega)]
    by_cases h2 : (x.length : Int) = m
    ·simp [h2, BS]
    ·have : ((x.length : Int) != m) = true := by simpa using h2
     simp [h2, this, BS])
   (fun n => by rw [Bt, AB (by omega)]) N 0 (by omega) (by omega)
  simp only [Int.ofNat_zero, List.drop_zero] at this
  unfold CU Dm
  rw [this]
  have h3 := MZ (fun r : List Bool => decide ((r.length : Int) = m)) (fun i : Nat => (i : Int)) 0 l
  cases hsc : DX (fun (i : Nat) (r : List Bool) => if decide ((r.length : Int) = m) = true then none else some (i : Int)) 0 l with
  | none => rw [hsc] at h3; rw [← h3]; rfl
  | some b =>
   rw [hsc] at h3
   rw [← h3]
   have : ∀ (i : Nat) (xs : List (List Bool)) b, DX (fun (i : Nat) (r : List Bool) => if decide ((r.length : Int) = m) = true then none else some (i : Int)) i xs = some b → 0 ≤ b := by
    intro i xs
    induction xs generalizing i with
    | nil => intro b hb; cases hb
    | cons x xs ih =>
     intro b hb
     rw [GT] at hb
     split at hb
     ·rename_i r hr
      cases hb
      split at hr
      ·cases hr
      ·cases hr; omega
     ·exact ih _ b hb
   have := this 0 l b hsc
   simp [BS, this]
 ·have : ((l.length : Int) == n) = false := by simpa using h1
  simp [this, h1]
open List renaming mem_of_getElem? → lM
open List renaming getD_eq_getElem?_getD → lD
def Ir (l : List (List Bool)) : Option Int := DX (fun i row => if row.getD i false then none else some 1) 0 l
theorem QF {row : List Bool} {i : Nat} (h : i < row.length) : A9 row (i : Int) = some (row.getD i false) := by
 rw [A5, lD]; simp [h]
theorem U6 (N : Nat) (t : AI) (h : t.fRewrite.length < N) (hN : N ≤ 1000000) (hsq : ∀ row, row ∈ t.fRewrite → row.length = t.fRewrite.length) (j : Option Int) :
  BY N t (fun _ => j) N 0 = BS (Ir t.fRewrite) j := by
 have := Dr (BY N t (fun _ => j)) t.fRewrite j (fun i row => if row.getD i false then none else some 1)
  (fun n i x hx => by
   have hi := (lI.1 hx).1
   have hl := hsq x (lM hx)
   rw [BY, AC (by omega), A5, hx]
   simp only [oS]
   rw [QF (by omega), AS (by omega)]
   simp only [oS]
   cases x.getD i false <;> rfl)
  (fun n => by rw [BY, AB (by omega)]) N 0 (by omega) (by omega)
 simpa [Ir] using this
theorem O9 (N : Nat) (t : AI) (h : t.fRewrite.length < N) (hN : N ≤ 1000000) (hsq : ∀ row, row ∈ t.fRewrite → row.length = t.fRewrite.length) (j : Option Int) :
  C2 N t (fun _ => j) N 0 = BS (Ir t.fRewrite) j := by
 have := Dr (C2 N t (fun _ => j)) t.fRewrite j (fun i row => if row.getD i false then none else some 1)
  (fun n i x hx => by
   have hi := (lI.1 hx).1
   have hl := hsq x (lM hx)
   rw [C2, AC (by omega), A5, hx]
   simp only [oS]
   rw [QF (by omega), AS (by omega)]
   simp only [oS]
   cases x.getD i false <;> rfl)
  (fun n => by rw [C2, AB (by omega)]) N 0 (by omega) (by omega)
 simpa [Ir] using this
theorem MN {l : List (List Bool)} {n m : Int} (h : sq l n m = true) : (l.length : Int) = n ∧ ∀ row, row ∈ l → (row.length : Int) = m := by
 unfold sq at h
 simp only [Bool.and_eq_true, decide_eq_true_eq, List.all_eq_true] at h
 exact h
def D5 (p : Ag) (t : AI) : Int :=
 if t.fKind < 1 ∨ 4 < t.fKind ∨ (t.fAware = true ∧ (t.fKind = 3 ∨ t.fKind = 4)) then 1
 else if t.fFrom < 0 ∨ (p.fVersions.length : Int) ≤ t.fFrom ∨ t.fTo < 0 ∨ (p.fVersions.length : Int) ≤ t.fTo then 4
 else
  let f := p.fVersions.getD t.fFrom.toNat 0
  let g := p.fVersions.getD t.fTo.toNat 0
  if sq t.fOK f g = false then 6
  else if t.fKind = 4 then (if sq t.fRewrite f f = false then 6 else (Ir t.fRewrite).getD 0)
  else if t.fRewrite.length = 0 then 0 else 6
theorem EG {α : Type} {xs : List α} {i : Int} {d : α} (h0 : 0 ≤ i) (h1 : i < (xs.length : Int)) : A9 xs i = some (xs.getD i.toNat d) := by
 obtain ⟨k, rfl⟩ := Int.eq_ofNat_of_zero_le h0
 rw [A5, lD, Int.toNat_natCast]
 simp [show k < xs.length from by omega]
theorem T3 {t : AI} (A B : Option Int) (hk : ¬ (t.fAware = true ∧ (t.fKind = 3 ∨ t.fKind = 4))) : AV t.fAware (AV (t.fKind == 3 || t.fKind == 4) A B) B = B := by
 cases ha : t.fAware
 ·rfl
 ·have : (t.fKind == 3 || t.fKind == 4) = false := by
   rw [Bool.or_eq_false_iff]
   constructor
   ·simp only [beq_eq_false_iff_ne]; intro h; exact hk ⟨ha, .inl h⟩
   ·simp only [beq_eq_false_iff_ne]; intro h; exact hk ⟨ha, .inr h⟩
  rw [this]; rfl
theorem JF {p : Ag} {i : Int} (hv : ∀ v, v ∈ p.fVersions → 1 ≤ v ∧ v ≤ 6) (h0 : 0 ≤ i) (h1 : i < (p.fVersions.length : Int)) : 1 ≤ p.fVersions.getD i.toNat 0 ∧ p.fVersions.getD i.toNat 0 ≤ 6 := by
 refine hv _ ?_
 rw [lD, List.getElem?_eq_getElem (by omega)]
 exact List.getElem_mem _
theorem SU (N : Nat) (p : Ag) (t : AI) (hN : N ≤ 1000000) (h6 : 7 ≤ N) (hv : ∀ v, v ∈ p.fVersions → 1 ≤ v ∧ v ≤ 6) : El N p t = some (D5 p t) := by
 unfold El D5
 simp only [Bb, LW, oS]
 by_cases k1 : t.fKind < 1
 ·simp [k1]
 by_cases k2 : 4 < t.fKind
 ·simp [k1, k2]
 rw [AB k1, AB k2]
 by_cases hk : t.fAware = true ∧ (t.fKind = 3 ∨ t.fKind = 4)
 ·obtain ⟨ha, k | k⟩ := hk <;> simp [ha, k]
 rw [Au, T3 _ _ hk, if_neg (fun h => h.elim k1 fun h => h.elim k2 hk)]
 by_cases f1 : t.fFrom < 0
 ·simp [f1]
 by_cases f2 : (p.fVersions.length : Int) ≤ t.fFrom
 ·simp [f1, f2]
 by_cases f3 : t.fTo < 0
 ·simp [f1, f2, f3]
 by_cases f4 : (p.fVersions.length : Int) ≤ t.fTo
 ·simp [f1, f2, f3, f4]
 rw [AB f1, AB f2, AB f3, if_neg (fun h => h.elim f1 fun h => h.elim f2 fun h => h.elim f3 f4)]
 have hf := JF hv (i := t.fFrom) (by omega) (by omega)
 rw [decide_eq_false f4, Au, EG (d := 0) (by omega : 0 ≤ t.fFrom) (by omega), EG (d := 0) (by omega : 0 ≤ t.fTo) (by omega)]
 simp only [oS]
 generalize p.fVersions.getD t.fFrom.toNat 0 = f at *
 generalize p.fVersions.getD t.fTo.toNat 0 = g at *
 rw [O3 N t.fOK f g (by omega) hN, O3 N t.fRewrite f f (by omega) hN]
 simp only [oS]
 cases hq : sq t.fOK f g
 ·rfl
 simp only [Bool.not_true, Au]
 by_cases k4 : t.fKind = 4
 ·have : (t.fKind != 4) = false := by simp [k4]
  rw [this, Au]
  simp only [k4, if_true]
  cases hr : sq t.fRewrite f f
  ·rfl
  ·have h7 := MN hr
   simp only [Bool.not_true, Au]
   rw [U6 N t (by omega) hN (fun row hm => by have := h7.2 row hm; omega)]
   cases Ir t.fRewrite <;> simp [BS]
 ·have : (t.fKind != 4) = true := by simpa using k4
  rw [this, AO]
  simp only [k4, if_false]
  by_cases hr : t.fRewrite.length = 0
  ·simp [hr]
  ·have : ((t.fRewrite.length : Int) != 0) = true := bne_iff_ne.2 (by omega)
   rw [this]; simp [hr]
theorem Vk (N : Nat) (k : Int) (a : Bool) : Gz N k a = some (k == 1 || (k == 2 || ((k == 3 || k == 4) && !a))) := by
 unfold Gz
 simp only [Bb]
 cases h1 : k == 1 <;> cases h2 : k == 2 <;> cases h3 : k == 3 <;> cases h4 : k == 4 <;> cases a <;> rfl
theorem M1 (N : Nat) (p : Ag) (t : AI) (hN : N ≤ 1000000) (h6 : 7 ≤ N) (hv : ∀ v, v ∈ p.fVersions → 1 ≤ v ∧ v ≤ 6) : FZ N p t = some (D5 p t) := by
 unfold FZ D5
 simp only [Bb, Vk, OQ, oS]
 by_cases hb : t.fKind < 1 ∨ 4 < t.fKind ∨ (t.fAware = true ∧ (t.fKind = 3 ∨ t.fKind = 4))
 ·have : (t.fKind == 1 || (t.fKind == 2 || ((t.fKind == 3 || t.fKind == 4) && !t.fAware))) = false := by
   rcases hb with h | h | ⟨ha, h | h⟩
   ·rw [beq_eq_false_iff_ne.2 (by omega : t.fKind ≠ 1), beq_eq_false_iff_ne.2 (by omega : t.fKind ≠ 2), beq_eq_false_iff_ne.2 (by omega : t.fKind ≠ 3), beq_eq_false_iff_ne.2 (by omega : t.fKind ≠ 4)]; rfl
   ·rw [beq_eq_false_iff_ne.2 (by omega : t.fKind ≠ 1), beq_eq_false_iff_ne.2 (by omega : t.fKind ≠ 2), beq_eq_false_iff_ne.2 (by omega : t.fKind ≠ 3), beq_eq_false_iff_ne.2 (by omega : t.fKind ≠ 4)]; rfl
   ·simp [ha, h]
   ·simp [ha, h]
  rw [this, if_pos hb]; rfl
 ·have : (t.fKind == 1 || (t.fKind == 2 || ((t.fKind == 3 || t.fKind == 4) && !t.fAware))) = true := by
   have hk : t.fKind = 1 ∨ t.fKind = 2 ∨ t.fKind = 3 ∨ t.fKind = 4 := by
    have h1 : ¬ t.fKind < 1 := fun h => hb (.inl h)
    have h2 : ¬ 4 < t.fKind := fun h => hb (.inr (.inl h))
    omega
   rcases hk with h | h | h | h
   ·simp [h]
   ·simp [h]
   ·cases ha : t.fAware
    ·simp [h]
    ·exact (hb (.inr (.inr ⟨ha, .inl h⟩))).elim
   ·cases ha : t.fAware
    ·simp [h]
    ·exact (hb (.inr (.inr ⟨ha, .inr h⟩))).elim
  rw [this, if_neg hb]
  simp only [Bool.not_true, Au]
  by_cases f1 : t.fFrom < 0
  ·simp [f1, show ¬ (0 ≤ t.fFrom) from by omega]
  by_cases f2 : (p.fVersions.length : Int) ≤ t.fFrom
  ·simp [f2, show ¬ (t.fFrom < (p.fVersions.length : Int)) from by omega]
  by_cases f3 : t.fTo < 0
  ·simp [f3, show 0 ≤ t.fFrom from by omega, show t.fFrom < (p.fVersions.length : Int) from by omega, show ¬ (0 ≤ t.fTo) from by omega]
  by_cases f4 : (p.fVersions.length : Int) ≤ t.fTo
  ·simp [f4, show 0 ≤ t.fFrom from by omega, show t.fFrom < (p.fVersions.length : Int) from by omega, show ¬ (t.fTo < (p.fVersions.length : Int)) from by omega]
  rw [if_neg (fun h => h.elim f1 fun h => h.elim f2 fun h => h.elim f3 f4)]
  have hf := JF hv (i := t.fFrom) (by omega) (by omega)
  have hg := JF hv (i := t.fTo) (by omega) (by omega)
  rw [decide_eq_true (by omega : 0 ≤ t.fFrom), decide_eq_true (by omega : t.fFrom < (p.fVersions.length : Int)), decide_eq_true (by omega : 0 ≤ t.fTo), decide_eq_true (by omega : t.fTo < (p.fVersions.length : Int)), EG (d := 0) (by omega : 0 ≤ t.fFrom) (by omega), EG (d := 0) (by omega : 0 ≤ t.fTo) (by omega)]
  simp only [Bool.and_self, Bool.not_true, Au, oS]
  generalize p.fVersions.getD t.fFrom.toNat 0 = f at *
  generalize p.fVersions.getD t.fTo.toNat 0 = g at *
  rw [OL N t.fOK f g (by omega) hN, OL N t.fRewrite f f (by omega) hN]
  simp only [oS]
  cases hq : sq t.fOK f g
  ·rfl
  simp only [Bool.not_true, Au]
  by_cases k4 : t.fKind = 4
  ·simp only [k4, beq_self_eq_true, AO, if_true]
   cases hr : sq t.fRewrite f f
   ·rfl
   ·have h7 := MN hr
    simp only [Bool.not_true, Au]
    rw [O9 N t (by omega) hN (fun row hm => by have := h7.2 row hm; omega)]
    cases Ir t.fRewrite <;> simp [BS]
  ·have : (t.fKind == 4) = false := beq_eq_false_iff_ne.2 k4
   rw [this, Au]
   simp only [k4, if_false, Bool.not_false, AO]
   by_cases hr : t.fRewrite.length = 0
   ·rw [O9 N t (by omega) hN (fun row hm => by rw [List.eq_nil_of_length_eq_zero hr] at hm; cases hm), List.eq_nil_of_length_eq_zero hr]
    simp [Ir, DX, BS]
   ·rw [decide_eq_true (by omega : 0 < (t.fRewrite.length : Int))]
    simp [hr]
def FN (p : Ag) (i : Nat) (v : Int) : Option Int :=
 if v < 1 ∨ 6 < v ∨ p.fNow.getD i 0 < 0 ∨ v ≤ p.fNow.getD i 0 ∨ p.fTarget.getD i 0 < 0 ∨ v ≤ p.fTarget.getD i 0 then some 7 else none
def Ld (p : Ag) (_ : Nat) (t : AI) : Option Int := if D5 p t = 0 then none else some (D5 p t)
def CK (p : Ag) : Int :=
 if 6 < p.fVersions.length ∨ 12 < p.fTables.length then 3
 else if p.fNow.length ≠ p.fVersions.length ∨ p.fTarget.length ≠ p.fVersions.length then 6
 else ((BS (DX (FN p) 0 p.fVersions) (DX (Ld p) 0 p.fTables)).getD 0)
theorem GY {α R : Type} {f : Nat → α → Option R} : ∀ {i : Nat} {xs : List α}, DX f i xs = none → ∀ j x, xs[j]? = some x → f (i + j) x = none
 | _, [], _, j, x, hx => by simp at hx
 | i, y :: ys, h, j, x, hx => by
  rw [GT] at h
  split at h
  ·cases h
  ·rename_i h0
   cases j with
   | zero => simp at hx; subst hx; exact h0
   | succ j =>
    have := GY h j x (by simpa using hx)
    rwa [show i + 1 + j = i + (j + 1) from by omega] at this
theorem NS {p : Ag} (h : DX (FN p) 0 p.fVersions = none) : ∀ v, v ∈ p.fVersions → 1 ≤ v ∧ v ≤ 6 := by
 intro v hv
 obtain ⟨i, hi⟩ := List.mem_iff_getElem?.1 hv
 have := GY h i v hi
 unfold FN at this
 split at this
 ·cases this
 ·rename_i hn
  constructor
  ·exact Int.not_lt.1 fun h => hn (.inl h)
  ·exact Int.not_lt.1 fun h => hn (.inr (.inl h))
theorem Di {α : Type} {xs : List α} {i : Nat} {d : α} (h : i < xs.length) : A9 xs (i : Int) = some (xs.getD i d) := by
 rw [A5, lD]; simp [h]
theorem RC (N : Nat) (p : Ag) (hN : N ≤ 1000000) (h1 : p.fVersions.length < N) (h2 : p.fNow.length = p.fVersions.length) (h3 : p.fTarget.length = p.fVersions.length) (j : Option Int) :
  Bq N p (fun _ => j) N 0 = BS (DX (FN p) 0 p.fVersions) j := by
 have := Dr (Bq N p (fun _ => j)) p.fVersions j (FN p)
  (fun n i x hx => by
   have hi := (lI.1 hx).1
   rw [Bq, AC (by omega), A5, hx]
   simp only [oS, Bb]
   rw [Di (d := 0) (by omega), Di (d := 0) (by omega), AS (by omega)]
   simp only [oS]
   unfold FN
   generalize p.fNow.getD i 0 = a
   generalize p.fTarget.getD i 0 = b
   by_cases k1 : x < 1 <;> by_cases k2 : 6 < x <;> by_cases k3 : a < 0 <;> by_cases k4 : x ≤ a <;> by_cases k5 : b < 0 <;> by_cases k6 : x ≤ b <;> simp [k1, k2, k3, k4, k5, k6, BS])
  (fun n => by rw [Bq, AB (by omega)]) N 0 (by omega) (by omega)
 simpa using this
theorem PK (N : Nat) (p : Ag) (hN : N ≤ 1000000) (h1 : p.fVersions.length < N) (h2 : p.fNow.length = p.fVersions.length) (h3 : p.fTarget.length = p.fVersions.length) (j : Option Int) :
  BT N p (fun _ => j) N 0 = BS (DX (FN p) 0 p.fVersions) j := by
 have := Dr (BT N p (fun _ => j)) p.fVersions j (FN p)
  (fun n i x hx => by
   have hi := (lI.1 hx).1
   rw [BT, AC (by omega), A5, hx]
   simp only [oS, Bb, OQ]
   rw [Di (d := 0) (by omega), Di (d := 0) (by omega), AS (by omega)]
   simp only [oS]
   unfold FN
   generalize p.fNow.getD i 0 = a
   generalize p.fTarget.getD i 0 = b
   have e1 : decide (0 ≤ a) = !decide (a < 0) := by rw [← decide_not]; congr 1; simp
   have e2 : decide (a < x) = !decide (x ≤ a) := by rw [← decide_not]; congr 1; simp
   have e3 : decide (0 ≤ b) = !decide (b < 0) := by rw [← decide_not]; congr 1; simp
   have e4 : decide (b < x) = !decide (x ≤ b) := by rw [← decide_not]; congr 1; simp
   rw [e1, e2, e3, e4]
   by_cases k1 : x < 1 <;> by_cases k2 : 6 < x <;> by_cases k3 : a < 0 <;> by_cases k4 : x ≤ a <;> by_cases k5 : b < 0 <;> by_cases k6 : x ≤ b <;> simp [k1, k2, k3, k4, k5, k6, BS])
  (fun n => by rw [BT, AB (by omega)]) N 0 (by omega) (by omega)
 simpa using this
theorem T6 (N : Nat) (p : Ag) (hN : N ≤ 1000000) (h6 : 7 ≤ N) (h1 : p.fTables.length < N) (hv : ∀ v, v ∈ p.fVersions → 1 ≤ v ∧ v ≤ 6) (j : Option Int) :
  Bk N p (fun _ => j) N 0 = BS (DX (Ld p) 0 p.fTables) j := by
 have := Dr (Bk N p (fun _ => j)) p.fTables j (Ld p)
  (fun n i x hx => by
   have hi := (lI.1 hx).1
   rw [Bk, AC (by omega), A5, hx]
   simp only [oS]
   rw [SU N p x hN h6 hv, AS (by omega)]
   simp only [oS]
   unfold Ld
   by_cases k : D5 p x = 0
   ·simp [k, BS]
   ·rw [bne_iff_ne.2 k, if_neg k]; rfl)
  (fun n => by rw [Bk, AB (by omega)]) N 0 (by omega) (by omega)
 simpa using this
theorem Rt (N : Nat) (p : Ag) (hN : N ≤ 1000000) (h6 : 7 ≤ N) (h1 : p.fTables.length < N) (hv : ∀ v, v ∈ p.fVersions → 1 ≤ v ∧ v ≤ 6) (j : Option Int) :
  BN N p (fun _ => j) N 0 = BS (DX (Ld p) 0 p.fTables) j := by
 have := Dr (BN N p (fun _ => j)) p.fTables j (Ld p)
  (fun n i x hx => by
   have hi := (lI.1 hx).1
   rw [BN, AC (by omega), A5, hx]
   simp only [oS]
   rw [M1 N p x hN h6 hv, AS (by omega)]
   simp only [oS]
   unfold Ld
   by_cases k : D5 p x = 0
   ·simp [k, BS]
   ·rw [bne_iff_ne.2 k, if_neg k]; rfl)
  (fun n => by rw [BN, AB (by omega)]) N 0 (by omega) (by omega)
 simpa using this
theorem M2 (N : Nat) (p : Ag) (hN : N ≤ 1000000) (h : 20 ≤ N) : Ct N p = some (CK p) := by
 unfold Ct CK
 simp only [Bb]
 by_cases k1 : 6 < p.fVersions.length
 ·rw [AC (by omega)]; simp [k1]
 rw [AB (by omega)]
 by_cases k2 : 12 < p.fTables.length
 ·rw [decide_eq_true (by omega : (12 : Int) < (p.fTables.length : Int))]; simp [k2]
 rw [decide_eq_false (by omega : ¬ (12 : Int) < (p.fTables.length : Int)), Au, if_neg (by omega)]
 by_cases k3 : p.fNow.length = p.fVersions.length
 ·by_cases k4 : p.fTarget.length = p.fVersions.length
  ·rw [k3, k4]
   simp only [bne_self_eq_false, Au, ne_eq, not_true_eq_false, or_self, if_false]
   rw [RC N p hN (by omega) k3 k4]
   cases hs : DX (FN p) 0 p.fVersions with
   | some r => rfl
   | none =>
    simp only [BS]
    rw [T6 N p hN (by omega) (by omega) (NS hs)]
    cases DX (Ld p) 0 p.fTables <;> rfl
  ·have : ((p.fTarget.length : Int) != (p.fVersions.length : Int)) = true := bne_iff_ne.2 (by omega)
   rw [this, k3]; simp [k4]
 ·have : ((p.fNow.length : Int) != (p.fVersions.length : Int)) = true := bne_iff_ne.2 (by omega)
  rw [this]; simp [k3]
theorem Lp (N : Nat) (p : Ag) (hN : N ≤ 1000000) (h : 20 ≤ N) : Dq N p = some (CK p) := by
 unfold Dq CK
 simp only [Bb]
 by_cases k1 : 6 < p.fVersions.length
 ·rw [AC (by omega)]; simp [k1]
 rw [AB (by omega)]
 by_cases k2 : 12 < p.fTables.length
 ·rw [decide_eq_true (by omega : (12 : Int) < (p.fTables.length : Int))]; simp [k2]
 rw [decide_eq_false (by omega : ¬ (12 : Int) < (p.fTables.length : Int)), Au, if_neg (by omega)]
 by_cases k3 : p.fNow.length = p.fVersions.length
 ·by_cases k4 : p.fTarget.length = p.fVersions.length
  ·rw [k3, k4]
   simp only [bne_self_eq_false, Au, ne_eq, not_true_eq_false, or_self, if_false]
   rw [PK N p hN (by omega) k3 k4]
   cases hs : DX (FN p) 0 p.fVersions with
   | some r => rfl
   | none =>
    simp only [BS]
    rw [Rt N p hN (by omega) (by omega) (NS hs)]
    cases DX (Ld p) 0 p.fTables <;> rfl
  ·have : ((p.fTarget.length : Int) != (p.fVersions.length : Int)) = true := bne_iff_ne.2 (by omega)
   rw [this, k3]; simp [k4]
 ·have : ((p.fNow.length : Int) != (p.fVersions.length : Int)) = true := bne_iff_ne.2 (by omega)
  rw [this]; simp [k3]
theorem Ig {n : Int} (h : KY n) : 0 ≤ n ∧ n ≤ 255 := by
 unfold KY at h
 simpa [Lit.wf, IntKind.min, IntKind.max, IntKind.signed, IntKind.bits] using h
theorem Oq : ∀ k : Fin 256, De .u8 0 (k.val : Int) = 0 := by decide +kernel
theorem Ok : ∀ k : Fin 256, De .u8 (k.val : Int) 0 = (k.val : Int) := by decide +kernel
theorem Tc {n : Int} (h : KY n) : De .u8 0 n = 0 := by
 have := Ig h
 obtain ⟨k, rfl⟩ := Int.eq_ofNat_of_zero_le this.1
 exact Oq ⟨k, by omega⟩
theorem Ug {n : Int} (h : KY n) : De .u8 n 0 = n := by
 have := Ig h
 obtain ⟨k, rfl⟩ := Int.eq_ofNat_of_zero_le this.1
 exact Ok ⟨k, by omega⟩
theorem FI {α R : Type} {f : Nat → α → Option R} : ∀ {i : Nat} {xs : List α} {r : R}, DX f i xs = some r → ∃ j x, xs[j]? = some x ∧ f (i + j) x = some r
 | _, [], _, h => by cases h
 | i, y :: ys, r, h => by
  rw [GT] at h
  split at h
  ·rename_i r' h0
   cases h
   exact ⟨0, y, rfl, h0⟩
  ·obtain ⟨j, x, h1, h2⟩ := FI h
   exact ⟨j + 1, x, by simpa using h1, by rwa [show i + (j + 1) = i + 1 + j from by omega]⟩
structure Bl (p : Ag) : Prop where
 nv : p.fVersions.length ≤ 6
 nt : p.fTables.length ≤ 12
 now : p.fNow.length = p.fVersions.length
 tgt : p.fTarget.length = p.fVersions.length
 ver : ∀ v, v ∈ p.fVersions → 1 ≤ v ∧ v ≤ 6
 tab : ∀ t, t ∈ p.fTables → D5 p t = 0
theorem Ri (l : List (List Bool)) : (Ir l).getD 0 = 0 ∨ (Ir l).getD 0 = 1 := by
 cases h : Ir l with
 | none => exact .inl rfl
 | some r =>
  obtain ⟨j, x, _, h⟩ := FI h
  split at h
  ·cases h
  ·cases h; exact .inr rfl
theorem P2 (p : Ag) (t : AI) : D5 p t = 0 ∨ D5 p t = 1 ∨ D5 p t = 4 ∨ D5 p t = 6 := by
 unfold D5
 split
 ·exact .inr (.inl rfl)
 split
 ·exact .inr (.inr (.inl rfl))
 simp only
 split
 ·exact .inr (.inr (.inr rfl))
 split
 ·split
  ·exact .inr (.inr (.inr rfl))
  ·rcases Ri t.fRewrite with h | h
   ·exact .inl h
   ·exact .inr (.inl h)
 ·split
  ·exact .inl rfl
  ·exact .inr (.inr (.inr rfl))
theorem H1 (p : Ag) : (CK p = 0 ∧ Bl p) ∨ (CK p = 1 ∨ CK p = 3 ∨ CK p = 4 ∨ CK p = 6 ∨ CK p = 7) := by
 unfold CK
 split
 ·simp
 rename_i k1
 split
 ·simp
 rename_i k2
 cases hs : DX (FN p) 0 p.fVersions with
 | some r =>
  obtain ⟨j, x, _, h⟩ := FI hs
  unfold FN at h
  split at h
  ·cases h; simp [BS]
  ·cases h
 | none =>
  cases ht : DX (Ld p) 0 p.fTables with
  | some r =>
   obtain ⟨j, t, _, h⟩ := FI ht
   unfold Ld at h
   split at h
   ·cases h
   ·rename_i hne
    cases h
    simp only [BS, Option.getD_some]
    right
    rcases P2 p t with h | h | h | h
    ·exact (hne h).elim
    ·exact .inl h
    ·exact .inr (.inr (.inl h))
    ·exact .inr (.inr (.inr (.inl h)))
  | none =>
   left
   refine ⟨rfl, by omega, by omega, by omega, by omega, NS hs, fun t hm => ?_⟩
   obtain ⟨j, hj⟩ := List.mem_iff_getElem?.1 hm
   have := GY ht j t hj
   unfold Ld at this
   split at this
   ·assumption
   ·cases this
def Gy (m : Ae) (s : Nat) : Int :=
 if 0 ≤ m.fNext.getD s 0 then Oa .u8 (Co .u8 1 (m.fBase.getD s 0)) (Co .u8 1 (m.fNext.getD s 0)) else Co .u8 1 (m.fBase.getD s 0)
def KM (m : Ae) (i : Nat) (v : Int) : Option Int :=
 if m.fBase.getD i 0 < 0 ∨ v ≤ m.fBase.getD i 0 ∨ m.fNext.getD i 0 < -1 ∨ v ≤ m.fNext.getD i 0 then some 7
 else if m.fBase.getD i 0 = m.fNext.getD i 0 then some 1 else none
def Cd (t : AI) : Bool := t.fKind == 3 || t.fKind == 4
def VF (p : Ag) (t : AI) : Int := wI .u8 (Co .u8 1 (p.fVersions.getD t.fFrom.toNat 0) - 1)
def II (p : Ag) (m : Ae) (i : Nat) (t : AI) : Option Int :=
 if Cd t = true then (if De .u8 (Gy m t.fFrom.toNat) (m.fHeld.getD i 0) ≠ 0 ∨ De .u8 (m.fHeld.getD i 0) (VF p t) ≠ 0 then some 1 else none)
 else if m.fHeld.getD i 0 ≠ 0 then some 1 else none
def F5 (p : Ag) (m : Ae) : Int :=
 if CK p ≠ 0 then CK p
 else if m.fBase.length ≠ p.fVersions.length ∨ m.fNext.length ≠ p.fVersions.length ∨ m.fHeld.length ≠ p.fTables.length then 6
 else (BS (DX (KM m) 0 p.fVersions) (DX (II p m) 0 p.fTables)).getD 0
theorem If {p : Ag} {t : AI} (h : D5 p t = 0) : 0 ≤ t.fFrom ∧ t.fFrom < (p.fVersions.length : Int) ∧ 0 ≤ t.fTo ∧ t.fTo < (p.fVersions.length : Int) := by
 unfold D5 at h
 split at h
 ·cases h
 ·split at h
  ·cases h
  ·omega
theorem KZ (N : Nat) (m : Ae) (s : Int) (h0 : 0 ≤ s) (h1 : s < (m.fBase.length : Int)) (h2 : s < (m.fNext.length : Int)) (hb : 0 ≤ m.fBase.getD s.toNat 0) : EO N m s = some (Gy m s.toNat) := by
 unfold EO Gy
 rw [EG (d := 0) h0 h1, EG (d := 0) h0 h2]
 simp only [oS, Bb]
 rw [show DP (0 ≤ m.fBase.getD s.toNat 0) = some () from by unfold DP; rw [if_pos hb]]
 simp only [oS]
 by_cases h : 0 ≤ m.fNext.getD s.toNat 0
 ·rw [AC h, if_pos h, show DP (0 ≤ m.fNext.getD s.toNat 0) = some () from by unfold DP; rw [if_pos h]]; rfl
 ·rw [AB h, if_neg h]
theorem Jo (N : Nat) (m : Ae) (s : Int) (h0 : 0 ≤ s) (h1 : s < (m.fBase.length : Int)) (h2 : s < (m.fNext.length : Int)) (hb : 0 ≤ m.fBase.getD s.toNat 0) : BR N m s = some (Gy m s.toNat) := by
 unfold BR Gy
 rw [EG (d := 0) h0 h1, EG (d := 0) h0 h2]
 simp only [oS, Bb]
 rw [show DP (0 ≤ m.fBase.getD s.toNat 0) = some () from by unfold DP; rw [if_pos hb]]
 simp only [oS]
 by_cases h : 0 ≤ m.fNext.getD s.toNat 0
 ·rw [AC h, if_pos h, show DP (0 ≤ m.fNext.getD s.toNat 0) = some () from by unfold DP; rw [if_pos h]]; rfl
 ·rw [AB h, if_neg h]
theorem PD (N : Nat) (p : Ag) (m : Ae) (hN : N ≤ 1000000) (h1 : p.fVersions.length < N) (h2 : m.fBase.length = p.fVersions.length) (h3 : m.fNext.length = p.fVersions.length) (j : Option Int) :
  DY N p m (fun _ => j) N 0 = BS (DX (KM m) 0 p.fVersions) j := by
 have := Dr (DY N p m (fun _ => j)) p.fVersions j (KM m)
  (fun n i x hx => by
   have hi := (lI.1 hx).1
   rw [DY, AC (by omega), A5, hx]
   simp only [oS, Bb]
   rw [Di (d := 0) (by omega), Di (d := 0) (by omega), AS (by omega)]
   simp only [oS]
   unfold KM
   generalize m.fBase.getD i 0 = a
   generalize m.fNext.getD i 0 = b
   by_cases k7 : a = b
   ·subst k7
    by_cases k3 : a < 0 <;> by_cases k4 : x ≤ a <;> by_cases k5 : a < -1 <;> simp [k3, k4, k5, BS]
   ·have k8 : (a == b) = false := beq_eq_false_iff_ne.2 k7
    by_cases k3 : a < 0 <;> by_cases k4 : x ≤ a <;> by_cases k5 : b < -1 <;> by_cases k6 : x ≤ b <;> simp [k3, k4, k5, k6, k7, k8, BS])
  (fun n => by rw [DY, AB (by omega)]) N 0 (by omega) (by omega)
 simpa using this
theorem P3 (N : Nat) (p : Ag) (m : Ae) (hN : N ≤ 1000000) (h1 : p.fVersions.length < N) (h2 : m.fBase.length = p.fVersions.length) (h3 : m.fNext.length = p.fVersions.length) (j : Option Int) :
  Ca N p m (fun _ => j) N 0 = BS (DX (KM m) 0 p.fVersions) j := by
 have := Dr (Ca N p m (fun _ => j)) p.fVersions j (KM m)
  (fun n i x hx => by
   have hi := (lI.1 hx).1
   rw [Ca, AC (by omega), show A9 p.fVersions (i : Int) = some x from by rw [A5, hx]]
   simp only [oS, Bb]
   rw [Di (d := 0) (by omega), Di (d := 0) (by omega), AS (by omega)]
   simp only [oS]
   unfold KM
   generalize m.fBase.getD i 0 = a
   generalize m.fNext.getD i 0 = b
   by_cases k7 : a = b
   ·subst k7
    by_cases k3 : a < 0 <;> by_cases k4 : x ≤ a <;> by_cases k5 : a < -1 <;> simp [k3, k4, k5, BS]
   ·have k8 : (a == b) = false := beq_eq_false_iff_ne.2 k7
    by_cases k3 : a < 0 <;> by_cases k4 : x ≤ a <;> by_cases k5 : b < -1 <;> by_cases k6 : x ≤ b <;> simp [k3, k4, k5, k6, k7, k8, BS])
  (fun n => by rw [Ca, AB (by omega)]) N 0 (by omega) (by omega)
 simpa using this
structure MixServ (p : Ag) (m : Ae) : Prop where
 base : m.fBase.length = p.fVersions.length
 next : m.fNext.length = p.fVersions.length
 held : m.fHeld.length = p.fTables.length
 b0 : ∀ i, i < p.fVersions.length → 0 ≤ m.fBase.getD i 0 ∧ m.fBase.getD i 0 < p.fVersions.getD i 0
 n0 : ∀ i, i < p.fVersions.length → -1 ≤ m.fNext.getD i 0 ∧ m.fNext.getD i 0 < p.fVersions.getD i 0
 ne : ∀ i, i < p.fVersions.length → m.fBase.getD i 0 ≠ m.fNext.getD i 0
theorem PO {p : Ag} {m : Ae} (h2 : m.fBase.length = p.fVersions.length) (h3 : m.fNext.length = p.fVersions.length) (h4 : m.fHeld.length = p.fTables.length) (h : DX (KM m) 0 p.fVersions = none) : MixServ p m := by
 have key : ∀ i, i < p.fVersions.length → ¬ (m.fBase.getD i 0 < 0 ∨ p.fVersions.getD i 0 ≤ m.fBase.getD i 0 ∨ m.fNext.getD i 0 < -1 ∨ p.fVersions.getD i 0 ≤ m.fNext.getD i 0) ∧ ¬ m.fBase.getD i 0 = m.fNext.getD i 0 := by
  intro i hi
  have hx : p.fVersions[i]? = some (p.fVersions.getD i 0) := by rw [lD]; simp [hi]
  have := GY h i _ hx
  rw [Nat.zero_add] at this
  unfold KM at this
  split at this
  ·cases this
  ·split at this
   ·cases this
   ·rename_i k1 k2; exact ⟨k1, k2⟩
 exact ⟨h2, h3, h4, fun i hi => by have := (key i hi).1; omega, fun i hi => by have := (key i hi).1; omega, fun i hi => (key i hi).2⟩
theorem P6 {m : Ae} (hw : N8 KY m.fHeld) {i : Nat} (h : i < m.fHeld.length) : KY (m.fHeld.getD i 0) := by
 refine hw _ ?_
 rw [lD, List.getElem?_eq_getElem h]
 exact List.getElem_mem _
theorem IP (N : Nat) (t : AI) : Fg N t = some (Cd t) := by
 unfold Fg Cd
 simp only [Bb]
 cases h : t.fKind == 3 <;> simp
theorem Gv (N : Nat) (t : AI) : Ba N t = some (Cd t) := LW N t
theorem Rh (N : Nat) (p : Ag) (m : Ae) (hN : N ≤ 1000000) (h1 : p.fTables.length < N) (hp : Bl p) (hm : MixServ p m) (hw : N8 KY m.fHeld) (j : Option Int) :
  DF N p m (fun _ => j) N 0 = BS (DX (II p m) 0 p.fTables) j := by
 have := Dr (DF N p m (fun _ => j)) p.fTables j (II p m)
  (fun n i x hx => by
   have hi := (lI.1 hx).1
   have hin := If (hp.tab x (lM hx))
   have hheld := P6 hw (show i < m.fHeld.length from by rw [hm.held]; exact hi)
   have hv := JF hp.ver hin.1 hin.2.1
   rw [DF, AC (by omega), A5, hx]
   simp only [oS, Bb, IP]
   rw [KZ N m x.fFrom hin.1 (by rw [hm.base]; exact hin.2.1) (by rw [hm.next]; exact hin.2.1) (hm.b0 _ (by omega)).1, EG (d := 0) hin.1 hin.2.1, Di (d := 0) (show i < m.fHeld.length from by rw [hm.held]; exact hi), AS (by omega)]
   simp only [oS]
   rw [show DP (0 ≤ p.fVersions.getD x.fFrom.toNat 0) = some () from by unfold DP; rw [if_pos (by omega)]]
   simp only [oS]
   unfold II VF
   rw [Tc hheld, Ug hheld]
   generalize De .u8 (Gy m x.fFrom.toNat) (m.fHeld.getD i 0) = A
   generalize De .u8 (m.fHeld.getD i 0) (wI .u8 (Co .u8 1 (p.fVersions.getD x.fFrom.toNat 0) - 1)) = B
   generalize m.fHeld.getD i 0 = H
   cases Cd x
   ·simp only [Au, bne_self_eq_false]
    by_cases k : H = 0
    ·simp [k, BS]
    ·have : (H != 0) = true := bne_iff_ne.2 k
     simp [k, this, BS]
   ·simp only [AO]
    by_cases k : A = 0
    ·by_cases k2 : B = 0
     ·simp [k, k2, BS]
     ·have : (B != 0) = true := bne_iff_ne.2 k2
      simp [k, k2, this, BS]
    ·have : (A != 0) = true := bne_iff_ne.2 k
     simp [k, this, BS])
  (fun n => by rw [DF, AB (by omega)]) N 0 (by omega) (by omega)
 simpa using this
theorem RN (N : Nat) (p : Ag) (m : Ae) (hN : N ≤ 1000000) (h1 : p.fTables.length < N) (hp : Bl p) (hm : MixServ p m) (j : Option Int) :
  BU N p m (fun _ => j) N 0 = BS (DX (II p m) 0 p.fTables) j := by
 have := Dr (BU N p m (fun _ => j)) p.fTables j (II p m)
  (fun n i x hx => by
   have hi := (lI.1 hx).1
   have hin := If (hp.tab x (lM hx))
   have hv := JF hp.ver hin.1 hin.2.1
   rw [BU, AC (by omega), A5, hx]
   simp only [oS, Bb, Gv]
   rw [Jo N m x.fFrom hin.1 (by rw [hm.base]; exact hin.2.1) (by rw [hm.next]; exact hin.2.1) (hm.b0 _ (by omega)).1, EG (d := 0) hin.1 hin.2.1, Di (d := 0) (show i < m.fHeld.length from by rw [hm.held]; exact hi), AS (by omega)]
   simp only [oS]
   rw [show DP (0 ≤ p.fVersions.getD x.fFrom.toNat 0) = some () from by unfold DP; rw [if_pos (by omega)]]
   simp only [oS]
   unfold II VF
   generalize De .u8 (Gy m x.fFrom.toNat) (m.fHeld.getD i 0) = A
   generalize De .u8 (m.fHeld.getD i 0) (wI .u8 (Co .u8 1 (p.fVersions.getD x.fFrom.toNat 0) - 1)) = B
   generalize m.fHeld.getD i 0 = H
   cases Cd x
   ·simp only [Bool.not_false, AO, Au]
    by_cases k : H = 0
    ·simp [k, BS]
    ·have : (H != 0) = true := bne_iff_ne.2 k
     simp [k, this, BS]
   ·simp only [Bool.not_true, Au, AO]
    by_cases k : A = 0
    ·by_cases k2 : B = 0
     ·simp [k, k2, BS]
     ·have : (B != 0) = true := bne_iff_ne.2 k2
      simp [k, k2, this, BS]
    ·have : (A != 0) = true := bne_iff_ne.2 k
     by_cases k2 : B = 0
     ·simp [k, k2, this, BS]
     ·have h5 : (B != 0) = true := bne_iff_ne.2 k2
      simp [k, h5, BS])
  (fun n => by rw [BU, AB (by omega)]) N 0 (by omega) (by omega)
 simpa using this
theorem Jc (N : Nat) (p : Ag) (m : Ae) (hN : N ≤ 1000000) (h : 20 ≤ N) (hw : N8 KY m.fHeld) : E7 N p m = some (F5 p m) := by
 unfold E7 F5
 rw [Lp N p hN h]
 simp only [oS, Bb]
 by_cases k0 : CK p = 0
 ·have hp : Bl p := by
   rcases H1 p with h | h
   ·exact h.2
   ·omega
  have hnv := hp.nv
  have hnt := hp.nt
  rw [k0]
  simp only [bne_self_eq_false, Au, ne_eq, not_true_eq_false, if_false]
  by_cases k1 : m.fBase.length = p.fVersions.length
  ·by_cases k2 : m.fNext.length = p.fVersions.length
   ·by_cases k3 : m.fHeld.length = p.fTables.length
    ·rw [k1, k2, k3]
     simp only [bne_self_eq_false, Au, not_true_eq_false, or_self, if_false]
     rw [PD N p m hN (by omega) k1 k2]
     cases hs : DX (KM m) 0 p.fVersions with
     | some r => rfl
     | none =>
      simp only [BS]
      rw [Rh N p m hN (by omega) hp (PO k1 k2 k3 hs) hw]
      cases DX (II p m) 0 p.fTables <;> rfl
    ·have : ((m.fHeld.length : Int) != (p.fTables.length : Int)) = true := bne_iff_ne.2 (by omega)
     rw [this, k1, k2]; simp [k3]
   ·have : ((m.fNext.length : Int) != (p.fVersions.length : Int)) = true := bne_iff_ne.2 (by omega)
    rw [this, k1]; simp [k2]
  ·have : ((m.fBase.length : Int) != (p.fVersions.length : Int)) = true := bne_iff_ne.2 (by omega)
   rw [this]; simp [k1]
 ·rw [bne_iff_ne.2 k0]; simp [k0]
theorem PI (N : Nat) (p : Ag) (m : Ae) (hN : N ≤ 1000000) (h : 20 ≤ N) : Em N p m = some (F5 p m) := by
 unfold Em F5
 rw [M2 N p hN h]
 simp only [oS, Bb]
 by_cases k0 : CK p = 0
 ·have hp : Bl p := by
   rcases H1 p with h | h
   ·exact h.2
   ·omega
  have hnv := hp.nv
  have hnt := hp.nt
  rw [k0]
  simp only [bne_self_eq_false, Au, ne_eq, not_true_eq_false, if_false]
  by_cases k1 : m.fBase.length = p.fVersions.length
  ·by_cases k2 : m.fNext.length = p.fVersions.length
   ·by_cases k3 : m.fHeld.length = p.fTables.length
    ·rw [k1, k2, k3]
     simp only [bne_self_eq_false, Au, not_true_eq_false, or_self, if_false]
     rw [P3 N p m hN (by omega) k1 k2]
     cases hs : DX (KM m) 0 p.fVersions with
     | some r => rfl
     | none =>
      simp only [BS]
      rw [RN N p m hN (by omega) hp (PO k1 k2 k3 hs)]
      cases DX (II p m) 0 p.fTables <;> rfl
    ·have : ((m.fHeld.length : Int) != (p.fTables.length : Int)) = true := bne_iff_ne.2 (by omega)
     rw [this, k1, k2]; simp [k3]
   ·have : ((m.fNext.length : Int) != (p.fVersions.length : Int)) = true := bne_iff_ne.2 (by omega)
    rw [this, k1]; simp [k2]
  ·have : ((m.fBase.length : Int) != (p.fVersions.length : Int)) = true := bne_iff_ne.2 (by omega)
   rw [this]; simp [k1]
 ·rw [bne_iff_ne.2 k0]; simp [k0]
@[simp] theorem A6 {α β : Type} (k : α) (f : α → β) : Bb k f = f k := rfl
@[simp] theorem TY {p : Prop} [Decidable p] (h : p) : DP p = some () := by unfold DP; rw [if_pos h]
theorem AA {β : Type} {p : Prop} [Decidable p] (h : p) (f : Unit → Option β) : (DP p).bind f = f () := by rw [TY h]; rfl
theorem Vi {α : Type} (b : Bool) (x y : Option α) : AV b x y = if b = true then x else y := by cases b <;> rfl
def CQ {α β : Type} (g : Nat → α → List β) : Nat → List α → List β
 | _, [] => []
 | i, x :: xs => g i x ++ CQ g (i + 1) xs
def HV {α A : Type} (f : Nat → α → A → A) : Nat → List α → A → A
 | _, [], a => a
 | i, x :: xs, a => HV f (i + 1) xs (f i x a)
theorem LG {α β : Type} (g : Nat → α → List β) : ∀ (i : Nat) (xs ys : List α), CQ g i (xs ++ ys) = CQ g i xs ++ CQ g (i + xs.length) ys
 | i, [], ys => by simp [CQ]
 | i, x :: xs, ys => by
  rw [List.cons_append, CQ, CQ, LG g (i + 1) xs ys, List.append_assoc, List.length_cons, Nat.add_assoc, Nat.add_comm 1]
theorem Hs {α β : Type} {g : Nat → α → List β} {y : β} : ∀ {i : Nat} {xs : List α}, y ∈ CQ g i xs ↔ ∃ j x, xs[j]? = some x ∧ y ∈ g (i + j) x
 | _, [] => by simp [CQ]
 | i, x :: xs => by
  rw [CQ, List.mem_append, Hs]
  constructor
  ·rintro (h | ⟨j, z, hz, h⟩)
   ·exact ⟨0, x, rfl, h⟩
   ·exact ⟨j + 1, z, by simpa using hz, by rwa [show i + (j + 1) = i + 1 + j from by omega]⟩
  ·rintro ⟨j, z, hz, h⟩
   cases j with
   | zero => simp at hz; subst hz; exact .inl h
   | succ j => exact .inr ⟨j, z, by simpa using hz, by rwa [show i + 1 + j = i + (j + 1) from by omega]⟩
theorem FG {α β : Type} {g : Nat → α → List β} {c : Nat} : ∀ {i : Nat} {xs : List α}, (∀ j x, xs[j]? = some x → (g (i + j) x).length ≤ c) → (CQ g i xs).length ≤ c * xs.length
 | _, [], _ => by simp [CQ]
 | i, x :: xs, h => by
  have h1 := h 0 x rfl
  have h2 := FG (g := g) (c := c) (i := i + 1) (xs := xs) fun j y hy => by
   have := h (j + 1) y (by simpa using hy)
   rwa [show i + (j + 1) = i + 1 + j from by omega] at this
  rw [CQ, List.length_append, List.length_cons, Nat.mul_add]
  simp only [Nat.add_zero] at h1
  omega
theorem H6 {α A S R : Type} (L : Nat → S → Option R) (mk : A → Int → S) (xs : List α) (j : A → Option R) (f : Nat → α → A → A) (I : Nat → A → Prop)
  (hs : ∀ (n i : Nat) (x : α) (a : A), xs[i]? = some x → I i a → L (n + 1) (mk a (i : Int)) = L n (mk (f i x a) ((i + 1 : Nat) : Int)) ∧ I (i + 1) (f i x a))
  (he : ∀ (n : Nat) (a : A), I xs.length a → L (n + 1) (mk a (xs.length : Int)) = j a) :
  ∀ (n i : Nat) (a : A), i ≤ xs.length → xs.length - i < n → I i a → L n (mk a (i : Int)) = j (HV f i (xs.drop i) a) ∧ I xs.length (HV f i (xs.drop i) a)
 | 0, i, _, _, h, _ => by omega
 | n + 1, i, a, hi, h, ha => by
  by_cases h1 : i < xs.length
  ·have hx : xs[i]? = some xs[i] := by simp [h1]
   obtain ⟨e1, e2⟩ := hs n i _ a hx ha
   rw [e1, CP hx, HV]
   exact H6 L mk xs j f I hs he n (i + 1) _ (by omega) (by omega) e2
  ·have : i = xs.length := by omega
   subst this
   rw [List.drop_eq_nil_of_le (Nat.le_refl _), HV]
   exact ⟨he n a ha, ha⟩
theorem NN {α β : Type} (g : Nat → α → List β) : ∀ (i : Nat) (xs : List α) (acc : List β), HV (fun i x a => a ++ g i x) i xs acc = acc ++ CQ g i xs
 | _, [], acc => by simp [HV, CQ]
 | i, x :: xs, acc => by rw [HV, NN g (i + 1) xs, CQ, List.append_assoc]
theorem Ge {α β S R : Type} (L : Nat → S → Option R) (mk : List β → Int → S) (xs : List α) (j : List β → Option R) (g : Nat → α → List β) (c B : Nat)
  (hg : ∀ i x, xs[i]? = some x → (g i x).length ≤ c)
  (hs : ∀ (n i : Nat) (x : α) (a : List β), xs[i]? = some x → a.length + (g i x).length ≤ B → L (n + 1) (mk a (i : Int)) = L n (mk (a ++ g i x) ((i + 1 : Nat) : Int)))
  (he : ∀ (n : Nat) (a : List β), L (n + 1) (mk a (xs.length : Int)) = j a) (n : Nat) (a : List β) (hn : xs.length < n) (ha : a.length + c * xs.length ≤ B) :
  L n (mk a 0) = j (a ++ CQ g 0 xs) := by
 have := H6 L mk xs j (fun i x a => a ++ g i x) (fun i b => i ≤ xs.length ∧ b.length ≤ a.length + c * i)
  (fun n i x b hx hb => by
   have h1 := hg i x hx
   have hi := (lI.1 hx).1
   have h2 : c * (i + 1) ≤ c * xs.length := Nat.mul_le_mul_left c hi
   have h3 : c * (i + 1) = c * i + c := Nat.mul_succ c i
   refine ⟨hs n i x b hx (by have := hb.2; omega), hi, ?_⟩
   rw [List.length_append]
   have := hb.2
   omega)
  (fun n b _ => he n b) n 0 a (Nat.zero_le _) (by omega) ⟨Nat.zero_le _, by omega⟩
 have h2 := this.1
 rw [List.drop_zero, NN] at h2
 exact h2
def DJ (s : Int) (v : Nat) : Bool := s.toNat.testBit v
def HX (m : Ae) (s v : Nat) : Bool := decide (m.fBase.getD s 0 = (v : Int)) || decide (m.fNext.getD s 0 = (v : Int))
theorem U9 : ∀ (s : Fin 256) (v : Fin 8), FB .u8 (Ei .u8 (s.val : Int) (v.val : Int)) 1 = if DJ (s.val : Int) v.val then 1 else 0 := by decide +kernel
theorem PS {s : Int} {v : Nat} (h0 : 0 ≤ s) (h1 : s ≤ 255) (hv : v < 8) : FB .u8 (Ei .u8 s (v : Int)) 1 = if DJ s v then 1 else 0 := by
 obtain ⟨k, rfl⟩ := Int.eq_ofNat_of_zero_le h0
 exact U9 ⟨k, by omega⟩ ⟨v, hv⟩
theorem QT {s : Int} {v : Nat} (h0 : 0 ≤ s) (h1 : s ≤ 255) (hv : v < 8) : (FB .u8 (Ei .u8 s (v : Int)) 1 == 0) = !DJ s v := by
 rw [PS h0 h1 hv]; cases DJ s v <;> rfl
theorem Qd {s : Int} {v : Nat} (h0 : 0 ≤ s) (h1 : s ≤ 255) (hv : v < 8) : (FB .u8 (Ei .u8 s (v : Int)) 1 == 1) = DJ s v := by
 rw [PS h0 h1 hv]; cases DJ s v <;> rfl
theorem Jg {s : Int} {v : Nat} (h1 : s ≤ 255) (hv : 8 ≤ v) : DJ s v = false := by
 unfold DJ
 apply Nat.testBit_lt_two_pow
 have : (2 : Nat) ^ 8 ≤ 2 ^ v := Nat.pow_le_pow_right (by omega) hv
 omega
theorem Jf : ∀ (b : Fin 8) (v : Fin 8), DJ (Co .u8 1 (b.val : Int)) v.val = decide (b.val = v.val) ∧ 0 ≤ Co .u8 1 (b.val : Int) ∧ Co .u8 1 (b.val : Int) ≤ 255 := by decide +kernel
theorem VL : ∀ (b n : Fin 8) (v : Fin 8), DJ (Oa .u8 (Co .u8 1 (b.val : Int)) (Co .u8 1 (n.val : Int))) v.val = (decide (b.val = v.val) || decide (n.val = v.val))
  ∧ 0 ≤ Oa .u8 (Co .u8 1 (b.val : Int)) (Co .u8 1 (n.val : Int)) ∧ Oa .u8 (Co .u8 1 (b.val : Int)) (Co .u8 1 (n.val : Int)) ≤ 255 := by decide +kernel
theorem Td {m : Ae} {s : Nat} (hb0 : 0 ≤ m.fBase.getD s 0) (hb1 : m.fBase.getD s 0 < 8) (hn1 : m.fNext.getD s 0 < 8) :
  (∀ v, DJ (Gy m s) v = HX m s v) ∧ 0 ≤ Gy m s ∧ Gy m s ≤ 255 := by
 unfold Gy HX
 obtain ⟨b, hb⟩ := Int.eq_ofNat_of_zero_le hb0
 rw [hb] at hb1 ⊢
 by_cases h : 0 ≤ m.fNext.getD s 0
 ·obtain ⟨n, hn⟩ := Int.eq_ofNat_of_zero_le h
  rw [hn] at hn1 ⊢
  rw [if_pos (by omega)]
  have h1 := VL ⟨b, by omega⟩ ⟨n, by omega⟩
  refine ⟨fun v => ?_, (h1 0).2⟩
  by_cases hv : v < 8
  ·rw [(h1 ⟨v, hv⟩).1]
   simp only [Int.ofNat_inj]
  ·rw [Jg (h1 0).2.2 (by omega)]
   simp; omega
 ·rw [if_neg h]
  have h1 := Jf ⟨b, by omega⟩
  refine ⟨fun v => ?_, (h1 0).2⟩
  have h3 : decide (m.fNext.getD s 0 = (v : Int)) = false := decide_eq_false (by omega)
  rw [h3, Bool.or_false]
  by_cases hv : v < 8
  ·rw [(h1 ⟨v, hv⟩).1]
   simp only [Int.ofNat_inj]
  ·rw [Jg (h1 0).2.2 (by omega)]
   simp; omega
theorem TC {a : Nat} (h : a < 256) : (BitVec.ofInt 8 (a : Int)).toNat = a := by
 simp; omega
theorem N4 {a b : Int} (ha : 0 ≤ a ∧ a ≤ 255) (hb : 0 ≤ b ∧ b ≤ 255) : De .u8 a b = 0 ↔ ∀ v, DJ a v = true → DJ b v = true := by
 obtain ⟨a, rfl⟩ := Int.eq_ofNat_of_zero_le ha.1
 obtain ⟨b, rfl⟩ := Int.eq_ofNat_of_zero_le hb.1
 have hA := TC (a := a) (by omega)
 have hB := TC (a := b) (by omega)
 unfold De DJ
 simp only [IntKind.bits, Int.toNat_natCast]
 have hx : ∀ x : BitVec 8, wI .u8 (x.toNat : Int) = (x.toNat : Int) := by
  intro x
  have := x.isLt
  simp [wI, IntKind.signed, IntKind.bits]
  omega
 rw [hx]
 constructor
 ·intro h v hv
  have h0 : (BitVec.ofInt 8 (a : Int) &&& ~~~BitVec.ofInt 8 (b : Int)) = (BitVec.ofNat 8 0) := by
   apply BitVec.eq_of_toNat_eq
   simp only [BitVec.toNat_ofNat, Nat.zero_mod]
   exact Int.ofNat_inj.1 h
  by_cases hv8 : v < 8
  ·have h1 : (BitVec.ofInt 8 (a : Int) &&& ~~~BitVec.ofInt 8 (b : Int)).getLsbD v = false := by rw [h0]; simp
   rw [BitVec.getLsbD_and, BitVec.getLsbD_not] at h1
   have e1 : (BitVec.ofInt 8 (a : Int)).getLsbD v = a.testBit v := by unfold BitVec.getLsbD; rw [hA]
   have e2 : (BitVec.ofInt 8 (b : Int)).getLsbD v = b.testBit v := by unfold BitVec.getLsbD; rw [hB]
   rw [e1, e2, hv] at h1
   simpa [hv8] using h1
  ·have := Jg (s := (a : Int)) (v := v) (by omega) (by omega)
   unfold DJ at this
   rw [Int.toNat_natCast, hv] at this
   cases this
 ·intro h
  have h0 : (BitVec.ofInt 8 (a : Int) &&& ~~~BitVec.ofInt 8 (b : Int)) = (BitVec.ofNat 8 0) := by
   apply BitVec.eq_of_getLsbD_eq
   intro i hi
   rw [BitVec.getLsbD_and, BitVec.getLsbD_not]
   have e1 : (BitVec.ofInt 8 (a : Int)).getLsbD i = a.testBit i := by unfold BitVec.getLsbD; rw [hA]
   have e2 : (BitVec.ofInt 8 (b : Int)).getLsbD i = b.testBit i := by unfold BitVec.getLsbD; rw [hB]
   rw [e1, e2]
   have := h i
   cases h3 : a.testBit i
   ·simp
   ·rw [this h3]; simp
  have h2 : ∀ x : BitVec 8, x = (BitVec.ofNat 8 0) → (x.toNat : Int) = 0 := fun x hx => by rw [hx]; rfl
  exact h2 _ h0
theorem Vl : ∀ n : Fin 9, (∀ v : Fin 8, DJ (wI .u8 (Co .u8 1 (n.val : Int) - 1)) v.val = decide (v.val < n.val)) ∧ 0 ≤ wI .u8 (Co .u8 1 (n.val : Int) - 1) ∧ wI .u8 (Co .u8 1 (n.val : Int) - 1) ≤ 255 := by decide +kernel
theorem UL {n : Int} (h0 : 0 ≤ n) (h1 : n ≤ 8) : (∀ v, DJ (wI .u8 (Co .u8 1 n - 1)) v = decide ((v : Int) < n)) ∧ 0 ≤ wI .u8 (Co .u8 1 n - 1) ∧ wI .u8 (Co .u8 1 n - 1) ≤ 255 := by
 obtain ⟨n, rfl⟩ := Int.eq_ofNat_of_zero_le h0
 have h := Vl ⟨n, by omega⟩
 refine ⟨fun v => ?_, h.2⟩
 by_cases hv : v < 8
 ·rw [h.1 ⟨v, hv⟩]; simp
 ·rw [Jg h.2.2 (by omega)]
  symm; apply decide_eq_false; omega
structure Bv (p : Ag) (m : Ae) : Prop extends MixServ p m where
 range : ∀ i, i < p.fTables.length → 0 ≤ m.fHeld.getD i 0 ∧ m.fHeld.getD i 0 ≤ 255
 low : ∀ i t, p.fTables[i]? = some t → Cd t = true → ∀ v, HX m t.fFrom.toNat v = true → DJ (m.fHeld.getD i 0) v = true
 high : ∀ i t, p.fTables[i]? = some t → Cd t = true → ∀ v, DJ (m.fHeld.getD i 0) v = true → (v : Int) < p.fVersions.getD t.fFrom.toNat 0
 none : ∀ i t, p.fTables[i]? = some t → Cd t = false → m.fHeld.getD i 0 = 0
theorem HP {p : Ag} (hp : Bl p) {i : Nat} (hi : i < p.fVersions.length) : 1 ≤ p.fVersions.getD i 0 ∧ p.fVersions.getD i 0 ≤ 6 := by
 have := JF (i := (i : Int)) hp.ver (by omega) (by omega)
 simpa using this
theorem HC {p : Ag} {m : Ae} (hp : Bl p) (hm : MixServ p m) {s : Nat} (hs : s < p.fVersions.length) :
  (∀ v, DJ (Gy m s) v = HX m s v) ∧ 0 ≤ Gy m s ∧ Gy m s ≤ 255 := by
 have h1 := hm.b0 s hs
 have h2 := hm.n0 s hs
 have h3 := HP hp hs
 exact Td h1.1 (by omega) (by omega)
theorem Q5 {p : Ag} {m : Ae} (hp : Bl p) (hm : MixServ p m) {i : Nat} {t : AI} (ht : p.fTables[i]? = some t) (hr : 0 ≤ m.fHeld.getD i 0 ∧ m.fHeld.getD i 0 ≤ 255) :
  II p m i t = none ↔ ((Cd t = true → (∀ v, HX m t.fFrom.toNat v = true → DJ (m.fHeld.getD i 0) v = true) ∧ (∀ v, DJ (m.fHeld.getD i 0) v = true → (v : Int) < p.fVersions.getD t.fFrom.toNat 0)) ∧ (Cd t = false → m.fHeld.getD i 0 = 0)) := by
 have hin := If (hp.tab t (lM ht))
 have hrun := HC hp hm (s := t.fFrom.toNat) (by omega)
 have hver := HP hp (i := t.fFrom.toNat) (by omega)
 have hall := UL (n := p.fVersions.getD t.fFrom.toNat 0) (by omega) (by omega)
 unfold II VF
 have e1 := N4 hrun.2 hr
 have e2 := N4 hr hall.2
 cases hst : Cd t
 ·simp
 ·simp only [if_true, true_implies, Bool.true_eq_false, false_implies, and_true, ite_eq_right_iff, reduceCtorEq, imp_false, not_or, Decidable.not_not]
  rw [e1, e2]
  simp only [hrun.1, hall.1, decide_eq_true_eq]
theorem La {p : Ag} {m : Ae} (hw : N8 KY m.fHeld) (h : F5 p m = 0) : Bl p ∧ Bv p m := by
 unfold F5 at h
 split at h
 ·rename_i k; exact (k h).elim
 ·rename_i k0
  have hp : Bl p := by
   rcases H1 p with h | h
   ·exact h.2
   ·omega
  split at h
  ·cases h
  ·rename_i k1
   have b1 : m.fBase.length = p.fVersions.length := Decidable.not_not.1 fun h => k1 (.inl h)
   have b2 : m.fNext.length = p.fVersions.length := Decidable.not_not.1 fun h => k1 (.inr (.inl h))
   have b3 : m.fHeld.length = p.fTables.length := Decidable.not_not.1 fun h => k1 (.inr (.inr h))
   cases hs : DX (KM m) 0 p.fVersions with
   | some r =>
    obtain ⟨j, x, _, he⟩ := FI hs
    rw [hs] at h
    unfold KM at he
    simp only [BS, Option.getD_some] at h
    split at he
    ·cases he; cases h
    ·split at he
     ·cases he; cases h
     ·cases he
   | none =>
    have hm := PO b1 b2 b3 hs
    rw [hs] at h
    simp only [BS] at h
    cases ht : DX (II p m) 0 p.fTables with
    | some r =>
     obtain ⟨j, x, _, he⟩ := FI ht
     rw [ht] at h
     simp only [Option.getD_some] at h
     subst h
     unfold II at he
     split at he
     ·split at he <;> cases he
     ·split at he <;> cases he
    | none =>
     have hr : ∀ i, i < p.fTables.length → 0 ≤ m.fHeld.getD i 0 ∧ m.fHeld.getD i 0 ≤ 255 := fun i hi => Ig (P6 hw (by omega))
     have key : ∀ i t, p.fTables[i]? = some t → _ := fun i t hi => (Q5 hp hm hi (hr i (lI.1 hi).1)).1 (by have := GY ht i t hi; rwa [Nat.zero_add] at this)
     exact ⟨hp, hm, hr, fun i t hi hst => ((key i t hi).1 hst).1, fun i t hi hst => ((key i t hi).1 hst).2, fun i t hi hst => (key i t hi).2 hst⟩
theorem E2 {α R : Type} {f : Nat → α → Option R} : ∀ {i : Nat} {xs : List α}, (∀ j x, xs[j]? = some x → f (i + j) x = none) → DX f i xs = none
 | _, [], _ => rfl
 | i, y :: ys, h => by
  rw [GT, show f i y = none from h 0 y rfl]
  exact E2 fun j x hx => by
   have := h (j + 1) x (by simpa using hx)
   rwa [show i + (j + 1) = i + 1 + j from by omega] at this
theorem Pw {p : Ag} (hp : Bl p) (hr : ∀ i, i < p.fVersions.length → 0 ≤ p.fNow.getD i 0 ∧ p.fNow.getD i 0 < p.fVersions.getD i 0 ∧ 0 ≤ p.fTarget.getD i 0 ∧ p.fTarget.getD i 0 < p.fVersions.getD i 0) : CK p = 0 := by
 have := hp.nv
 have := hp.nt
 have := hp.now
 have := hp.tgt
 unfold CK
 rw [if_neg (by omega), if_neg (by omega)]
 have h1 : DX (FN p) 0 p.fVersions = none := E2 fun j x hx => by
  have hj := (lI.1 hx).1
  have h1 := hr j hj
  have h2 := HP hp hj
  have e : p.fVersions.getD j 0 = x := by rw [lD, hx]; rfl
  rw [e] at h1 h2
  unfold FN
  rw [Nat.zero_add, if_neg (by omega)]
 have h2 : DX (Ld p) 0 p.fTables = none := E2 fun j x hx => by
  unfold Ld
  rw [if_pos (hp.tab x (lM hx))]
 rw [h1, h2]; rfl
theorem Dj {p : Ag} (h : CK p = 0) : Bl p ∧ ∀ i, i < p.fVersions.length → 0 ≤ p.fNow.getD i 0 ∧ p.fNow.getD i 0 < p.fVersions.getD i 0 ∧ 0 ≤ p.fTarget.getD i 0 ∧ p.fTarget.getD i 0 < p.fVersions.getD i 0 := by
 have hp : Bl p := by
  rcases H1 p with h | h
  ·exact h.2
  ·omega
 refine ⟨hp, fun i hi => ?_⟩
 have h1 := hp.nv
 have h2 := hp.nt
 have h3 := hp.now
 have h4 := hp.tgt
 unfold CK at h
 rw [if_neg (by omega), if_neg (by omega)] at h
 cases hs : DX (FN p) 0 p.fVersions with
 | some r =>
  obtain ⟨j, x, _, he⟩ := FI hs
  rw [hs] at h
  unfold FN at he
  split at he
  ·cases he; cases h
  ·cases he
 | none =>
  have hx : p.fVersions[i]? = some (p.fVersions.getD i 0) := by rw [lD]; simp [hi]
  have := GY hs i _ hx
  rw [Nat.zero_add] at this
  unfold FN at this
  split at this
  ·cases this
  ·rename_i hn; omega
theorem JK {p : Ag} {m : Ae} (hv : CK p = 0) (hm : Bv p m) : F5 p m = 0 := by
 obtain ⟨hp, _⟩ := Dj hv
 unfold F5
 rw [hv, if_neg (by simp), if_neg (by have := hm.base; have := hm.next; have := hm.held; omega)]
 have h1 : DX (KM m) 0 p.fVersions = none := E2 fun j x hx => by
  have hj := (lI.1 hx).1
  have e : p.fVersions.getD j 0 = x := by rw [lD, hx]; rfl
  have h1 := hm.b0 j hj
  have h2 := hm.n0 j hj
  have h3 := hm.ne j hj
  rw [e] at h1 h2
  unfold KM
  rw [Nat.zero_add, if_neg (by omega), if_neg h3]
 have h2 : DX (II p m) 0 p.fTables = none := E2 fun j x hx => by
  have hj := (lI.1 hx).1
  rw [Nat.zero_add]
  exact (Q5 hp hm.toMixServ hx (hm.range j hj)).2 ⟨fun hst => ⟨hm.low j x hx hst, hm.high j x hx hst⟩, fun hst => hm.none j x hx hst⟩
 rw [h1, h2]; rfl
def MY {α : Type} (g : Nat → α → Bool) : Nat → List α → Bool
 | _, [] => false
 | i, x :: xs => g i x || MY g (i + 1) xs
theorem KV {α β : Type} (g : Nat → α → List β) (h : Nat → α → Bool) : ∀ (i : Nat) (xs : List α) (a : List β) (b : Bool),
  HV (fun i x (s : List β × Bool) => (s.1 ++ g i x, s.2 || h i x)) i xs (a, b) = (a ++ CQ g i xs, b || MY h i xs)
 | _, [], a, b => by simp [HV, CQ, MY]
 | i, x :: xs, a, b => by rw [HV, KV g h, CQ, MY, List.append_assoc, Bool.or_assoc]
def gC (i u : Nat) (m : Ae) (t : AI) (v : Nat) (ok : Bool) : List Av :=
 if HX m t.fTo.toNat v && (!ok && !t.fAware) then [⟨(i : Int), (u : Int), (v : Int)⟩] else []
def hC (m : Ae) (t : AI) (v : Nat) (ok : Bool) : Bool := HX m t.fTo.toNat v && ok
def Jp (i : Nat) (m : Ae) (t : AI) (u : Nat) (row : List Bool) : List Av :=
 CQ (gC i u m t) 0 row ++ if t.fAware && !MY (hC m t) 0 row then [⟨(i : Int), (u : Int), -1⟩] else []
def SH (m : Ae) (i : Nat) (t : AI) (u : Nat) : Bool := if Cd t then DJ (m.fHeld.getD i 0) u else HX m t.fFrom.toNat u
def Jd (m : Ae) (i : Nat) (t : AI) : List Av := CQ (fun u row => if SH m i t u then Jp i m t u row else []) 0 t.fOK
def GP (p : Ag) (m : Ae) : List Av := CQ (Jd m) 0 p.fTables
structure M6 (p : Ag) (t : AI) : Prop where
 kind : 1 ≤ t.fKind ∧ t.fKind ≤ 4
 aware : t.fAware = true → Cd t = false
 from0 : 0 ≤ t.fFrom ∧ t.fFrom < (p.fVersions.length : Int)
 to0 : 0 ≤ t.fTo ∧ t.fTo < (p.fVersions.length : Int)
 okL : (t.fOK.length : Int) = p.fVersions.getD t.fFrom.toNat 0
 okR : ∀ row, row ∈ t.fOK → (row.length : Int) = p.fVersions.getD t.fTo.toNat 0
 reL : t.fKind = 4 → (t.fRewrite.length : Int) = p.fVersions.getD t.fFrom.toNat 0
 reR : ∀ row, row ∈ t.fRewrite → (row.length : Int) = p.fVersions.getD t.fFrom.toNat 0
 reD : t.fKind = 4 → Ir t.fRewrite = none
 reN : t.fKind ≠ 4 → t.fRewrite = []
theorem L0 {p : Ag} {t : AI} (h : D5 p t = 0) : M6 p t := by
 unfold D5 at h
 split at h
 ·cases h
 rename_i h1
 split at h
 ·cases h
 rename_i h2
 simp only at h
 split at h
 ·cases h
 rename_i h3
 have h3 : sq t.fOK (p.fVersions.getD t.fFrom.toNat 0) (p.fVersions.getD t.fTo.toNat 0) = true := by simpa using h3
 have h3 := MN h3
 have ha : t.fAware = true → Cd t = false := by
  intro ha
  unfold Cd
  rw [Bool.or_eq_false_iff, beq_eq_false_iff_ne, beq_eq_false_iff_ne]
  exact ⟨fun hk => h1 (.inr (.inr ⟨ha, .inl hk⟩)), fun hk => h1 (.inr (.inr ⟨ha, .inr hk⟩))⟩
 split at h
 ·rename_i h4
  split at h
  ·cases h
  rename_i h5
  have h5 : sq t.fRewrite (p.fVersions.getD t.fFrom.toNat 0) (p.fVersions.getD t.fFrom.toNat 0) = true := by simpa using h5
  have h5 := MN h5
  refine ⟨by omega, ha, by omega, by omega, h3.1, h3.2, fun _ => h5.1, h5.2, fun _ => ?_, fun h => (h h4).elim⟩
  cases hd : Ir t.fRewrite with
  | none => rfl
  | some r =>
   obtain ⟨j, x, _, hx⟩ := FI hd
   rw [hd] at h
   split at hx
   ·cases hx
   ·cases hx; cases h
 ·rename_i h4
  split at h
  ·rename_i h5
   have h5 := List.eq_nil_of_length_eq_zero h5
   refine ⟨by omega, ha, by omega, by omega, h3.1, h3.2, fun h => (h4 h).elim, fun row hr => ?_, fun h => (h4 h).elim, fun _ => h5⟩
   rw [h5] at hr; cases hr
  ·cases h
theorem J9 {R : Type} (b : Bool) (acc : List Av) (x : Av) (j : List Av → Option R) (h : acc.length + 1 ≤ Dy) :
  AV b ((DP (acc.length + ([x] : List Av).length ≤ Dy)).bind fun _ => j (acc ++ [x])) (j acc) = j (acc ++ if b then [x] else []) := by
 cases b
 ·simp
 ·rw [AO, AA (by simpa using h)]; rfl
theorem QS (N : Nat) (m : Ae) (t : AI) (i u : Nat) (row : List Bool) (R : Int) (b1 b2 acc : List Av) (j : List Av × Bool → Option (List Av))
  (hN : N ≤ 1000000) (h8 : 8 ≤ N) (hrow : row.length ≤ 6) (hacc : acc.length + 6 ≤ Dy) (hR0 : 0 ≤ R) (hR1 : R ≤ 255) (hRb : ∀ v, DJ R v = HX m t.fTo.toNat v) :
  BX N (b1, (i : Int)) t R (b2, (u : Int)) row j N (acc, false, 0) = j (acc ++ CQ (gC i u m t) 0 row, MY (hC m t) 0 row) := by
 have := H6 (A := List Av × Bool) (BX N (b1, (i : Int)) t R (b2, (u : Int)) row j) (fun a k => (a.1, a.2, k)) row (fun a => j a) (fun v ok s => (s.1 ++ gC i u m t v ok, s.2 || hC m t v ok))
  (fun v a => v ≤ row.length ∧ a.1.length ≤ acc.length + v)
  (fun n v ok a hx ha => by
   have hv := (lI.1 hx).1
   obtain ⟨c, f⟩ := a
   simp only at ha
   refine ⟨?_, by omega, ?_⟩
   ·rw [BX]
    simp only [A6]
    rw [AC (by omega), A5, hx]
    simp only [oS]
    rw [AA (by omega), QT hR0 hR1 (by omega), hRb, AS (by omega), J9 _ _ _ (fun l => BX N (b1, (i : Int)) t R (b2, (u : Int)) row j n (l, true, ((v + 1 : Nat) : Int))) (by omega)]
    unfold gC hC
    rw [J9 _ _ _ (fun l => BX N (b1, (i : Int)) t R (b2, (u : Int)) row j n (l, ok, ((v + 1 : Nat) : Int))) (by omega)]
    cases HX m t.fTo.toNat v
    ·simp
    ·cases ok <;> cases f <;> cases t.fAware <;> simp
   ·simp only [gC, List.length_append]
    split <;> simp <;> omega)
  (fun n a _ => by
   rw [BX]
   simp only [A6]
   rw [AB (by omega)]) N 0 (acc, false) (by omega) (by omega) ⟨by omega, by simp⟩
 have h2 := this.1
 rw [List.drop_zero, KV, Bool.false_or] at h2
 exact h2
theorem MR {p : Ag} {t : AI} (hp : Bl p) (ht : M6 p t) : t.fOK.length ≤ 6 ∧ ∀ row, row ∈ t.fOK → row.length ≤ 6 := by
 have h1 := JF hp.ver ht.from0.1 ht.from0.2
 have h2 := JF hp.ver ht.to0.1 ht.to0.2
 have h3 := ht.okL
 exact ⟨by omega, fun row hr => by have := ht.okR row hr; omega⟩
theorem RF (i u : Nat) (m : Ae) (t : AI) (v : Nat) (ok : Bool) : (gC i u m t v ok).length ≤ 1 := by
 unfold gC; split <;> simp
theorem RE (i : Nat) (m : Ae) (t : AI) (u : Nat) (row : List Bool) (h : row.length ≤ 6) : (Jp i m t u row).length ≤ 7 := by
 unfold Jp
 rw [List.length_append]
 have := FG (g := gC i u m t) (c := 1) (i := 0) (xs := row) (fun j x _ => RF _ _ _ _ _ _)
 split <;> simp <;> omega
theorem Rw (i : Nat) (m : Ae) (t : AI) (u : Nat) (row : List Bool) (h : row.length ≤ 6) : (if SH m i t u = true then Jp i m t u row else []).length ≤ 7 := by
 have := RE i m t u row h
 split <;> simp <;> omega
theorem Ms {p : Ag} {t : AI} (hp : Bl p) (ht : M6 p t) (i : Nat) (m : Ae) : (Jd m i t).length ≤ 42 := by
 have h1 := MR hp ht
 have := FG (g := fun u row => if SH m i t u = true then Jp i m t u row else []) (c := 7) (i := 0) (xs := t.fOK) (fun j x hx => Rw i m t _ x (h1.2 x (lM hx)))
 unfold Jd
 omega
theorem Lc (N : Nat) (p : Ag) (m : Ae) (t : AI) (i : Nat) (W R : Int) (b1 acc : List Av) (j : List Av → Option (List Av))
  (hN : N ≤ 1000000) (h8 : 8 ≤ N) (hp : Bl p) (ht : M6 p t) (hacc : acc.length + 42 ≤ 10000) (hR0 : 0 ≤ R) (hR1 : R ≤ 255) (hRb : ∀ v, DJ R v = HX m t.fTo.toNat v) (hW0 : 0 ≤ W) (hW1 : W ≤ 255) (hWb : ∀ v, DJ W v = SH m i t v) :
  Cj N (b1, (i : Int)) t R W j N (acc, 0) = j (acc ++ Jd m i t) := by
 have hl := MR hp ht
 exact Ge (Cj N (b1, (i : Int)) t R W j) (fun a k => (a, k)) t.fOK j (fun u row => if SH m i t u then Jp i m t u row else []) 7 10000
  (fun u row hx => Rw i m t u row (hl.2 row (lM hx)))
  (fun n u row a hx ha => by
   have hu := (lI.1 hx).1
   have hrow := hl.2 row (lM hx)
   rw [Cj]
   simp only [A6]
   rw [AC (by omega), AA (by omega), QT hW0 hW1 (by omega), hWb, A5, hx]
   simp only [oS]
   rw [QS N m t i u row R b1 a a _ hN h8 hrow (by unfold Dy; omega) hR0 hR1 hRb, AS (by omega)]
   cases hw : SH m i t u
   ·simp
   ·simp only [Bool.not_true, Au, if_true, Jp]
    have h1 := FG (g := gC i u m t) (c := 1) (i := 0) (xs := row) (fun j x _ => RF _ _ _ _ _ _)
    have := J9 (R := List Av) (t.fAware && !MY (hC m t) 0 row) (a ++ CQ (gC i u m t) 0 row) ⟨(i : Int), (u : Int), -1⟩ (fun l => Cj N (b1, (i : Int)) t R W j n (l, ((u + 1 : Nat) : Int))) (by rw [List.length_append]; unfold Dy; rw [hw, if_pos rfl] at ha; omega)
    rw [← List.append_assoc, ← this]
    cases t.fAware <;> cases MY (hC m t) 0 row <;> rfl)
  (fun n a => by
   rw [Cj]
   simp only [A6]
   rw [AB (by omega)]) N acc (by omega) (by omega)
theorem Q7 (N : Nat) (p : Ag) (m : Ae) (t : AI) (i u : Nat) (row : List Bool) (b1 b2 acc : List Av) (j : List Av × Bool → Option (List Av))
  (hN : N ≤ 1000000) (h8 : 8 ≤ N) (hp : Bl p) (hm : MixServ p m) (ht : M6 p t) (hu : t.fOK[u]? = some row) (hacc : acc.length + 6 ≤ Dy) :
  Br N p m (b1, (i : Int)) t (b2, (u : Int)) j N (acc, false, 0) = j (acc ++ CQ (gC i u m t) 0 row, MY (hC m t) 0 row) := by
 have hrow := (MR hp ht).2 row (lM hu)
 have hR := HC hp hm (s := t.fTo.toNat) (by have := ht.to0; omega)
 have hlen := ht.okR row (lM hu)
 have hto := ht.to0
 have := H6 (A := List Av × Bool) (Br N p m (b1, (i : Int)) t (b2, (u : Int)) j) (fun a k => (a.1, a.2, k)) row (fun a => j a) (fun v ok s => (s.1 ++ gC i u m t v ok, s.2 || hC m t v ok))
  (fun v a => v ≤ row.length ∧ a.1.length ≤ acc.length + v)
  (fun n v ok a hx ha => by
   have hv := (lI.1 hx).1
   obtain ⟨c, f⟩ := a
   simp only at ha
   refine ⟨?_, by omega, ?_⟩
   ·rw [Br]
    simp only [A6]
    rw [EG (d := 0) hto.1 hto.2, Jo N m t.fTo hto.1 (by rw [hm.base]; exact hto.2) (by rw [hm.next]; exact hto.2) (hm.b0 _ (by omega)).1, A5, hu]
    simp only [oS]
    unfold Cr
    rw [AC (by omega), A5, hx, AA (by omega), Qd hR.2.1 hR.2.2 (by omega), hR.1]
    simp only [oS]
    rw [AS (by omega), J9 _ _ _ (fun l => Br N p m (b1, (i : Int)) t (b2, (u : Int)) j n (l, true, ((v + 1 : Nat) : Int))) (by omega)]
    unfold gC hC
    rw [J9 _ _ _ (fun l => Br N p m (b1, (i : Int)) t (b2, (u : Int)) j n (l, ok, ((v + 1 : Nat) : Int))) (by omega)]
    cases HX m t.fTo.toNat v
    ·simp
    ·cases ok <;> cases f <;> cases t.fAware <;> simp
   ·simp only [gC, List.length_append]
    split <;> simp <;> omega)
  (fun n a _ => by
   rw [Br]
   simp only [A6]
   rw [EG (d := 0) hto.1 hto.2]
   simp only [oS]
   rw [AB (by omega)]) N 0 (acc, false) (by omega) (by omega) ⟨by omega, by simp⟩
 have h2 := this.1
 rw [List.drop_zero, KV, Bool.false_or] at h2
 exact h2
theorem K4 (N : Nat) (p : Ag) (m : Ae) (t : AI) (i : Nat) (W : Int) (b1 acc : List Av) (j : List Av → Option (List Av))
  (hN : N ≤ 1000000) (h8 : 8 ≤ N) (hp : Bl p) (hm : MixServ p m) (ht : M6 p t) (hacc : acc.length + 42 ≤ 10000) (hW0 : 0 ≤ W) (hW1 : W ≤ 255) (hWb : ∀ v, DJ W v = SH m i t v) :
  BF N p m (b1, (i : Int)) t W j N (acc, 0) = j (acc ++ Jd m i t) := by
 have hl := MR hp ht
 have hfr := ht.from0
 have hok := ht.okL
 exact Ge (BF N p m (b1, (i : Int)) t W j) (fun a k => (a, k)) t.fOK j (fun u row => if SH m i t u then Jp i m t u row else []) 7 10000
  (fun u row hx => Rw i m t u row (hl.2 row (lM hx)))
  (fun n u row a hx ha => by
   have hu := (lI.1 hx).1
   have hrow := hl.2 row (lM hx)
   rw [BF]
   simp only [A6]
   rw [EG (d := 0) hfr.1 hfr.2]
   simp only [oS]
   unfold Cr
   rw [AC (by omega), AA (by omega), Qd hW0 hW1 (by omega), hWb]
   simp only [oS]
   rw [Q7 N p m t i u row b1 a a _ hN h8 hp hm ht hx (by unfold Dy; omega), AS (by omega)]
   cases hw : SH m i t u
   ·simp
   ·simp only [Bool.not_true, Au, if_true, Jp]
    have h1 := FG (g := gC i u m t) (c := 1) (i := 0) (xs := row) (fun j x _ => RF _ _ _ _ _ _)
    have := J9 (R := List Av) (t.fAware && !MY (hC m t) 0 row) (a ++ CQ (gC i u m t) 0 row) ⟨(i : Int), (u : Int), -1⟩ (fun l => BF N p m (b1, (i : Int)) t W j n (l, ((u + 1 : Nat) : Int))) (by rw [List.length_append]; unfold Dy; rw [hw, if_pos rfl] at ha; omega)
    rw [← List.append_assoc, ← this]
    cases t.fAware <;> cases MY (hC m t) 0 row <;> rfl)
  (fun n a => by
   rw [BF]
   simp only [A6]
   rw [EG (d := 0) hfr.1 hfr.2]
   simp only [oS]
   rw [AB (by omega)]) N acc (by omega) (by omega)
theorem LS (N : Nat) (p : Ag) (m : Ae) (hN : N ≤ 1000000) (h20 : 20 ≤ N) (hp : Bl p) (hm : Bv p m) : Fk N p m = some (GP p m) := by
 unfold Fk
 have hnt := hp.nt
 rw [Ge (Df N p m _) (fun a k => (a, k)) p.fTables some (Jd m) 42 9000
  (fun i t hx => Ms hp (L0 (hp.tab t (lM hx))) i m)
  (fun n i t a hx ha => by
   have hi := (lI.1 hx).1
   have ht := L0 (hp.tab t (lM hx))
   have hto := ht.to0
   have hfr := ht.from0
   have hR := HC hp hm.toMixServ (s := t.fTo.toNat) (by omega)
   have hF := HC hp hm.toMixServ (s := t.fFrom.toNat) (by omega)
   have hH := hm.range i hi
   rw [Df]
   simp only [A6]
   rw [AC (by omega), A5, hx]
   simp only [oS, IP]
   rw [KZ N m t.fFrom hfr.1 (by rw [hm.base]; exact hfr.2) (by rw [hm.next]; exact hfr.2) (hm.b0 _ (by omega)).1, KZ N m t.fTo hto.1 (by rw [hm.base]; exact hto.2) (by rw [hm.next]; exact hto.2) (hm.b0 _ (by omega)).1, Di (d := 0) (by rw [hm.held]; exact hi), AS (by omega)]
   simp only [oS]
   cases hs : Cd t
   ·rw [Au, Lc N p m t i _ _ a a _ hN (by omega) hp ht (by omega) hR.2.1 hR.2.2 hR.1 hF.2.1 hF.2.2 (fun v => by unfold SH; rw [hs, hF.1]; rfl)]
   ·rw [AO, Lc N p m t i _ _ a a _ hN (by omega) hp ht (by omega) hR.2.1 hR.2.2 hR.1 hH.1 hH.2 (fun v => by unfold SH; rw [hs]; rfl)])
  (fun n a => by
   rw [Df]
   simp only [A6]
   rw [AB (by omega)]) N [] (by omega) (by simp; omega)]
 rfl
theorem LT (N : Nat) (p : Ag) (m : Ae) (hN : N ≤ 1000000) (h20 : 20 ≤ N) (hp : Bl p) (hm : Bv p m) : Es N p m = some (GP p m) := by
 unfold Es
 have hnt := hp.nt
 rw [Ge (Cz N p m _) (fun a k => (a, k)) p.fTables some (Jd m) 42 9000
  (fun i t hx => Ms hp (L0 (hp.tab t (lM hx))) i m)
  (fun n i t a hx ha => by
   have hi := (lI.1 hx).1
   have ht := L0 (hp.tab t (lM hx))
   have hto := ht.to0
   have hfr := ht.from0
   have hF := HC hp hm.toMixServ (s := t.fFrom.toNat) (by omega)
   have hH := hm.range i hi
   rw [Cz]
   simp only [A6]
   rw [AC (by omega), A5, hx]
   simp only [oS, Gv]
   rw [Jo N m t.fFrom hfr.1 (by rw [hm.base]; exact hfr.2) (by rw [hm.next]; exact hfr.2) (hm.b0 _ (by omega)).1, Di (d := 0) (by rw [hm.held]; exact hi), AS (by omega)]
   simp only [oS]
   cases hs : Cd t
   ·rw [Au, K4 N p m t i _ a a _ hN (by omega) hp hm.toMixServ ht (by omega) hF.2.1 hF.2.2 (fun v => by unfold SH; rw [hs, hF.1]; rfl)]
   ·rw [AO, K4 N p m t i _ a a _ hN (by omega) hp hm.toMixServ ht (by omega) hH.1 hH.2 (fun v => by unfold SH; rw [hs]; rfl)])
  (fun n a => by
   rw [Cz]
   simp only [A6]
   rw [AB (by omega)]) N [] (by omega) (by simp; omega)]
 rfl
theorem EU {A S R : Type} (L : Nat → S → Option R) (mk : A → Int → S) (len : Nat) (j : A → Option R) (I : Nat → A → Prop)
  (hs : ∀ (n i : Nat) (a : A), i < len → I i a → ∃ a', L (n + 1) (mk a (i : Int)) = L n (mk a' ((i + 1 : Nat) : Int)) ∧ I (i + 1) a')
  (he : ∀ (n : Nat) (a : A), I len a → L (n + 1) (mk a (len : Int)) = j a) :
  ∀ (n i : Nat) (a : A), i ≤ len → len - i < n → I i a → ∃ a', L n (mk a (i : Int)) = j a' ∧ I len a'
 | 0, i, _, _, h, _ => by omega
 | n + 1, i, a, hi, h, ha => by
  by_cases h1 : i < len
  ·obtain ⟨a', e1, e2⟩ := hs n i a h1 ha
   rw [e1]
   exact EU L mk len j I hs he n (i + 1) _ (by omega) (by omega) e2
  ·have : i = len := by omega
   subst this
   exact ⟨a, he n a ha, ha⟩
theorem Ix {α : Type} {xs ys : List α} {i : Nat} {d : α} (h : i < xs.length) : (xs ++ ys).getD i d = xs.getD i d := by
 rw [lD, lD, List.getElem?_append_left h]
theorem IE {α : Type} {xs : List α} {y : α} {i : Nat} {d : α} (h : i = xs.length) : (xs ++ [y]).getD i d = y := by
 subst h; rw [lD, List.getElem?_append_right (Nat.le_refl _)]; simp
theorem NE {α : Type} {P : Nat → α → Prop} {xs : List α} {y : α} {d : α} {n : Nat} (hn : xs.length = n) (h : ∀ k, k < n → P k (xs.getD k d)) (hy : P n y) : ∀ k, k < n + 1 → P k ((xs ++ [y]).getD k d) := by
 intro k hk
 by_cases h1 : k < n
 ·rw [Ix (by omega)]; exact h k h1
 ·have : k = n := by omega
  subst this
  rw [IE hn.symm]; exact hy
theorem Sd {l : List Int} (hw : N8 KY l) (i : Nat) : 0 ≤ l.getD i 0 ∧ l.getD i 0 ≤ 255 := by
 by_cases h : i < l.length
 ·have : l.getD i 0 ∈ l := by rw [lD, List.getElem?_eq_getElem h]; exact List.getElem_mem _
  exact Ig (hw _ this)
 ·rw [lD, List.getElem?_eq_none (by omega)]
  exact ⟨by decide, by decide⟩
theorem OE (N : Nat) {l : List Int} (hw : N8 KY l) (i : Nat) : DT N l (i : Int) = some (l.getD i 0) := by
 unfold DT
 have h2 := Sd hw i
 by_cases h : i < l.length
 ·rw [AC (by omega), Di (d := 0) h]
  simp only [oS]
  rw [CR (by omega) (by omega)]
 ·rw [AB (by omega), lD, List.getElem?_eq_none (by omega)]; rfl
theorem Hu {a n : Int} (ha : 0 ≤ a) (hn : 0 < n) : 0 ≤ Int.tmod a n ∧ Int.tmod a n < n := ⟨Int.tmod_nonneg n ha, Int.tmod_lt_of_pos a hn⟩
theorem V7 {l : List (List Bool)} {n m : Int} (h1 : (l.length : Int) = n) (h2 : ∀ row, row ∈ l → (row.length : Int) = m) : sq l n m = true := by
 unfold sq
 simp only [Bool.and_eq_true, decide_eq_true_eq, List.all_eq_true]
 exact ⟨h1, h2⟩
theorem W7 {p : Ag} {t : AI} (h : M6 p t) : D5 p t = 0 := by
 have hk := h.kind
 have hf := h.from0
 have ht := h.to0
 unfold D5
 rw [if_neg, if_neg (by omega)]
 ·simp only [V7 h.okL h.okR]
  rw [if_neg (by simp)]
  by_cases h4 : t.fKind = 4
  ·rw [if_pos h4, V7 (h.reL h4) h.reR, if_neg (by simp), h.reD h4]; rfl
  ·rw [if_neg h4, h.reN h4]; rfl
 ·rintro (h1 | h1 | ⟨h1, h2⟩)
  ·omega
  ·omega
  ·have := h.aware h1
   unfold Cd at this
   rw [Bool.or_eq_false_iff, beq_eq_false_iff_ne, beq_eq_false_iff_ne] at this
   omega
theorem Tx (N : Nat) (m bad : Int) (diag : Bool) (i : Nat) (acc : List (List Bool)) {_R : Type} (j : List Bool → Option (List (List Bool))) (hN : N ≤ 1000000) (h20 : 20 ≤ N) (hm : 0 ≤ m ∧ m ≤ 6) (hi : i < 6) :
  ∃ row, Ci N m bad diag (acc, (i : Int)) j N ([], 0) = j row ∧ (row.length : Int) = m ∧ (diag = true → (i : Int) < m → row.getD i false = true) := by
 obtain ⟨M, rfl⟩ := Int.eq_ofNat_of_zero_le hm.1
 obtain ⟨row, e, h1, h2⟩ := EU (A := List Bool) (Ci N (M : Int) bad diag (acc, (i : Int)) j) (fun a k => (a, k)) M j
  (fun k a => a.length = k ∧ ∀ q, q < k → diag = true → q = i → a.getD q false = true)
  (fun n k a hk ha => by
   refine ⟨a ++ [(diag && decide (i = k)) || (Int.tmod (Ei .u16 bad ((3 * i + k : Nat) : Int)) 2 == 0)], ?_, by simp [ha.1], NE (P := fun q y => diag = true → q = i → y = true) ha.1 ha.2 (fun h1 h2 => by simp [h1, h2])⟩
   rw [Ci]
   simp only [A6]
   rw [AC (by omega), AS (by omega), CR (n := 3 * (i : Int)) (by omega) (by omega), CR (n := 3 * (i : Int) + (k : Int)) (by omega) (by omega)]
   have l1 : ∀ y : Bool, a.length + ([y] : List Bool).length ≤ Dy := by intro y; rw [ha.1]; unfold Dy; simp; omega
   simp only [AA (l1 _), AA (show (0 : Int) ≤ 3 * (i : Int) + (k : Int) by omega)]
   have e1 : ((3 * i + k : Nat) : Int) = 3 * (i : Int) + (k : Int) := by omega
   rw [e1]
   have e2 : (((i : Nat) : Int) == ((k : Nat) : Int)) = decide (i = k) := by
    by_cases h : i = k
    ·simp [h]
    ·rw [decide_eq_false h]; exact beq_eq_false_iff_ne.2 (by omega)
   rw [e2]
   cases diag <;> cases decide (i = k) <;> rfl)
  (fun n a _ => by
   rw [Ci]
   simp only [A6]
   rw [AB (by omega)]) N 0 [] (Nat.zero_le _) (by omega) ⟨rfl, fun q hq => by omega⟩
 exact ⟨row, e, by omega, fun hd hlt => h2 i (by omega) hd rfl⟩
theorem RS (N : Nat) (n m bad : Int) (diag : Bool) (hN : N ≤ 1000000) (h20 : 20 ≤ N) (hn : 0 ≤ n ∧ n ≤ 6) (hm : 0 ≤ m ∧ m ≤ 6) :
  ∃ l, DW N n m bad diag = some l ∧ (l.length : Int) = n ∧ (∀ row, row ∈ l → (row.length : Int) = m) ∧ (diag = true → n = m → Ir l = none) := by
 obtain ⟨M, rfl⟩ := Int.eq_ofNat_of_zero_le hn.1
 unfold DW
 obtain ⟨l, e, h1, h2⟩ := EU (A := List (List Bool)) (Cl N (M : Int) m bad diag (fun v => some v)) (fun a k => (a, k)) M some
  (fun k a => a.length = k ∧ ∀ q, q < k → (((a.getD q []).length : Nat) : Int) = m ∧ (diag = true → (q : Int) < m → (a.getD q []).getD q false = true))
  (fun n k a hk ha => by
   obtain ⟨row, e, h1, h2⟩ := Tx (_R := Unit) N m bad diag k a (fun (v5 : List Bool) =>
    (DP (a.length + (([v5] : List (List Bool))).length ≤ Dy)).bind fun _ =>
    Cl N (M : Int) m bad diag (fun v => some v) n (a ++ (([v5] : List (List Bool))), (wI .i64 ((k : Int) + 1)))) hN h20 hm (by omega)
   refine ⟨a ++ [row], ?_, by simp [ha.1], NE (P := fun q y => ((y.length : Nat) : Int) = m ∧ (diag = true → (q : Int) < m → y.getD q false = true)) ha.1 ha.2 ⟨h1, h2⟩⟩
   rw [Cl]
   simp only
   rw [AC (by omega), e, AA (by rw [ha.1]; unfold Dy; simp; omega), AS (by omega)])
  (fun n a _ => by
   rw [Cl]
   simp only
   rw [AB (by omega)]) N 0 [] (Nat.zero_le _) (by omega) ⟨rfl, fun q hq => by omega⟩
 have key : ∀ q row, l[q]? = some row → l.getD q [] = row := fun q row hq => by rw [lD, hq]; rfl
 refine ⟨l, e, by omega, fun row hr => ?_, fun hd hnm => ?_⟩
 ·obtain ⟨q, hq⟩ := List.mem_iff_getElem?.1 hr
  have := (h2 q (by have := (lI.1 hq).1; omega)).1
  rwa [key q row hq] at this
 ·unfold Ir
  refine E2 fun q row hq => ?_
  have hlt := (lI.1 hq).1
  have := (h2 q (by omega)).2 hd (by omega)
  rw [key q row hq] at this
  rw [Nat.zero_add, this]; rfl
structure V4 (p : Ag) : Prop where
 valid : CK p = 0
 nv : p.fVersions.length ≤ 3
 nt : p.fTables.length ≤ 4
 v3 : ∀ v, v ∈ p.fVersions → v ≤ 3
theorem SW {p q : Ag} (h : p.fVersions = q.fVersions) (t : AI) : D5 p t = D5 q t := by
 unfold D5; rw [h]
theorem Za (N : Nat) (d : Cg) (hN : N ≤ 1000000) (h20 : 20 ≤ N) (hw : Fa d) : ∃ p ok, E1 N d = some (p, ok) ∧ (ok = true → V4 p) := by
 obtain ⟨w1, w2, w3, w4, _⟩ := hw
 unfold E1
 simp only [A6]
 by_cases k1 : 3 < d.fVersions.length
 ·rw [AC (by omega)]; exact ⟨_, false, rfl, fun h => by cases h⟩
 by_cases k2 : 4 < d.fLinks.length
 ·rw [AB (by omega), decide_eq_true (by omega : (4 : Int) < (d.fLinks.length : Int))]; exact ⟨_, false, rfl, fun h => by cases h⟩
 rw [AB (by omega), decide_eq_false (by omega : ¬ (4 : Int) < (d.fLinks.length : Int)), Au]
 obtain ⟨⟨vs, ns, ts⟩, e, h1, h2, h3, h4⟩ := EU (A := List Int × List Int × List Int) (CE N d fun v5 => BD N d v5 (fun v16 => some (Ag.mk v5.1 v5.2.1 v5.2.2 v16, true)) N ([], 0)) (fun a k => (a.1, a.2.1, a.2.2, k)) d.fVersions.length
  (fun v5 => BD N d v5 (fun v16 => some (Ag.mk v5.1 v5.2.1 v5.2.2 v16, true)) N ([], 0))
  (fun i a => a.1.length = i ∧ a.2.1.length = i ∧ a.2.2.length = i ∧ (∀ k, k < i → (1 ≤ a.1.getD k 0 ∧ a.1.getD k 0 ≤ 3) ∧ (0 ≤ a.2.1.getD k 0 ∧ a.2.1.getD k 0 < a.1.getD k 0) ∧ (0 ≤ a.2.2.getD k 0 ∧ a.2.2.getD k 0 < a.1.getD k 0)))
  (fun n i a hi ha => by
   obtain ⟨vs, ns, ts⟩ := a
   obtain ⟨h1, h2, h3, h4⟩ := ha
   simp only at h1 h2 h3 h4
   have hv := Sd w1 i
   have hb := Sd w2 i
   have hk := Sd w3 i
   have hm := Hu (n := 3) hv.1 (by omega)
   obtain ⟨v, hvd⟩ : ∃ v, v = 1 + Int.tmod (d.fVersions.getD i 0) 3 := ⟨_, rfl⟩
   have m1 := Hu (n := v) hb.1 (by omega)
   have m2 := Hu (n := v) hk.1 (by omega)
   refine ⟨(vs ++ [v], ns ++ [Int.tmod (d.fNow.getD i 0) v], ts ++ [Int.tmod (d.fTarget.getD i 0) v]), ?_, by simp [h1], by simp [h2], by simp [h3], ?_⟩
   ·rw [CE]
    simp only
    rw [AC (by omega), Di (d := 0) hi, OE N w2, OE N w3]
    simp only [oS]
    rw [CR (n := Int.tmod _ _) (by omega) (by omega), CR (n := 1 + _) (by omega) (by omega), ← hvd, AS (by omega)]
    have l1 : ∀ y : Int, vs.length + ([y] : List Int).length ≤ Dy := by intro y; rw [h1]; unfold Dy; simp; omega
    have l2 : ∀ y : Int, ns.length + ([y] : List Int).length ≤ Dy := by intro y; rw [h2]; unfold Dy; simp; omega
    have l3 : ∀ y : Int, ts.length + ([y] : List Int).length ≤ Dy := by intro y; rw [h3]; unfold Dy; simp; omega
    simp only [AA (l1 _), AA (l2 _), AA (l3 _), AA (show v ≠ 0 by omega)]
   ·intro k hk
    simp only
    by_cases hki : k < i
    ·rw [Ix (by omega), Ix (by omega), Ix (by omega)]; exact h4 k hki
    ·have : k = i := by omega
     subst this
     rw [IE h1.symm, IE h2.symm, IE h3.symm]
     omega)
  (fun n a _ => by
   rw [CE]
   simp only
   rw [AB (by omega)]) N 0 ([], [], []) (Nat.zero_le _) (by omega) ⟨rfl, rfl, rfl, fun k hk => by omega⟩
 simp only at h1 h2 h3 h4
 have e' : CE N d (fun v5 => BD N d v5 (fun v16 => some (Ag.mk v5.1 v5.2.1 v5.2.2 v16, true)) N ([], 0)) N ([], [], [], 0) = _ := e
 rw [e']
 have hvs : ∀ v, v ∈ vs → 1 ≤ v ∧ v ≤ 3 := by
  intro v hv
  obtain ⟨q, hq⟩ := List.mem_iff_getElem?.1 hv
  have := (h4 q (by have := (lI.1 hq).1; omega)).1
  rwa [lD, hq] at this
 have fin : ∀ tabs : List AI, tabs.length ≤ 4 → (∀ t, t ∈ tabs → D5 ⟨vs, ns, ts, []⟩ t = 0) → V4 ⟨vs, ns, ts, tabs⟩ := by
  intro tabs ht h
  have hp : Bl ⟨vs, ns, ts, tabs⟩ := ⟨show vs.length ≤ 6 by omega, show tabs.length ≤ 12 by omega, show ns.length = vs.length by omega, show ts.length = vs.length by omega, fun v hv => by have := hvs v hv; omega, fun t ht => by rw [← h t ht]; exact SW rfl t⟩
  exact ⟨Pw hp fun i hi => by have := h4 i (by have : i < vs.length := hi; omega); simp only; omega, show vs.length ≤ 3 by omega, ht, fun v hv => (hvs v hv).2⟩
 by_cases k3 : vs.length = 0
 ·refine ⟨_, true, ?_, fun _ => fin [] (by simp) (fun t ht => by cases ht)⟩
  obtain ⟨M, rfl⟩ : ∃ M, N = M + 1 := ⟨N - 1, by omega⟩
  rw [BD]
  simp only [A6]
  rw [k3]
  by_cases k4 : (0 : Int) < (d.fLinks.length : Int)
  ·rw [AC k4]; rfl
  ·rw [AB k4]; rfl
 obtain ⟨tabs, e2, g1, g2⟩ := EU (A := List AI) (BD N d (vs, ns, ts) (fun v16 => some (Ag.mk vs ns ts v16, true))) (fun a k => (a, k)) d.fLinks.length (fun v16 => some (Ag.mk vs ns ts v16, true))
  (fun i a => a.length = i ∧ ∀ t, t ∈ a → D5 ⟨vs, ns, ts, []⟩ t = 0)
  (fun n i a hi ha => by
   have hx : d.fLinks[i]? = some d.fLinks[i] := by simp [hi]
   generalize d.fLinks[i] = l at hx
   obtain ⟨u1, u2, u3, _, u5, u6, _⟩ := w4 l (lM hx)
   have u1 := Ig u1
   have u2 := Ig u2
   have u3 := Ig u3
   have mk := Hu (n := 4) u1.1 (by omega)
   have hL : (0 : Int) < (vs.length : Int) := by omega
   have mf := Hu (n := (vs.length : Int)) u2.1 hL
   have mt := Hu (n := (vs.length : Int)) u3.1 hL
   rw [BD]
   simp only [A6]
   rw [AC (by omega), decide_eq_true hL, AO, A5, hx]
   simp only [oS]
   rw [AA (by omega), AA (by omega), CR (n := l.fFrom) (by omega) (by omega), CR (n := l.fTo) (by omega) (by omega), CR (n := Int.tmod l.fKind 4) (by omega) (by omega), CR (n := 1 + _) (by omega) (by omega), AS (by omega)]
   simp only [LW, oS]
   rw [EG (d := 0) mf.1 mf.2, EG (d := 0) mt.1 mt.2]
   simp only [oS]
   have hA : ∀ q : Int, 0 ≤ q → q < (vs.length : Int) → 1 ≤ vs.getD q.toNat 0 ∧ vs.getD q.toNat 0 ≤ 3 := fun q h0 h1 => (h4 q.toNat (by omega)).1
   have hf := hA _ mf.1 mf.2
   have ht := hA _ mt.1 mt.2
   obtain ⟨A, eA, a1, a2, _⟩ := RS N (vs.getD (Int.tmod l.fFrom (vs.length : Int)).toNat 0) (vs.getD (Int.tmod l.fTo (vs.length : Int)).toNat 0) l.fBad false hN h20 (by omega) (by omega)
   obtain ⟨B, eB, b1, b2, b3⟩ := RS N (vs.getD (Int.tmod l.fFrom (vs.length : Int)).toNat 0) (vs.getD (Int.tmod l.fFrom (vs.length : Int)).toNat 0) l.fLost true hN h20 (by omega) (by omega)
   rw [eA, eB]
   simp only [oS]
   have l1 : ∀ y : AI, a.length + ([y] : List AI).length ≤ Dy := by intro y; rw [ha.1]; unfold Dy; simp; omega
   simp only [AA (l1 _)]
   obtain ⟨kd, hkd⟩ : ∃ kd, kd = 1 + Int.tmod l.fKind 4 := ⟨_, rfl⟩
   rw [← hkd]
   have fin2 : ∀ (aw : Bool) (re : List (List Bool)), (aw = true → (kd == 3 || kd == 4) = false) → ((kd = 4 → re = B) ∧ (kd ≠ 4 → re = [])) →
     D5 ⟨vs, ns, ts, []⟩ (AI.mk kd (Int.tmod l.fFrom (vs.length : Int)) (Int.tmod l.fTo (vs.length : Int)) aw A re) = 0 := by
    intro aw re haw hre
    refine W7 ⟨show 1 ≤ kd ∧ kd ≤ 4 by omega, haw, mf, mt, a1, a2, fun h => by rw [hre.1 h]; exact b1, fun row hr => ?_, fun h => by rw [hre.1 h]; exact b3 rfl rfl, fun h => hre.2 h⟩
    by_cases h4 : kd = 4
    ·simp only at hr; rw [hre.1 h4] at hr; exact b2 row hr
    ·simp only at hr; rw [hre.2 h4] at hr; cases hr
   have app : ∀ t, D5 ⟨vs, ns, ts, []⟩ t = 0 → (a ++ [t]).length = i + 1 ∧ ∀ t', t' ∈ a ++ [t] → D5 ⟨vs, ns, ts, []⟩ t' = 0 := by
    intro t ht
    refine ⟨by simp [ha.1], fun t' ht' => ?_⟩
    rcases List.mem_append.1 ht' with h | h
    ·exact ha.2 t' h
    ·rw [List.mem_singleton.1 h]; exact ht
   by_cases h4 : kd = 4
   ·have e4 : (kd == 4) = true := beq_iff_eq.2 h4
    have hre : (kd = 4 → B = B) ∧ (kd ≠ 4 → B = []) := ⟨fun _ => rfl, fun h => (h h4).elim⟩
    rw [e4]
    simp only [AO, Bool.or_true, Bool.not_true]
    cases l.fAware
    ·exact ⟨_, rfl, app _ (fin2 false B (fun h => by cases h) hre)⟩
    ·exact ⟨_, rfl, app _ (fin2 false B (fun h => by cases h) hre)⟩
   ·have e4 : (kd == 4) = false := beq_eq_false_iff_ne.2 h4
    have hre : (kd = 4 → ([] : List (List Bool)) = B) ∧ (kd ≠ 4 → ([] : List (List Bool)) = []) := ⟨fun h => (h4 h).elim, fun _ => rfl⟩
    rw [e4]
    simp only [Au, Bool.or_false]
    cases l.fAware
    ·exact ⟨_, rfl, app _ (fin2 false [] (fun h => by cases h) hre)⟩
    ·cases e3 : kd == 3
     ·exact ⟨_, rfl, app _ (fin2 true [] (fun _ => by rw [e3, e4]; rfl) hre)⟩
     ·exact ⟨_, rfl, app _ (fin2 false [] (fun h => by cases h) hre)⟩)
  (fun n a _ => by
   rw [BD]
   simp only [A6]
   rw [AB (by omega), Au]) N 0 [] (Nat.zero_le _) (by omega) ⟨rfl, fun t ht => by cases ht⟩
 exact ⟨_, true, e2, fun _ => fin tabs (by omega) g2⟩
def H0 : List Int → Nat → Nat
 | [], _ => 0
 | _, 0 => 0
 | n :: ns, q + 1 => (if 0 ≤ n then 1 else 0) + H0 ns q
theorem Ik (l : List Int) : H0 l 0 = 0 := by cases l <;> rfl
theorem G8 : ∀ (l : List Int) (q : Nat), q < l.length → H0 l (q + 1) = H0 l q + if 0 ≤ l.getD q 0 then 1 else 0
 | [], q, h => by simp at h
 | n :: ns, 0, _ => by simp [H0, Ik]
 | n :: ns, q + 1, h => by
  rw [H0, G8 ns q (by simpa using h), H0, List.getD_cons_succ, Nat.add_assoc]
theorem M7 (l : List Int) {a b : Nat} (h : a ≤ b) (hb : b ≤ l.length) : H0 l a ≤ H0 l b := by
 induction b with
 | zero => rw [Nat.le_zero.1 h]; exact Nat.le_refl _
 | succ b ih =>
  by_cases h1 : a = b + 1
  ·rw [h1]; exact Nat.le_refl _
  ·have := ih (by omega) (by omega)
   rw [G8 l b (by omega)]; omega
theorem JS (l : List Int) : ∀ q, q ≤ l.length → H0 l q ≤ q
 | 0, _ => by rw [Ik]; exact Nat.le_refl _
 | q + 1, h => by
  have := JS l q (by omega)
  rw [G8 l q h]
  split <;> omega
def LK (l : List Int) (k q : Nat) : Int := if 0 ≤ l.getD q 0 ∧ k.testBit (H0 l q) = true then -1 else l.getD q 0
def UF (l : List Int) (k : Nat) : List Int := (List.range l.length).map (LK l k)
def W9 (m : Ae) (k : Nat) : Ae := ⟨m.fBase, UF m.fNext k, m.fHeld⟩
def FW (m : Ae) : List Ae := (List.range (2 ^ H0 m.fNext m.fNext.length)).map (W9 m)
theorem LH (l : List Int) (k : Nat) : (UF l k).length = l.length := by simp [UF]
theorem P0 (l : List Int) (k q : Nat) (h : q < l.length) : (UF l k).getD q 0 = LK l k q := by
 unfold UF; rw [lD, List.getElem?_map, List.getElem?_range h]; rfl
theorem GB {l1 l2 : List Int} (h1 : l1.length = l2.length) (h : ∀ q, q < l1.length → l1.getD q 0 = l2.getD q 0) : l1 = l2 := by
 apply List.ext_getElem h1
 intro q h2 h3
 have := h q h2
 rw [lD, lD, List.getElem?_eq_getElem h2, List.getElem?_eq_getElem h3] at this
 exact this
theorem RY : ∀ (k : Fin 64) (b : Fin 7), FB .i64 (Ei .i64 (k.val : Int) (b.val : Int)) 1 = (if k.val.testBit b.val then 1 else 0) ∧ Int.tmod (Ei .i64 (k.val : Int) (b.val : Int)) 2 = (if k.val.testBit b.val then 1 else 0) := by decide +kernel
theorem UZ : ∀ n : Fin 7, Co .i64 1 (n.val : Int) = ((2 ^ n.val : Nat) : Int) := by decide +kernel
structure Oj (m x : Ae) : Prop where
 base : x.fBase = m.fBase
 held : x.fHeld = m.fHeld
 len : x.fNext.length = m.fNext.length
 next : ∀ q, q < m.fNext.length → x.fNext.getD q 0 = m.fNext.getD q 0 ∨ (0 ≤ m.fNext.getD q 0 ∧ x.fNext.getD q 0 = -1)
theorem Oj.refl (m : Ae) : Oj m m := ⟨rfl, rfl, rfl, fun _ _ => .inl rfl⟩
theorem Oj.trans {a b c : Ae} (h1 : Oj a b) (h2 : Oj b c) : Oj a c :=
 ⟨h2.base.trans h1.base, h2.held.trans h1.held, h2.len.trans h1.len, fun q hq => by
  have e1 := h1.next q hq
  have e2 := h2.next q (by rw [h1.len]; exact hq)
  omega⟩
theorem Ta (m : Ae) (k : Nat) : Oj m (W9 m k) :=
 ⟨rfl, rfl, LH _ _, fun q hq => by
  show (UF m.fNext k).getD q 0 = _ ∨ _ ∧ (UF m.fNext k).getD q 0 = _
  rw [P0 _ _ _ hq]; unfold LK
  split
  ·rename_i h; exact .inr ⟨h.1, rfl⟩
  ·exact .inl rfl⟩
theorem RV : ∀ (l x : List Int), x.length = l.length → (∀ q, q < l.length → x.getD q 0 = l.getD q 0 ∨ (0 ≤ l.getD q 0 ∧ x.getD q 0 = -1)) → ∃ k, k < 2 ^ H0 l l.length ∧ ∀ q, q < l.length → x.getD q 0 = LK l k q
 | [], x, h, _ => ⟨0, by simp [H0], fun q hq => by simp at hq⟩
 | n :: ns, [], h, _ => by simp at h
 | n :: ns, y :: ys, h, hq => by
  obtain ⟨k, hk, hk2⟩ := RV ns ys (by simpa using h) (fun q hq' => by have := hq (q + 1) (by simpa using hq'); simpa using this)
  have h0 := hq 0 (by simp)
  simp only [List.getD_cons_zero] at h0
  by_cases hn : 0 ≤ n
  ·refine ⟨2 * k + if y = n then 0 else 1, ?_, ?_⟩
   ·rw [List.length_cons, H0, if_pos hn, Nat.pow_add]
    split <;> omega
   ·intro q hq'
    cases q with
    | zero =>
     simp only [List.getD_cons_zero, LK, Ik]
     by_cases hy : y = n
     ·simp [hy]
     ·rw [if_neg hy, if_pos ⟨hn, by simp⟩]; omega
    | succ q =>
     have := hk2 q (by simpa using hq')
     simp only [List.getD_cons_succ, LK, H0, if_pos hn] at this ⊢
     rw [this, Nat.add_comm 1, Nat.testBit_succ]
     have : (2 * k + if y = n then 0 else 1) / 2 = k := by split <;> omega
     rw [this]
  ·refine ⟨k, ?_, ?_⟩
   ·rw [List.length_cons, H0, if_neg hn, Nat.zero_add]; exact hk
   ·intro q hq'
    cases q with
    | zero =>
     simp only [List.getD_cons_zero, LK, Ik]
     rw [if_neg (fun h => hn h.1)]
     omega
    | succ q =>
     have := hk2 q (by simpa using hq')
     simp only [List.getD_cons_succ, LK, H0, if_neg hn, Nat.zero_add] at this ⊢
     exact this
theorem M0 {m x : Ae} : x ∈ FW m ↔ Oj m x := by
 unfold FW
 rw [List.mem_map]
 constructor
 ·rintro ⟨k, _, rfl⟩; exact Ta m k
 ·intro h
  obtain ⟨k, hk, hq⟩ := RV m.fNext x.fNext h.len h.next
  refine ⟨k, List.mem_range.2 hk, ?_⟩
  have : UF m.fNext k = x.fNext := GB (by rw [LH, h.len]) fun q hq' => by
   rw [LH] at hq'
   rw [P0 _ _ _ hq', hq q hq']
  unfold W9
  rw [this, ← h.base, ← h.held]
theorem Wq {m x : Ae} (h : Oj m x) {s : Nat} (hs : s < m.fNext.length) {v : Nat} (hv : HX x s v = true) : HX m s v = true := by
 unfold HX at hv ⊢
 rw [h.base] at hv
 have := h.next s hs
 simp only [Bool.or_eq_true, decide_eq_true_eq] at hv ⊢
 omega
theorem VX {p : Ag} {m x : Ae} (hp : Bl p) (hm : Bv p m) (h : Oj m x) : Bv p x := by
 refine ⟨⟨by rw [h.base]; exact hm.base, by rw [h.len]; exact hm.next, by rw [h.held]; exact hm.held, fun i hi => by rw [h.base]; exact hm.b0 i hi, fun i hi => ?_, fun i hi => ?_⟩, fun i hi => by rw [h.held]; exact hm.range i hi, fun i t ht hs v hv => ?_, fun i t ht hs v hv => ?_, fun i t ht hs => by rw [h.held]; exact hm.none i t ht hs⟩
 ·have h1 := hm.n0 i hi
  have h2 := h.next i (by rw [hm.next]; exact hi)
  have h3 := HP hp hi
  omega
 ·have h1 := hm.ne i hi
  have h2 := h.next i (by rw [hm.next]; exact hi)
  have h3 := hm.b0 i hi
  rw [h.base]
  omega
 ·have hin := (L0 (hp.tab t (lM ht))).from0
  rw [h.held]
  exact hm.low i t ht hs v (Wq h (by rw [hm.next]; omega) hv)
 ·rw [h.held] at hv
  exact hm.high i t ht hs v hv
theorem I3 (N : Nat) (l : List Int) (h : l.length ≤ Dy) : BL N l = some l := by
 unfold BL
 rw [AA (by simpa using h)]; rfl
theorem O0 (N : Nat) (l : List Int) (h : l.length ≤ Dy) : BP N l = some l := by
 unfold BP
 rw [AA (by simpa using h)]; rfl
theorem In {l : List Int} {i q : Nat} {y : Int} (hi : i < l.length) : (l.set i y).getD q 0 = if q = i then y else l.getD q 0 := by
 rw [lD, lD, List.getElem?_set]
 by_cases h : i = q
 ·subst h; simp [hi]
 ·rw [if_neg h, if_neg (fun e => h e.symm)]
theorem U2 {l : List Int} {a b : Nat} (ha : a < l.length) (hb : b < l.length) (h1 : 0 ≤ l.getD a 0) (h2 : 0 ≤ l.getD b 0) (h : H0 l a = H0 l b) : a = b := by
 rcases Nat.lt_trichotomy a b with h3 | h3 | h3
 ·have := M7 l (a := a + 1) (b := b) h3 (by omega)
  rw [G8 l a ha, if_pos h1] at this; omega
 ·exact h3
 ·have := M7 l (a := b + 1) (b := a) h3 (by omega)
  rw [G8 l b hb, if_pos h2] at this; omega
structure TK (l : List Int) (o : List Int) : Prop where
 len : o.length = H0 l l.length
 at_ : ∀ b, b < o.length → ∃ i : Nat, o.getD b 0 = (i : Int) ∧ i < l.length ∧ 0 ≤ l.getD i 0 ∧ H0 l i = b
theorem Q1 (N : Nat) (l o : List Int) (k : Nat) (acc : List Ae) (hN : N ≤ 1000000) (h20 : 20 ≤ N) (hl : l.length ≤ 6) (ho : TK l o) (hk : k < 64) (j : List Int → Option (List Ae × Int)) :
  CT N o (acc, (k : Int)) j N (l, 0) = j (UF l k) := by
 have hol := JS l l.length (Nat.le_refl _)
 have hoL := ho.len
 obtain ⟨x, e, h1, h2⟩ := EU (A := List Int) (CT N o (acc, (k : Int)) j) (fun a k => (a, k)) o.length j
  (fun b a => a.length = l.length ∧ ∀ q, q < l.length → a.getD q 0 = if 0 ≤ l.getD q 0 ∧ H0 l q < b ∧ k.testBit (H0 l q) = true then -1 else l.getD q 0)
  (fun n b a hb ha => by
   obtain ⟨i, hi1, hi2, hi3, hi4⟩ := ho.at_ b hb
   have hbit := RY ⟨k, hk⟩ ⟨b, by omega⟩
   rw [CT]
   simp only [A6]
   rw [AC (by omega), Di (d := 0) hb]
   simp only [oS]
   rw [AA (by omega), hi1, hbit.1, Di (d := 0) (show i < a.length by rw [ha.1]; exact hi2), AS (by omega)]
   simp only [oS, Int.toNat_natCast]
   cases hkb : k.testBit b
   ·refine ⟨a, rfl, ha.1, fun q hq => ?_⟩
    rw [ha.2 q hq]
    by_cases hqb : H0 l q = b
    ·rw [hqb, hkb]; simp
    ·by_cases h3 : H0 l q < b
     ·have : H0 l q < b + 1 := by omega
      simp [h3, this]
     ·have : ¬ H0 l q < b + 1 := by omega
      simp [h3, this]
   ·refine ⟨a.set i (-1), rfl, by simp [ha.1], fun q hq => ?_⟩
    rw [In (by rw [ha.1]; exact hi2), ha.2 q hq]
    by_cases hqi : q = i
    ·subst hqi
     rw [if_pos rfl, if_pos ⟨hi3, by omega, by rw [hi4]; exact hkb⟩]
    ·rw [if_neg hqi]
     by_cases h0 : 0 ≤ l.getD q 0
     ·have hne : H0 l q ≠ b := fun h => hqi (U2 hq hi2 h0 hi3 (by omega))
      by_cases h3 : H0 l q < b
      ·have : H0 l q < b + 1 := by omega
       simp [h3, this]
      ·have : ¬ H0 l q < b + 1 := by omega
       simp [h3, this]
     ·rw [if_neg (fun h => h0 h.1), if_neg (fun h => h0 h.1)])
  (fun n a _ => by
   rw [CT]
   simp only [A6]
   rw [AB (by omega)]) N 0 l (Nat.zero_le _) (by omega) ⟨rfl, fun q hq => by simp⟩
 have e' : CT N o (acc, (k : Int)) j N (l, 0) = j x := e
 rw [e']
 congr 1
 refine GB (by rw [LH, h1]) fun q hq => ?_
 rw [h1] at hq
 rw [h2 q hq, P0 _ _ _ hq, LK]
 by_cases h0 : 0 ≤ l.getD q 0
 ·have h3 := M7 l (a := q + 1) (b := l.length) hq (Nat.le_refl _)
  rw [G8 l q hq, if_pos h0] at h3
  have : H0 l q < o.length := by omega
  simp [this]
 ·rw [if_neg (fun h => h0 h.1), if_neg (fun h => h0 h.1)]
theorem Qh (N : Nat) (m : Ae) (k : Nat) (acc : List Ae) (hN : N ≤ 1000000) (h20 : 20 ≤ N) (hl : m.fNext.length ≤ 6) (hk : k < 64) (j : List Int → Option (List Ae)) :
  BQ N m (acc, (k : Int)) j N (m.fNext, 0, 0) = j (UF m.fNext k) := by
 obtain ⟨⟨x, pl⟩, e, h1, h2, h3⟩ := EU (A := List Int × Nat) (BQ N m (acc, (k : Int)) j) (fun a k => (a.1, (a.2 : Int), k)) m.fNext.length (fun a => j a.1)
  (fun i a => a.2 = H0 m.fNext i ∧ a.1.length = m.fNext.length ∧ ∀ q, q < m.fNext.length → a.1.getD q 0 = if q < i then LK m.fNext k q else m.fNext.getD q 0)
  (fun n i a hi ha => by
   obtain ⟨a, pl⟩ := a
   obtain ⟨a1, a2, a3⟩ := ha
   simp only at a1 a2 a3
   have hple := JS m.fNext i (by omega)
   have hbit := RY ⟨k, hk⟩ ⟨pl, by omega⟩
   have hs := G8 m.fNext i hi
   rw [BQ]
   simp only [A6]
   rw [AC (by omega), Di (d := 0) hi]
   simp only [oS]
   rw [AS (by omega)]
   by_cases h0 : m.fNext.getD i 0 < 0
   ·rw [AC h0]
    refine ⟨(a, pl), rfl, by simp only; rw [hs, if_neg (by omega), a1]; rfl, a2, fun q hq => ?_⟩
    simp only
    rw [a3 q hq]
    by_cases hqi : q = i
    ·subst hqi
     rw [if_neg (by omega), if_pos (by omega), LK, if_neg (by omega)]
    ·by_cases h4 : q < i
     ·rw [if_pos h4, if_pos (by omega)]
     ·rw [if_neg h4, if_neg (by omega)]
   ·rw [AB h0, AA (by omega), Di (d := 0) (show i < a.length by omega), hbit.2, AS (by omega)]
    simp only [oS, Int.toNat_natCast]
    cases hkb : k.testBit pl
    ·refine ⟨(a, pl + 1), rfl, by simp only; rw [hs, if_pos (by omega), a1], a2, fun q hq => ?_⟩
     simp only
     rw [a3 q hq]
     by_cases hqi : q = i
     ·subst hqi
      rw [if_neg (by omega), if_pos (by omega), LK, ← a1, hkb]; simp
     ·by_cases h4 : q < i
      ·rw [if_pos h4, if_pos (by omega)]
      ·rw [if_neg h4, if_neg (by omega)]
    ·refine ⟨(a.set i (-1), pl + 1), rfl, by simp only; rw [hs, if_pos (by omega), a1], by simp [a2], fun q hq => ?_⟩
     simp only
     rw [In (by omega), a3 q hq]
     by_cases hqi : q = i
     ·subst hqi
      rw [if_pos rfl, if_pos (by omega), LK, ← a1, if_pos ⟨by omega, hkb⟩]
     ·rw [if_neg hqi]
      by_cases h4 : q < i
      ·rw [if_pos h4, if_pos (by omega)]
      ·rw [if_neg h4, if_neg (by omega)])
  (fun n a _ => by
   rw [BQ]
   simp only [A6]
   rw [AB (by omega)]) N 0 (m.fNext, 0) (Nat.zero_le _) (by omega) ⟨(Ik _).symm, rfl, fun q hq => by simp⟩
 have e' : BQ N m (acc, (k : Int)) j N (m.fNext, 0, 0) = j x := e
 rw [e']
 congr 1
 simp only at h2 h3
 refine GB (by rw [LH, h2]) fun q hq => ?_
 rw [h2] at hq
 rw [h3 q hq, if_pos hq, P0 _ _ _ hq]
theorem Uv (N : Nat) (m : Ae) (hN : N ≤ 1000000) (h20 : 20 ≤ N) (hl : m.fNext.length ≤ 6) (j : List Int → Option (List Ae × Int)) :
  ∃ o, DK N m j N ([], 0) = j o ∧ TK m.fNext o := by
 obtain ⟨o, e, h1, h2⟩ := EU (A := List Int) (DK N m j) (fun a k => (a, k)) m.fNext.length j
  (fun i o => o.length = H0 m.fNext i ∧ ∀ b, b < o.length → ∃ q : Nat, o.getD b 0 = (q : Int) ∧ q < m.fNext.length ∧ 0 ≤ m.fNext.getD q 0 ∧ H0 m.fNext q = b)
  (fun n i o hi ho => by
   have hple := JS m.fNext i (by omega)
   have hs := G8 m.fNext i hi
   rw [DK]
   simp only [A6]
   rw [AC (by omega), Di (d := 0) hi]
   simp only [oS]
   rw [AS (by omega)]
   by_cases h0 : 0 ≤ m.fNext.getD i 0
   ·rw [AC h0, AA (by rw [ho.1]; unfold Dy; simp; omega)]
    refine ⟨o ++ [(i : Int)], rfl, by rw [hs, if_pos h0, ← ho.1]; simp, ?_⟩
    rw [List.length_append]
    exact NE (P := fun b y => ∃ q : Nat, y = (q : Int) ∧ q < m.fNext.length ∧ 0 ≤ m.fNext.getD q 0 ∧ H0 m.fNext q = b) rfl ho.2 ⟨i, rfl, hi, h0, ho.1.symm⟩
   ·rw [AB h0]
    exact ⟨o, rfl, by rw [hs, if_neg h0, ho.1]; rfl, ho.2⟩)
  (fun n a _ => by
   rw [DK]
   simp only [A6]
   rw [AB (by omega)]) N 0 [] (Nat.zero_le _) (by omega) ⟨(Ik _).symm, fun b hb => by simp at hb⟩
 exact ⟨o, e, h1, h2⟩
theorem KI {n : Nat} (h : n ≤ 6) : 2 ^ n ≤ 64 := Nat.pow_le_pow_right (n := 2) (by omega) h
theorem MK {n : Nat} (h : n ≤ 6) : Co .i64 1 (n : Int) = ((2 ^ n : Nat) : Int) := UZ ⟨n, by omega⟩
theorem JR {β : Type} (f : Nat → β) (n : Nat) : (List.range (n + 1)).map f = (List.range n).map f ++ [f n] := by
 rw [List.range_succ, List.map_append]; rfl
theorem Oc (N : Nat) (p : Ag) (m : Ae) (hN : N ≤ 1000000) (h20 : 100 ≤ N) (hw : N8 KY m.fHeld) (hv : F5 p m = 0) : FL N p m = some (FW m, 0) := by
 obtain ⟨hp, hm⟩ := La hw hv
 have hnv := hp.nv
 have hnt := hp.nt
 have hl : m.fNext.length ≤ 6 := by rw [hm.next]; omega
 unfold FL
 rw [Jc N p m hN (by omega) hw, hv]
 simp only [oS, bne_self_eq_false, Au]
 obtain ⟨o, e, ho⟩ := Uv N m hN (by omega) hl (fun (v4 : (List Int)) =>
   (DP (0 ≤ (v4.length : Int))).bind fun _ =>
   CV N m v4 (fun (v12 : (List Ae)) =>
    some (v12, 0)) N (([] : List Ae), 0))
 rw [e, AA (by omega)]
 have hoL := ho.len
 have hol := JS m.fNext m.fNext.length (Nat.le_refl _)
 have hpow := KI (show H0 m.fNext m.fNext.length ≤ 6 by omega)
 obtain ⟨a, e2, h1⟩ := EU (A := List Ae) (CV N m o fun v12 => some (v12, 0)) (fun a k => (a, k)) (2 ^ H0 m.fNext m.fNext.length) (fun v12 => some (v12, 0))
  (fun i a => a = (List.range i).map (W9 m))
  (fun n i a hi ha => by
   refine ⟨a ++ [W9 m i], ?_, by rw [JR, ha]⟩
   have hal : a.length = i := by rw [ha]; simp
   rw [CV]
   rw [hoL, MK (n := H0 m.fNext m.fNext.length) (by omega), AC (by omega), I3 N m.fBase (by have := hm.base; unfold Dy; omega), I3 N m.fNext (by unfold Dy; omega), O0 N m.fHeld (by have := hm.held; unfold Dy; omega)]
   simp only [oS]
   rw [Q1 N m.fNext o i a hN (by omega) hl ho (by omega), AA (by rw [hal]; unfold Dy; simp; omega), AS (by omega)]
   rfl)
  (fun n a _ => by
   rw [CV]
   rw [hoL, MK (n := H0 m.fNext m.fNext.length) (by omega), AB (by simp)]) N 0 [] (Nat.zero_le _) (by omega) rfl
 have e2' : CV N m o (fun v12 => some (v12, 0)) N ([], 0) = some (a, 0) := e2
 rw [e2', h1]; rfl
theorem RD (N : Nat) (m : Ae) (h1 : m.fBase.length ≤ Dy) (h2 : m.fNext.length ≤ Dy) (h3 : m.fHeld.length ≤ Dy) : Ea N m = some m := by
 unfold Ea
 rw [AA (by simpa using h1), AA (by simpa using h2), AA (by simpa using h3)]; rfl
theorem Rq (N : Nat) (m : Ae) (hN : N ≤ 1000000) (h20 : 100 ≤ N) (h1 : m.fBase.length ≤ 100) (hl : m.fNext.length ≤ 6) (h3 : m.fHeld.length ≤ 100) : Ef N m = some (FW m) := by
 unfold Ef
 obtain ⟨c, e, hc⟩ := EU (A := Nat) (Cv N m (fun (v2 : Int) =>
  BE N m v2 (fun (v8 : (List Ae)) => some v8) N (([] : List Ae), 0))) (fun a k => ((a : Int), k)) m.fNext.length (fun a => BE N m (a : Int) (fun (v8 : (List Ae)) => some v8) N (([] : List Ae), 0))
  (fun i a => a = H0 m.fNext i)
  (fun n i a hi ha => by
   have hple := JS m.fNext i (by omega)
   have hs := G8 m.fNext i hi
   rw [Cv]
   simp only [A6]
   rw [AC (by omega), Di (d := 0) hi]
   simp only [oS]
   rw [AS (by omega), AS (by omega)]
   by_cases h0 : 0 ≤ m.fNext.getD i 0
   ·rw [AC h0]
    exact ⟨a + 1, rfl, by rw [hs, if_pos h0, ha]⟩
   ·rw [AB h0]
    exact ⟨a, rfl, by rw [hs, if_neg h0, ha]; rfl⟩)
  (fun n a _ => by
   rw [Cv]
   simp only [A6]
   rw [AB (by omega)]) N 0 0 (Nat.zero_le _) (by omega) (Ik _).symm
 have e' : Cv N m (fun (v2 : Int) => BE N m v2 (fun (v8 : (List Ae)) => some v8) N (([] : List Ae), 0)) N (0, 0) = _ := e
 rw [e', hc]
 have hol := JS m.fNext m.fNext.length (Nat.le_refl _)
 have hpow := KI (show H0 m.fNext m.fNext.length ≤ 6 by omega)
 obtain ⟨a, e2, h1⟩ := EU (A := List Ae) (BE N m (H0 m.fNext m.fNext.length : Int) fun v8 => some v8) (fun a k => (a, k)) (2 ^ H0 m.fNext m.fNext.length) some
  (fun i a => a = (List.range i).map (W9 m))
  (fun n i a hi ha => by
   refine ⟨a ++ [W9 m i], ?_, by rw [JR, ha]⟩
   have hal : a.length = i := by rw [ha]; simp
   rw [BE]
   rw [AA (by omega), MK (n := H0 m.fNext m.fNext.length) (by omega), AC (by omega), RD N m (by unfold Dy; omega) (by unfold Dy; omega) (by unfold Dy; omega)]
   simp only [oS]
   rw [Qh N m i a hN (by omega) hl (by omega), AA (by rw [hal]; unfold Dy; simp; omega), AS (by omega)]
   rfl)
  (fun n a _ => by
   rw [BE]
   rw [AA (by omega), MK (n := H0 m.fNext m.fNext.length) (by omega), AB (by simp)]) N 0 [] (Nat.zero_le _) (by omega) rfl
 have e2' : BE N m (H0 m.fNext m.fNext.length : Int) (fun v8 => some v8) N ([], 0) = some a := e2
 rw [e2', h1]; rfl
theorem Rv (N : Nat) (p : Ag) (m : Ae) (hN : N ≤ 1000000) (h20 : 100 ≤ N) (hp : Bl p) (hm : Bv p m) : Ef N m = some (FW m) := by
 have := hp.nv
 have := hp.nt
 exact Rq N m hN h20 (by rw [hm.base]; omega) (by rw [hm.next]; omega) (by rw [hm.held]; omega)
theorem Lv {p : Ag} {m : Ae} (hm : Bv p m) : N8 KY m.fHeld := by
 intro x hx
 obtain ⟨q, hq⟩ := List.mem_iff_getElem?.1 hx
 have h1 := (lI.1 hq).1
 have := hm.range q (by rw [← hm.held]; exact h1)
 rw [lD, hq] at this
 unfold KY
 simp only [Option.getD_some] at this
 simp [Lit.wf, IntKind.min, IntKind.max, IntKind.signed, IntKind.bits]
 omega
def KF (p : Ag) (x : Ae) : Option (Ae × Av) := match GP p x with
 | [] => none
 | c :: _ => some (x, c)
def NX (p : Ag) (m : Ae) : Option (Ae × Av) := DX (fun _ x => KF p x) 0 (FW m)
def GS : Ae := ⟨[], [], []⟩
def Uo : Av := ⟨0, 0, 0⟩
def Rr (p : Ag) (m : Ae) : Ae × Av × Int := match NX p m with
 | some (x, c) => (x, c, 0)
 | none => (GS, Uo, 15)
def B4 (p : Ag) (m : Ae) : Bool := (NX p m).isNone
theorem Ny {m : Ae} (hl : m.fNext.length ≤ 6) : (FW m).length ≤ 64 := by
 unfold FW
 have hol := JS m.fNext m.fNext.length (Nat.le_refl _)
 have hpow := KI (show H0 m.fNext m.fNext.length ≤ 6 by omega)
 simpa using hpow
theorem N2 {α R R' : Type} (f : Nat → α → Option R) (g : R → R') : ∀ (i : Nat) (xs : List α), DX (fun i x => (f i x).map g) i xs = (DX f i xs).map g
 | _, [] => rfl
 | i, x :: xs => by
  rw [GT, GT]
  cases f i x
  ·exact N2 f g (i + 1) xs
  ·rfl
theorem PV (N : Nat) (p : Ag) (m : Ae) (hN : N ≤ 1000000) (h20 : 100 ≤ N) (hw : N8 KY m.fHeld) (hv : F5 p m = 0) : Hg N p m = some (Rr p m) := by
 obtain ⟨hp, hm⟩ := La hw hv
 have hnv := hp.nv
 unfold Hg
 rw [Oc N p m hN h20 hw hv]
 simp only [oS, bne_self_eq_false, Au]
 have hal := Ny (m := m) (by rw [hm.next]; omega)
 have := Dr (Ey N p (FW m, 0) fun _ => some (GS, Uo, 15)) (FW m) (some (GS, Uo, 15)) (fun _ x => (KF p x).map fun y => (y.1, y.2, 0))
  (fun n i x hx => by
   have hi := (lI.1 hx).1
   have hx2 := VX hp hm (M0.1 (lM hx))
   rw [Ey, AC (by simp only; omega)]
   simp only [A5, hx, oS]
   rw [LS N p x hN (by omega) hp hx2, AS (by omega)]
   simp only [oS, KF]
   cases GP p x with
   | nil => rfl
   | cons c cs => rw [AC (by simp only [List.length_cons]; omega)]; rfl)
  (fun n => by rw [Ey, AB (by simp)]) N 0 (Nat.zero_le _) (by omega)
 rw [List.drop_zero, N2] at this
 exact this.trans (by
  unfold Rr NX
  cases DX (fun _ x => KF p x) 0 (FW m) <;> rfl)
theorem Ks (N : Nat) (p : Ag) (m : Ae) (hN : N ≤ 1000000) (h20 : 100 ≤ N) (hw : N8 KY m.fHeld) (hv : F5 p m = 0) : Fc N p m = some (B4 p m, 0) := by
 unfold Fc
 rw [PV N p m hN h20 hw hv]
 unfold B4 Rr
 cases NX p m <;> rfl
theorem Q3 (N : Nat) (p : Ag) (m : Ae) (hN : N ≤ 1000000) (h20 : 100 ≤ N) (hp : Bl p) (hm : Bv p m) : D7 N p m = some (GP p m).isEmpty := by
 unfold D7
 rw [LT N p m hN (by omega) hp hm]
 simp only [oS]
 cases GP p m with
 | nil => rfl
 | cons c cs =>
  rw [beq_eq_false_iff_ne.2 (by simp only [List.length_cons]; omega)]; rfl
theorem IM (N : Nat) (p : Ag) (m : Ae) (hN : N ≤ 1000000) (h20 : 100 ≤ N) (hp : Bl p) (hm : Bv p m) : Cx N p m = some (B4 p m) := by
 have hnv := hp.nv
 unfold Cx
 rw [Rv N p m hN h20 hp hm]
 simp only [oS]
 have hal := Ny (m := m) (by rw [hm.next]; omega)
 have := Dr (B2 N p (FW m) fun _ => some true) (FW m) (some true) (fun _ x => (KF p x).map fun _ => false)
  (fun n i x hx => by
   have hi := (lI.1 hx).1
   have hx2 := VX hp hm (M0.1 (lM hx))
   rw [B2, AC (by omega)]
   simp only [A5, hx, oS]
   rw [Q3 N p x hN h20 hp hx2, AS (by omega)]
   simp only [oS, KF]
   cases GP p x with
   | nil => rfl
   | cons c cs => rfl)
  (fun n => by rw [B2, AB (by simp)]) N 0 (Nat.zero_le _) (by omega)
 rw [List.drop_zero, N2] at this
 refine Eq.trans this ?_
 unfold B4 NX
 cases DX (fun _ x => KF p x) 0 (FW m) <;> rfl
theorem MB {N : Nat} {a b : Ae} (hN : N ≤ 1000000) (h1 : a.fBase.length < N) (h2 : a.fNext.length < N) (h3 : a.fHeld.length < N) (h4 : b.fHeld.length < N) (wa : N8 KY a.fHeld) (wb : N8 KY b.fHeld) : CI N a b = some (Hl a b) := by
 unfold CI
 rw [Np h1 hN, Np h2 hN, My h3 hN wa, My h4 hN wb]
 simp only [oS]
 rw [Np h3 hN]
 unfold Hl Rc
 by_cases h1 : Eu a.fBase b.fBase = 0
 ·simp only [h1, Rc]
  by_cases h2 : Eu a.fNext b.fNext = 0
  ·simp only [h2]
   by_cases h3 : Eu a.fHeld b.fHeld = 0 <;> simp [h3]
  ·have : (Eu a.fNext b.fNext != 0) = true := by simpa using h2
   simp [h2, this]
 ·have : (Eu a.fBase b.fBase != 0) = true := by simpa using h1
  simp [h1, this]
theorem OP (N : Nat) (a : List Ae) (hN : N ≤ 1000000) (h : a.length < N) (hs : ∀ x, x ∈ a → CX N x x = some true) : Dg N a a = some true := by
 unfold Dg
 rw [bne_self_eq_false, Au]
 have := Dr (CH N a a fun _ => some true) a (some true) (fun _ _ => none)
  (fun n i x hx => by
   have hi := (lI.1 hx).1
   rw [CH, AC (by omega)]
   simp only [A5, hx, oS]
   rw [hs x (lM hx), AS (by omega)]; rfl)
  (fun n => by rw [CH, AB (by simp)]) N 0 (Nat.zero_le _) (by omega)
 refine this.trans ?_
 rw [E2 (fun _ _ _ => rfl)]; rfl
open Go
def Ft (p : Ag) (t : AI) : Int := if Cd t = true then Co .u8 1 (p.fNow.getD t.fFrom.toNat 0) else 0
def EJ (p : Ag) : Ae := ⟨p.fNow, List.replicate p.fNow.length (-1), p.fTables.map (Ft p)⟩
theorem SD (N : Nat) (h : 100 ≤ N) (n : Nat) (hn : n ≤ 6) : Ek N [(-1)] (n : Int) = some (List.replicate n (-1)) := by
 obtain ⟨k, rfl⟩ : ∃ k, N = k + 100 := ⟨N - 100, by omega⟩
 have : n = 0 ∨ n = 1 ∨ n = 2 ∨ n = 3 ∨ n = 4 ∨ n = 5 ∨ n = 6 := by omega
 rcases this with rfl | rfl | rfl | rfl | rfl | rfl | rfl
 all_goals (show _ = _; kernel_rfl)
theorem Ra (T : List Int) (i : Nat) (hi : i < T.length) : (T.take i ++ List.replicate (T.length - i) 0).set i (T.getD i 0) = T.take (i + 1) ++ List.replicate (T.length - (i + 1)) 0 := by
 have hl : (T.take i).length = i := by simp; omega
 rw [List.set_append_right _ _ (by omega), hl, Nat.sub_self, show T.length - i = (T.length - (i + 1)) + 1 from by omega, List.replicate_succ, List.set_cons_zero, List.take_add_one, List.append_assoc]
 have : T[i]? = some (T.getD i 0) := by rw [lD]; simp [hi]
 rw [this]; rfl
theorem SI (T : List Int) (i : Nat) (hi : i < T.length) (h0 : T.getD i 0 = 0) : T.take i ++ List.replicate (T.length - i) 0 = T.take (i + 1) ++ List.replicate (T.length - (i + 1)) 0 := by
 rw [← Ra T i hi, h0, List.set_append_right _ _ (by rw [List.length_take]; omega)]
 congr 1
 have hl : (T.take i).length = i := by simp; omega
 rw [hl, Nat.sub_self, show T.length - i = (T.length - (i + 1)) + 1 from by omega, List.replicate_succ, List.set_cons_zero]
theorem Rp {p : Ag} (hv : CK p = 0) {t : AI} (ht : t ∈ p.fTables) : 0 ≤ t.fFrom ∧ t.fFrom.toNat < p.fNow.length ∧ 0 ≤ p.fNow.getD t.fFrom.toNat 0 ∧ p.fNow.getD t.fFrom.toNat 0 < 6 ∧ p.fNow.getD t.fFrom.toNat 0 < p.fVersions.getD t.fFrom.toNat 0 ∧ t.fFrom.toNat < p.fVersions.length := by
 obtain ⟨hp, hr⟩ := Dj hv
 have h1 := If (hp.tab t ht)
 have h2 := hr t.fFrom.toNat (by omega)
 have h3 := HP hp (i := t.fFrom.toNat) (by omega)
 have := hp.now
 refine ⟨h1.1, by omega, h2.1, by omega, h2.2.1, by omega⟩
theorem I9 {p : Ag} {i : Nat} {t : AI} (ht : p.fTables[i]? = some t) : (p.fTables.map (Ft p)).getD i 0 = Ft p t := by
 rw [lD, List.getElem?_map, ht]; rfl
theorem PA (N : Nat) (p : Ag) (hN : N ≤ 1000000) (h20 : 100 ≤ N) : F6 N p = some (if CK p = 0 then EJ p else ⟨[], [], []⟩, CK p) := by
 unfold F6
 rw [Lp N p hN (by omega)]
 simp only [oS]
 by_cases hv : CK p = 0
 ·rw [if_pos hv, hv]
  obtain ⟨hp, _⟩ := Dj hv
  have hnv := hp.nv
  have hnt := hp.nt
  have hnow := hp.now
  rw [bne_self_eq_false, Au, I3 N _ (by simp only [Dy]; omega)]
  simp only [oS]
  rw [SD N h20 _ (by omega)]
  simp only [oS]
  rw [AA (by simp only [Dy]; omega)]
  obtain ⟨a', e, ha⟩ := EU (D3 N p fun v7 => some (Ae.mk p.fNow (List.replicate p.fNow.length (-1)) v7, 0)) (fun a i => (a, i)) p.fTables.length (fun v7 => some (Ae.mk p.fNow (List.replicate p.fNow.length (-1)) v7, 0))
   (fun i a => a = (p.fTables.map (Ft p)).take i ++ List.replicate ((p.fTables.map (Ft p)).length - i) 0)
   (fun n i a hi ha => by
    have hx : p.fTables[i]? = some p.fTables[i] := by simp [hi]
    have hm : p.fTables[i] ∈ p.fTables := List.getElem_mem hi
    obtain ⟨n1, n2, n3, n4, _⟩ := Rp hv hm
    rw [D3, AC (by simp only; omega)]
    simp only [A6, A5, hx, oS, IP, AS (show i < 1000000 by omega)]
    have hal : i < (p.fTables.map (Ft p)).length := by simpa using hi
    cases hs : Cd p.fTables[i]
    ·rw [Au]
     refine ⟨a, rfl, ?_⟩
     rw [ha]
     exact SI _ _ hal (by rw [I9 hx]; unfold Ft; rw [hs]; rfl)
    ·rw [AO]
     have e1 : A9 p.fNow p.fTables[i].fFrom = some (p.fNow.getD p.fTables[i].fFrom.toNat 0) := by
      obtain ⟨q, hq⟩ := Int.eq_ofNat_of_zero_le n1
      rw [hq]; exact Di (by rw [hq] at n2; simpa using n2)
     rw [e1]
     simp only [oS]
     rw [AA n3]
     have hl : i < a.length := by rw [ha]; simp; omega
     have e2 : a[i]? = some a[i] := by simp [hl]
     rw [e2]
     simp only [oS]
     refine ⟨_, rfl, ?_⟩
     rw [← Ra _ _ hal, I9 hx, ha]
     unfold Ft; rw [hs]; rfl)
   (fun n a ha => by rw [D3, AB (by simp)]) N 0 (List.replicate p.fTables.length 0) (Nat.zero_le _) (by omega) (by simp)
  have e' : D3 N p (fun v7 => some (Ae.mk p.fNow (List.replicate p.fNow.length (-1)) v7, 0)) N (List.replicate ((p.fTables.length : Int)).toNat (0 : Int), 0) = _ := e
  rw [e', ha]
  have e5 : (p.fTables.map (Ft p)).take p.fTables.length = p.fTables.map (Ft p) := List.take_of_length_le (by simp)
  simp [EJ, e5]
 ·rw [if_neg hv, bne_iff_ne.2 hv, AO]
theorem Pg (N : Nat) (p : Ag) (hN : N ≤ 1000000) (h20 : 100 ≤ N) : Er N p = some (if CK p = 0 then EJ p else ⟨[], [], []⟩, CK p) := by
 unfold Er
 rw [M2 N p hN (by omega)]
 simp only [oS]
 by_cases hv : CK p = 0
 ·rw [if_pos hv, hv]
  obtain ⟨hp, _⟩ := Dj hv
  have hnv := hp.nv
  have hnt := hp.nt
  have hnow := hp.now
  rw [bne_self_eq_false, Au]
  obtain ⟨a', e, ha⟩ := EU (B6 N p fun v4 => Bp N p (fun v10 => some (Ae.mk v4.1 v4.2 v10, 0)) N (([] : List Int), 0)) (fun a i => (a.1, a.2, i)) p.fVersions.length (fun v4 => Bp N p (fun v10 => some (Ae.mk v4.1 v4.2 v10, 0)) N (([] : List Int), 0))
   (fun i a => a = (p.fNow.take i, List.replicate i (-1)))
   (fun n i a hi ha => by
    subst ha
    rw [B6, AC (by simp only; omega)]
    have hx : p.fNow[i]? = some p.fNow[i] := by simp [show i < p.fNow.length from by omega]
    simp only [A5, hx, oS, AS (show i < 1000000 by omega)]
    rw [AA (by simp [Dy]; omega), AA (by simp [Dy]; omega)]
    refine ⟨(p.fNow.take i ++ [p.fNow[i]], List.replicate i (-1) ++ [-1]), rfl, ?_⟩
    rw [List.take_add_one, hx, List.replicate_succ']; rfl)
   (fun n a ha => by rw [B6, AB (by simp)]) N 0 ([], []) (Nat.zero_le _) (by omega) rfl
  have e' : B6 N p (fun v4 => Bp N p (fun v10 => some (Ae.mk v4.1 v4.2 v10, 0)) N (([] : List Int), 0)) N (([] : List Int), ([] : List Int), 0) = _ := e
  rw [e', ha]
  simp only
  obtain ⟨b', e2, hb⟩ := EU (Bp N p fun v10 => some (Ae.mk (p.fNow.take p.fVersions.length) (List.replicate p.fVersions.length (-1)) v10, 0)) (fun a i => (a, i)) p.fTables.length (fun v10 => some (Ae.mk (p.fNow.take p.fVersions.length) (List.replicate p.fVersions.length (-1)) v10, 0))
   (fun i a => a = (p.fTables.map (Ft p)).take i)
   (fun n i a hi ha => by
    subst ha
    have hx : p.fTables[i]? = some p.fTables[i] := by simp [hi]
    have hm : p.fTables[i] ∈ p.fTables := List.getElem_mem hi
    obtain ⟨n1, n2, n3, n4, _⟩ := Rp hv hm
    rw [Bp, AC (by simp only; omega)]
    simp only [A6, A5, hx, oS, Gv, AS (show i < 1000000 by omega)]
    have hT : (p.fTables.map (Ft p))[i]? = some (Ft p p.fTables[i]) := by rw [List.getElem?_map, hx]; rfl
    have hlen : ((p.fTables.map (Ft p)).take i).length + 1 ≤ Dy := by simp [Dy]; omega
    cases hs : Cd p.fTables[i]
    ·rw [Au, AA (by simpa using hlen)]
     refine ⟨_, rfl, ?_⟩
     rw [List.take_add_one, hT]
     unfold Ft; rw [hs]; rfl
    ·rw [AO]
     have e1 : A9 p.fNow p.fTables[i].fFrom = some (p.fNow.getD p.fTables[i].fFrom.toNat 0) := by
      obtain ⟨q, hq⟩ := Int.eq_ofNat_of_zero_le n1
      rw [hq]; exact Di (by rw [hq] at n2; simpa using n2)
     rw [e1]
     simp only [oS]
     rw [AA n3, AA (by simpa using hlen)]
     refine ⟨_, rfl, ?_⟩
     rw [List.take_add_one, hT]
     unfold Ft; rw [hs]; rfl)
   (fun n a ha => by rw [Bp, AB (by simp)]) N 0 [] (Nat.zero_le _) (by omega) rfl
  have e3 : Bp N p (fun v10 => some (Ae.mk (p.fNow.take p.fVersions.length) (List.replicate p.fVersions.length (-1)) v10, 0)) N (([] : List Int), 0) = _ := e2
  rw [e3, hb]
  simp only [EJ, ← hnow, List.take_length]
  rw [show p.fTables.length = (p.fTables.map (Ft p)).length from by simp, List.take_length]
 ·rw [if_neg hv, bne_iff_ne.2 hv, AO]
theorem Nc {p : Ag} (hv : CK p = 0) : Bv p (EJ p) := by
 obtain ⟨hp, hr⟩ := Dj hv
 have hnow := hp.now
 have hnx : ∀ i, i < p.fVersions.length → (List.replicate p.fNow.length (-1 : Int)).getD i 0 = -1 := fun i hi => by
  rw [lD, List.getElem?_replicate, if_pos (by omega)]; rfl
 have hone : ∀ (i : Nat) (t : AI), p.fTables[i]? = some t → ∃ b : Nat, b < 6 ∧ p.fNow.getD t.fFrom.toNat 0 = (b : Int) ∧ (b : Int) < p.fVersions.getD t.fFrom.toNat 0 ∧ t.fFrom.toNat < p.fVersions.length := fun i t ht => by
  obtain ⟨n1, n2, n3, n4, n5, n6⟩ := Rp hv (lM ht)
  obtain ⟨b, hb⟩ := Int.eq_ofNat_of_zero_le n3
  exact ⟨b, by omega, hb, by omega, n6⟩
 have hbit : ∀ b : Nat, b < 8 → ∀ v, DJ (Co .u8 1 (b : Int)) v = decide (b = v) := fun b hb v => by
  by_cases h : v < 8
  ·exact (Jf ⟨b, hb⟩ ⟨v, h⟩).1
  ·rw [Jg (Jf ⟨b, hb⟩ ⟨0, by omega⟩).2.2 (by omega)]
   symm; apply decide_eq_false; omega
 refine { base := hnow, next := by simp [EJ, hnow], held := by simp [EJ], b0 := fun i hi => ⟨(hr i hi).1, (hr i hi).2.1⟩, n0 := fun i hi => ?_, ne := fun i hi => ?_, range := fun i hi => ?_, low := fun i t ht hs v hv' => ?_, high := fun i t ht hs v hb => ?_, none := fun i t ht hs => ?_ }
 ·show -1 ≤ (List.replicate p.fNow.length (-1 : Int)).getD i 0 ∧ (List.replicate p.fNow.length (-1 : Int)).getD i 0 < _
  rw [hnx i hi]
  have := HP hp hi
  omega
 ·show p.fNow.getD i 0 ≠ (List.replicate p.fNow.length (-1 : Int)).getD i 0
  rw [hnx i hi]
  have := hr i hi
  omega
 ·have hx : p.fTables[i]? = some p.fTables[i] := by simp [hi]
  show 0 ≤ (p.fTables.map (Ft p)).getD i 0 ∧ (p.fTables.map (Ft p)).getD i 0 ≤ 255
  rw [I9 hx]
  unfold Ft
  split
  ·obtain ⟨b, h1, h2, _⟩ := hone i _ hx
   rw [h2]
   exact (Jf ⟨b, by omega⟩ ⟨0, by omega⟩).2
  ·omega
 ·show DJ ((p.fTables.map (Ft p)).getD i 0) v = true
  obtain ⟨b, h1, h2, h3, h4⟩ := hone i t ht
  rw [I9 ht]
  unfold Ft
  rw [if_pos hs, h2, hbit b (by omega)]
  unfold HX at hv'
  have h5 : (EJ p).fBase.getD t.fFrom.toNat 0 = (b : Int) := h2
  have h6 : (EJ p).fNext.getD t.fFrom.toNat 0 = -1 := hnx _ h4
  rw [h5, h6, Bool.or_eq_true, decide_eq_true_iff, decide_eq_true_iff] at hv'
  apply decide_eq_true; omega
 ·have hb : DJ ((p.fTables.map (Ft p)).getD i 0) v = true := hb
  obtain ⟨b, h1, h2, h3, h4⟩ := hone i t ht
  rw [I9 ht] at hb
  unfold Ft at hb
  rw [if_pos hs, h2, hbit b (by omega), decide_eq_true_iff] at hb
  omega
 ·show (p.fTables.map (Ft p)).getD i 0 = 0
  rw [I9 ht]; unfold Ft; rw [hs]; rfl
theorem Mx (x : BitVec 8) : wI .u8 (x.toNat : Int) = (x.toNat : Int) := by
 have := x.isLt
 simp [wI, IntKind.signed, IntKind.bits]
 omega
theorem Q0 (x : BitVec 8) : 0 ≤ (x.toNat : Int) ∧ (x.toNat : Int) ≤ 255 := by
 have := x.isLt
 omega
theorem TO (x : BitVec 8) (v : Nat) : DJ (x.toNat : Int) v = x.getLsbD v := by
 unfold DJ; rw [Int.toNat_natCast]; rfl
theorem Pm {a : Int} (ha : 0 ≤ a ∧ a ≤ 255) (v : Nat) : (BitVec.ofInt 8 a).getLsbD v = DJ a v := by
 obtain ⟨a, rfl⟩ := Int.eq_ofNat_of_zero_le ha.1
 unfold BitVec.getLsbD DJ
 rw [TC (by omega), Int.toNat_natCast]
theorem Rx {a b : Int} (ha : 0 ≤ a ∧ a ≤ 255) (hb : 0 ≤ b ∧ b ≤ 255) : (∀ v, DJ (De .u8 a b) v = (DJ a v && !DJ b v)) ∧ 0 ≤ De .u8 a b ∧ De .u8 a b ≤ 255 := by
 have e : De .u8 a b = ((BitVec.ofInt 8 a &&& ~~~BitVec.ofInt 8 b).toNat : Int) := Mx (BitVec.ofInt 8 a &&& ~~~BitVec.ofInt 8 b)
 rw [e]
 refine ⟨fun v => ?_, Q0 _⟩
 rw [TO, BitVec.getLsbD_and, BitVec.getLsbD_not, Pm ha, Pm hb]
 by_cases h : v < 8
 ·simp [h]
 ·rw [Jg ha.2 (by omega)]; simp
theorem Rn {a b : Int} (ha : 0 ≤ a ∧ a ≤ 255) (hb : 0 ≤ b ∧ b ≤ 255) : (∀ v, DJ (Oa .u8 a b) v = (DJ a v || DJ b v)) ∧ 0 ≤ Oa .u8 a b ∧ Oa .u8 a b ≤ 255 := by
 have e : Oa .u8 a b = ((BitVec.ofInt 8 a ||| BitVec.ofInt 8 b).toNat : Int) := Mx (BitVec.ofInt 8 a ||| BitVec.ofInt 8 b)
 rw [e]
 refine ⟨fun v => ?_, Q0 _⟩
 rw [TO, BitVec.getLsbD_or, Pm ha, Pm hb]
theorem Vf {b : Nat} (hb : b < 8) : (∀ v, DJ (Co .u8 1 (b : Int)) v = decide (b = v)) ∧ 0 ≤ Co .u8 1 (b : Int) ∧ Co .u8 1 (b : Int) ≤ 255 := by
 refine ⟨fun v => ?_, (Jf ⟨b, hb⟩ ⟨0, by omega⟩).2⟩
 by_cases h : v < 8
 ·exact (Jf ⟨b, hb⟩ ⟨v, h⟩).1
 ·rw [Jg (Jf ⟨b, hb⟩ ⟨0, by omega⟩).2.2 (by omega)]
  symm; apply decide_eq_false; omega
theorem TE (N : Nat) {s : Int} {v : Nat} (hs : 0 ≤ s ∧ s ≤ 255) (hv : v < 8) : Cr N s (v : Int) = some (DJ s v) := by
 unfold Cr
 rw [AA (by omega), PS hs.1 hs.2 hv]
 cases DJ s v <;> rfl
def V2 (v : Nat) : Nat := ((List.range 8).find? fun u => v.testBit u).getD 8
def XV (v : Nat) : Nat := ((List.range 8).filter fun u => v.testBit u).length
theorem Wm : ∀ v : Fin 256, CW 0 (v.val : Int) = some (V2 v.val : Int) := by decide +kernel
theorem Yw (N : Nat) {v : Nat} (h : v < 256) : CW N (v : Int) = some (V2 v : Int) := Wm ⟨v, h⟩
theorem Vz : ∀ v : Fin 256, v.val ≠ 0 → V2 v.val < 8 ∧ DJ (v.val : Int) (V2 v.val) = true ∧ 0 ≤ FB .u8 (v.val : Int) (wI .u8 ((v.val : Int) - 1)) ∧ FB .u8 (v.val : Int) (wI .u8 ((v.val : Int) - 1)) ≤ 255 ∧
  XV (FB .u8 (v.val : Int) (wI .u8 ((v.val : Int) - 1))).toNat + 1 = XV v.val ∧
  ∀ u : Fin 8, DJ (FB .u8 (v.val : Int) (wI .u8 ((v.val : Int) - 1))) u.val = (DJ (v.val : Int) u.val && decide (u.val ≠ V2 v.val)) := by decide +kernel
theorem Xv (v : Nat) : XV v ≤ 8 := by
 have := List.length_filter_le (fun u => v.testBit u) (List.range 8)
 simpa [XV] using this
theorem Q8 (N : Nat) (t : AI) (b : Int) (rw_ : Nat → Bool) : ∀ (k n v : Nat), XV v ≤ k → k < n → v < 256 →
  (∀ u, u < 8 → DJ (v : Int) u = true → ∃ row, A9 t.fRewrite (u : Int) = some row ∧ A9 row b = some (rw_ u)) →
  Du N t b (fun _ => some true) n (v : Int) = some ((List.range 8).all fun u => !DJ (v : Int) u || rw_ u)
 | k, 0, v, _, h, _, _ => by omega
 | k, n + 1, v, hk, hn, hv, hr => by
  rw [Du]
  by_cases h0 : v = 0
  ·subst h0
   have : (((0 : Nat) : Int) != 0) = false := rfl
   rw [this, Au]
   congr 1
  ·have h1 : ((v : Int) != 0) = true := bne_iff_ne.2 (by omega)
   obtain ⟨l1, l2, l3, l4, l5, l6⟩ := Vz ⟨v, hv⟩ h0
   simp only at l1 l2 l3 l4 l5 l6
   obtain ⟨row, e1, e2⟩ := hr _ l1 l2
   rw [h1, AO, Yw N hv]
   simp only [oS, e1, e2]
   obtain ⟨w, hw⟩ := Int.eq_ofNat_of_zero_le l3
   rw [hw] at l4 l5 l6 ⊢
   rw [Int.toNat_natCast] at l5
   cases hq : rw_ (V2 v)
   ·rw [Bool.not_false, AO]
    congr 1
    symm
    rw [List.all_eq_false]
    exact ⟨V2 v, by simpa using l1, by rw [l2, hq]; simp⟩
   ·rw [Bool.not_true, Au]
    match k, hk with
    | 0, hk => exfalso; omega
    | k + 1, hk =>
    rw [Q8 N t b rw_ k n w (by omega) (by omega) (by omega) (fun u hu hb => hr u hu (by have := l6 ⟨u, hu⟩; simp only at this; rw [hb] at this; simpa using (Bool.and_eq_true_iff.1 this.symm).1))]
    congr 1
    rw [Bool.eq_iff_iff, List.all_eq_true, List.all_eq_true]
    refine ⟨fun h u hu => ?_, fun h u hu => ?_⟩
    ·have hu8 : u < 8 := by simpa using hu
     have h3 := h u hu
     have h4 := l6 ⟨u, hu8⟩
     simp only at h4
     rw [h4] at h3
     by_cases e : u = V2 v
     ·rw [e, hq]; simp
     ·simpa [e] using h3
    ·have hu8 : u < 8 := by simpa using hu
     have h3 := h u hu
     have h4 := l6 ⟨u, hu8⟩
     simp only at h4
     rw [h4]
     cases hb : DJ (v : Int) u
     ·simp
     ·rw [hb] at h3; simp at h3; simp [h3]
theorem QM (N : Nat) (m : Ae) (s : Int) (h0 : 0 ≤ s) (h1 : s < (m.fBase.length : Int)) (h2 : s < (m.fNext.length : Int)) (hb : 0 ≤ m.fBase.getD s.toNat 0) : FD N m s = some (Gy m s.toNat) := by
 unfold FD Gy
 rw [EG (d := 0) h0 h1, EG (d := 0) h0 h2]
 simp only [oS, Bb]
 rw [show DP (0 ≤ m.fBase.getD s.toNat 0) = some () from by unfold DP; rw [if_pos hb]]
 simp only [oS]
 by_cases h : 0 ≤ m.fNext.getD s.toNat 0
 ·rw [AC h, if_pos h, show DP (0 ≤ m.fNext.getD s.toNat 0) = some () from by unfold DP; rw [if_pos h]]; rfl
 ·rw [AB h, if_neg h]
theorem J4 (N : Nat) (t : AI) : Fm N t = some (Cd t) := by
 unfold Fm Cd
 simp only [Bb]
 cases h : t.fKind == 3 <;> simp
def GW (s : Ak) : Bool := decide (1 ≤ s.fKind ∧ s.fKind ≤ 4 ∧ 0 ≤ s.fIndex ∧ 0 ≤ s.fVersion) && (s.fKind == 1 || s.fVersion == 0)
def FR (p : Ag) (s : Ak) : Bool :=
 if s.fKind = 3 then decide (s.fIndex < (p.fTables.length : Int)) else decide (s.fIndex < (p.fVersions.length : Int)) && (s.fKind != 1 || decide (s.fVersion < p.fVersions.getD s.fIndex.toNat 0))
theorem Ox (N : Nat) (s : Ak) : Gp N s = some (GW s) := by
 unfold Gp GW T4
 simp only [Bb]
 by_cases h1 : (if s.fVersion < s.fIndex then s.fVersion else s.fIndex) < 0
 ·rw [AC h1, AO, decide_eq_false (by split at h1 <;> omega)]; rfl
 ·rw [AB h1]
  by_cases h2 : s.fKind < 1
  ·rw [AC h2, AO, decide_eq_false (by omega)]; rfl
  ·rw [AB h2]
   by_cases h3 : 4 < s.fKind
   ·rw [decide_eq_true h3, AO, decide_eq_false (by omega)]; rfl
   ·rw [decide_eq_false h3, Au, decide_eq_true (by split at h1 <;> omega), Bool.true_and]
    cases h4 : s.fKind == 1 <;> simp
theorem P4 (N : Nat) (s : Ak) : Ew N s = some (GW s) := by
 unfold Ew GW
 simp only [Bb]
 by_cases h1 : 1 ≤ s.fKind
 ·rw [AC h1]
  by_cases h2 : s.fKind ≤ 4
  ·rw [AC h2]
   by_cases h3 : 0 ≤ s.fIndex
   ·rw [AC h3]
    by_cases h4 : 0 ≤ s.fVersion
    ·rw [AC h4, decide_eq_true (by omega), Bool.true_and]
     cases h5 : s.fKind == 1 <;> simp
    ·rw [AB h4, decide_eq_false (by omega)]; rfl
   ·rw [AB h3, decide_eq_false (by omega)]; rfl
  ·rw [AB h2, decide_eq_false (by omega)]; rfl
 ·rw [AB h1, decide_eq_false (by omega)]; rfl
theorem Nl (N : Nat) (p : Ag) (s : Ak) (hv : GW s = true) : F2 N p s = some (FR p s) := by
 have h0 : 0 ≤ s.fIndex := by
  unfold GW at hv
  rw [Bool.and_eq_true, decide_eq_true_iff] at hv
  exact hv.1.2.2.1
 unfold F2 FR
 simp only [Bb]
 by_cases h1 : s.fKind = 3
 ·rw [if_pos h1, beq_iff_eq.2 h1, AO]
 ·rw [if_neg h1, beq_eq_false_iff_ne.2 h1, Au]
  by_cases h2 : s.fIndex < (p.fVersions.length : Int)
  ·rw [AC h2, decide_eq_true h2, Bool.true_and]
   cases h3 : s.fKind != 1
   ·rw [Au, EG (d := 0) h0 h2, Bool.false_or]; rfl
   ·rw [AO]; rfl
  ·rw [AB h2, decide_eq_false h2]; rfl
def Sy (s : Ak) (t : AI) : Bool := t.fFrom == s.fIndex && Cd t
def S4 (s : Ak) (i : Nat) (t : AI) (a : List Int) : List Int := if Sy s t = true then a.set i (Oa .u8 (a.getD i 0) (Co .u8 1 s.fVersion)) else a
def H8 (p : Ag) (s : Ak) (held : List Int) : List Int := HV (S4 s) 0 p.fTables held
theorem MI {_R : Type} (N : Nat) (p : Ag) (s : Ak) (held : List Int) (hv : 0 ≤ s.fVersion) (hl : held.length = p.fTables.length) (h12 : p.fTables.length < N) (hN : N ≤ 1000000) (j : List Int → Option (Bool × List Int × List Int)) :
  DH N p s j N (held, 0) = j (H8 p s held) ∧ (H8 p s held).length = p.fTables.length := by
 have := H6 (DH N p s j) (fun a i => (a, i)) p.fTables j (S4 s) (fun i a => a.length = p.fTables.length)
  (fun n i x a hx ha => by
   have hi := (lI.1 hx).1
   rw [DH, AC (by simp only; omega)]
   simp only [A6, A5, hx, oS, J4, AS (show i < 1000000 by omega)]
   have e2 : a[i]? = some (a.getD i 0) := by rw [lD]; simp [show i < a.length from by omega]
   unfold S4 Sy
   cases h1 : x.fFrom == s.fIndex
   ·rw [Au, Au, Bool.false_and, if_neg (by simp)]; exact ⟨rfl, ha⟩
   ·rw [AO, Bool.true_and]
    cases h2 : Cd x
    ·rw [Au, if_neg (by simp)]; exact ⟨rfl, ha⟩
    ·rw [AO, e2, if_pos rfl]
     simp only [oS]
     rw [AA hv]
     exact ⟨rfl, by simpa using ha⟩)
  (fun n a ha => by rw [DH, AB (by simp)]) N 0 held (Nat.zero_le _) (by omega) hl
 rw [List.drop_zero] at this
 exact this
theorem NC (N : Nat) (p : Ag) (s : Ak) (held : List Int) (hv : 0 ≤ s.fVersion) (hl : held.length = p.fTables.length) (h12 : p.fTables.length < N) (hN : N ≤ 1000000) (j : List Int → Option (Ae × Bool)) :
  BW N p s j N (held, 0) = j (H8 p s held) := by
 have := H6 (BW N p s j) (fun a i => (a, i)) p.fTables j (S4 s) (fun i a => a.length = p.fTables.length)
  (fun n i x a hx ha => by
   have hi := (lI.1 hx).1
   rw [BW, AC (by simp only; omega)]
   simp only [A6, A5, hx, oS, Gv, AS (show i < 1000000 by omega)]
   have e2 : a[i]? = some (a.getD i 0) := by rw [lD]; simp [show i < a.length from by omega]
   unfold S4 Sy
   cases h1 : x.fFrom == s.fIndex
   ·rw [Au, Au, Bool.false_and, if_neg (by simp)]; exact ⟨rfl, ha⟩
   ·rw [AO, Bool.true_and]
    cases h2 : Cd x
    ·rw [Au, if_neg (by simp)]; exact ⟨rfl, ha⟩
    ·rw [AO, e2, if_pos rfl]
     simp only [oS]
     rw [AA hv]
     exact ⟨rfl, by simpa using ha⟩)
  (fun n a ha => by rw [BW, AB (by simp)]) N 0 held (Nat.zero_le _) (by omega) hl
 rw [List.drop_zero] at this
 exact this.1
def KD (m : Ae) (t : AI) (u : Nat) : Bool := (t.fRewrite.getD u []).getD (m.fBase.getD t.fFrom.toNat 0).toNat false
def NK (m : Ae) (i : Nat) (t : AI) (u : Nat) : Bool := DJ (m.fHeld.getD i 0) u && !HX m t.fFrom.toNat u
def HL (_p : Ag) (m : Ae) (i : Nat) (t : AI) : Bool := t.fKind == 4 && (List.range 8).any fun u => NK m i t u && !KD m t u
def FM (p : Ag) (m : Ae) (s : Ak) : Option Ae :=
 let i := s.fIndex.toNat
 if s.fKind = 1 then (if 0 ≤ m.fNext.getD i 0 ∨ m.fBase.getD i 0 = s.fVersion then none else some ⟨m.fBase, m.fNext.set i s.fVersion, H8 p s m.fHeld⟩)
 else if s.fKind = 3 then match p.fTables[i]? with
  | none => none
  | some t => if Cd t = false ∨ m.fHeld.getD i 0 = Gy m t.fFrom.toNat ∨ HL p m i t = true then none else some ⟨m.fBase, m.fNext, m.fHeld.set i (Gy m t.fFrom.toNat)⟩
 else if m.fNext.getD i 0 < 0 then none
 else some ⟨if s.fKind = 2 then m.fBase.set i (m.fNext.getD i 0) else m.fBase, m.fNext.set i (-1), m.fHeld⟩
def B3 (p : Ag) (m : Ae) (s : Ak) : Ae × Int :=
 if GW s = false then (GS, 1) else if FR p s = false then (GS, 4) else match FM p m s with
  | none => (GS, 11)
  | some x => (x, 0)
end Go.Lift
namespace Go.Lift
open Option renaming bind_some → oS
open List renaming mem_of_getElem? → lM
open List renaming getElem?_eq_some_iff → lI
open List renaming getD_eq_getElem?_getD → lD
open Go
section clear
variable {p : Ag} {m : Ae} {i : Nat} {t : AI}
theorem Tf (hp : Bl p) (hm : Bv p m) (ht : p.fTables[i]? = some t) (hs : Cd t = true) {u : Nat} (h : DJ (m.fHeld.getD i 0) u = true) : (u : Int) < p.fVersions.getD t.fFrom.toNat 0 ∧ u < 6 ∧ t.fFrom.toNat < p.fVersions.length := by
 have h1 := hm.high i t ht hs u h
 have hin := If (hp.tab t (lM ht))
 have h2 := HP hp (i := t.fFrom.toNat) (by omega)
 exact ⟨h1, by omega, by omega⟩
theorem TL (hp : Bl p) (hm : Bv p m) (ht : p.fTables[i]? = some t) (hs : Cd t = true) (h4 : t.fKind = 4) {u : Nat} (h : DJ (m.fHeld.getD i 0) u = true) :
  A9 t.fRewrite (u : Int) = some (t.fRewrite.getD u []) ∧ A9 (t.fRewrite.getD u []) (m.fBase.getD t.fFrom.toNat 0) = some (KD m t u) := by
 have hT := L0 (hp.tab t (lM ht))
 obtain ⟨h1, h2, h3⟩ := Tf hp hm ht hs h
 have hl := hT.reL h4
 have e : t.fRewrite[u]? = some (t.fRewrite.getD u []) := by rw [lD]; simp [show u < t.fRewrite.length from by omega]
 have hr := hT.reR _ (lM e)
 have hb := hm.b0 t.fFrom.toNat h3
 refine ⟨by rw [A5, e], ?_⟩
 unfold KD
 obtain ⟨b, hb'⟩ := Int.eq_ofNat_of_zero_le hb.1
 rw [hb'] at hb ⊢
 rw [Int.toNat_natCast]
 exact Di (by omega)
theorem Oh (N : Nat) (hN : N ≤ 1000000) (h20 : 100 ≤ N) (hp : Bl p) (hm : Bv p m) (ht : p.fTables[i]? = some t) :
  Gn N p m (i : Int) = some (if Cd t = false ∨ m.fHeld.getD i 0 = Gy m t.fFrom.toNat ∨ HL p m i t = true then (false, m.fHeld) else (true, m.fHeld.set i (Gy m t.fFrom.toNat))) := by
 have hi := (lI.1 ht).1
 have hin := If (hp.tab t (lM ht))
 have hb := hm.base
 have hnx := hm.next
 have hh := hm.held
 have hr := HC hp hm.toMixServ (s := t.fFrom.toNat) (by omega)
 have hrg := hm.range i hi
 have eh : A9 m.fHeld (i : Int) = some (m.fHeld.getD i 0) := Di (by omega)
 unfold Gn
 simp only [A6, A5, ht, oS, J4]
 have eh' : m.fHeld[i]? = some (m.fHeld.getD i 0) := by rw [← A5, eh]
 cases hs : Cd t
 ·rw [Bool.not_false, AO, if_pos (.inl rfl)]
 ·rw [Bool.not_true, Au, QM N m _ hin.1 (by omega) (by omega) (hm.b0 _ (by omega)).1]
  simp only [oS, eh']
  by_cases h1 : m.fHeld.getD i 0 = Gy m t.fFrom.toNat
  ·rw [beq_iff_eq.2 h1, AO, AO, if_pos (.inr (.inl h1))]
  ·rw [beq_eq_false_iff_ne.2 h1, Au]
   by_cases h4 : t.fKind = 4
   ·rw [beq_iff_eq.2 h4, AO, EG (d := 0) hin.1 (by omega)]
    simp only [oS]
    obtain ⟨a1, a2, a3⟩ := Rx hrg hr.2
    obtain ⟨w, hw⟩ := Int.eq_ofNat_of_zero_le a2
    unfold Fw
    rw [hw] at a1 a3 ⊢
    rw [Q8 N t _ (KD m t) 8 N w (Xv _) (by omega) (by omega) (fun u hu hbu => by
     have := a1 u; rw [hbu] at this
     exact ⟨_, TL hp hm ht hs h4 (Bool.and_eq_true_iff.1 this.symm).1⟩)]
    simp only [oS]
    have e : (!(List.range 8).all fun u => !DJ (w : Int) u || KD m t u) = HL p m i t := by
     unfold HL
     rw [beq_iff_eq.2 h4, Bool.true_and, List.not_all_eq_any_not]
     congr 1
     funext u
     rw [a1 u, hr.1 u]
     unfold NK
     cases DJ (m.fHeld.getD i 0) u <;> cases HX m t.fFrom.toNat u <;> cases KD m t u <;> rfl
    rw [e]
    cases hst : HL p m i t
    ·rw [Au, if_neg (by rintro (h | h | h); cases h; exact h1 h; cases h)]; rfl
    ·rw [AO, if_pos (.inr (.inr rfl))]
   ·have e : HL p m i t = false := by unfold HL; rw [beq_eq_false_iff_ne.2 h4]; rfl
    rw [beq_eq_false_iff_ne.2 h4, Au, Au, e, if_neg (by rintro (h | h | h); cases h; exact h1 h; cases h)]; rfl
theorem N6 (N : Nat) (hN : N ≤ 1000000) (h20 : 100 ≤ N) (hp : Bl p) (hm : Bv p m) (ht : p.fTables[i]? = some t) (hs : Cd t = true) (s : Ak) (hsi : s.fIndex = (i : Int)) (j : Option (Ae × Bool)) :
  BG N p m s t (Gy m t.fFrom.toNat) (fun _ => j) N 0 = if HL p m i t = true then some (GS, false) else j := by
 have hi := (lI.1 ht).1
 have hin := If (hp.tab t (lM ht))
 have hb := hm.base
 have hh := hm.held
 have hr := HC hp hm.toMixServ (s := t.fFrom.toNat) (by omega)
 have hrg := hm.range i hi
 have hver := HP hp (i := t.fFrom.toNat) (by omega)
 obtain ⟨nv, hnv⟩ := Int.eq_ofNat_of_zero_le (show 0 ≤ p.fVersions.getD t.fFrom.toNat 0 by omega)
 have eh' : m.fHeld[i]? = some (m.fHeld.getD i 0) := by rw [lD]; simp [show i < m.fHeld.length from by omega]
 have := Dr (BG N p m s t (Gy m t.fFrom.toNat) fun _ => j) (List.range nv) j (fun u _ => if (NK m i t u && (t.fKind == 4 && !KD m t u)) = true then some (GS, false) else none)
  (fun n u x hx => by
   have hu : u < nv := by
    have := (lI.1 hx).1
    simpa using this
   rw [BG, EG (d := 0) hin.1 (by omega), hnv]
   simp only [oS]
   rw [AC (by omega)]
   simp only [A6, hsi, A5, eh', oS]
   rw [TE N hrg (by omega), AS (by omega)]
   simp only [oS]
   cases h1 : DJ (m.fHeld.getD i 0) u
   ·have e : NK m i t u = false := by unfold NK; rw [h1]; rfl
    rw [Au, Au, Au, e]; rfl
   ·rw [AO, TE N hr.2 (by omega), hr.1 u]
    simp only [oS]
    have e : NK m i t u = !HX m t.fFrom.toNat u := by unfold NK; rw [h1]; rfl
    rw [← e]
    cases h2 : NK m i t u
    ·rw [Au, Au]; rfl
    ·rw [AO]
     by_cases h4 : t.fKind = 4
     ·obtain ⟨e1, e2⟩ := TL hp hm ht hs h4 h1
      rw [A5] at e1
      rw [beq_iff_eq.2 h4, AO, e1, EG (d := 0) hin.1 (by omega)]
      simp only [oS]
      rw [e2]
      simp only [oS]
      cases KD m t u <;> rfl
     ·rw [beq_eq_false_iff_ne.2 h4, Au, Au]; rfl)
  (fun n => by
   rw [BG, EG (d := 0) hin.1 (by omega), hnv]
   simp only [oS, List.length_range]
   rw [AB (by omega)]) N 0 (Nat.zero_le _) (by simp; omega)
 have e0 : BG N p m s t (Gy m t.fFrom.toNat) (fun _ => j) N 0 = _ := this
 rw [e0, List.drop_zero]
 by_cases hst : HL p m i t = true
 ·rw [if_pos hst]
  unfold HL at hst
  rw [Bool.and_eq_true, List.any_eq_true] at hst
  obtain ⟨h4, u, hu, h5⟩ := hst
  rw [Bool.and_eq_true] at h5
  have h6 : DJ (m.fHeld.getD i 0) u = true := by have := h5.1; unfold NK at this; exact (Bool.and_eq_true_iff.1 this).1
  have h7 := Tf hp hm ht hs h6
  cases hsc : DX (fun u (_ : Nat) => if (NK m i t u && (t.fKind == 4 && !KD m t u)) = true then some (GS, false) else none) 0 (List.range nv) with
  | some r =>
   obtain ⟨q, x, hx, hf⟩ := FI hsc
   split at hf
   ·cases hf; rfl
   ·cases hf
  | none =>
   exfalso
   have hx : (List.range nv)[u]? = some u := List.getElem?_range (by omega)
   have := GY hsc u u hx
   rw [Nat.zero_add, h5.1, h4, h5.2] at this
   cases this
 ·rw [if_neg hst]
  have : DX (fun u (_ : Nat) => if (NK m i t u && (t.fKind == 4 && !KD m t u)) = true then some (GS, false) else none) 0 (List.range nv) = none := E2 fun q x hx => by
   rw [Nat.zero_add]
   split
   ·rename_i h5
    exfalso; apply hst
    rw [Bool.and_eq_true, Bool.and_eq_true] at h5
    unfold HL
    rw [h5.2.1, Bool.true_and, List.any_eq_true]
    have hq : q < nv := by
     have := (lI.1 hx).1
     simpa using this
    exact ⟨q, List.mem_range.2 (by omega), by rw [h5.1, h5.2.2]; rfl⟩
   ·rfl
  rw [this]; rfl
end clear
end Go.Lift
namespace Go.Lift
open Option renaming bind_some → oS
open List renaming mem_of_getElem? → lM
open Go
theorem H5 {s : Ak} (h : GW s = true) : 1 ≤ s.fKind ∧ s.fKind ≤ 4 ∧ 0 ≤ s.fIndex ∧ 0 ≤ s.fVersion ∧ (s.fKind ≠ 1 → s.fVersion = 0) := by
 unfold GW at h
 rw [Bool.and_eq_true, decide_eq_true_iff, Bool.or_eq_true, beq_iff_eq, beq_iff_eq] at h
 exact ⟨h.1.1, h.1.2.1, h.1.2.2.1, h.1.2.2.2, fun hk => h.2.elim (fun e => (hk e).elim) id⟩
theorem I6 {p : Ag} {s : Ak} (h : FR p s = true) : (s.fKind = 3 → s.fIndex < (p.fTables.length : Int)) ∧ (s.fKind ≠ 3 → s.fIndex < (p.fVersions.length : Int)) ∧ (s.fKind = 1 → s.fVersion < p.fVersions.getD s.fIndex.toNat 0) := by
 unfold FR at h
 split at h
 ·rename_i hk
  rw [decide_eq_true_iff] at h
  exact ⟨fun _ => h, fun hn => (hn hk).elim, fun h1 => by omega⟩
 ·rename_i hk
  rw [Bool.and_eq_true, decide_eq_true_iff, Bool.or_eq_true, decide_eq_true_iff, bne_iff_ne] at h
  exact ⟨fun h3 => (hk h3).elim, fun _ => h.1, fun h1 => h.2.elim (fun hn => (hn h1).elim) id⟩
theorem SC (N : Nat) {p : Ag} {m : Ae} (hp : Bl p) (hm : Bv p m) : Fp N m = some m := by
 have hnv := hp.nv
 have hnt := hp.nt
 have h1 := hm.base
 have h2 := hm.next
 have h3 := hm.held
 unfold Fp
 rw [I3 N _ (by simp only [Dy]; omega), I3 N _ (by simp only [Dy]; omega), O0 N _ (by simp only [Dy]; omega)]
 rfl
theorem Kx (N : Nat) (hN : N ≤ 1000000) (h20 : 100 ≤ N) {p : Ag} {m : Ae} (hp : Bl p) (hm : Bv p m) {s : Ak} (hv : GW s = true) (hx : FR p s = true) :
  ∃ o, Ff N p m s = some (o, (FM p m s).isSome) ∧ ∀ x, FM p m s = some x → o = x := by
 obtain ⟨k1, k4, i0, v0, vk⟩ := H5 hv
 obtain ⟨x3, xn, x1⟩ := I6 hx
 have hnv := hp.nv
 have hnt := hp.nt
 have hb := hm.base
 have hn := hm.next
 have hh := hm.held
 obtain ⟨i, hi⟩ := Int.eq_ofNat_of_zero_le i0
 unfold Ff FM
 rw [SC N hp hm]
 simp only [oS, A6]
 by_cases hk1 : s.fKind = 1
 ·have hi1 : (i : Int) < p.fVersions.length := by have := xn (by omega); omega
  rw [beq_iff_eq.2 hk1, AO, if_pos hk1]
  unfold Hy
  simp only [A6, hi, Int.toNat_natCast]
  rw [Di (d := 0) (show i < m.fNext.length by omega)]
  simp only [oS]
  by_cases c1 : 0 ≤ m.fNext.getD i 0
  ·rw [AC c1, AO, if_pos (.inl c1)]
   exact ⟨_, rfl, fun x hx => by cases hx⟩
  ·rw [AB c1, Di (d := 0) (show i < m.fBase.length by omega)]
   simp only [oS]
   by_cases c2 : m.fBase.getD i 0 = s.fVersion
   ·rw [beq_iff_eq.2 c2, AO, if_pos (.inr c2)]
    exact ⟨_, rfl, fun x hx => by cases hx⟩
   ·rw [beq_eq_false_iff_ne.2 c2, Au, (MI (_R := Unit) N p s m.fHeld v0 hh (by omega) hN _).1, if_neg (by rintro (h | h); exact c1 h; exact c2 h)]
    exact ⟨_, rfl, fun x hx => by cases hx; rfl⟩
 ·rw [beq_eq_false_iff_ne.2 hk1, Au, if_neg hk1]
  by_cases hk3 : s.fKind = 3
  ·have hi3 : i < p.fTables.length := by have := x3 hk3; omega
   have ht : p.fTables[i]? = some p.fTables[i] := by simp [hi3]
   rw [beq_iff_eq.2 hk3, AO, if_pos hk3, hi, Oh N hN h20 hp hm ht]
   simp only [oS, Int.toNat_natCast, ht]
   split
   ·exact ⟨_, rfl, fun x hx => by cases hx⟩
   ·exact ⟨_, rfl, fun x hx => by cases hx; rfl⟩
  ·have hi1 : (i : Int) < p.fVersions.length := by have := xn hk3; omega
   rw [beq_eq_false_iff_ne.2 hk3, Au, if_neg hk3, hi, Di (d := 0) (show i < m.fNext.length by omega)]
   simp only [oS, Int.toNat_natCast]
   by_cases c1 : m.fNext.getD i 0 < 0
   ·rw [AC c1, if_pos c1]
    exact ⟨_, rfl, fun x hx => by cases hx⟩
   ·rw [AB c1, if_neg c1]
    by_cases hk2 : s.fKind = 2
    ·rw [beq_iff_eq.2 hk2, AO, Di (d := 0) (show i < m.fBase.length by omega), if_pos hk2]
     exact ⟨_, rfl, fun x hx => by cases hx; rfl⟩
    ·rw [beq_eq_false_iff_ne.2 hk2, Au, if_neg hk2]
     exact ⟨_, rfl, fun x hx => by cases hx; rfl⟩
theorem Oo (N : Nat) (hN : N ≤ 1000000) (h20 : 100 ≤ N) {p : Ag} {m : Ae} (hp : Bl p) (hm : Bv p m) (s : Ak) : FH N p m s = some (B3 p m s) := by
 unfold FH B3
 rw [Ox]
 simp only [oS]
 cases hv : GW s
 ·rw [Bool.not_false, AO, if_pos rfl]; rfl
 ·rw [Bool.not_true, Au, if_neg (by simp), Nl N p s hv]
  simp only [oS]
  cases hx : FR p s
  ·rw [Bool.not_false, AO, if_pos rfl]; rfl
  ·rw [Bool.not_true, Au, if_neg (by simp)]
   obtain ⟨o, e, ho⟩ := Kx N hN h20 hp hm hv hx
   rw [e]
   simp only [oS]
   cases ha : FM p m s with
   | none => rfl
   | some x => rw [ho x ha]; rfl
theorem Lz (N : Nat) (hN : N ≤ 1000000) (h20 : 100 ≤ N) {p : Ag} {m : Ae} (hp : Bl p) (hm : Bv p m) {s : Ak} (hv : GW s = true) (hx : FR p s = true) :
  Cn N p m s = some (match FM p m s with | none => (GS, false) | some x => (x, true)) := by
 obtain ⟨k1, k4, i0, v0, vk⟩ := H5 hv
 obtain ⟨x3, xn, x1⟩ := I6 hx
 have hnv := hp.nv
 have hnt := hp.nt
 have hb := hm.base
 have hn := hm.next
 have hh := hm.held
 obtain ⟨i, hi⟩ := Int.eq_ofNat_of_zero_le i0
 unfold Cn FM
 rw [AA (by simp [Dy]; omega), AA (by simp [Dy]; omega), AA (by simp [Dy]; omega)]
 simp only [A6, List.nil_append]
 by_cases hk1 : s.fKind = 1
 ·have hi1 : (i : Int) < p.fVersions.length := by have := xn (by omega); omega
  rw [beq_iff_eq.2 hk1, AO, if_pos hk1]
  simp only [hi, Int.toNat_natCast]
  rw [Di (d := 0) (show i < m.fNext.length by omega)]
  simp only [oS]
  by_cases c1 : 0 ≤ m.fNext.getD i 0
  ·rw [AC c1, AO, if_pos (.inl c1)]; rfl
  ·rw [AB c1, Di (d := 0) (show i < m.fBase.length by omega)]
   simp only [oS]
   by_cases c2 : m.fBase.getD i 0 = s.fVersion
   ·rw [beq_iff_eq.2 c2.symm, AO, if_pos (.inr c2)]; rfl
   ·rw [beq_eq_false_iff_ne.2 (fun h => c2 h.symm), Au, NC N p s m.fHeld v0 hh (by omega) hN _, if_neg (by rintro (h | h); exact c1 h; exact c2 h)]
 ·rw [beq_eq_false_iff_ne.2 hk1, Au, if_neg hk1]
  by_cases hk3 : s.fKind = 3
  ·have hi3 : i < p.fTables.length := by have := x3 hk3; omega
   have ht : p.fTables[i]? = some p.fTables[i] := by simp [hi3]
   have hin := If (hp.tab _ (lM ht))
   have eh' : A9 m.fHeld (i : Int) = some (m.fHeld.getD i 0) := Di (by omega)
   rw [beq_eq_false_iff_ne.2 (show s.fKind ≠ 2 by omega), Au, beq_iff_eq.2 hk3, AO, if_pos hk3, hi, A5, ht]
   simp only [oS, Gv, Int.toNat_natCast, ht]
   cases hs : Cd p.fTables[i]
   ·rw [Bool.not_false, AO, if_pos (.inl rfl)]; rfl
   ·rw [Bool.not_true, Au, Jo N m _ hin.1 (by omega) (by omega) (hm.b0 _ (by omega)).1, eh']
    simp only [oS]
    by_cases h1 : m.fHeld.getD i 0 = Gy m (p.fTables[i]).fFrom.toNat
    ·rw [beq_iff_eq.2 h1, AO, if_pos (.inr (.inl h1))]; rfl
    ·rw [beq_eq_false_iff_ne.2 h1, Au]
     rw [N6 N hN h20 hp hm ht hs s hi]
     cases hst : HL p m i p.fTables[i]
     ·rw [if_neg (by simp), if_neg (by rintro (h | h | h); cases h; exact h1 h; cases h)]
     ·rw [if_pos rfl, if_pos (.inr (.inr rfl))]
  ·have hi1 : (i : Int) < p.fVersions.length := by have := xn hk3; omega
   rw [if_neg hk3, hi, Di (d := 0) (show i < m.fNext.length by omega)]
   simp only [oS, Int.toNat_natCast]
   by_cases hk2 : s.fKind = 2
   ·rw [beq_iff_eq.2 hk2, AO, if_pos hk2]
    by_cases c1 : m.fNext.getD i 0 < 0
    ·rw [AC c1, if_pos c1]; rfl
    ·rw [AB c1, if_neg c1, Di (d := 0) (show i < m.fBase.length by omega)]; rfl
   ·rw [beq_eq_false_iff_ne.2 hk2, Au, beq_eq_false_iff_ne.2 hk3, Au, if_neg hk2]
    by_cases c1 : m.fNext.getD i 0 < 0
    ·rw [AC c1, if_pos c1]; rfl
    ·rw [AB c1, if_neg c1]
end Go.Lift
namespace Go.Lift
open Option renaming bind_some → oS
open List renaming mem_of_getElem? → lM
open List renaming getElem?_eq_some_iff → lI
open Go
theorem QA (s : Ak) : ∀ (xs : List AI) (i : Nat) (a : List Int), i + xs.length ≤ a.length → (HV (S4 s) i xs a).length = a.length ∧ ∀ q, (HV (S4 s) i xs a).getD q 0 = match (if i ≤ q then xs[q - i]? else none) with
  | some t => if Sy s t = true then Oa .u8 (a.getD q 0) (Co .u8 1 s.fVersion) else a.getD q 0
  | none => a.getD q 0
 | [], i, a, _ => by
  refine ⟨rfl, fun q => ?_⟩
  split
  ·rename_i h; split at h
   ·simp at h
   ·cases h
  ·rfl
 | x :: xs, i, a, hl => by
  have hl' : i + (xs.length + 1) ≤ a.length := by simpa using hl
  have ha : (S4 s i x a).length = a.length := by unfold S4; split <;> simp
  obtain ⟨ih1, ih2⟩ := QA s xs (i + 1) (S4 s i x a) (by omega)
  refine ⟨by rw [HV, ih1, ha], fun q => ?_⟩
  rw [HV, ih2 q]
  have hu : (S4 s i x a).getD q 0 = if q = i ∧ Sy s x = true then Oa .u8 (a.getD q 0) (Co .u8 1 s.fVersion) else a.getD q 0 := by
   unfold S4
   by_cases hc : Sy s x = true
   ·rw [if_pos hc, In (by omega)]
    by_cases hq : q = i
    ·subst hq; rw [if_pos rfl, if_pos ⟨rfl, hc⟩]
    ·rw [if_neg hq, if_neg (fun h => hq h.1)]
   ·rw [if_neg hc, if_neg (fun h => hc h.2)]
  by_cases h1 : i + 1 ≤ q
  ·rw [if_pos h1, if_pos (show i ≤ q by omega), hu, if_neg (by omega)]
   rw [show (x :: xs)[q - i]? = xs[q - (i + 1)]? from by rw [show q - i = (q - (i + 1)) + 1 from by omega, List.getElem?_cons_succ]]
  ·rw [if_neg h1]
   by_cases h2 : q = i
   ·subst h2
    rw [if_pos (Nat.le_refl _), Nat.sub_self, hu]
    simp
   ·rw [if_neg (show ¬ i ≤ q by omega), hu, if_neg (by omega)]
theorem SB {p : Ag} {s : Ak} {held : List Int} (hl : held.length = p.fTables.length) : (H8 p s held).length = p.fTables.length ∧ ∀ q t, p.fTables[q]? = some t → (H8 p s held).getD q 0 = if Sy s t = true then Oa .u8 (held.getD q 0) (Co .u8 1 s.fVersion) else held.getD q 0 := by
 obtain ⟨h1, h2⟩ := QA s p.fTables 0 held (by omega)
 refine ⟨h1.trans hl, fun q t ht => ?_⟩
 have := h2 q
 rw [if_pos (Nat.zero_le _), Nat.sub_zero, ht] at this
 exact this
theorem N1 {m : Ae} {s v : Nat} : HX m s v = true ↔ m.fBase.getD s 0 = (v : Int) ∨ m.fNext.getD s 0 = (v : Int) := by
 unfold HX; rw [Bool.or_eq_true, decide_eq_true_iff, decide_eq_true_iff]
theorem TS {p : Ag} {m x : Ae} (hp : Bl p) (hm : Bv p m) {s : Ak} (hv : GW s = true) (hx : FR p s = true) (h : FM p m s = some x) : Bv p x := by
 obtain ⟨k1, k4, i0, v0, vk⟩ := H5 hv
 obtain ⟨x3, xn, x1⟩ := I6 hx
 obtain ⟨i, hi⟩ := Int.eq_ofNat_of_zero_le i0
 have hb := hm.base
 have hn := hm.next
 have hh := hm.held
 unfold FM at h
 simp only [hi, Int.toNat_natCast] at h
 rw [hi, Int.toNat_natCast] at x1
 split at h
 ·rename_i hk1
  have hi1 : i < p.fVersions.length := by have := xn (by omega); omega
  have hx1 := x1 hk1
  have hvi := HP hp hi1
  split at h
  ·cases h
  rename_i hc
  cases h
  obtain ⟨u1, u2⟩ := SB (s := s) hh
  obtain ⟨b, hbv⟩ := Int.eq_ofNat_of_zero_le v0
  have hob := Vf (b := b) (by omega)
  have hN : ∀ q, (m.fNext.set i s.fVersion).getD q 0 = if q = i then s.fVersion else m.fNext.getD q 0 := fun q => In (by omega)
  refine { base := hb, next := by simpa using hn, held := u1, b0 := hm.b0, n0 := fun q hq => ?_, ne := fun q hq => ?_, range := fun q hq => ?_, low := fun q t ht hs v hr => ?_, high := fun q t ht hs v hbit => ?_, none := fun q t ht hs => ?_ }
  ·show -1 ≤ (m.fNext.set i s.fVersion).getD q 0 ∧ (m.fNext.set i s.fVersion).getD q 0 < _
   rw [hN q]
   split
   ·rename_i e; subst e; omega
   ·exact hm.n0 q hq
  ·show m.fBase.getD q 0 ≠ (m.fNext.set i s.fVersion).getD q 0
   rw [hN q]
   split
   ·rename_i e; subst e; exact fun h => hc (.inr h)
   ·exact hm.ne q hq
  ·have ht : p.fTables[q]? = some p.fTables[q] := by simp [hq]
   show 0 ≤ (H8 p s m.fHeld).getD q 0 ∧ (H8 p s m.fHeld).getD q 0 ≤ 255
   rw [u2 q _ ht, hbv]
   split
   ·exact (Rn (hm.range q hq) hob.2).2
   ·exact hm.range q hq
  ·have hq := (lI.1 ht).1
   show DJ ((H8 p s m.fHeld).getD q 0) v = true
   have hin := If (hp.tab t (lM ht))
   rw [N1] at hr
   have hr : m.fBase.getD t.fFrom.toNat 0 = (v : Int) ∨ (m.fNext.set i s.fVersion).getD t.fFrom.toNat 0 = (v : Int) := hr
   rw [hN] at hr
   rw [u2 q t ht, hbv]
   have hlow := hm.low q t ht hs v
   rw [N1] at hlow
   by_cases hf : t.fFrom.toNat = i
   ·have hup : Sy s t = true := by unfold Sy; rw [hs, Bool.and_true, beq_iff_eq, hi]; omega
    rw [if_pos hup, (Rn (hm.range q hq) hob.2).1, hob.1 v, Bool.or_eq_true, decide_eq_true_iff]
    rw [if_pos hf] at hr
    rcases hr with h | h
    ·exact .inl (hlow (.inl h))
    ·right; omega
   ·rw [if_neg hf] at hr
    have hup : Sy s t = false := by unfold Sy; rw [hs, Bool.and_true, beq_eq_false_iff_ne, hi]; omega
    rw [hup, if_neg (by simp)]
    exact hlow hr
  ·have hq := (lI.1 ht).1
   have hbit : DJ ((H8 p s m.fHeld).getD q 0) v = true := hbit
   have hin := If (hp.tab t (lM ht))
   rw [u2 q t ht, hbv] at hbit
   split at hbit
   ·rename_i hup
    rw [(Rn (hm.range q hq) hob.2).1, hob.1 v, Bool.or_eq_true, decide_eq_true_iff] at hbit
    rcases hbit with h | h
    ·exact hm.high q t ht hs v h
    ·unfold Sy at hup
     rw [hs, Bool.and_true, beq_iff_eq, hi] at hup
     rw [hup, Int.toNat_natCast]; omega
   ·exact hm.high q t ht hs v hbit
  ·show (H8 p s m.fHeld).getD q 0 = 0
   have hup : Sy s t = false := by unfold Sy; rw [hs, Bool.and_false]
   rw [u2 q t ht, hup, if_neg (by simp)]
   exact hm.none q t ht hs
 ·rename_i hk1
  split at h
  ·rename_i hk3
   have hi3 : i < p.fTables.length := by have := x3 hk3; omega
   have ht0 : p.fTables[i]? = some p.fTables[i] := by simp [hi3]
   rw [ht0] at h
   simp only at h
   split at h
   ·cases h
   rename_i hc
   cases h
   have hin0 := If (hp.tab _ (lM ht0))
   have hr0 := HC hp hm.toMixServ (s := (p.fTables[i]).fFrom.toNat) (by omega)
   have hs0 : Cd p.fTables[i] = true := by
    cases hs : Cd p.fTables[i]
    ·exact (hc (.inl hs)).elim
    ·rfl
   have hH : ∀ q, (m.fHeld.set i (Gy m (p.fTables[i]).fFrom.toNat)).getD q 0 = if q = i then Gy m (p.fTables[i]).fFrom.toNat else m.fHeld.getD q 0 := fun q => In (by omega)
   refine { base := hb, next := hn, held := by simpa using hh, b0 := hm.b0, n0 := hm.n0, ne := hm.ne, range := fun q hq => ?_, low := fun q t ht hs v hr => ?_, high := fun q t ht hs v hbit => ?_, none := fun q t ht hs => ?_ }
   ·show 0 ≤ (m.fHeld.set i (Gy m (p.fTables[i]).fFrom.toNat)).getD q 0 ∧ (m.fHeld.set i (Gy m (p.fTables[i]).fFrom.toNat)).getD q 0 ≤ 255
    rw [hH q]
    split
    ·exact hr0.2
    ·exact hm.range q hq
   ·show DJ ((m.fHeld.set i (Gy m (p.fTables[i]).fFrom.toNat)).getD q 0) v = true
    have hr : HX m t.fFrom.toNat v = true := hr
    rw [hH q]
    split
    ·rename_i e; subst e
     rw [ht0] at ht; cases ht
     rw [hr0.1]; exact hr
    ·exact hm.low q t ht hs v hr
   ·have hbit : DJ ((m.fHeld.set i (Gy m (p.fTables[i]).fFrom.toNat)).getD q 0) v = true := hbit
    rw [hH q] at hbit
    split at hbit
    ·rename_i e; subst e
     rw [ht0] at ht; cases ht
     rw [hr0.1] at hbit
     exact hm.high q _ ht0 hs0 v (hm.low q _ ht0 hs0 v hbit)
    ·exact hm.high q t ht hs v hbit
   ·show (m.fHeld.set i (Gy m (p.fTables[i]).fFrom.toNat)).getD q 0 = 0
    rw [hH q, if_neg (fun e => by subst e; rw [ht0] at ht; cases ht; rw [hs0] at hs; cases hs)]
    exact hm.none q t ht hs
  ·rename_i hk3
   have hi1 : i < p.fVersions.length := by have := xn hk3; omega
   have hvi := HP hp hi1
   split at h
   ·cases h
   rename_i hc
   cases h
   have hN : ∀ q, (m.fNext.set i (-1)).getD q 0 = if q = i then -1 else m.fNext.getD q 0 := fun q => In (by omega)
   have hB : ∀ q, (if s.fKind = 2 then m.fBase.set i (m.fNext.getD i 0) else m.fBase).getD q 0 = if s.fKind = 2 ∧ q = i then m.fNext.getD i 0 else m.fBase.getD q 0 := fun q => by
    by_cases hk2 : s.fKind = 2
    ·rw [if_pos hk2, In (by omega)]
     by_cases e : q = i
     ·rw [if_pos e, if_pos ⟨hk2, e⟩]
     ·rw [if_neg e, if_neg (fun h => e h.2)]
    ·rw [if_neg hk2, if_neg (fun h => hk2 h.1)]
   have hrun : ∀ q v, HX ⟨if s.fKind = 2 then m.fBase.set i (m.fNext.getD i 0) else m.fBase, m.fNext.set i (-1), m.fHeld⟩ q v = true → HX m q v = true := fun q v hr => by
    rw [N1] at hr ⊢
    simp only [hN q, hB q] at hr
    by_cases e : q = i
    ·subst e
     rw [if_pos rfl] at hr
     by_cases hk2 : s.fKind = 2
     ·rw [if_pos ⟨hk2, rfl⟩] at hr; omega
     ·rw [if_neg (fun h => hk2 h.1)] at hr; omega
    ·rw [if_neg e, if_neg (fun h => e h.2)] at hr; exact hr
   refine { base := by simp only; split <;> simp [hb], next := by simpa using hn, held := hh, b0 := fun q hq => ?_, n0 := fun q hq => ?_, ne := fun q hq => ?_, range := hm.range, low := fun q t ht hs v hr => hm.low q t ht hs v (hrun _ _ hr), high := hm.high, none := hm.none }
   ·simp only [hB q]
    split
    ·rename_i e; obtain ⟨_, e⟩ := e; subst e
     have := hm.n0 q hq
     omega
    ·exact hm.b0 q hq
   ·simp only [hN q]
    split
    ·rename_i e; subst e; omega
    ·exact hm.n0 q hq
   ·simp only [hB q, hN q]
    have h1 := hm.b0 q hq
    by_cases e : q = i
    ·rw [if_pos e]
     split
     ·rename_i e2; obtain ⟨_, e2⟩ := e2; subst e2; omega
     ·omega
    ·rw [if_neg e, if_neg (fun h => e h.2)]; exact hm.ne q hq
theorem Px (N : Nat) (hN : N ≤ 1000000) (h20 : 100 ≤ N) {p : Ag} {m : Ae} (hw : N8 KY m.fHeld) (s : Ak) : Ev N p m s = some (if F5 p m = 0 then B3 p m s else (GS, F5 p m)) := by
 unfold Ev B3
 rw [PI N p m hN (by omega)]
 simp only [oS, A6]
 by_cases hval : F5 p m = 0
 ·obtain ⟨hp, hm⟩ := La hw hval
  rw [if_pos hval, hval, bne_self_eq_false, Au, P4]
  simp only [oS]
  cases hv : GW s
  ·rw [Bool.not_false, AO, if_pos rfl]; rfl
  ·rw [Bool.not_true, Au, if_neg (by simp)]
   obtain ⟨k1, k4, i0, v0, vk⟩ := H5 hv
   have key : ∀ b : Bool, FR p s = b → (if b = false then (GS, (4 : Int)) else match FM p m s with | none => (GS, 11) | some x => (x, 0)) = (if b = false then (GS, (4 : Int)) else match FM p m s with | none => (GS, 11) | some x => (x, 0)) := fun _ _ => rfl
   have tail : FR p s = true → ((Cn N p m s).bind fun v15 => AV (!v15.2) (some (Ae.mk [] [] [], (11 : Int))) (some (v15.1, 0))) = some (match FM p m s with | none => (GS, 11) | some x => (x, 0)) := fun hx => by
    rw [Lz N hN h20 hp hm hv hx]
    cases FM p m s <;> rfl
   have zz : (Ae.mk [] [] [], (4 : Int)) = (GS, 4) := rfl
   by_cases hk3 : s.fKind = 3
   ·rw [beq_iff_eq.2 hk3, AO, show (s.fKind != 3) = false from by rw [hk3]; rfl]
    have hX : FR p s = decide (s.fIndex < (p.fTables.length : Int)) := by unfold FR; rw [if_pos hk3]
    by_cases c : (p.fTables.length : Int) ≤ s.fIndex
    ·rw [AC c, AO, hX, decide_eq_false (by omega), if_pos rfl]; rfl
    ·have hx : FR p s = true := by rw [hX, decide_eq_true (by omega)]
     rw [AB c, Au, Au, beq_eq_false_iff_ne.2 (show s.fKind ≠ 1 by omega), Au, Au, hx, if_neg (by simp)]
     exact tail hx
   ·rw [beq_eq_false_iff_ne.2 hk3, Au, bne_iff_ne.2 hk3, AO]
    have hX : FR p s = (decide (s.fIndex < (p.fVersions.length : Int)) && (s.fKind != 1 || decide (s.fVersion < p.fVersions.getD s.fIndex.toNat 0))) := by unfold FR; rw [if_neg hk3]
    by_cases c : (p.fVersions.length : Int) ≤ s.fIndex
    ·rw [decide_eq_true c, AO, hX, decide_eq_false (show ¬ s.fIndex < (p.fVersions.length : Int) by omega), Bool.false_and, if_pos rfl]; rfl
    ·rw [decide_eq_false c, Au]
     by_cases hk1 : s.fKind = 1
     ·rw [beq_iff_eq.2 hk1, AO, EG (d := 0) i0 (by omega)]
      simp only [oS]
      by_cases c2 : p.fVersions.getD s.fIndex.toNat 0 ≤ s.fVersion
      ·rw [decide_eq_true c2, AO, hX, decide_eq_false (show ¬ s.fVersion < p.fVersions.getD s.fIndex.toNat 0 by omega), show (s.fKind != 1) = false from by rw [hk1]; rfl, Bool.false_or, Bool.and_false, if_pos rfl]; rfl
      ·have hx : FR p s = true := by rw [hX, decide_eq_true (by omega), decide_eq_true (by omega), Bool.or_true]; rfl
       rw [decide_eq_false c2, Au, hx, if_neg (by simp)]
       exact tail hx
     ·have hx : FR p s = true := by rw [hX, decide_eq_true (by omega), bne_iff_ne.2 hk1]; rfl
      rw [beq_eq_false_iff_ne.2 hk1, Au, Au, hx, if_neg (by simp)]
      exact tail hx
 ·rw [if_neg hval, bne_iff_ne.2 hval, AO]; rfl
theorem Oe (N : Nat) (hN : N ≤ 1000000) (h20 : 100 ≤ N) {p : Ag} {m : Ae} (hw : N8 KY m.fHeld) (s : Ak) : Gw N p m s = some (if F5 p m = 0 then B3 p m s else (GS, F5 p m)) := by
 unfold Gw
 rw [Jc N p m hN (by omega) hw]
 simp only [oS]
 by_cases hval : F5 p m = 0
 ·obtain ⟨hp, hm⟩ := La hw hval
  rw [if_pos hval, hval, bne_self_eq_false, Au, Oo N hN h20 hp hm s]; rfl
 ·rw [if_neg hval, bne_iff_ne.2 hval, AO]; rfl
theorem Kd {p : Ag} {m : Ae} (hp : Bl p) (hm : Bv p m) {s : Ak} (h : (B3 p m s).2 = 0) : Bv p (B3 p m s).1 := by
 unfold B3 at h ⊢
 split at h
 ·cases h
 rename_i h1
 rw [if_neg h1]
 split at h
 ·cases h
 rename_i h2
 rw [if_neg h2]
 cases ha : FM p m s with
 | none => rw [ha] at h; cases h
 | some x => exact TS hp hm (by simpa using h1) (by simpa using h2) ha
end Go.Lift
namespace Go.Lift
open Go
section
variable {N : Nat} {p : Ag} {l : List Ak}
end
end Go.Lift
namespace Go.Lift
open Go
structure Xi (p : Ag) (m x : Ae) : Prop where
 base : m.fBase = x.fBase
 next : m.fNext = x.fNext
 held : ∀ i, i < p.fTables.length → ∀ v, DJ (m.fHeld.getD i 0) v = true → DJ (x.fHeld.getD i 0) v = true
theorem Xi.refl (p : Ag) (m : Ae) : Xi p m m := ⟨rfl, rfl, fun _ _ _ h => h⟩
theorem Xi.trans {p : Ag} {a b c : Ae} (h : Xi p a b) (g : Xi p b c) : Xi p a c := ⟨h.base.trans g.base, h.next.trans g.next, fun i hi v hv => g.held i hi v (h.held i hi v hv)⟩
end Go.Lift
namespace Go.Lift
open IntKind renaming wrap → wI
open Go
def FX (m : Ae) (i : Nat) (b : Int) : List Int := [wI .u8 b, wI .u8 (wI .i64 (m.fNext.getD i 0 + 1))]
def Kg (m : Ae) : List Int := CQ (FX m) 0 m.fBase ++ m.fHeld
end Go.Lift
namespace Go.Lift
open IntKind renaming wrap → wI
open List renaming getElem?_eq_some_iff → lI
open List renaming getD_eq_getElem?_getD → lD
open Go
theorem RB (xs : List Int) : ∀ b : ByteArray, (xs.foldl (fun s n => s.push (UInt8.ofNat n.toNat)) b).data.toList = b.data.toList ++ xs.map fun n => UInt8.ofNat n.toNat := by
 induction xs with
 | nil => intro b; simp
 | cons x xs ih => intro b; rw [List.foldl_cons, ih]; simp [ByteArray.push]
theorem Lw (xs : List Int) : (CD xs).data.toList = xs.map fun n => UInt8.ofNat n.toNat := by
 unfold CD
 rw [RB]; rfl
theorem WI {a b : Int} (ha : 0 ≤ a ∧ a ≤ 255) (hb : 0 ≤ b ∧ b ≤ 255) (h : UInt8.ofNat a.toNat = UInt8.ofNat b.toNat) : a = b := by
 have := congrArg UInt8.toNat h
 simp at this
 omega
theorem Nk : ∀ {xs ys : List Int}, (∀ x, x ∈ xs → 0 ≤ x ∧ x ≤ 255) → (∀ x, x ∈ ys → 0 ≤ x ∧ x ≤ 255) → (xs.map fun n => UInt8.ofNat n.toNat) = (ys.map fun n => UInt8.ofNat n.toNat) → xs = ys
 | [], [], _, _, _ => rfl
 | [], _ :: _, _, _, h => by cases h
 | _ :: _, [], _, _, h => by cases h
 | x :: xs, y :: ys, hx, hy, h => by
  rw [List.map_cons, List.map_cons, List.cons.injEq] at h
  rw [WI (hx x (by simp)) (hy y (by simp)) h.1, Nk (fun z hz => hx z (List.mem_cons_of_mem _ hz)) (fun z hz => hy z (List.mem_cons_of_mem _ hz)) h.2]
theorem Qi {xs ys : List Int} (hx : ∀ x, x ∈ xs → 0 ≤ x ∧ x ≤ 255) (hy : ∀ x, x ∈ ys → 0 ≤ x ∧ x ≤ 255) (h : (CD xs == CD ys) = true) : xs = ys := by
 rw [IQ, beq_iff_eq] at h
 have h := congrArg Array.toList h
 rw [Lw, Lw] at h
 exact Nk hx hy h
theorem PL (xs : List Int) : (CD xs == CD xs) = true := by rw [IQ]; simp
theorem OR {α β : Type} {g h : Nat → α → List β} {c : Nat} : ∀ {i : Nat} {xs ys : List α}, xs.length = ys.length → (∀ i x, (g i x).length = c) → (∀ i x, (h i x).length = c) → CQ g i xs = CQ h i ys → ∀ j x y, xs[j]? = some x → ys[j]? = some y → g (i + j) x = h (i + j) y
 | i, [], ys, _, _, _, _, j, x, y, hx, _ => by simp at hx
 | i, x :: xs, [], hl, _, _, _, _, _, _, _, _ => by simp at hl
 | i, x :: xs, y :: ys, hl, hg, hh, e, j, x', y', hx, hy => by
  rw [CQ, CQ] at e
  have e1 := List.append_inj e ((hg i x).trans (hh i y).symm)
  cases j with
  | zero => simp at hx hy; subst hx; subst hy; exact e1.1
  | succ j =>
   have := OR (i := i + 1) (by simpa using hl) hg hh e1.2 j x' y' (by simpa using hx) (by simpa using hy)
   rwa [show i + 1 + j = i + (j + 1) from by omega] at this
theorem O5 {p : Ag} {m : Ae} (_hp : Bl p) (hm : Bv p m) : ∀ x, x ∈ Kg m → 0 ≤ x ∧ x ≤ 255 := by
 intro x hx
 unfold Kg at hx
 rcases List.mem_append.1 hx with h | h
 ·obtain ⟨j, b, hb, hk⟩ := Hs.1 h
  have hw : ∀ n : Int, 0 ≤ wI .u8 n ∧ wI .u8 n ≤ 255 := fun n => by
   simp [wI, IntKind.signed, IntKind.bits]; omega
  unfold FX at hk
  rcases List.mem_cons.1 hk with e | e
  ·subst e; exact hw _
  ·rcases List.mem_cons.1 e with e | e
   ·subst e; exact hw _
   ·cases e
 ·obtain ⟨j, hj⟩ := List.mem_iff_getElem?.1 h
  have hl := (lI.1 hj).1
  have := hm.range j (by rw [← hm.held]; exact hl)
  rw [lD, hj] at this
  exact this
theorem Hx {n : Int} (h : 0 ≤ n ∧ n ≤ 255) : wI .u8 n = n := by
 simp [wI, IntKind.signed, IntKind.bits]; omega
theorem Vr {p : Ag} {m x : Ae} (hp : Bl p) (hm : Bv p m) (hx : Bv p x) (h : (CD (Kg m) == CD (Kg x)) = true) : m = x := by
 have e := Qi (O5 hp hm) (O5 hp hx) h
 unfold Kg at e
 have hbl : m.fBase.length = x.fBase.length := hm.base.trans hx.base.symm
 have hfl : ∀ y : Ae, (CQ (FX y) 0 y.fBase).length = 2 * y.fBase.length := fun y => by
  have : ∀ (i : Nat) (l : List Int), (CQ (FX y) i l).length = 2 * l.length := by
   intro i l
   induction l generalizing i with
   | nil => rfl
   | cons b l ih => rw [CQ, List.length_append, ih, List.length_cons]; simp [FX]; omega
  exact this 0 _
 obtain ⟨e1, e2⟩ := List.append_inj e (by rw [hfl, hfl, hbl])
 have key : ∀ j, j < p.fVersions.length → m.fBase.getD j 0 = x.fBase.getD j 0 ∧ m.fNext.getD j 0 = x.fNext.getD j 0 := fun j hj => by
  have h1 : m.fBase[j]? = some (m.fBase.getD j 0) := by rw [lD]; simp [hm.base, hj]
  have h2 : x.fBase[j]? = some (x.fBase.getD j 0) := by rw [lD]; simp [hx.base, hj]
  have h3 := OR (c := 2) hbl (fun _ _ => by simp [FX]) (fun _ _ => by simp [FX]) e1 j _ _ h1 h2
  rw [Nat.zero_add] at h3
  have v := HP hp hj
  have b1 := hm.b0 j hj
  have b2 := hx.b0 j hj
  have n1 := hm.n0 j hj
  have n2 := hx.n0 j hj
  unfold FX at h3
  rw [CR (n := m.fNext.getD j 0 + 1) (by omega) (by omega), CR (n := x.fNext.getD j 0 + 1) (by omega) (by omega), Hx (n := m.fBase.getD j 0) (by omega), Hx (n := x.fBase.getD j 0) (by omega), Hx (n := m.fNext.getD j 0 + 1) (by omega), Hx (n := x.fNext.getD j 0 + 1) (by omega), List.cons.injEq, List.cons.injEq] at h3
  exact ⟨h3.1, by omega⟩
 have hB : m.fBase = x.fBase := GB hbl fun q hq => (key q (by rw [← hm.base]; exact hq)).1
 have hN : m.fNext = x.fNext := GB (hm.next.trans hx.next.symm) fun q hq => (key q (by rw [← hm.next]; exact hq)).2
 cases m; cases x
 simp only at hB hN e2
 rw [hB, hN, e2]
end Go.Lift
namespace Go.Lift
open Option renaming bind_some → oS
open List renaming mem_of_getElem? → lM
open List renaming getElem?_eq_some_iff → lI
open Go
def IL (i : Nat) (n : Int) : List Ak := (List.range n.toNat).map fun v => ⟨1, (i : Int), ((v : Nat) : Int), ⟩
def E3 (p : Ag) : List Ak := CQ IL 0 p.fVersions ++ ((List.range p.fVersions.length).map fun i => (⟨2, ((i : Nat) : Int), 0⟩ : Ak)) ++ ((List.range p.fTables.length).map fun i => (⟨3, ((i : Nat) : Int), 0⟩ : Ak))
def F3 (p : Ag) (m : Ae) : List Ak := (E3 p).filter fun s => (B3 p m s).2 == 0
theorem MM {p : Ag} (hp : Bl p) : (E3 p).length ≤ 54 := by
 have h1 : (CQ IL 0 p.fVersions).length ≤ 6 * p.fVersions.length := FG fun j x hx => by
  have := hp.ver x (lM hx)
  simp [IL]; omega
 have := hp.nv
 have := hp.nt
 unfold E3
 simp only [List.length_append, List.length_map, List.length_range]
 omega
theorem QU (N : Nat) (hN : N ≤ 1000000) (h20 : 100 ≤ N) {p : Ag} (hp : Bl p) : HE N p = some (E3 p) := by
 have hnv := hp.nv
 have hnt := hp.nt
 unfold HE
 have l1 := Ge (CZ N p fun v2 => Ck N p (fun v10 => Bw N p (fun v14 => some v14) N (v10, 0)) N (v2, 0)) (fun a i => (a, i)) p.fVersions (fun v2 => Ck N p (fun v10 => Bw N p (fun v14 => some v14) N (v10, 0)) N (v2, 0)) IL 6 100
  (fun i x hx => by have := hp.ver x (lM hx); simp [IL]; omega)
  (fun n i x a hx hl => by
   have hi := (lI.1 hx).1
   have hx6 := hp.ver x (lM hx)
   obtain ⟨k, hk⟩ := Int.eq_ofNat_of_zero_le (show 0 ≤ x by omega)
   rw [CZ, AC (by simp only; omega)]
   simp only [A5, hx, oS, AS (show i < 1000000 by omega)]
   subst hk
   obtain ⟨a', e, ha⟩ := EU (Ep N (a, (i : Int)) (k : Int) fun v6 => CZ N p (fun v2 => Ck N p (fun v10 => Bw N p (fun v14 => some v14) N (v10, 0)) N (v2, 0)) n (v6, ((i + 1 : Nat) : Int))) (fun b v => (b, v)) k (fun v6 => CZ N p (fun v2 => Ck N p (fun v10 => Bw N p (fun v14 => some v14) N (v10, 0)) N (v2, 0)) n (v6, ((i + 1 : Nat) : Int)))
    (fun v b => b = a ++ (List.range v).map fun v => (⟨1, (i : Int), ((v : Nat) : Int)⟩ : Ak))
    (fun n v b hv hb => by
     subst hb
     rw [Ep, AC (by simp only; omega), AA (by simp [Dy]; simp [IL] at hl; omega), AS (by omega)]
     exact ⟨_, rfl, by rw [List.range_succ, List.map_append, List.append_assoc]; rfl⟩)
    (fun n b hb => by rw [Ep, AB (by simp)]) N 0 a (Nat.zero_le _) (by omega) (by simp)
   have e' : Ep N (a, (i : Int)) (k : Int) (fun v6 => CZ N p (fun v2 => Ck N p (fun v10 => Bw N p (fun v14 => some v14) N (v10, 0)) N (v2, 0)) n (v6, ((i + 1 : Nat) : Int))) N (a, 0) = _ := e
   rw [e', ha]; rfl)
  (fun n a => by rw [CZ, AB (by simp)]) N [] (by omega) (by simp; omega)
 have l1' : CZ N p (fun v2 => Ck N p (fun v10 => Bw N p (fun v14 => some v14) N (v10, 0)) N (v2, 0)) N (([] : List Ak), 0) = _ := l1
 rw [l1', List.nil_append]
 have hA : (CQ IL 0 p.fVersions).length ≤ 6 * p.fVersions.length := FG fun j x hx => by
  have := hp.ver x (lM hx)
  simp [IL]; omega
 generalize hAe : CQ IL 0 p.fVersions = A at hA
 obtain ⟨b', e2, hb⟩ := EU (Ck N p fun v10 => Bw N p (fun v14 => some v14) N (v10, 0)) (fun b v => (b, v)) p.fVersions.length (fun v10 => Bw N p (fun v14 => some v14) N (v10, 0))
  (fun v b => b = A ++ (List.range v).map fun i => (⟨2, ((i : Nat) : Int), 0⟩ : Ak))
  (fun n v b hv hb => by
   subst hb
   rw [Ck, AC (by simp only; omega), AA (by simp [Dy]; omega), AS (by omega)]
   exact ⟨_, rfl, by rw [List.range_succ, List.map_append, List.append_assoc]; rfl⟩)
  (fun n b hb => by rw [Ck, AB (by simp)]) N 0 A (Nat.zero_le _) (by omega) (by simp)
 have e2' : Ck N p (fun v10 => Bw N p (fun v14 => some v14) N (v10, 0)) N (A, 0) = _ := e2
 rw [e2', hb]
 generalize hBe : A ++ (List.range p.fVersions.length).map (fun i => (⟨2, ((i : Nat) : Int), 0⟩ : Ak)) = B
 have hB : B.length ≤ 50 := by rw [← hBe]; simp; omega
 obtain ⟨c', e3, hc⟩ := EU (Bw N p fun v14 => some v14) (fun b v => (b, v)) p.fTables.length (fun v14 => some v14)
  (fun v b => b = B ++ (List.range v).map fun i => (⟨3, ((i : Nat) : Int), 0⟩ : Ak))
  (fun n v b hv hb => by
   subst hb
   rw [Bw, AC (by simp only; omega), AA (by simp [Dy]; omega), AS (by omega)]
   exact ⟨_, rfl, by rw [List.range_succ, List.map_append, List.append_assoc]; rfl⟩)
  (fun n b hb => by rw [Bw, AB (by simp)]) N 0 B (Nat.zero_le _) (by omega) (by simp)
 have e3' : Bw N p (fun v14 => some v14) N (B, 0) = _ := e3
 rw [e3', hc, ← hBe, ← hAe]; rfl
end Go.Lift
namespace Go.Lift
open Option renaming bind_some → oS
open List renaming mem_of_getElem? → lM
open List renaming getElem?_eq_some_iff → lI
open List renaming getD_eq_getElem?_getD → lD
open Go
theorem L8 {p : Ag} (hp : Bl p) {s : Ak} (h : s ∈ E3 p) : GW s = true ∧ FR p s = true := by
 have hnv := hp.nv
 unfold E3 at h
 rcases List.mem_append.1 h with h | h
 ·rcases List.mem_append.1 h with h | h
  ·obtain ⟨j, x, hx, hk⟩ := Hs.1 h
   rw [Nat.zero_add] at hk
   unfold IL at hk
   obtain ⟨v, hv, rfl⟩ := List.mem_map.1 hk
   have hx6 := hp.ver x (lM hx)
   have hv := List.mem_range.1 hv
   have hj := (lI.1 hx).1
   refine ⟨by unfold GW; simp, ?_⟩
   unfold FR
   have e : p.fVersions.getD j 0 = x := by rw [lD, hx]; rfl
   simp only
   rw [if_neg (by omega), decide_eq_true (by omega), Int.toNat_natCast, e, decide_eq_true (by omega), Bool.or_true]; rfl
  ·obtain ⟨v, hv, rfl⟩ := List.mem_map.1 h
   have hv := List.mem_range.1 hv
   refine ⟨by unfold GW; simp, ?_⟩
   unfold FR
   simp only
   rw [if_neg (by omega), decide_eq_true (by omega)]; rfl
 ·obtain ⟨v, hv, rfl⟩ := List.mem_map.1 h
  have hv := List.mem_range.1 hv
  refine ⟨by unfold GW; simp, ?_⟩
  unfold FR
  simp only
  rw [if_pos trivial, decide_eq_true (by omega)]
theorem TB {p : Ag} {m : Ae} {s : Ak} (hv : GW s = true) (hx : FR p s = true) : ((B3 p m s).2 == 0) = (FM p m s).isSome := by
 unfold B3
 rw [hv, hx, if_neg (by simp), if_neg (by simp)]
 cases FM p m s <;> rfl
theorem Qg (N : Nat) (hN : N ≤ 1000000) (h20 : 100 ≤ N) {p : Ag} {m : Ae} (hp : Bl p) (hm : Bv p m) {s : Ak} (h : s ∈ E3 p) :
  Dl N s p.fVersions p.fNow p.fTarget p.fTables m.fBase m.fNext m.fHeld = some (!((B3 p m s).2 == 0)) := by
 obtain ⟨hv, hx⟩ := L8 hp h
 unfold Dl
 obtain ⟨o, e, _⟩ := Kx N hN h20 hp hm hv hx
 have e' : Ff N ⟨p.fVersions, p.fNow, p.fTarget, p.fTables⟩ ⟨m.fBase, m.fNext, m.fHeld⟩ s = some (o, (FM p m s).isSome) := e
 rw [e', TB hv hx]; rfl
theorem Ro (N : Nat) (hN : N ≤ 1000000) (a : List Ak) (f : Ak → Option Bool) (g : Ak → Bool) (h : a.length < N) (hf : ∀ x, x ∈ a → f x = some (g x)) :
  BJ N a f = some ((DX (fun i x => if g x = true then some (i : Int) else none) 0 a).getD (-1)) := by
 unfold BJ
 have := Dr (A8 N a f fun _ => some (-1)) a (some (-1)) (fun i x => if g x = true then some (i : Int) else none)
  (fun n i x hx => by
   have hi := (lI.1 hx).1
   rw [A8, AC (by omega), A5, hx]
   simp only [oS]
   rw [hf x (lM hx), AS (by omega)]
   simp only [oS]
   cases g x <;> rfl)
  (fun n => by rw [A8, AB (by simp)]) N 0 (Nat.zero_le _) (by omega)
 refine this.trans ?_
 rw [List.drop_zero]
 cases DX (fun i x => if g x = true then some (i : Int) else none) 0 a <;> rfl
theorem Od {α : Type} {l : List α} {i : Nat} {v : α} (h : i < l.length) : (l.set i v).take (i + 1) = l.take i ++ [v] := by
 rw [List.take_add_one, List.take_set_of_le (Nat.le_refl i)]
 congr 1
 simp [h]
theorem Ql (N : Nat) (hN : N ≤ 1000000) (a : List Ak) (f : Ak → Option Bool) (g : Ak → Bool) (h : a.length < N) (h9 : a.length ≤ 1000) (hf : ∀ x, x ∈ a → f x = some (g x)) :
  ∃ X n, BI N a f = some (n, X) ∧ n ≤ X.length ∧ X.take n = a.filter fun x => !g x := by
 unfold BI
 rw [Ro N hN a f g h hf]
 simp only [oS]
 cases hs : DX (fun i x => if g x = true then some (i : Int) else none) 0 a with
 | none =>
  refine ⟨a, a.length, rfl, Nat.le_refl _, ?_⟩
  rw [List.take_length]
  symm
  rw [List.filter_eq_self]
  intro x hx
  obtain ⟨j, hj⟩ := List.mem_iff_getElem?.1 hx
  have := GY hs j x hj
  cases hg : g x
  ·rfl
  ·rw [hg] at this; cases this
 | some r =>
  obtain ⟨j, x, hx, hr⟩ := FI hs
  rw [Nat.zero_add] at hr
  split at hr
  ·rename_i hg
   cases hr
   have hj := (lI.1 hx).1
   have e0 : ((some (j : Int)).getD (-1) == (-1 : Int)) = false := beq_eq_false_iff_ne.2 (by simp only [Option.getD_some]; omega)
   rw [e0, Au]
   simp only [Option.getD_some]
   rw [AS (by omega)]
   -- what lies before the first that goes is kept
   have hpre : (a.take (j + 1)).filter (fun x => !g x) = a.take j := by
    rw [List.take_add_one, hx, List.filter_append]
    have h1 : (a.take j).filter (fun x => !g x) = a.take j := by
     rw [List.filter_eq_self]
     intro y hy
     obtain ⟨q, hq⟩ := List.mem_iff_getElem?.1 hy
     have hql := (lI.1 hq).1
     simp at hql
     rw [List.getElem?_take_of_lt (by omega)] at hq
     cases hgy : g y
     ·rfl
     ·exfalso
      have : ∀ (xs : List Ak) (i j q : Nat) (y : Ak), DX (fun i x => if g x = true then some (i : Int) else none) i xs = some ((i + j : Nat) : Int) → q < j → xs[q]? = some y → g y = true → False := by
       intro xs
       induction xs with
       | nil => intro i j q y _ _ hq; simp at hq
       | cons z zs ih =>
        intro i j q y hs hqj hq hgy
        rw [GT] at hs
        cases hz : g z
        ·rw [hz] at hs
         cases q with
         | zero => simp at hq; subst hq; rw [hz] at hgy; cases hgy
         | succ q =>
          cases j with
          | zero => omega
          | succ j => exact ih (i + 1) j q y (by rw [show i + 1 + j = i + (j + 1) from by omega]; exact hs) (by omega) (by simpa using hq) hgy
        ·rw [hz] at hs
         have hs : (some (i : Int)) = some ((i + j : Nat) : Int) := hs
         have := Option.some.inj hs
         omega
      exact this a 0 j q y (by rw [Nat.zero_add]; exact hs) (by omega) hq hgy
    rw [h1]
    simp [hg]
   obtain ⟨b, e, hb⟩ := EU (A2 N f fun v4 => (DP ((0 : Int) ≤ v4.2 ∧ (v4.2).toNat ≤ v4.1.length ∧ v4.1.length ≤ v4.1.length)).bind fun _ =>
     (DP ((0 : Int) ≤ v4.2 ∧ 0 ≤ (v4.2).toNat ∧ (v4.2).toNat ≤ (H4 v4.1 ((v4.2).toNat) (List.replicate ((v4.1.length - (v4.2).toNat)) ((Ak.mk 0 0 0)))).length)).bind fun _ =>
     some ((v4.2).toNat, H4 v4.1 ((v4.2).toNat) (List.replicate ((v4.1.length - (v4.2).toNat)) ((Ak.mk 0 0 0)))))
    (fun (b : List Ak × Nat) i => (b.1, ((b.2 : Nat) : Int), i)) a.length (fun b => (DP ((0 : Int) ≤ ((b.2 : Nat) : Int) ∧ (((b.2 : Nat) : Int)).toNat ≤ b.1.length ∧ b.1.length ≤ b.1.length)).bind fun _ =>
     (DP ((0 : Int) ≤ ((b.2 : Nat) : Int) ∧ 0 ≤ (((b.2 : Nat) : Int)).toNat ∧ (((b.2 : Nat) : Int)).toNat ≤ (H4 b.1 ((((b.2 : Nat) : Int)).toNat) (List.replicate ((b.1.length - (((b.2 : Nat) : Int)).toNat)) ((Ak.mk 0 0 0)))).length)).bind fun _ =>
     some ((((b.2 : Nat) : Int)).toNat, H4 b.1 ((((b.2 : Nat) : Int)).toNat) (List.replicate ((b.1.length - (((b.2 : Nat) : Int)).toNat)) ((Ak.mk 0 0 0)))))
    (fun i b => b.1.length = a.length ∧ b.2 ≤ i ∧ b.1.drop i = a.drop i ∧ b.1.take b.2 = (a.take i).filter fun x => !g x)
    (fun n i b hi hb => by
     obtain ⟨b1, b2, b3, b4⟩ := hb
     rw [A2, AC (by simp only; omega)]
     have hai : a[i]? = some a[i] := by simp [hi]
     have hbi : b.1[i]? = some a[i] := by
      have := congrArg (fun l => l[0]?) b3
      simp only [List.getElem?_drop, Nat.add_zero] at this
      rw [this, hai]
     simp only [A6, A5, hbi, oS]
     rw [hf a[i] (List.getElem_mem hi), AS (i := i) (by omega)]
     simp only [oS]
     have hnext : b.1.drop (i + 1) = a.drop (i + 1) := by
      have := congrArg (List.drop 1) b3
      rwa [List.drop_drop, List.drop_drop] at this
     cases hgi : g a[i]
     ·rw [Bool.not_false, AO]
      have hbj : b.1[b.2]? = some b.1[b.2] := by simp [show b.2 < b.1.length from by omega]
      rw [hbj, AS (i := b.2) (by omega)]
      refine ⟨(b.1.set b.2 a[i], b.2 + 1), rfl, by simpa using b1, by simp only; omega, ?_, ?_⟩
      ·simp only
       rw [List.drop_set_of_lt (by omega), hnext]
      ·simp only
       rw [Od (by omega), b4, List.take_add_one, hai, List.filter_append]
       simp [hgi]
     ·rw [Bool.not_true, Au]
      refine ⟨b, rfl, b1, by omega, hnext, ?_⟩
      rw [b4, List.take_add_one, hai, List.filter_append]
      simp [hgi])
    (fun n b hb => by rw [A2, AB (by simp [hb.1])]) N (j + 1) (a, j) (by omega) (by omega) ⟨rfl, by simp only; omega, rfl, hpre.symm⟩
   obtain ⟨b1, b2, b3, b4⟩ := hb
   have e' : A2 N f (fun v4 => (DP ((0 : Int) ≤ v4.2 ∧ (v4.2).toNat ≤ v4.1.length ∧ v4.1.length ≤ v4.1.length)).bind fun _ =>
     (DP ((0 : Int) ≤ v4.2 ∧ 0 ≤ (v4.2).toNat ∧ (v4.2).toNat ≤ (H4 v4.1 ((v4.2).toNat) (List.replicate ((v4.1.length - (v4.2).toNat)) ((Ak.mk 0 0 0)))).length)).bind fun _ =>
     some ((v4.2).toNat, H4 v4.1 ((v4.2).toNat) (List.replicate ((v4.1.length - (v4.2).toNat)) ((Ak.mk 0 0 0))))) N (a, (j : Int), ((j + 1 : Nat) : Int)) = _ := e
   rw [e']
   have hsl : (H4 b.1 b.2 (List.replicate (b.1.length - b.2) (Ak.mk 0 0 0))).length = b.1.length := Ia (by rw [List.length_replicate]; omega)
   simp only [Int.toNat_natCast]
   rw [AA ⟨by omega, by omega, Nat.le_refl _⟩, AA ⟨by omega, by omega, by rw [hsl]; omega⟩]
   refine ⟨_, _, rfl, by rw [hsl]; omega, ?_⟩
   unfold H4
   rw [List.append_assoc, List.take_append_of_le_length (by simp; omega), List.take_take, Nat.min_self, b4, List.take_length]
  ·cases hr
theorem RJ (N : Nat) (hN : N ≤ 1000000) (h20 : 100 ≤ N) {p : Ag} {m : Ae} (hv : CK p = 0) (hm : Bv p m) : FC N p m = some (F3 p m, 0) := by
 obtain ⟨hp, _⟩ := Dj hv
 unfold FC
 rw [Jc N p m hN (by omega) (Lv hm), JK hv hm]
 simp only [oS, bne_self_eq_false, Au]
 rw [QU N hN h20 hp]
 simp only [oS]
 have hl := MM hp
 obtain ⟨X, n, e, h1, h2⟩ := Ql N hN (E3 p) (fun x => Dl N x p.fVersions p.fNow p.fTarget p.fTables m.fBase m.fNext m.fHeld) (fun s => !((B3 p m s).2 == 0)) (by omega) (by omega) (fun x hx => Qg N hN h20 hp hm hx)
 rw [e]
 simp only [oS]
 rw [AA h1, h2]
 unfold F3
 simp
theorem HD {β : Type} (g : Nat → List β) : ∀ n : Nat, CQ (fun i (_ : Nat) => g i) 0 (List.range n) = (List.range n).flatMap g
 | 0 => rfl
 | n + 1 => by rw [List.range_succ, LG, HD g n, List.flatMap_append]; simp [CQ]
def UI (p : Ag) (m : Ae) (s : Ak) : Bool := (B3 p m s).2 == 0
def gS (p : Ag) (m : Ae) (k : Int) (i v : Nat) : List Ak := if UI p m ⟨k, (i : Int), (v : Int)⟩ = true then [⟨k, (i : Int), (v : Int)⟩] else []
def bS (p : Ag) (m : Ae) (k : Int) (i : Nat) : List Ak := (List.range 6).flatMap (gS p m k i)
def RO (p : Ag) : Nat := max p.fVersions.length p.fTables.length
def kS (p : Ag) (m : Ae) (k : Int) : List Ak := (List.range (RO p)).flatMap (bS p m k)
theorem JY {β : Type} (f : Nat → β) (q : β → Bool) : ∀ n : Nat, ((List.range n).flatMap fun v => if q (f v) = true then [f v] else []) = ((List.range n).map f).filter q
 | 0 => rfl
 | n + 1 => by
  rw [List.range_succ, List.flatMap_append, JY f q n, List.map_append, List.filter_append]
  cases h : q (f n) <;> simp [h]
theorem JP {β : Type} (g : Nat → List β) (a : Nat) (h : ∀ v, a ≤ v → g v = []) : ∀ n, a ≤ n → (List.range n).flatMap g = (List.range a).flatMap g
 | 0, hn => by rw [Nat.le_zero.1 hn]
 | n + 1, hn => by
  by_cases h1 : a = n + 1
  ·rw [h1]
  ·rw [List.range_succ, List.flatMap_append, JP g a h n (by omega)]
   simp [h n (by omega)]
theorem TJ (p : Ag) (m : Ae) (k : Int) (i v : Nat) : (gS p m k i v).length ≤ 1 := by unfold gS; split <;> simp
theorem T5 (p : Ag) (m : Ae) (k : Int) (i : Nat) : (bS p m k i).length ≤ 6 := by
 unfold bS
 rw [← HD]
 have := FG (g := fun i' (_ : Nat) => gS p m k i i') (c := 1) (i := 0) (xs := List.range 6) fun j x _ => TJ p m k i _
 simpa using this
theorem Wk {p : Ag} (hp : Bl p) (m : Ae) (k : Int) : (kS p m k).length ≤ 72 := by
 have h1 := hp.nv
 have h2 := hp.nt
 unfold kS
 rw [← HD]
 have := FG (g := fun i' (_ : Nat) => bS p m k i') (c := 6) (i := 0) (xs := List.range (RO p)) fun j x _ => T5 p m k _
 simp only [List.length_range] at this
 have h3 : RO p ≤ 12 := by unfold RO; omega
 omega
theorem Xa {p : Ag} {m : Ae} {s : Ak} (h : UI p m s = true) : GW s = true ∧ FR p s = true := by
 unfold UI B3 at h
 split at h
 ·cases h
 ·rename_i h1
  split at h
  ·cases h
  ·rename_i h2
   exact ⟨by simpa using h1, by simpa using h2⟩
theorem Lj {p : Ag} {m : Ae} {k : Int} {i v : Nat} (h : UI p m ⟨k, (i : Int), (v : Int)⟩ = true) : (k = 3 → i < p.fTables.length) ∧ (k ≠ 3 → i < p.fVersions.length) ∧ (k = 1 → (v : Int) < p.fVersions.getD i 0) ∧ (k ≠ 1 → v = 0) := by
 obtain ⟨h1, h2⟩ := Xa h
 obtain ⟨a1, a2, a3, a4, a5⟩ := H5 h1
 obtain ⟨b1, b2, b3⟩ := I6 h2
 simp only [Int.toNat_natCast] at *
 exact ⟨fun e => by have := b1 e; omega, fun e => by have := b2 e; omega, b3, fun e => by have := a5 e; omega⟩
theorem TM {p : Ag} (hp : Bl p) (m : Ae) : kS p m 1 ++ kS p m 2 ++ kS p m 3 = F3 p m := by
 have hnv := hp.nv
 have hnt := hp.nt
 unfold F3 E3
 rw [List.filter_append, List.filter_append]
 have e1 : kS p m 1 = (CQ IL 0 p.fVersions).filter fun s => (B3 p m s).2 == 0 := by
  unfold kS
  rw [JP (bS p m 1) p.fVersions.length (fun i hi => by
   unfold bS
   rw [List.flatMap_eq_nil_iff]
   intro v _
   unfold gS
   rw [if_neg]
   intro h
   have := (Lj h).2.1 (by decide)
   omega) (RO p) (by unfold RO; omega)]
  have e : ∀ (xs : List Int) (i : Nat), (∀ j x, xs[j]? = some x → 1 ≤ x ∧ x ≤ 6 ∧ p.fVersions.getD (i + j) 0 = x) → ((List.range xs.length).flatMap fun j => bS p m 1 (i + j)) = (CQ IL i xs).filter fun s => (B3 p m s).2 == 0 := by
   intro xs
   induction xs with
   | nil => intro i _; rfl
   | cons x xs ih =>
    intro i hx
    rw [List.length_cons, List.range_succ_eq_map, List.flatMap_cons, List.flatMap_map, CQ, List.filter_append]
    have ih' := ih (i + 1) (fun j y hy => by
     have := hx (j + 1) y (by simpa using hy)
     rw [show i + 1 + j = i + (j + 1) from by omega]; exact this)
    have hx0 := hx 0 x rfl
    rw [Nat.add_zero] at hx0
    congr 1
    ·rw [Nat.add_zero]
     unfold bS IL
     rw [JP (gS p m 1 i) x.toNat (fun v hv => by
      unfold gS
      rw [if_neg]
      intro h
      have := (Lj h).2.2.1 rfl
      rw [hx0.2.2] at this
      omega) 6 (by omega)]
     exact JY (fun v => (⟨1, (i : Int), ((v : Nat) : Int)⟩ : Ak)) (UI p m) x.toNat
    ·rw [← ih']
     congr 1
     funext j
     rw [show i + (j + 1) = i + 1 + j from by omega]
  have := e p.fVersions 0 (fun j x hx => by
   have h1 := hp.ver x (lM hx)
   refine ⟨h1.1, h1.2, ?_⟩
   rw [Nat.zero_add, lD, hx]; rfl)
  simp only [Nat.zero_add] at this
  exact this
 have e23 : ∀ (k : Int) (n : Nat), k ≠ 1 → n ≤ RO p → (∀ i v, UI p m ⟨k, ((i : Nat) : Int), ((v : Nat) : Int)⟩ = true → i < n) → kS p m k = (((List.range n).map fun i => (⟨k, ((i : Nat) : Int), 0⟩ : Ak)).filter fun s => (B3 p m s).2 == 0) := by
  intro k n hk hn hi
  unfold kS
  rw [JP (bS p m k) n (fun i hi' => by
   unfold bS
   rw [List.flatMap_eq_nil_iff]
   intro v _
   unfold gS
   rw [if_neg]
   intro h
   have := hi i v h
   omega) (RO p) hn]
  show _ = List.filter (UI p m) _
  rw [← JY (fun i => (⟨k, ((i : Nat) : Int), 0⟩ : Ak)) (UI p m) n]
  congr 1
  funext i
  unfold bS
  rw [JP (gS p m k i) 1 (fun v hv => by
   unfold gS
   rw [if_neg]
   intro h
   have := (Lj h).2.2.2 hk
   omega) 6 (by omega)]
  simp [gS]
 rw [e1, e23 2 p.fVersions.length (by decide) (by unfold RO; omega) (fun i v h => (Lj h).2.1 (by decide)), e23 3 p.fTables.length (by decide) (by unfold RO; omega) (fun i v h => (Lj h).1 rfl)]
theorem QV (a b : Nat) : SJ (a : Int) (b : Int) = ((max a b : Nat) : Int) := by
 unfold SJ
 omega
theorem Pp (N : Nat) (hN : N ≤ 1000000) (h20 : 100 ≤ N) {p : Ag} {m : Ae} (hv : CK p = 0) (hm : Bv p m) : Et N p m = some (F3 p m) := by
 obtain ⟨hp, _⟩ := Dj hv
 have hnv := hp.nv
 have hnt := hp.nt
 have hmx : RO p ≤ 12 := by unfold RO; omega
 unfold Et
 have hmix := JK hv hm
 -- one number
 have inn : ∀ (k : Int) (c0 a : List Ak) (i : Nat) (d0 : List Ak) (j : List Ak → Option (List Ak)), a.length ≤ 1000 →
   B8 N p m (c0, k) (d0, (i : Int)) j N (a, 0) = j (a ++ bS p m k i) := by
  intro k c0 a i d0 j ha
  have := Ge (B8 N p m (c0, k) (d0, (i : Int)) j) (fun a i => (a, i)) (List.range 6) j (fun v _ => gS p m k i v) 1 2000
   (fun v x _ => TJ _ _ _ _ _)
   (fun n v x a hx hl => by
    have hi := (lI.1 hx).1
    simp only [List.length_range] at hi
    rw [B8, AC (by simp only; omega)]
    simp only [A6]
    rw [Px N hN h20 (Lv hm), if_pos hmix]
    simp only [oS, AS (show v < 1000000 by omega)]
    unfold gS UI
    cases hq : (B3 p m ⟨k, (i : Int), (v : Int)⟩).2 == 0
    ·rw [Au, if_neg (by simp), List.append_nil]
    ·rw [AO, if_pos rfl, AA (by simp [Dy]; unfold gS UI at hl; rw [hq] at hl; simp at hl; omega)])
   (fun n a => by rw [B8, AB (by simp)]) N a (by simp; omega) (by simp; omega)
  rw [HD] at this
  exact this
 have mid : ∀ (k : Int) (c0 a : List Ak) (j : List Ak → Option (List Ak)), a.length ≤ 500 →
   B9 N p m (c0, k) j N (a, 0) = j (a ++ kS p m k) := by
  intro k c0 a j ha
  have := Ge (B9 N p m (c0, k) j) (fun a i => (a, i)) (List.range (RO p)) j (fun i _ => bS p m k i) 6 900
   (fun v x _ => T5 _ _ _ _)
   (fun n i x a hx hl => by
    have hi := (lI.1 hx).1
    simp only [List.length_range] at hi
    rw [B9, AC (by simp only; rw [QV]; unfold RO at hi; omega)]
    rw [inn k c0 a i a _ (by omega)]
    simp only [AS (show i < 1000000 by omega)])
   (fun n a => by rw [B9, AB (by simp [QV, RO])]) N a (by simp; omega) (by simp; omega)
  rw [HD] at this
  exact this
 have hk := Wk hp m
 have go : ∀ (k : Int) (n : Nat) (a : List Ak), k ≤ 3 → 1 ≤ k → a.length ≤ 300 → BA N p m (fun v2 => some v2) (n + 1) (a, k) = BA N p m (fun v2 => some v2) n (a ++ kS p m k, k + 1) := by
  intro k n a h1 h2 ha
  rw [BA, AC h1]
  rw [mid k a a _ (by omega), CR (by omega) (by omega)]
 obtain ⟨N', hN'⟩ : ∃ q, N = q + 4 := ⟨N - 4, by omega⟩
 have e0 : BA N p m (fun v2 => some v2) N ([], 1) = BA N p m (fun v2 => some v2) (N' + 4) ([], 1) := by rw [hN']
 rw [e0, go 1 (N' + 3) [] (by decide) (by decide) (by simp), List.nil_append]
 rw [show (1 : Int) + 1 = 2 from rfl, go 2 (N' + 2) _ (by decide) (by decide) (by have := hk 1; omega)]
 rw [show (2 : Int) + 1 = 3 from rfl, go 3 (N' + 1) _ (by decide) (by decide) (by have h1 := hk 1; have h2 := hk 2; rw [List.length_append]; omega)]
 rw [BA, AB (by simp), TM hp]
end Go.Lift
namespace Go.Lift
open List renaming mem_of_getElem? → lM
open List renaming getElem?_eq_some_iff → lI
namespace Bfs
section
variable {α σ : Type}
def code (rk : σ → Nat) (K : Nat) (w : List σ) : Nat := w.foldl (fun c s => c * K + rk s) 0
theorem Kc (rk : σ → Nat) (K : Nat) (w : List σ) (s : σ) : code rk K (w ++ [s]) = code rk K w * K + rk s := by
 simp [code]
theorem QY (rk : σ → Nat) (K : Nat) : code rk K ([] : List σ) = 0 := rfl
def YF (rk : σ → Nat) (K : Nat) (w : List σ) : Prop := ∀ s, s ∈ w → 1 ≤ rk s ∧ rk s ≤ K
theorem YF.snoc {rk : σ → Nat} {K : Nat} {w : List σ} {s : σ} (h : YF rk K w) (hs : 1 ≤ rk s ∧ rk s ≤ K) : YF rk K (w ++ [s]) := by
 intro x hx; rcases List.mem_append.1 hx with h1 | h1
 ·exact h x h1
 ·rw [List.mem_singleton.1 h1]; exact hs
theorem RU {c d K a b : Nat} (h : c < d) (_ : 1 ≤ b) (ha : a ≤ K) : c * K + a < d * K + b := by
 have : c * K + K ≤ d * K := by rw [← Nat.succ_mul]; exact Nat.mul_le_mul_right K h
 omega
abbrev Nd (α σ : Type) := α × Int × σ
def put [DecidableEq α] (i : Nat) (l : List (Nd α σ)) (q : σ × α) : List (Nd α σ) := if (l.any fun n => decide (n.1 = q.2)) = true then l else l ++ [(q.2, (i : Int), q.1)]
def inner [DecidableEq α] (most i : Nat) : List (σ × α) → List (Nd α σ) → Option (List (Nd α σ))
 | [], l => some l
 | q :: qs, l => if most < (put i l q).length then none else inner most i qs (put i l q)
def go [DecidableEq α] (nxt : α → List (σ × α)) (most : Nat) : Nat → Nat → List (Nd α σ) → Option (List (Nd α σ))
 | 0, _, _ => none
 | n + 1, i, l => match l[i]? with
  | none => some l
  | some nd => (inner most i (nxt nd.1) l).bind fun l' => go nxt most n (i + 1) l'
structure Inv (nxt : α → List (σ × α)) (rk : σ → Nat) (K : Nat) (root : α) (i : Nat) (done : List (σ × α)) (l : List (Nd α σ)) (ws : List (List σ)) : Prop where
 len : ws.length = l.length
 root : ∃ s, l[0]? = some (root, -1, s)
 root' : ws[0]? = some []
 par : ∀ (k : Nat) x f s, 0 < k → l[k]? = some (x, f, s) → ∃ (j : Nat) (y : α) (g : Int) (t : σ) (w : List σ), f = (j : Int) ∧ j < k ∧ l[j]? = some (y, g, t) ∧ (s, x) ∈ nxt y ∧ ws[j]? = some w ∧ ws[k]? = some (w ++ [s]) ∧ (j < i ∨ (j = i ∧ (s, x) ∈ done))
 nodup : ∀ (a b : Nat) x f s g t, l[a]? = some (x, f, s) → l[b]? = some (x, g, t) → a = b
 inc : ∀ (a b : Nat) u w, ws[a]? = some u → ws[b]? = some w → a < b → code rk K u < code rk K w
 dig : ∀ (k : Nat) w, ws[k]? = some w → YF rk K w
 closed : ∀ (j : Nat) x f s w, l[j]? = some (x, f, s) → ws[j]? = some w → ∀ q, (j < i ∧ q ∈ nxt x) ∨ (j = i ∧ q ∈ done) → ∃ (k : Nat) (f' : Int) (s' : σ) (w' : List σ), l[k]? = some (q.2, f', s') ∧ ws[k]? = some w' ∧ code rk K w' ≤ code rk K (w ++ [q.1])
theorem Iw {β : Type} {l : List β} {y x : β} {k : Nat} (h : (l ++ [y])[k]? = some x) : l[k]? = some x ∨ (k = l.length ∧ x = y) := by
 rcases Nat.lt_trichotomy k l.length with h1 | h1 | h1
 ·rw [List.getElem?_append_left h1] at h; exact .inl h
 ·subst h1; simp at h; exact .inr ⟨rfl, h.symm⟩
 ·rw [List.getElem?_eq_none (by simp; omega)] at h; cases h
theorem get_app_of {β : Type} {l : List β} {y x : β} {k : Nat} (h : l[k]? = some x) : (l ++ [y])[k]? = some x := by
 rw [List.getElem?_append_left ((lI.1 h).1)]; exact h
theorem JD {β : Type} {l : List β} {y : β} : (l ++ [y])[l.length]? = some y := by simp
theorem lt_get {β : Type} {l : List β} {k : Nat} {x : β} (h : l[k]? = some x) : k < l.length := (lI.1 h).1
theorem get_ex {β : Type} {l : List β} {k : Nat} (h : k < l.length) : ∃ x, l[k]? = some x := ⟨l[k], List.getElem?_eq_getElem h⟩
theorem UM [DecidableEq α] {nxt : α → List (σ × α)} {rk : σ → Nat} {K : Nat} {root : α} {i : Nat} {done : List (σ × α)} {l : List (Nd α σ)} {ws : List (List σ)} {x : α} {f : Int} {s : σ} {q : σ × α}
  (hI : Inv nxt rk K root i done l ws) (hx : l[i]? = some (x, f, s)) (hq : q ∈ nxt x) (hd : ∀ r, r ∈ done → rk r.1 < rk q.1) (hr : 1 ≤ rk q.1 ∧ rk q.1 ≤ K) :
  ∃ ws', Inv nxt rk K root i (done ++ [q]) (put i l q) ws' ∧ (∀ (k : Nat) w, ws[k]? = some w → ws'[k]? = some w) ∧ (∀ (k : Nat) n, l[k]? = some n → (put i l q)[k]? = some n) := by
 obtain ⟨w0, hw0⟩ := get_ex (l := ws) (k := i) (by rw [hI.len]; exact lt_get hx)
 unfold put
 by_cases hin : (l.any fun n => decide (n.1 = q.2)) = true
 ·rw [if_pos hin]
  refine ⟨ws, ⟨hI.len, hI.root, hI.root', ?_, hI.nodup, hI.inc, hI.dig, ?_⟩, fun _ _ h => h, fun _ _ h => h⟩
  ·intro k y g t hk hy
   obtain ⟨j, y', g', t', w, h1, h2, h3, h4, h5, h6, h7⟩ := hI.par k y g t hk hy
   exact ⟨j, y', g', t', w, h1, h2, h3, h4, h5, h6, h7.imp id fun h => ⟨h.1, List.mem_append_left _ h.2⟩⟩
  ·intro j y g t w hy hw r hr'
   by_cases hold : (j < i ∧ r ∈ nxt y) ∨ (j = i ∧ r ∈ done)
   ·exact hI.closed j y g t w hy hw r hold
   ·have hjr : j = i ∧ r = q := by
     rcases hr' with h | ⟨h1, h2⟩
     ·exact absurd (.inl h) hold
     ·rcases List.mem_append.1 h2 with h3 | h3
      ·exact absurd (.inr ⟨h1, h3⟩) hold
      ·exact ⟨h1, List.mem_singleton.1 h3⟩
    obtain ⟨rfl, rfl⟩ := hjr
    rw [hw0] at hw; cases hw
    obtain ⟨n, hn1, hn2⟩ := List.any_eq_true.1 hin
    obtain ⟨k, hk⟩ := List.mem_iff_getElem?.1 hn1
    obtain ⟨nx, nf, ns⟩ := n
    have hn2 : nx = r.2 := of_decide_eq_true hn2
    subst hn2
    obtain ⟨wk, hwk⟩ := get_ex (l := ws) (k := k) (by rw [hI.len]; exact lt_get hk)
    refine ⟨k, nf, ns, wk, hk, hwk, ?_⟩
    rw [Kc]
    rcases Nat.eq_zero_or_pos k with rfl | hk0
    ·rw [hI.root'] at hwk; cases hwk; rw [QY]; omega
    ·obtain ⟨j', y', g', t', w, h1, h2, h3, h4, h5, h6, h7⟩ := hI.par k _ _ _ hk0 hk
     rw [h6] at hwk; cases hwk
     rw [Kc]
     have hdg : 1 ≤ rk ns ∧ rk ns ≤ K := hI.dig k _ h6 ns (by simp)
     rcases h7 with h7 | ⟨h7, h8⟩
     ·exact Nat.le_of_lt (RU (hI.inc _ _ _ _ h5 hw0 h7) hr.1 hdg.2)
     ·subst h7; rw [hw0] at h5; cases h5
      have := hd _ h8
      simp only at this; omega
 ·rw [if_neg hin]
  have hnew : ∀ (k : Nat) y g t, l[k]? = some (y, g, t) → y ≠ q.2 := fun k y g t hy e => hin (List.any_eq_true.2 ⟨_, lM hy, decide_eq_true e⟩)
  have hbig : ∀ (k : Nat) u, ws[k]? = some u → code rk K u < code rk K (w0 ++ [q.1]) := by
   intro k u hu
   rw [Kc]
   obtain ⟨⟨nx, nf, ns⟩, hk⟩ := get_ex (l := l) (k := k) (by rw [← hI.len]; exact lt_get hu)
   rcases Nat.eq_zero_or_pos k with rfl | hk0
   ·rw [hI.root'] at hu; cases hu; rw [QY]; omega
   ·obtain ⟨j', y', g', t', w, h1, h2, h3, h4, h5, h6, h7⟩ := hI.par k _ _ _ hk0 hk
    rw [h6] at hu; cases hu
    rw [Kc]
    have hdg : 1 ≤ rk ns ∧ rk ns ≤ K := hI.dig k _ h6 ns (by simp)
    rcases h7 with h7 | ⟨h7, h8⟩
    ·exact RU (hI.inc _ _ _ _ h5 hw0 h7) hr.1 hdg.2
    ·subst h7; rw [hw0] at h5; cases h5
     have := hd _ h8
     simp only at this; omega
  refine ⟨ws ++ [w0 ++ [q.1]], ⟨by simp [hI.len], ?_, get_app_of hI.root', ?_, ?_, ?_, ?_, ?_⟩, fun _ _ h => get_app_of h, fun _ _ h => get_app_of h⟩
  ·obtain ⟨s0, hs0⟩ := hI.root; exact ⟨s0, get_app_of hs0⟩
  ·intro k y g t hk hy
   rcases Iw hy with hy | ⟨hk1, hy⟩
   ·obtain ⟨j, y', g', t', w, h1, h2, h3, h4, h5, h6, h7⟩ := hI.par k y g t hk hy
    exact ⟨j, y', g', t', w, h1, h2, get_app_of h3, h4, get_app_of h5, get_app_of h6, h7.imp id fun h => ⟨h.1, List.mem_append_left _ h.2⟩⟩
   ·cases hy
    refine ⟨i, x, f, s, w0, rfl, by rw [hk1]; exact lt_get hx, get_app_of hx, hq, get_app_of hw0, by rw [hk1, ← hI.len]; exact JD, .inr ⟨rfl, by simp⟩⟩
  ·intro a b y g t g' t' ha hb
   rcases Iw ha with ha | ⟨ha1, ha⟩ <;> rcases Iw hb with hb | ⟨hb1, hb⟩
   ·exact hI.nodup a b y g t g' t' ha hb
   ·cases hb; exact absurd rfl (hnew _ _ _ _ ha)
   ·cases ha; exact absurd rfl (hnew _ _ _ _ hb)
   ·omega
  ·intro a b u w ha hb hab
   rcases Iw ha with ha | ⟨ha1, ha⟩ <;> rcases Iw hb with hb | ⟨hb1, hb⟩
   ·exact hI.inc a b u w ha hb hab
   ·rw [hb]; exact hbig _ _ ha
   ·have := lt_get hb; omega
   ·omega
  ·intro k w hw
   rcases Iw hw with hw | ⟨hw1, hw⟩
   ·exact hI.dig k w hw
   ·rw [hw]; exact (hI.dig _ _ hw0).snoc hr
  ·intro j y g t w hy hw r hr'
   rcases Iw hy with hy1 | ⟨hy1, hy2⟩
   ·have hw1 : ws[j]? = some w := by
     rcases Iw hw with h | ⟨h, _⟩
     ·exact h
     ·have := lt_get hy1; rw [← hI.len] at this; omega
    by_cases hold : (j < i ∧ r ∈ nxt y) ∨ (j = i ∧ r ∈ done)
    ·obtain ⟨k, f', s', w', h1, h2, h3⟩ := hI.closed j y g t w hy1 hw1 r hold
     exact ⟨k, f', s', w', get_app_of h1, get_app_of h2, h3⟩
    ·have hjr : j = i ∧ r = q := by
      rcases hr' with h | ⟨h1, h2⟩
      ·exact absurd (.inl h) hold
      ·rcases List.mem_append.1 h2 with h3 | h3
       ·exact absurd (.inr ⟨h1, h3⟩) hold
       ·exact ⟨h1, List.mem_singleton.1 h3⟩
     obtain ⟨rfl, rfl⟩ := hjr
     rw [hw0] at hw1; cases hw1
     exact ⟨l.length, _, _, _, JD, by rw [← hI.len]; exact JD, Nat.le_refl _⟩
   ·have := lt_get hx
    rcases hr' with h | h <;> omega
theorem Oy [DecidableEq α] {nxt : α → List (σ × α)} {rk : σ → Nat} {K : Nat} {root : α} {i most : Nat} {x : α} {f : Int} {s : σ} (hP : (nxt x).Pairwise fun a b => rk a.1 < rk b.1) (hD : ∀ q, q ∈ nxt x → 1 ≤ rk q.1 ∧ rk q.1 ≤ K) :
  ∀ (qs done : List (σ × α)) (l l' : List (Nd α σ)) (ws : List (List σ)), done ++ qs = nxt x → Inv nxt rk K root i done l ws → l[i]? = some (x, f, s) → inner most i qs l = some l' →
   ∃ ws', Inv nxt rk K root i (nxt x) l' ws' ∧ (∀ (k : Nat) w, ws[k]? = some w → ws'[k]? = some w) ∧ (∀ (k : Nat) n, l[k]? = some n → l'[k]? = some n)
 | [], done, l, l', ws, he, hI, hx, h => by
  cases h; rw [List.append_nil] at he; subst he; exact ⟨ws, hI, fun _ _ h => h, fun _ _ h => h⟩
 | q :: qs, done, l, l', ws, he, hI, hx, h => by
  have hqm : q ∈ nxt x := by rw [← he]; simp
  have hlt : ∀ r, r ∈ done → rk r.1 < rk q.1 := fun r hr => by
   rw [← he] at hP
   exact (List.pairwise_append.1 hP).2.2 r hr q (by simp)
  obtain ⟨ws1, h1, h2, h3⟩ := UM hI hx hqm hlt (hD q hqm)
  simp only [inner] at h
  split at h
  ·cases h
  ·obtain ⟨ws2, g1, g2, g3⟩ := Oy hP hD qs (done ++ [q]) _ l' ws1 (by rw [List.append_assoc]; exact he) h1 (h3 _ _ hx) h
   exact ⟨ws2, g1, fun k w hw => g2 k w (h2 k w hw), fun k n hn => g3 k n (h3 k n hn)⟩
theorem TH {nxt : α → List (σ × α)} {rk : σ → Nat} {K : Nat} {root : α} {i : Nat} {x : α} {f : Int} {s : σ} {l : List (Nd α σ)} {ws : List (List σ)} (h : Inv nxt rk K root i (nxt x) l ws) (hx : l[i]? = some (x, f, s)) : Inv nxt rk K root (i + 1) [] l ws := by
 refine ⟨h.len, h.root, h.root', ?_, h.nodup, h.inc, h.dig, ?_⟩
 ·intro k y g t hk hy
  obtain ⟨j, y', g', t', w, h1, h2, h3, h4, h5, h6, h7⟩ := h.par k y g t hk hy
  exact ⟨j, y', g', t', w, h1, h2, h3, h4, h5, h6, .inl (by rcases h7 with h7 | h7 <;> omega)⟩
 ·intro j y g t w hy hw r hr
  rcases hr with ⟨h1, h2⟩ | ⟨_, h2⟩
  ·refine h.closed j y g t w hy hw r ?_
   by_cases hj : j < i
   ·exact .inl ⟨hj, h2⟩
   ·have : j = i := by omega
    subst this; rw [hx] at hy; cases hy; exact .inr ⟨rfl, h2⟩
  ·cases h2
theorem inv_go [DecidableEq α] {nxt : α → List (σ × α)} {rk : σ → Nat} {K : Nat} {root : α} {most : Nat} (P : α → Prop) (hP : ∀ x, P x → (nxt x).Pairwise fun a b => rk a.1 < rk b.1) (hD : ∀ x, P x → ∀ q, q ∈ nxt x → (1 ≤ rk q.1 ∧ rk q.1 ≤ K) ∧ P q.2) (hroot : P root) :
  ∀ (n i : Nat) (l l' : List (Nd α σ)) (ws : List (List σ)), i ≤ l.length → Inv nxt rk K root i [] l ws → (∀ (k : Nat) x f s, l[k]? = some (x, f, s) → P x) → go nxt most n i l = some l' → ∃ ws', Inv nxt rk K root l'.length [] l' ws' ∧ (∀ (k : Nat) x f s, l'[k]? = some (x, f, s) → P x)
 | 0, i, l, l', ws, _, _, _, h => by cases h
 | n + 1, i, l, l', ws, hi, hI, hA, h => by
  simp only [go] at h
  split at h
  ·rename_i hn
   cases h
   have : i = l.length := by
    have := List.getElem?_eq_none_iff.1 hn; omega
   subst this
   exact ⟨ws, hI, hA⟩
  ·rename_i nd hn
   obtain ⟨x, f, s⟩ := nd
   cases hin : inner most i (nxt x) l with
   | none => rw [hin] at h; cases h
   | some l1 =>
    rw [hin] at h
    have hx := hA _ _ _ _ hn
    obtain ⟨ws1, h1, h2, h3⟩ := Oy (hP x hx) (fun q hq => (hD x hx q hq).1) (nxt x) [] l l1 ws rfl hI hn hin
    have hA1 : ∀ (k : Nat) y g t, l1[k]? = some (y, g, t) → P y := fun k y g t hy => by
     rcases Nat.eq_zero_or_pos k with rfl | hk
     ·obtain ⟨s0, hs0⟩ := h1.root; rw [hs0] at hy; cases hy; exact hroot
     ·obtain ⟨j, y', g', t', w, e1, e2, e3, e4, e5, e6, e7⟩ := h1.par k y g t hk hy
      have hj : P y' := by
       have hjl : j < l.length := by rcases e7 with h | h <;> have := lt_get hn <;> omega
       obtain ⟨⟨z, zf, zs⟩, hz⟩ := get_ex hjl
       have := h3 _ _ hz
       rw [e3] at this; cases this
       exact hA _ _ _ _ hz
      exact (hD y' hj _ e4).2
    exact inv_go P hP hD hroot n (i + 1) l1 l' ws1 (by have := lt_get (h3 _ _ hn); omega) (TH h1 (h3 _ _ hn)) hA1 h
theorem inv_start {nxt : α → List (σ × α)} {rk : σ → Nat} {K : Nat} {root : α} {s : σ} : Inv nxt rk K root 0 [] [(root, -1, s)] [[]] := by
 refine ⟨rfl, ⟨s, rfl⟩, rfl, ?_, ?_, ?_, ?_, ?_⟩
 ·intro k x f s hk h; rw [List.getElem?_eq_none (by simp; omega)] at h; cases h
 ·intro a b x f s g t ha hb; have := lt_get ha; have := lt_get hb; simp at *; omega
 ·intro a b u w ha hb hab; have := lt_get hb; simp at this; omega
 ·intro k w hw
  have := lt_get hw; simp at this; subst this; simp at hw; subst hw
  intro s hs; cases hs
 ·intro j x f s w _ _ q h
  rcases h with h | h
  ·omega
  ·cases h.2
def run (nxt : α → List (σ × α)) (x : α) : List σ → α → Prop
 | [], y => y = x
 | s :: w, y => ∃ z, (s, z) ∈ nxt x ∧ run nxt z w y
theorem Fx {nxt : α → List (σ × α)} : ∀ {u w : List σ} {x y : α}, run nxt x (u ++ w) y ↔ ∃ z, run nxt x u z ∧ run nxt z w y
 | [], w, x, y => by simp [run]
 | s :: u, w, x, y => by
  simp only [List.cons_append, run]
  constructor
  ·rintro ⟨z, h1, h2⟩
   obtain ⟨z', h3, h4⟩ := Fx.1 h2
   exact ⟨z', ⟨z, h1, h3⟩, h4⟩
  ·rintro ⟨z', ⟨z, h1, h3⟩, h4⟩
   exact ⟨z, h1, Fx.2 ⟨z', h3, h4⟩⟩
theorem inner_len [DecidableEq α] {most i : Nat} : ∀ (qs : List (σ × α)) (l l' : List (Nd α σ)), l.length ≤ most → inner most i qs l = some l' → l'.length ≤ most
 | [], l, l', h0, h => by cases h; exact h0
 | q :: qs, l, l', h0, h => by
  simp only [inner] at h
  split at h
  ·cases h
  ·exact inner_len qs _ _ (by omega) h
theorem go_len [DecidableEq α] {nxt : α → List (σ × α)} {most : Nat} : ∀ (n i : Nat) (l l' : List (Nd α σ)), l.length ≤ most → go nxt most n i l = some l' → l'.length ≤ most
 | 0, i, l, l', _, h => by cases h
 | n + 1, i, l, l', h0, h => by
  simp only [go] at h
  split at h
  ·cases h; exact h0
  ·rename_i nd hn
   cases hin : inner most i (nxt nd.1) l with
   | none => rw [hin] at h; cases h
   | some l1 => rw [hin] at h; exact go_len n (i + 1) l1 l' (inner_len _ _ _ h0 hin) h
end
end Bfs
end Go.Lift
namespace Go.Lift
open Option renaming bind_some → oS
open List renaming mem_of_getElem? → lM
open List renaming getElem?_eq_some_iff → lI
open Go
theorem Qx : ∀ {l : List Int}, Rc l = 0 → ∀ x, x ∈ l → x = 0
 | [], _, x, hx => by cases hx
 | y :: ys, h, x, hx => by
  unfold Rc at h
  split at h
  ·rename_i hy
   rcases List.mem_cons.1 hx with rfl | hx
   ·exact hy
   ·exact Qx h x hx
  ·rename_i hy; exact absurd h hy
theorem Ke {a b : Ae} (h : Hl a b = 0) : a = b := by
 have := Qx h
 have h1 := MO _ _ (this (Eu a.fBase b.fBase) (by simp))
 have h2 := MO _ _ (this (Eu a.fNext b.fNext) (by simp))
 have h3 := MO _ _ (this (Eu a.fHeld b.fHeld) (by simp))
 cases a; cases b; simp only at h1 h2 h3; subst h1; subst h2; subst h3; rfl
instance Zk : DecidableEq Ae := fun a b => if h : Hl a b = 0 then isTrue (Ke h) else isFalse (fun e => h (by rw [e]; exact O7 b))
theorem Tz (a b : Ae) : (Hl a b == 0) = decide (a = b) := by
 by_cases h : a = b
 ·rw [decide_eq_true h, h, O7]; rfl
 ·rw [decide_eq_false h]
  exact beq_eq_false_iff_ne.2 fun e => h (Ke e)
def On (p : Ag) (m : Ae) (ss : List Ak) : List (Ak × Ae) := ss.filterMap fun s => if B4 p (B3 p m s).1 = true then some (s, (B3 p m s).1) else none
def Ic (p : Ag) (m : Ae) : List (Ak × Ae) := On p m (F3 p m)
def ML (s : Ak) : Nat := if s.fKind = 1 then 1 + 8 * s.fIndex.toNat + s.fVersion.toNat else if s.fKind = 2 then 60 + s.fIndex.toNat else 70 + s.fIndex.toNat
theorem I4 {p : Ag} {m : Ae} {s : Ak} (h : s ∈ F3 p m) : s ∈ E3 p ∧ (B3 p m s).2 = 0 := by
 unfold F3 at h
 have := List.mem_filter.1 h
 exact ⟨this.1, by simpa using this.2⟩
theorem VG {p : Ag} {m : Ae} {ss : List Ak} {q : Ak × Ae} : q ∈ On p m ss ↔ q.1 ∈ ss ∧ q.2 = (B3 p m q.1).1 ∧ B4 p q.2 = true := by
 unfold On
 rw [List.mem_filterMap]
 constructor
 ·rintro ⟨s, h1, h2⟩
  split at h2
  ·rename_i h3; cases h2; exact ⟨h1, rfl, h3⟩
  ·cases h2
 ·rintro ⟨h1, h2, h3⟩
  refine ⟨q.1, h1, ?_⟩
  rw [← h2, if_pos h3]
theorem Pz {p : Ag} {m : Ae} {q : Ak × Ae} : q ∈ Ic p m ↔ q.1 ∈ F3 p m ∧ q.2 = (B3 p m q.1).1 ∧ B4 p q.2 = true := VG
theorem NI {p : Ag} {m : Ae} (hp : Bl p) (hm : Bv p m) {q : Ak × Ae} (h : q ∈ Ic p m) : Bv p q.2 ∧ B4 p q.2 = true := by
 obtain ⟨h1, h2, h3⟩ := Pz.1 h
 exact ⟨by rw [h2]; exact Kd hp hm (I4 h1).2, h3⟩
theorem Ts {p : Ag} (hp : Bl p) {s : Ak} (h : s ∈ E3 p) : s.fKind ≤ 3 ∧ 1 ≤ ML s ∧ ML s ≤ 100 := by
 obtain ⟨h1, h2⟩ := L8 hp h
 obtain ⟨a1, a2, a3, a4, a5⟩ := H5 h1
 obtain ⟨b1, b2, b3⟩ := I6 h2
 have hnv := hp.nv
 have hnt := hp.nt
 have hk : s.fKind ≤ 3 := by
  unfold E3 at h
  rcases List.mem_append.1 h with h | h
  ·rcases List.mem_append.1 h with h | h
   ·obtain ⟨j, x, hx, hk⟩ := Hs.1 h
    unfold IL at hk
    obtain ⟨v, hv, rfl⟩ := List.mem_map.1 hk
    exact (by decide : (1 : Int) ≤ 3)
   ·obtain ⟨v, hv, rfl⟩ := List.mem_map.1 h
    exact (by decide : (2 : Int) ≤ 3)
  ·obtain ⟨v, hv, rfl⟩ := List.mem_map.1 h
   exact (by decide : (3 : Int) ≤ 3)
 refine ⟨hk, ?_⟩
 unfold ML
 by_cases h1 : s.fKind = 1
 ·rw [if_pos h1]
  have := b2 (by omega)
  have h3 := b3 h1
  have h4 := (HP hp (i := s.fIndex.toNat) (by omega)).2
  omega
 ·rw [if_neg h1]
  by_cases h2 : s.fKind = 2
  ·rw [if_pos h2]
   have := b2 (by omega)
   omega
  ·rw [if_neg h2]
   have := b1 (by omega)
   omega
theorem VS (i : Nat) (n : Int) : (IL i n).Pairwise fun a b => ML a < ML b := by
 unfold IL
 rw [List.pairwise_map]
 refine List.Pairwise.imp ?_ List.pairwise_lt_range
 intro a b h
 simp [ML]; omega
theorem VN {p : Ag} (hp : Bl p) : (E3 p).Pairwise fun a b => ML a < ML b := by
 have hnv := hp.nv
 have hnt := hp.nt
 have e1 : ∀ (xs : List Int) (i : Nat), (∀ x, x ∈ xs → x ≤ 6) → (CQ IL i xs).Pairwise fun a b => ML a < ML b := by
  intro xs
  induction xs with
  | nil => intro i _; exact List.Pairwise.nil
  | cons x xs ih =>
   intro i hx
   rw [CQ, List.pairwise_append]
   refine ⟨VS i x, ih (i + 1) fun y hy => hx y (List.mem_cons_of_mem _ hy), ?_⟩
   intro a ha b hb
   unfold IL at ha
   obtain ⟨v, hv, rfl⟩ := List.mem_map.1 ha
   obtain ⟨j, y, hy, hb⟩ := Hs.1 hb
   unfold IL at hb
   obtain ⟨w, hw, rfl⟩ := List.mem_map.1 hb
   have := hx x (by simp)
   have := List.mem_range.1 hv
   simp [ML]; omega
 unfold E3
 rw [List.pairwise_append, List.pairwise_append]
 refine ⟨⟨e1 _ 0 fun x hx => (hp.ver x hx).2, ?_, ?_⟩, ?_, ?_⟩
 ·rw [List.pairwise_map]
  refine List.Pairwise.imp ?_ List.pairwise_lt_range
  intro a b h
  simp [ML]; omega
 ·intro a ha b hb
  obtain ⟨w, hw, rfl⟩ := List.mem_map.1 hb
  obtain ⟨j, y, hy, ha⟩ := Hs.1 ha
  unfold IL at ha
  obtain ⟨v, hv, rfl⟩ := List.mem_map.1 ha
  have := List.mem_range.1 hv
  have := (hp.ver y (lM hy)).2
  have := (lI.1 hy).1
  simp [ML]; omega
 ·rw [List.pairwise_map]
  refine List.Pairwise.imp ?_ List.pairwise_lt_range
  intro a b h
  simp [ML]; omega
 ·intro a ha b hb
  obtain ⟨w, hw, rfl⟩ := List.mem_map.1 hb
  have hw := List.mem_range.1 hw
  rcases List.mem_append.1 ha with ha | ha
  ·obtain ⟨j, y, hy, ha⟩ := Hs.1 ha
   unfold IL at ha
   obtain ⟨v, hv, rfl⟩ := List.mem_map.1 ha
   have := List.mem_range.1 hv
   have := (hp.ver y (lM hy)).2
   have := (lI.1 hy).1
   simp [ML]; omega
  ·obtain ⟨v, hv, rfl⟩ := List.mem_map.1 ha
   have := List.mem_range.1 hv
   simp [ML]; omega
theorem Wr {p : Ag} {m : Ae} {ss : List Ak} (h : ss.Pairwise fun a b => ML a < ML b) : (On p m ss).Pairwise fun a b => ML a.1 < ML b.1 := by
 unfold On
 rw [List.pairwise_filterMap]
 refine List.Pairwise.imp ?_ h
 intro a b hab x hx y hy
 split at hx
 ·cases hx
  split at hy
  ·cases hy; exact hab
  ·cases hy
 ·cases hx
theorem WN {p : Ag} (hp : Bl p) (m : Ae) : (Ic p m).Pairwise fun a b => ML a.1 < ML b.1 := Wr ((VN hp).filter _)
abbrev N9 := Bfs.Nd Ae Ak
def Qj : Ak := ⟨0, 0, 0⟩
theorem Qa {N : Nat} {p : Ag} {a b : Ae} (hN : N ≤ 1000000) (h20 : 100 ≤ N) (hp : Bl p) (ha : Bv p a) (hb : Bv p b) : CX N a b = some (decide (a = b)) := by
 have hnv := hp.nv
 have hnt := hp.nt
 unfold CX
 rw [MB hN (by rw [ha.base]; omega) (by rw [ha.next]; omega) (by rw [ha.held]; omega) (by rw [hb.held]; omega) (Lv ha) (Lv hb)]
 simp only [oS]
 rw [Tz]
theorem Qf {i : Nat} {l : List N9} {q : Ak × Ae} {k : Nat} {n : N9} (h : l[k]? = some n) : (Bfs.put i l q)[k]? = some n := by
 unfold Bfs.put
 split
 ·exact h
 ·exact Bfs.get_app_of h
theorem Pr {i : Nat} {l : List N9} {q : Ak × Ae} {n : N9} (h : n ∈ Bfs.put i l q) : n ∈ l ∨ n.1 = q.2 := by
 unfold Bfs.put at h
 split at h
 ·exact .inl h
 ·rcases List.mem_append.1 h with h | h
  ·exact .inl h
  ·rw [List.mem_singleton.1 h]; exact .inr rfl
theorem JJ {p : Ag} {m : Ae} {s : Ak} {ss : List Ak} : On p m (s :: ss) = if B4 p (B3 p m s).1 = true then (s, (B3 p m s).1) :: On p m ss else On p m ss := by
 unfold On
 rw [List.filterMap_cons]
 split <;> rename_i h
 ·split at h
  ·cases h
  ·rename_i h2; rw [if_neg h2]
 ·split at h
  ·rename_i h2; cases h; rw [if_pos h2]
  ·cases h
theorem Jw {p : Ag} {most i : Nat} : ∀ {qs : List (Ak × Ae)} {l l' : List N9}, Bfs.inner most i qs l = some l' → (∀ q, q ∈ qs → Bv p q.2 ∧ B4 p q.2 = true) → (∀ n, n ∈ l → Bv p n.1 ∧ B4 p n.1 = true) → (∀ n, n ∈ l' → Bv p n.1 ∧ B4 p n.1 = true) ∧ (∀ (k : Nat) n, l[k]? = some n → l'[k]? = some n)
 | [], l, l', h, _, hA => by cases h; exact ⟨hA, fun _ _ h => h⟩
 | q :: qs, l, l', h, hq, hA => by
  simp only [Bfs.inner] at h
  split at h
  ·cases h
  ·obtain ⟨h1, h2⟩ := Jw h (fun q hq' => hq q (List.mem_cons_of_mem _ hq')) (fun n hn => by
    rcases Pr hn with h | h
    ·exact hA n h
    ·rw [h]; exact hq q (by simp))
   exact ⟨h1, fun k n hn => h2 k n (Qf hn)⟩
theorem Lo (N : Nat) (hN : N ≤ 1000000) (h20 : 100 ≤ N) {p : Ag} {m : Ae} (hp : Bl p) (hm : Bv p m) {s : Ak} (hs : s ∈ F3 p m) : ∃ b, Cn N p m s = some ((B3 p m s).1, b) := by
 obtain ⟨h1, h2⟩ := I4 hs
 obtain ⟨h3, h4⟩ := L8 hp h1
 rw [Lz N hN h20 hp hm h3 h4]
 unfold B3 at h2 ⊢
 rw [h3, h4, if_neg (by simp), if_neg (by simp)] at h2 ⊢
 cases h : FM p m s with
 | none => rw [h] at h2; cases h2
 | some x => exact ⟨true, rfl⟩
theorem LF {p : Ag} {m : Ae} (hm : Bv p m) (hr : B4 p m = true) : ∀ n, n ∈ ([(m, -1, Qj)] : List N9) → Bv p n.1 ∧ B4 p n.1 = true := fun n hn => by
 rw [List.mem_singleton.1 hn]; exact ⟨hm, hr⟩
def Mb (p : Ag) (m : Ae) (most n : Nat) : Option (List N9) := Bfs.go (Ic p) most n 0 [(m, -1, Qj)]
structure Zi (p : Ag) (m : Ae) (l : List N9) (ws : List (List Ak)) : Prop where
 inv : Bfs.Inv (Ic p) ML 100 m l.length [] l ws
 ok : ∀ (k : Nat) x f s, l[k]? = some (x, f, s) → Bv p x ∧ B4 p x = true
theorem WO {p : Ag} (hp : Bl p) {m : Ae} (hm : Bv p m) (hr : B4 p m = true) {most n : Nat} {l : List N9} (h : Mb p m most n = some l) : ∃ ws, Zi p m l ws := by
 obtain ⟨ws, h1, h2⟩ := Bfs.inv_go (rk := ML) (K := 100) (fun x => Bv p x ∧ B4 p x = true) (fun x _ => WN hp x) (fun x hx q hq => by
  refine ⟨?_, NI hp hx.1 hq⟩
  exact (Ts hp (I4 (Pz.1 hq).1).1).2) ⟨hm, hr⟩ n 0 [(m, -1, Qj)] l [[]] (Nat.zero_le _) Bfs.inv_start (fun k x f s hk => by
   have := Bfs.lt_get hk
   simp at this; subst this
   cases hk; exact ⟨hm, hr⟩) h
 exact ⟨ws, h1, h2⟩
end Go.Lift
namespace Go.Lift
open IntKind renaming wrap → wI
open Option renaming bind_some → oS
open List renaming mem_of_getElem? → lM
open Go
open Go.Sort (swp insInner insOuter insertionSort siftDown heapBuild heapPop heapSort)
section
variable {α : Type} [Inhabited α]
theorem wn {e : Int} {n : Nat} (h : e = (n : Int)) (hn : n < 1000000000) : wI .i64 e = (n : Int) := by
 subst h; exact CR (by omega) (by omega)
theorem gi {d : Array α} {i : Nat} (h : i < d.size) : A9 d.toList (i : Int) = some d[i]! := by
 rw [A5]
 simp [h, getElem!_pos]
theorem H9 {β γ : Type} {l : List β} {i : Nat} (h : i < l.length) (X : Option γ) : ((A9 l (i : Int)).bind fun _ => X) = X := by
 rw [A5, List.getElem?_eq_getElem h]; rfl
theorem EC (d : Array α) (i j : Nat) : (swp d i j).toList = (d.toList.set i d[j]!).set j d[i]! := by
 unfold swp; simp
theorem Bi (d : Array α) (i j : Nat) : (swp d i j).size = d.size := by unfold swp; simp
def C0 (P : α → Prop) (d : Array α) : Prop := ∀ x, x ∈ d.toList → P x
theorem C0.get {P : α → Prop} {d : Array α} (h : C0 P d) {i : Nat} (hi : i < d.size) : P d[i]! := by
 have := gi hi
 rw [A5] at this
 exact h _ (lM this)
theorem C0.swp {P : α → Prop} {d : Array α} (h : C0 P d) {i j : Nat} (hi : i < d.size) (hj : j < d.size) : C0 P (swp d i j) := by
 intro x hx
 rw [EC] at hx
 rcases List.mem_or_eq_of_mem_set hx with hx | hx
 ·rcases List.mem_or_eq_of_mem_set hx with hx | hx
  ·exact h x hx
  ·rw [hx]; exact h.get hj
 ·rw [hx]; exact h.get hi
variable {P : α → Prop} {cmp : α × α → Option Int} {c : α → α → Int}
def Cb (c : α → α → Int) (x y : α) : Bool := decide (c x y < 0)
theorem Tu (hc : ∀ x y, P x → P y → cmp (x, y) = some (c x y)) (N a : Nat) (J : List α → Option (List α)) : ∀ (n j : Nat) (d : Array α), j < n → j < d.size → d.size ≤ 100000 → C0 P d →
  Gs.insertionSort_L4 N (a : Int) cmp J n (d.toList, (j : Int)) = J (insInner (Cb c) a j d).toList ∧ (insInner (Cb c) a j d).size = d.size ∧ C0 P (insInner (Cb c) a j d)
 | 0, j, d, h, _, _, _ => by omega
 | n + 1, j, d, h, hj, hs, hA => by
  rw [Gs.insertionSort_L4]
  simp only [A6]
  rcases j with _ | j
  ·rw [AB (by omega), Au]
   exact ⟨rfl, rfl, hA⟩
  ·simp only [wn (e := ((j + 1 : Nat) : Int) - 1) (n := j) (by omega) (by omega), gi hj, gi (show j < d.size by omega), oS, Int.toNat_natCast]
   rw [hc _ _ (hA.get hj) (hA.get (by omega))]
   simp only [oS]
   rw [H9 (by simp; omega), ← EC]
   rw [insInner]
   by_cases ha : a < j + 1
   ·rw [AC (by omega), Vi]
    by_cases hl : c d[j + 1]! d[j]! < 0
    ·rw [if_pos (decide_eq_true hl), if_pos (by simp [ha, Cb, hl])]
     have := Tu hc N a J n j (swp d (j + 1) j) (by omega) (by rw [Bi]; omega) (by rw [Bi]; exact hs) (hA.swp hj (by omega))
     rw [Bi] at this
     exact this
    ·rw [if_neg (by simpa using hl), if_neg (by simp [Cb, hl])]
     exact ⟨rfl, rfl, hA⟩
   ·rw [AB (by omega), Au, if_neg (by simp [ha])]
    exact ⟨rfl, rfl, hA⟩
theorem Si (hc : ∀ x y, P x → P y → cmp (x, y) = some (c x y)) (N a b : Nat) (J : List α → Option (List α)) : ∀ (n i : Nat) (d : Array α), b - i < n → b ≤ d.size → d.size < N → d.size ≤ 100000 → i ≤ 200000 → C0 P d →
  Gs.insertionSort_L1 N (a : Int) (b : Int) cmp J n (d.toList, (i : Int)) = J (insOuter (Cb c) a b i d).toList ∧ (insOuter (Cb c) a b i d).size = d.size ∧ C0 P (insOuter (Cb c) a b i d)
 | 0, i, d, h, _, _, _, _, _ => by omega
 | n + 1, i, d, h, hb, hN, hs, hi2, hA => by
  rw [Gs.insertionSort_L1, insOuter]
  by_cases hi : i < b
  ·rw [AC (by simp only; omega), if_pos hi]
   obtain ⟨e1, e2, e3⟩ := Tu hc N a (fun v5 => Gs.insertionSort_L1 N (a : Int) (b : Int) cmp J n (v5, ((i + 1 : Nat) : Int))) N i d (by omega) (by omega) hs hA
   simp only [wn (e := (i : Int) + 1) (n := i + 1) (by omega) (by omega)]
   rw [e1]
   have := Si hc N a b J n (i + 1) (insInner (Cb c) a i d) (by omega) (by omega) (by omega) (by omega) (by omega) e3
   rw [e2] at this
   exact this
  ·rw [AB (by simp only; omega), if_neg hi]
   exact ⟨rfl, rfl, hA⟩
theorem WM (hc : ∀ x y, P x → P y → cmp (x, y) = some (c x y)) {N a b : Nat} {d : Array α} (hab : a ≤ b) (hb : b ≤ d.size) (hN : d.size < N) (hs : d.size ≤ 100000) (hA : C0 P d) :
  Gs.insertionSort N d.toList (a : Int) (b : Int) cmp = some (insertionSort (Cb c) d a b).toList ∧ (insertionSort (Cb c) d a b).size = d.size ∧ C0 P (insertionSort (Cb c) d a b) := by
 unfold Gs.insertionSort
 rw [wn (e := (a : Int) + 1) (n := a + 1) (by omega) (by omega)]
 exact Si hc N a b (fun v2 => some v2) N (a + 1) d (by omega) hb hN hs (by omega) hA
theorem Po (hc : ∀ x y, P x → P y → cmp (x, y) = some (c x y)) {N hi first : Nat} : ∀ (n root : Nat) (d : Array α), hi - root < n → first + hi ≤ d.size → d.size ≤ 100000 → root ≤ 100000 → C0 P d → root < hi ∨ hi = 0 ∨ True → (2 * root + 1 < hi → root < hi) →
  Gs.siftDown_L1 N (hi : Int) (first : Int) cmp (fun v2 => some v2) n (d.toList, (root : Int)) = some (siftDown (Cb c) hi first root d).toList ∧ (siftDown (Cb c) hi first root d).size = d.size ∧ C0 P (siftDown (Cb c) hi first root d)
 | 0, root, d, h, _, _, _, _, _, _ => by omega
 | n + 1, root, d, h, hf, hs, hr, hA, _, _ => by
  rw [Gs.siftDown_L1, siftDown]
  simp only [A6]
  have e1 : wI .i64 ((wI .i64 (2 * (root : Int))) + 1) = ((2 * root + 1 : Nat) : Int) := by
   rw [wn (e := 2 * (root : Int)) (n := 2 * root) (by omega) (by omega), wn (n := 2 * root + 1) (by omega) (by omega)]
  have e2 : wI .i64 (((2 * root + 1 : Nat) : Int) + 1) = ((2 * root + 2 : Nat) : Int) := wn (by omega) (by omega)
  have e3 : wI .i64 ((first : Int) + ((2 * root + 1 : Nat) : Int)) = ((first + (2 * root + 1) : Nat) : Int) := by
   by_cases hx : first < 200000
   ·exact wn (by omega) (by omega)
   ·omega
  have e4 : wI .i64 ((first : Int) + (root : Int)) = ((first + root : Nat) : Int) := wn (by omega) (by omega)
  have e5 : wI .i64 (((first + (2 * root + 1) : Nat) : Int) + 1) = ((first + (2 * root + 1) + 1 : Nat) : Int) := wn (by omega) (by omega)
  have e6 : wI .i64 ((first : Int) + ((2 * root + 2 : Nat) : Int)) = ((first + (2 * root + 2) : Nat) : Int) := wn (by omega) (by omega)
  simp only [e1, e2, e3, e4, e5]
  by_cases h1 : 2 * root + 1 ≥ hi
  ·rw [AC (by omega), dif_pos h1]
   exact ⟨rfl, rfl, hA⟩
  ·rw [AB (by omega), dif_neg h1]
   -- what follows when the child is known
   have tail : ∀ ch : Nat, ch < hi → root < ch → wI .i64 ((first : Int) + (ch : Int)) = ((first + ch : Nat) : Int) →
     (((A9 d.toList ((first + root : Nat) : Int)).bind fun v11 => (A9 d.toList (wI .i64 ((first : Int) + (ch : Int)))).bind fun v12 => (cmp (v11, v12)).bind fun v13 => AV (!(decide (v13 < 0))) (some d.toList)
      ((A9 d.toList (wI .i64 ((first : Int) + (ch : Int)))).bind fun v15 => (A9 d.toList ((first + root : Nat) : Int)).bind fun v16 => (A9 d.toList ((first + root : Nat) : Int)).bind fun _ =>
       (A9 (d.toList.set (((first + root : Nat) : Int)).toNat v15) (wI .i64 ((first : Int) + (ch : Int)))).bind fun _ =>
       Gs.siftDown_L1 N (hi : Int) (first : Int) cmp (fun v2 => some v2) n ((d.toList.set (((first + root : Nat) : Int)).toNat v15).set ((wI .i64 ((first : Int) + (ch : Int)))).toNat v16, (ch : Int)))) =
      some (if !Cb c d[first + root]! d[first + ch]! then d else siftDown (Cb c) hi first ch (swp d (first + root) (first + ch))).toList) ∧
     (if !Cb c d[first + root]! d[first + ch]! then d else siftDown (Cb c) hi first ch (swp d (first + root) (first + ch))).size = d.size ∧ C0 P (if !Cb c d[first + root]! d[first + ch]! then d else siftDown (Cb c) hi first ch (swp d (first + root) (first + ch))) := by
    intro ch h2 h3 h4
    have a1 : first + root < d.size := by omega
    have a2 : first + ch < d.size := by omega
    simp only [h4, gi a1, gi a2, oS, Int.toNat_natCast]
    rw [hc _ _ (hA.get a1) (hA.get a2)]
    simp only [oS]
    rw [H9 (by simp; omega), ← EC]
    unfold Cb
    cases hl : decide (c d[first + root]! d[first + ch]! < 0)
    ·rw [Bool.not_false, AO, if_pos rfl]
     exact ⟨rfl, rfl, hA⟩
    ·rw [Bool.not_true, Au, if_neg (by simp)]
     have := Po hc (N := N) (hi := hi) (first := first) n ch (swp d (first + root) (first + ch)) (by omega) (by rw [Bi]; omega) (by rw [Bi]; exact hs) (by omega) (hA.swp a1 a2) (.inl h2) (fun _ => h2)
     rw [Bi] at this
     exact this
   have t1 := tail (2 * root + 1) (by omega) (by omega) e3
   rw [e3] at t1
   by_cases h2 : 2 * root + 1 + 1 < hi
   ·rw [AC (by omega)]
    simp only [gi (show first + (2 * root + 1) < d.size by omega), gi (show first + (2 * root + 1) + 1 < d.size by omega), oS] at t1 ⊢
    rw [hc _ _ (hA.get (by omega)) (hA.get (by omega))]
    simp only [oS]
    have t2 := tail (2 * root + 2) (by omega) (by omega) e6
    rw [e6] at t2
    cases hl : decide (c d[first + (2 * root + 1)]! d[first + (2 * root + 1) + 1]! < 0)
    ·rw [Au, if_neg (by simp [Cb, hl])]
     exact t1
    ·rw [AO, if_pos (by simp [Cb, h2]; simpa using hl), dif_pos (show 2 * root + 2 < hi by omega)]
     simp only [e6]
     exact t2
   ·rw [AB (by omega), Au, if_neg (by simp [h2])]
    exact t1
theorem Ns (hc : ∀ x y, P x → P y → cmp (x, y) = some (c x y)) {N a b : Nat} (hab : a ≤ b) (J : List α → Option (List α)) : ∀ (n k : Nat) (d : Array α), k < n → b ≤ d.size → d.size < N → d.size ≤ 100000 → k ≤ 100000 → C0 P d →
  Gs.heapSort_L1 N (a : Int) (b : Int) cmp J n (d.toList, (k : Int) - 1) = J (heapBuild (Cb c) (b - a) a k d).toList ∧ (heapBuild (Cb c) (b - a) a k d).size = d.size ∧ C0 P (heapBuild (Cb c) (b - a) a k d)
 | 0, k, d, h, _, _, _, _, _ => by omega
 | n + 1, k, d, h, hb, hN, hs, hk, hA => by
  rw [Gs.heapSort_L1]
  rcases k with _ | k
  ·rw [AB (by simp only; omega)]
   exact ⟨rfl, rfl, hA⟩
  ·have e0 : (((k + 1 : Nat) : Int) - 1) = (k : Int) := by omega
   simp only [e0]
   rw [AC (by omega)]
   unfold Gs.siftDown
   rw [wn (e := (b : Int) - (a : Int)) (n := b - a) (by omega) (by omega)]
   obtain ⟨e1, e2, e3⟩ := Po hc (N := N) (hi := b - a) (first := a) N k d (by omega) (by omega) hs (by omega) hA (.inr (.inr trivial)) (fun _ => by omega)
   rw [e1]
   simp only [oS, heapBuild]
   have ew : wI .i64 ((k : Int) - 1) = (k : Int) - 1 := CR (by omega) (by omega)
   rw [ew]
   have := Ns hc (N := N) hab J n k (siftDown (Cb c) (b - a) a k d) (by omega) (by omega) (by omega) (by omega) (by omega) e3
   rw [e2] at this
   exact this
theorem QK (hc : ∀ x y, P x → P y → cmp (x, y) = some (c x y)) {N a b : Nat} (hab : a ≤ b) (J : List α → Option (List α)) : ∀ (n k : Nat) (d : Array α), k < n → a + k ≤ d.size → d.size < N → d.size ≤ 100000 → C0 P d →
  Gs.heapSort_L5 N (a : Int) cmp J n (d.toList, (k : Int) - 1) = J (heapPop (Cb c) a k d).toList ∧ (heapPop (Cb c) a k d).size = d.size ∧ C0 P (heapPop (Cb c) a k d)
 | 0, k, d, h, _, _, _, _ => by omega
 | n + 1, k, d, h, hb, hN, hs, hA => by
  rw [Gs.heapSort_L5]
  rcases k with _ | k
  ·rw [AB (by simp only; omega)]
   exact ⟨rfl, rfl, hA⟩
  ·have e0 : (((k + 1 : Nat) : Int) - 1) = (k : Int) := by omega
   have a1 : a + k < d.size := by omega
   have a2 : a < d.size := by omega
   have e1 : wI .i64 ((a : Int) + (k : Int)) = ((a + k : Nat) : Int) := wn (by omega) (by omega)
   simp only [e0, e1]
   rw [AC (by omega)]
   simp only [gi a1, gi a2, oS, Int.toNat_natCast]
   rw [H9 (by simp; omega), ← EC]
   unfold Gs.siftDown
   obtain ⟨f1, f2, f3⟩ := Po hc (N := N) (hi := k) (first := a) N 0 (swp d a (a + k)) (by omega) (by rw [Bi]; omega) (by rw [Bi]; exact hs) (by omega) (hA.swp a2 a1) (.inr (.inr trivial)) (fun _ => by omega)
   have f1' : Gs.siftDown_L1 N (k : Int) (a : Int) cmp (fun v2 => some v2) N ((swp d a (a + k)).toList, 0) = _ := f1
   rw [f1']
   rw [Bi] at f2
   simp only [oS, heapPop]
   have ew : wI .i64 ((k : Int) - 1) = (k : Int) - 1 := CR (by omega) (by omega)
   rw [ew]
   have := QK hc (N := N) hab J n k (siftDown (Cb c) k a 0 (swp d a (a + k))) (by omega) (by omega) (by omega) (by omega) f3
   rw [f2] at this
   exact this
theorem Vj (hc : ∀ x y, P x → P y → cmp (x, y) = some (c x y)) {N a b : Nat} {d : Array α} (hab : a < b) (hb : b ≤ d.size) (hN : d.size < N) (hs : d.size ≤ 100000) (hA : C0 P d) :
  Gs.heapSort N d.toList (a : Int) (b : Int) cmp = some (heapSort (Cb c) d a b).toList ∧ (heapSort (Cb c) d a b).size = d.size ∧ C0 P (heapSort (Cb c) d a b) := by
 unfold Gs.heapSort heapSort
 have e1 : wI .i64 (Int.tdiv (wI .i64 ((wI .i64 ((b : Int) - (a : Int))) - 1)) 2) = (((b - a - 1) / 2 + 1 : Nat) : Int) - 1 := by
  rw [wn (e := (b : Int) - (a : Int)) (n := b - a) (by omega) (by omega), wn (e := ((b - a : Nat) : Int) - 1) (n := b - a - 1) (by omega) (by omega)]
  rw [wn (n := (b - a - 1) / 2) (by rw [Int.tdiv_eq_ediv_of_nonneg (by omega)]; omega) (by omega)]
  omega
 have e2 : wI .i64 ((wI .i64 ((b : Int) - (a : Int))) - 1) = (((b - a : Nat) : Int)) - 1 := by
  rw [wn (e := (b : Int) - (a : Int)) (n := b - a) (by omega) (by omega)]
  exact CR (by omega) (by omega)
 rw [e1, e2]
 obtain ⟨f1, f2, f3⟩ := Ns hc (N := N) (a := a) (b := b) (by omega) (fun v2 => Gs.heapSort_L5 N (a : Int) cmp (fun v6 => some v6) N (v2, (((b - a : Nat) : Int)) - 1)) N ((b - a - 1) / 2 + 1) d (by omega) hb hN hs (by omega) hA
 rw [f1]
 obtain ⟨g1, g2, g3⟩ := QK hc (N := N) (a := a) (b := b) (by omega) (fun v6 => some v6) N (b - a) (heapBuild (Cb c) (b - a) a ((b - a - 1) / 2 + 1) d) (by omega) (by omega) (by omega) (by omega) f3
 rw [g1]
 exact ⟨rfl, by rw [g2, f2], g3⟩
end
end Go.Lift
namespace Go.Lift
open IntKind renaming wrap → wI
open Option renaming bind_some → oS
open Go
open Go.Sort (swp scanUp scanDown partLoop partition partEqLoop partitionEqual scanSorted shiftDown shiftUp partialIns partialInsertionSort reverseLoop reverseRange)
section
variable {α : Type} [Inhabited α] {P : α → Prop} {cmp : α × α → Option Int} {c : α → α → Int}
theorem OU (N : Nat) (J : List α → Option (List α)) : ∀ (n i j : Nat) (d : Array α), j - i < n → j < d.size → d.size ≤ 100000 → i ≤ 100000 → C0 P d →
  Gs.reverseRange_L1 N J n (d.toList, (i : Int), (j : Int)) = J (reverseLoop i j d).toList ∧ (reverseLoop i j d).size = d.size ∧ C0 P (reverseLoop i j d)
 | 0, i, j, d, h, _, _, _, _ => by omega
 | n + 1, i, j, d, h, hj, hs, hi, hA => by
  rw [Gs.reverseRange_L1, reverseLoop]
  by_cases hij : i < j
  ·rw [AC (by simp only; omega), if_pos hij]
   simp only [gi hj, gi (show i < d.size by omega), oS, Int.toNat_natCast]
   rw [H9 (by simp; omega), ← EC, wn (e := (i : Int) + 1) (n := i + 1) (by omega) (by omega), wn (e := (j : Int) - 1) (n := j - 1) (by omega) (by omega)]
   have := OU N J n (i + 1) (j - 1) (swp d i j) (by omega) (by rw [Bi]; omega) (by rw [Bi]; exact hs) (by omega) (hA.swp (by omega) hj)
   rw [Bi] at this
   exact this
  ·rw [AB (by simp only; omega), if_neg hij]
   exact ⟨rfl, rfl, hA⟩
theorem WY {N a b : Nat} {d : Array α} (hab : a < b) (hb : b ≤ d.size) (hN : d.size < N) (hs : d.size ≤ 100000) (hA : C0 P d) :
  Gs.reverseRange N d.toList (a : Int) (b : Int) cmp = some (reverseRange d a b).toList ∧ (reverseRange d a b).size = d.size ∧ C0 P (reverseRange d a b) := by
 unfold Gs.reverseRange reverseRange
 rw [wn (e := (b : Int) - 1) (n := b - 1) (by omega) (by omega)]
 exact OU N (fun v2 => some v2) N a (b - 1) d (by omega) (by omega) hs (by omega) hA
theorem Mf (hc : ∀ x y, P x → P y → cmp (x, y) = some (c x y)) (N b : Nat) {d : Array α} (hb : b ≤ d.size) (hs : d.size ≤ 100000) (hA : C0 P d) (x y : Int) (J : Int → Option (Bool × List α)) : ∀ (n i : Nat), b - i < n → 1 ≤ i → i ≤ 100001 →
  Gs.partialInsertionSort_L5 N (b : Int) cmp (d.toList, x, y) J n (i : Int) = J (scanSorted (Cb c) d b i : Nat)
 | 0, i, h, _, _ => by omega
 | n + 1, i, h, hi, hi2 => by
  rw [Gs.partialInsertionSort_L5, scanSorted]
  simp only [A6]
  by_cases h1 : i < b
  ·rw [AC (by omega)]
   simp only [wn (e := (i : Int) - 1) (n := i - 1) (by omega) (by omega), gi (show i < d.size by omega), gi (show i - 1 < d.size by omega), oS]
   rw [hc _ _ (hA.get (by omega)) (hA.get (by omega))]
   simp only [oS]
   cases hl : decide (c d[i]! d[i - 1]! < 0)
   ·rw [Bool.not_false, AO, if_pos (by simp [h1, Cb, hl]), wn (e := (i : Int) + 1) (n := i + 1) (by omega) (by omega)]
    exact Mf hc N b hb hs hA x y J n (i + 1) (by omega) (by omega) (by omega)
   ·rw [Bool.not_true, Au, if_neg (by simp [Cb, hl])]
  ·rw [AB (by omega), Au, if_neg (by simp [h1])]
theorem JX (lt : α → α → Bool) (d : Array α) (b : Nat) : ∀ (n i : Nat), b - i < n → i ≤ scanSorted lt d b i ∧ (i ≤ b → scanSorted lt d b i ≤ b)
 | 0, i, h => by omega
 | n + 1, i, h => by
  rw [scanSorted]
  by_cases h1 : (decide (i < b) && !lt d[i]! d[i - 1]!) = true
  ·rw [if_pos h1]
   simp only [Bool.and_eq_true, decide_eq_true_eq] at h1
   have := JX lt d b n (i + 1) (by omega)
   omega
  ·rw [if_neg h1]; omega
theorem M9 (hc : ∀ x y, P x → P y → cmp (x, y) = some (c x y)) (N : Nat) (J : List α → Option (Bool × List α)) : ∀ (n j : Nat) (d : Array α), j < n → j < d.size → d.size ≤ 100000 → C0 P d →
  Gs.partialInsertionSort_L21 N cmp J n (d.toList, (j : Int)) = J (shiftDown (Cb c) j d).toList ∧ (shiftDown (Cb c) j d).size = d.size ∧ C0 P (shiftDown (Cb c) j d)
 | 0, j, d, h, _, _, _ => by omega
 | n + 1, j, d, h, hj, hs, hA => by
  rw [Gs.partialInsertionSort_L21]
  rcases j with _ | j
  ·rw [AB (by simp)]
   exact ⟨rfl, rfl, hA⟩
  ·rw [AC (by simp only; omega)]
   simp only [wn (e := ((j + 1 : Nat) : Int) - 1) (n := j) (by omega) (by omega), gi hj, gi (show j < d.size by omega), oS, Int.toNat_natCast]
   rw [hc _ _ (hA.get hj) (hA.get (by omega))]
   simp only [oS]
   rw [H9 (by simp; omega), ← EC]
   rw [shiftDown]
   cases hl : decide (c d[j + 1]! d[j]! < 0)
   ·rw [Bool.not_false, AO, if_pos (by simp [Cb, hl])]
    exact ⟨rfl, rfl, hA⟩
   ·rw [Bool.not_true, Au, if_neg (by simp [Cb, hl])]
    have := M9 hc N J n j (swp d (j + 1) j) (by omega) (by rw [Bi]; omega) (by rw [Bi]; exact hs) (hA.swp hj (by omega))
    rw [Bi] at this
    exact this
theorem Qq (hc : ∀ x y, P x → P y → cmp (x, y) = some (c x y)) (N b : Nat) (J : List α → Option (Bool × List α)) : ∀ (n j : Nat) (d : Array α), b - j < n → 1 ≤ j → j ≤ 100001 → b ≤ d.size → d.size ≤ 100000 → C0 P d →
  Gs.partialInsertionSort_L33 N (b : Int) cmp J n (d.toList, (j : Int)) = J (shiftUp (Cb c) b j d).toList ∧ (shiftUp (Cb c) b j d).size = d.size ∧ C0 P (shiftUp (Cb c) b j d)
 | 0, j, d, h, _, _, _, _, _ => by omega
 | n + 1, j, d, h, hj, hj2, hb, hs, hA => by
  rw [Gs.partialInsertionSort_L33, shiftUp]
  by_cases h1 : j < b
  ·rw [AC (by simp only; omega), if_pos h1]
   simp only [wn (e := (j : Int) - 1) (n := j - 1) (by omega) (by omega), gi (show j < d.size by omega), gi (show j - 1 < d.size by omega), oS, Int.toNat_natCast]
   rw [hc _ _ (hA.get (by omega)) (hA.get (by omega))]
   simp only [oS]
   rw [H9 (by simp; omega), ← EC]
   cases hl : decide (c d[j]! d[j - 1]! < 0)
   ·rw [Bool.not_false, AO, if_pos (by simp [Cb, hl])]
    exact ⟨rfl, rfl, hA⟩
   ·rw [Bool.not_true, Au, if_neg (by simp [Cb, hl]), wn (e := (j : Int) + 1) (n := j + 1) (by omega) (by omega)]
    have := Qq hc N b J n (j + 1) (swp d j (j - 1)) (by omega) (by omega) (by omega) (by rw [Bi]; exact hb) (by rw [Bi]; exact hs) (hA.swp (by omega) (by omega))
    rw [Bi] at this
    exact this
  ·rw [AB (by simp only; omega), if_neg h1]
   exact ⟨rfl, rfl, hA⟩
theorem Jt (hc : ∀ x y, P x → P y → cmp (x, y) = some (c x y)) {N a b : Nat} (J : List α → Option (Bool × List α)) (hJ : ∀ l, J l = some (false, l)) : ∀ (s i : Nat) (n : Nat) (d : Array α), s < n → s ≤ 5 → a < i → i ≤ b → b ≤ d.size → d.size < N → d.size ≤ 100000 → C0 P d →
  Gs.partialInsertionSort_L1 N (a : Int) (b : Int) cmp J n (d.toList, (i : Int), ((5 - s : Nat) : Int)) = some ((partialIns (Cb c) a b s i d).2, (partialIns (Cb c) a b s i d).1.toList) ∧ (partialIns (Cb c) a b s i d).1.size = d.size ∧ C0 P (partialIns (Cb c) a b s i d).1
 | s, i, 0, d, h, _, _, _, _, _, _, _ => by omega
 | 0, i, n + 1, d, h, _, _, _, hb, hN, hs, hA => by
  rw [Gs.partialInsertionSort_L1, AB (by simp), hJ]
  exact ⟨rfl, rfl, hA⟩
 | s + 1, i, n + 1, d, h, h5, hai, hib, hb, hN, hs, hA => by
  rw [Gs.partialInsertionSort_L1, AC (by simp only; omega)]
  simp only [A6]
  rw [Mf hc N b hb hs hA _ _ _ N i (by omega) (by omega) (by omega)]
  obtain ⟨g1, g2⟩ := JX (Cb c) d b (b + 1) i (by omega)
  have g2 := g2 hib
  unfold partialIns
  simp only
  generalize hk : scanSorted (Cb c) d b i = k at g1 g2
  have e5 : wI .i64 (((5 - (s + 1) : Nat) : Int) + 1) = ((5 - s : Nat) : Int) := wn (by omega) (by omega)
  by_cases h1 : k = b
  ·rw [if_pos h1, show (((k : Nat) : Int) == (b : Int)) = true from beq_iff_eq.2 (by omega), AO]
   exact ⟨rfl, rfl, hA⟩
  ·rw [if_neg h1, show (((k : Nat) : Int) == (b : Int)) = false from beq_eq_false_iff_ne.2 (by omega), Au, wn (e := (b : Int) - (a : Int)) (n := b - a) (by omega) (by omega)]
   by_cases h2 : b - a < 50
   ·rw [if_pos h2, AC (by omega)]
    exact ⟨rfl, rfl, hA⟩
   ·rw [if_neg h2, AB (by omega)]
    have k1 : k < d.size := by omega
    have k2 : k - 1 < d.size := by omega
    simp only [wn (e := (k : Int) - 1) (n := k - 1) (by omega) (by omega), gi k1, gi k2, oS, Int.toNat_natCast]
    rw [H9 (by simp; omega)]
    simp only [← EC]
    rw [wn (e := (k : Int) - (a : Int)) (n := k - a) (by omega) (by omega), e5]
    have hA1 := hA.swp (i := k) (j := k - 1) k1 k2
    have hs1 := Bi d k (k - 1)
    -- the second shift and the next step
    have fin : ∀ d2 : Array α, d2.size = d.size → C0 P d2 →
      (AV (decide (2 ≤ (wI .i64 ((b : Int) - (k : Int)))))
        (Gs.partialInsertionSort_L33 N (b : Int) cmp (fun v34 => Gs.partialInsertionSort_L1 N (a : Int) (b : Int) cmp J n (v34, (k : Int), ((5 - s : Nat) : Int))) N (d2.toList, (wI .i64 ((k : Int) + 1))))
        (Gs.partialInsertionSort_L1 N (a : Int) (b : Int) cmp J n (d2.toList, (k : Int), ((5 - s : Nat) : Int))) =
       some ((partialIns (Cb c) a b s k (if b - k ≥ 2 then shiftUp (Cb c) b (k + 1) d2 else d2)).2, (partialIns (Cb c) a b s k (if b - k ≥ 2 then shiftUp (Cb c) b (k + 1) d2 else d2)).1.toList)) ∧
       (partialIns (Cb c) a b s k (if b - k ≥ 2 then shiftUp (Cb c) b (k + 1) d2 else d2)).1.size = d.size ∧ C0 P (partialIns (Cb c) a b s k (if b - k ≥ 2 then shiftUp (Cb c) b (k + 1) d2 else d2)).1 := by
     intro d2 z1 z2
     rw [wn (e := (b : Int) - (k : Int)) (n := b - k) (by omega) (by omega), wn (e := (k : Int) + 1) (n := k + 1) (by omega) (by omega)]
     by_cases h3 : b - k ≥ 2
     ·rw [AC (by omega), if_pos h3]
      obtain ⟨f1, f2, f3⟩ := Qq hc N b (fun v34 => Gs.partialInsertionSort_L1 N (a : Int) (b : Int) cmp J n (v34, (k : Int), ((5 - s : Nat) : Int))) N (k + 1) d2 (by omega) (by omega) (by omega) (by omega) (by omega) z2
      rw [f1]
      have := Jt hc (N := N) (a := a) (b := b) J hJ s k n (shiftUp (Cb c) b (k + 1) d2) (by omega) (by omega) (by omega) (by omega) (by omega) (by omega) (by omega) f3
      rw [f2, z1] at this
      exact this
     ·rw [AB (by omega), if_neg h3]
      have := Jt hc (N := N) (a := a) (b := b) J hJ s k n d2 (by omega) (by omega) (by omega) (by omega) (by omega) (by omega) (by omega) z2
      rw [z1] at this
      exact this
    by_cases h4 : k - a ≥ 2
    ·rw [AC (by omega), if_pos h4]
     obtain ⟨f1, f2, f3⟩ := M9 hc N (fun v22 => AV (decide (2 ≤ (wI .i64 ((b : Int) - (k : Int)))))
        (Gs.partialInsertionSort_L33 N (b : Int) cmp (fun v34 => Gs.partialInsertionSort_L1 N (a : Int) (b : Int) cmp J n (v34, (k : Int), ((5 - s : Nat) : Int))) N (v22, (wI .i64 ((k : Int) + 1))))
        (Gs.partialInsertionSort_L1 N (a : Int) (b : Int) cmp J n (v22, (k : Int), ((5 - s : Nat) : Int)))) N (k - 1) (swp d k (k - 1)) (by omega) (by omega) (by omega) hA1
     rw [f1]
     exact fin _ (by rw [f2, hs1]) f3
    ·rw [AB (by omega), if_neg h4]
     exact fin _ hs1 hA1
theorem Rl (hc : ∀ x y, P x → P y → cmp (x, y) = some (c x y)) {N a b : Nat} {d : Array α} (hab : a < b) (hb : b ≤ d.size) (hN : d.size < N) (h6 : 6 ≤ N) (hs : d.size ≤ 100000) (hA : C0 P d) :
  Gs.partialInsertionSort N d.toList (a : Int) (b : Int) cmp = some ((partialInsertionSort (Cb c) d a b).2, (partialInsertionSort (Cb c) d a b).1.toList) ∧ (partialInsertionSort (Cb c) d a b).1.size = d.size ∧ C0 P (partialInsertionSort (Cb c) d a b).1 := by
 unfold Gs.partialInsertionSort partialInsertionSort
 rw [wn (e := (a : Int) + 1) (n := a + 1) (by omega) (by omega)]
 exact Jt hc (fun v2 => some (false, v2)) (fun _ => rfl) 5 (a + 1) N d (by omega) (Nat.le_refl _) (by omega) (by omega) hb hN hs hA
end
end Go.Lift
namespace Go.Lift
open Option renaming bind_some → oS
open Go
open Go.Sort (swp scanUp scanDown partLoop partition partEqLoop partitionEqual scanUp_ge scanDown_le scanUp_spec scanDown_spec guard_of)
section
variable {α : Type} [Inhabited α] {P : α → Prop} {cmp : α × α → Option Int} {c : α → α → Int}
theorem Wf (hc : ∀ x y, P x → P y → cmp (x, y) = some (c x y)) (N a : Nat) {d : Array α} (ha : a < d.size) (hs : d.size ≤ 100000) (hA : C0 P d) (x : Int) {j : Nat} (hj : j < d.size) (J : Int → Option (Int × List α)) : ∀ (n i : Nat), j + 1 - i < n → i ≤ 100001 →
  Gs.partitionEqual_L7 N (a : Int) cmp (d.toList, x, (j : Int)) J n (i : Int) = J (scanUp (fun x => !Cb c d[a]! x) d j i : Nat)
 | 0, i, h, _ => by omega
 | n + 1, i, h, hi => by
  rw [Gs.partitionEqual_L7, scanUp]
  simp only [A6]
  by_cases h1 : i ≤ j
  ·rw [AC (by omega)]
   simp only [gi ha, gi (show i < d.size by omega), oS]
   rw [hc _ _ (hA.get ha) (hA.get (by omega))]
   simp only [oS]
   cases hl : decide (c d[a]! d[i]! < 0)
   ·rw [Bool.not_false, AO, if_pos (by simp [h1, Cb, hl]), wn (e := (i : Int) + 1) (n := i + 1) (by omega) (by omega)]
    exact Wf hc N a ha hs hA x hj J n (i + 1) (by omega) (by omega)
   ·rw [Bool.not_true, Au, if_neg (by simp [Cb, hl])]
  ·rw [AB (by omega), Au, if_neg (by simp [h1])]
theorem Sk (hc : ∀ x y, P x → P y → cmp (x, y) = some (c x y)) (N a : Nat) {d : Array α} (ha : a < d.size) (hs : d.size ≤ 100000) (hA : C0 P d) (x y : Int) {i : Nat} (hi : 1 ≤ i) (J : Int → Option (Int × List α)) : ∀ (n j : Nat), j < n → j < d.size →
  Gs.partitionEqual_L15 N (a : Int) cmp (d.toList, x, y) (i : Int) J n (j : Int) = J (scanDown (fun x => Cb c d[a]! x) d i j : Nat)
 | 0, j, h, _ => by omega
 | n + 1, j, h, hj => by
  rw [Gs.partitionEqual_L15]
  simp only [A6]
  rcases j with _ | j
  ·rw [AB (by omega), Au]; rfl
  ·rw [scanDown]
   by_cases h1 : i ≤ j + 1
   ·rw [AC (by omega)]
    simp only [gi ha, gi hj, oS]
    rw [hc _ _ (hA.get ha) (hA.get hj)]
    simp only [oS]
    cases hl : decide (c d[a]! d[j + 1]! < 0)
    ·rw [Au, if_neg (by simp [Cb, hl])]
    ·rw [AO, if_pos (by simp [h1, Cb, hl]), wn (e := ((j + 1 : Nat) : Int) - 1) (n := j) (by omega) (by omega)]
     exact Sk hc N a ha hs hA x y hi J n j (by omega) (by omega)
   ·rw [AB (by omega), Au, if_neg (by simp [h1])]
theorem RZ (hc : ∀ x y, P x → P y → cmp (x, y) = some (c x y)) (N a : Nat) (J : List α × Int → Option (Int × List α)) : ∀ (n i j : Nat) (d : Array α), j + 1 - i < n → a < d.size → d.size + 1 < N → d.size ≤ 100000 → 1 ≤ i → i ≤ j + 2 → j < d.size → C0 P d →
  Gs.partitionEqual_L5 N (a : Int) cmp J n (d.toList, (i : Int), (j : Int)) = J ((partEqLoop (Cb c) a i j d).2.toList, ((partEqLoop (Cb c) a i j d).1 : Int)) ∧ (partEqLoop (Cb c) a i j d).2.size = d.size ∧ C0 P (partEqLoop (Cb c) a i j d).2 ∧ i ≤ (partEqLoop (Cb c) a i j d).1 ∧ ∀ B, i ≤ B → j + 1 ≤ B → (partEqLoop (Cb c) a i j d).1 ≤ B
 | 0, i, j, d, h, _, _, _, _, _, _, _ => by omega
 | n + 1, i, j, d, h, ha, hN, hs, hi, hij, hj, hA => by
  rw [Gs.partitionEqual_L5]
  have u1 := scanUp_ge (fun x => !Cb c d[a]! x) d j i
  have u2 := (scanUp_spec (fun x => !Cb c d[a]! x) d j _ i rfl).2.1
  rw [Wf hc N a ha hs hA _ hj _ N i (by omega) (by omega)]
  rw [partEqLoop]
  simp only
  generalize hi2 : scanUp (fun x => !Cb c d[a]! x) d j i = i2 at u1 u2
  have d1 := scanDown_le (fun x => Cb c d[a]! x) d i2 j
  have d2 := (scanDown_spec (fun x => Cb c d[a]! x) d i2 j).2.1
  rw [Sk hc N a ha hs hA _ _ (show 1 ≤ i2 by omega) _ N j (by omega) hj]
  generalize hj2 : scanDown (fun x => Cb c d[a]! x) d i2 j = j2 at d1 d2
  by_cases h1 : i2 > j2
  ·rw [if_pos h1, AC (by omega)]
   refine ⟨rfl, rfl, hA, u1, fun B h2 h3 => ?_⟩
   by_cases h4 : i ≤ j + 1
   ·exact Nat.le_trans (u2 h4) h3
   ·rw [Go.Sort.scanUp, if_neg (by simp; omega)] at hi2
    simp only; omega
  ·rw [if_neg h1, AB (by omega), dif_pos (guard_of u1 d1 h1)]
   have k1 : i2 < d.size := by omega
   have k2 : j2 < d.size := by omega
   simp only [gi k1, gi k2, oS, Int.toNat_natCast]
   rw [H9 (by simp; omega)]
   simp only [← EC]
   rw [wn (e := (i2 : Int) + 1) (n := i2 + 1) (by omega) (by omega), wn (e := (j2 : Int) - 1) (n := j2 - 1) (by omega) (by omega)]
   obtain ⟨g1, g2, g3, g4, g5⟩ := RZ hc N a J n (i2 + 1) (j2 - 1) (swp d i2 j2) (by omega) (by rw [Bi]; omega) (by rw [Bi]; omega) (by rw [Bi]; omega) (by omega) (by omega) (by rw [Bi]; omega) (hA.swp k1 k2)
   rw [Bi] at g2
   exact ⟨g1, g2, g3, by omega, fun B h2 h3 => g5 B (by omega) (by omega)⟩
theorem XX (hc : ∀ x y, P x → P y → cmp (x, y) = some (c x y)) {N a b pv : Nat} {d : Array α} (hab : a < b) (hap : a ≤ pv) (hpb : pv < b) (hb : b ≤ d.size) (hN : d.size + 1 < N) (hs : d.size ≤ 100000) (hA : C0 P d) :
  Gs.partitionEqual N d.toList (a : Int) (b : Int) (pv : Int) cmp = some (((partitionEqual (Cb c) d a b pv).1 : Int), (partitionEqual (Cb c) d a b pv).2.toList) ∧ (partitionEqual (Cb c) d a b pv).2.size = d.size ∧ C0 P (partitionEqual (Cb c) d a b pv).2 ∧ a < (partitionEqual (Cb c) d a b pv).1 ∧ (partitionEqual (Cb c) d a b pv).1 ≤ b := by
 unfold Gs.partitionEqual partitionEqual
 have k1 : a < d.size := by omega
 have k2 : pv < d.size := by omega
 simp only [gi k1, gi k2, oS, Int.toNat_natCast]
 rw [H9 (by simp; omega)]
 simp only [← EC]
 rw [wn (e := (a : Int) + 1) (n := a + 1) (by omega) (by omega), wn (e := (b : Int) - 1) (n := b - 1) (by omega) (by omega)]
 obtain ⟨g1, g2, g3, g4, g5⟩ := RZ hc N a (fun v6 => some (v6.2, v6.1)) N (a + 1) (b - 1) (swp d a pv) (by omega) (by rw [Bi]; omega) (by rw [Bi]; omega) (by rw [Bi]; omega) (by omega) (by omega) (by rw [Bi]; omega) (hA.swp k1 k2)
 rw [Bi] at g2
 exact ⟨g1, g2, g3, by omega, g5 b (by omega) (by omega)⟩
theorem V0 (hc : ∀ x y, P x → P y → cmp (x, y) = some (c x y)) (N a : Nat) {d : Array α} (ha : a < d.size) (hs : d.size ≤ 100000) (hA : C0 P d) (x : Int) {j : Nat} (hj : j < d.size) (J : Int → Option (Int × Bool × List α)) : ∀ (n i : Nat), j + 1 - i < n → i ≤ 100001 →
  Gs.partition_L32 N (a : Int) cmp (d.toList, x, (j : Int)) J n (i : Int) = J (scanUp (fun x => Cb c x d[a]!) d j i : Nat)
 | 0, i, h, _ => by omega
 | n + 1, i, h, hi => by
  rw [Gs.partition_L32, scanUp]
  simp only [A6]
  by_cases h1 : i ≤ j
  ·rw [AC (by omega)]
   simp only [gi ha, gi (show i < d.size by omega), oS]
   rw [hc _ _ (hA.get (by omega)) (hA.get ha)]
   simp only [oS]
   cases hl : decide (c d[i]! d[a]! < 0)
   ·rw [Au, if_neg (by simp [Cb, hl])]
   ·rw [AO, if_pos (by simp [h1, Cb, hl]), wn (e := (i : Int) + 1) (n := i + 1) (by omega) (by omega)]
    exact V0 hc N a ha hs hA x hj J n (i + 1) (by omega) (by omega)
  ·rw [AB (by omega), Au, if_neg (by simp [h1])]
theorem R3 (hc : ∀ x y, P x → P y → cmp (x, y) = some (c x y)) (N a : Nat) {d : Array α} (ha : a < d.size) (hs : d.size ≤ 100000) (hA : C0 P d) (x y : Int) {i : Nat} (hi : 1 ≤ i) (J : Int → Option (Int × Bool × List α)) : ∀ (n j : Nat), j < n → j < d.size →
  Gs.partition_L40 N (a : Int) cmp (d.toList, x, y) (i : Int) J n (j : Int) = J (scanDown (fun x => !Cb c x d[a]!) d i j : Nat)
 | 0, j, h, _ => by omega
 | n + 1, j, h, hj => by
  rw [Gs.partition_L40]
  simp only [A6]
  rcases j with _ | j
  ·rw [AB (by omega), Au]; rfl
  ·rw [scanDown]
   by_cases h1 : i ≤ j + 1
   ·rw [AC (by omega)]
    simp only [gi ha, gi hj, oS]
    rw [hc _ _ (hA.get hj) (hA.get ha)]
    simp only [oS]
    cases hl : decide (c d[j + 1]! d[a]! < 0)
    ·rw [Bool.not_false, AO, if_pos (by simp [h1, Cb, hl]), wn (e := ((j + 1 : Nat) : Int) - 1) (n := j) (by omega) (by omega)]
     exact R3 hc N a ha hs hA x y hi J n j (by omega) (by omega)
    ·rw [Bool.not_true, Au, if_neg (by simp [Cb, hl])]
   ·rw [AB (by omega), Au, if_neg (by simp [h1])]
theorem R4 (hc : ∀ x y, P x → P y → cmp (x, y) = some (c x y)) (N a : Nat) (J : List α × Int → Option (Int × Bool × List α)) : ∀ (n i j : Nat) (d : Array α), j + 1 - i < n → a < d.size → d.size + 1 < N → d.size ≤ 100000 → 1 ≤ i → i ≤ j + 2 → j < d.size → C0 P d →
  Gs.partition_L30 N (a : Int) cmp J n (d.toList, (i : Int), (j : Int)) = J ((partLoop (Cb c) a i j d).2.toList, ((partLoop (Cb c) a i j d).1 : Int)) ∧ (partLoop (Cb c) a i j d).2.size = d.size ∧ C0 P (partLoop (Cb c) a i j d).2 ∧ (partLoop (Cb c) a i j d).1 ≤ j ∧ ∀ A, A + 1 ≤ i → A ≤ j → A ≤ (partLoop (Cb c) a i j d).1
 | 0, i, j, d, h, _, _, _, _, _, _, _ => by omega
 | n + 1, i, j, d, h, ha, hN, hs, hi, hij, hj, hA => by
  rw [Gs.partition_L30]
  have u1 := scanUp_ge (fun x => Cb c x d[a]!) d j i
  have u2 := (scanUp_spec (fun x => Cb c x d[a]!) d j _ i rfl).2.1
  rw [V0 hc N a ha hs hA _ hj _ N i (by omega) (by omega)]
  rw [partLoop]
  simp only
  generalize hi2 : scanUp (fun x => Cb c x d[a]!) d j i = i2 at u1 u2
  have d1 := scanDown_le (fun x => !Cb c x d[a]!) d i2 j
  rw [R3 hc N a ha hs hA _ _ (show 1 ≤ i2 by omega) _ N j (by omega) hj]
  generalize hj2 : scanDown (fun x => !Cb c x d[a]!) d i2 j = j2 at d1
  by_cases h1 : i2 > j2
  ·rw [if_pos h1, AC (by omega)]
   refine ⟨rfl, rfl, hA, d1, fun A h2 h3 => ?_⟩
   by_cases h4 : i ≤ j + 1
   ·have := (scanDown_spec (fun x => !Cb c x d[a]!) d i2 j).2.1 (u2 h4)
    rw [hj2] at this
    simp only; omega
   ·have : j2 = j := by
     rw [← hj2]
     rcases j with _ | j
     ·rfl
     ·rw [scanDown, if_neg (by simp; omega)]
    simp only; omega
  ·rw [if_neg h1, AB (by omega), dif_pos (guard_of u1 d1 h1)]
   have k1 : i2 < d.size := by omega
   have k2 : j2 < d.size := by omega
   simp only [gi k1, gi k2, oS, Int.toNat_natCast]
   rw [H9 (by simp; omega)]
   simp only [← EC]
   rw [wn (e := (i2 : Int) + 1) (n := i2 + 1) (by omega) (by omega), wn (e := (j2 : Int) - 1) (n := j2 - 1) (by omega) (by omega)]
   obtain ⟨g1, g2, g3, g4, g5⟩ := R4 hc N a J n (i2 + 1) (j2 - 1) (swp d i2 j2) (by omega) (by rw [Bi]; omega) (by rw [Bi]; omega) (by rw [Bi]; omega) (by omega) (by omega) (by rw [Bi]; omega) (hA.swp k1 k2)
   rw [Bi] at g2
   exact ⟨g1, g2, g3, by omega, fun A h2 h3 => g5 A (by omega) (by omega)⟩
theorem T0 (hc : ∀ x y, P x → P y → cmp (x, y) = some (c x y)) (N a pv b : Nat) {p0 : List α} {v1 v2 : α} {d : Array α} (hd : (p0.set ((a : Int)).toNat v1).set ((pv : Int)).toNat v2 = d.toList) (ha : a < d.size) (hs : d.size ≤ 100000) (hA : C0 P d) (hb : b ≤ d.size) (hb1 : 1 ≤ b) (J : Int → Option (Int × Bool × List α)) : ∀ (n i : Nat), b - i < n → i ≤ 100001 →
  Gs.partition_L5 N p0 (a : Int) (b : Int) (pv : Int) cmp v1 v2 J n (i : Int) = J (scanUp (fun x => Cb c x d[a]!) d (b - 1) i : Nat)
 | 0, i, h, _ => by omega
 | n + 1, i, h, hi => by
  rw [Gs.partition_L5, scanUp]
  simp only [A6, hd]
  rw [wn (e := (b : Int) - 1) (n := b - 1) (by omega) (by omega)]
  by_cases h1 : i ≤ b - 1
  ·rw [AC (by omega)]
   simp only [gi ha, gi (show i < d.size by omega), oS]
   rw [hc _ _ (hA.get (by omega)) (hA.get ha)]
   simp only [oS]
   cases hl : decide (c d[i]! d[a]! < 0)
   ·rw [Au, if_neg (by simp [Cb, hl])]
   ·rw [AO, if_pos (by simp [h1, Cb, hl]), wn (e := (i : Int) + 1) (n := i + 1) (by omega) (by omega)]
    exact T0 hc N a pv b hd ha hs hA hb hb1 J n (i + 1) (by omega) (by omega)
  ·rw [AB (by omega), Au, if_neg (by simp [h1])]
theorem Qs (hc : ∀ x y, P x → P y → cmp (x, y) = some (c x y)) (N a pv : Nat) {p0 : List α} {v1 v2 : α} {d : Array α} (hd : (p0.set ((a : Int)).toNat v1).set ((pv : Int)).toNat v2 = d.toList) (ha : a < d.size) (hs : d.size ≤ 100000) (hA : C0 P d) {i : Nat} (hi : 1 ≤ i) (J : Int → Option (Int × Bool × List α)) : ∀ (n j : Nat), j < n → j < d.size →
  Gs.partition_L13 N p0 (a : Int) (pv : Int) cmp v1 v2 (i : Int) J n (j : Int) = J (scanDown (fun x => !Cb c x d[a]!) d i j : Nat)
 | 0, j, h, _ => by omega
 | n + 1, j, h, hj => by
  rw [Gs.partition_L13]
  simp only [A6, hd]
  rcases j with _ | j
  ·rw [AB (by omega), Au]; rfl
  ·rw [scanDown]
   by_cases h1 : i ≤ j + 1
   ·rw [AC (by omega)]
    simp only [gi ha, gi hj, oS]
    rw [hc _ _ (hA.get hj) (hA.get ha)]
    simp only [oS]
    cases hl : decide (c d[j + 1]! d[a]! < 0)
    ·rw [Bool.not_false, AO, if_pos (by simp [h1, Cb, hl]), wn (e := ((j + 1 : Nat) : Int) - 1) (n := j) (by omega) (by omega)]
     exact Qs hc N a pv hd ha hs hA hi J n j (by omega) (by omega)
    ·rw [Bool.not_true, Au, if_neg (by simp [Cb, hl])]
   ·rw [AB (by omega), Au, if_neg (by simp [h1])]
theorem XO (hc : ∀ x y, P x → P y → cmp (x, y) = some (c x y)) {N a b pv : Nat} {d0 : Array α} (hab : a < b) (hap : a ≤ pv) (hpb : pv < b) (hb : b ≤ d0.size) (hN : d0.size + 1 < N) (hs : d0.size ≤ 100000) (hA0 : C0 P d0) :
  Gs.partition N d0.toList (a : Int) (b : Int) (pv : Int) cmp = some (((partition (Cb c) d0 a b pv).1 : Int), (partition (Cb c) d0 a b pv).2.1, (partition (Cb c) d0 a b pv).2.2.toList) ∧ (partition (Cb c) d0 a b pv).2.2.size = d0.size ∧ C0 P (partition (Cb c) d0 a b pv).2.2 ∧ a ≤ (partition (Cb c) d0 a b pv).1 ∧ (partition (Cb c) d0 a b pv).1 < b := by
 unfold Gs.partition partition
 have k1 : a < d0.size := by omega
 have k2 : pv < d0.size := by omega
 simp only [gi k1, gi k2, oS]
 have hd : (d0.toList.set ((a : Int)).toNat d0[pv]!).set ((pv : Int)).toNat d0[a]! = (swp d0 a pv).toList := by rw [EC]; rfl
 have hsz := Bi d0 a pv
 have hA := hA0.swp k1 k2
 generalize swp d0 a pv = d at hd hsz hA
 rw [H9 (by simp; omega)]
 simp only [Int.toNat_natCast] at hd ⊢
 rw [wn (e := (a : Int) + 1) (n := a + 1) (by omega) (by omega), wn (e := (b : Int) - 1) (n := b - 1) (by omega) (by omega)]
 have u1 := scanUp_ge (fun x => Cb c x d[a]!) d (b - 1) (a + 1)
 have u2 := (scanUp_spec (fun x => Cb c x d[a]!) d (b - 1) _ (a + 1) rfl).2.1
 rw [T0 hc N a pv b (p0 := d0.toList) (by simpa using hd) (by omega) (by omega) hA (by omega) (by omega) _ N (a + 1) (by omega) (by omega)]
 generalize hi2 : scanUp (fun x => Cb c x d[a]!) d (b - 1) (a + 1) = i at u1 u2
 have d1 := scanDown_le (fun x => !Cb c x d[a]!) d i (b - 1)
 rw [Qs hc N a pv (p0 := d0.toList) (by simpa using hd) (by omega) (by omega) hA (show 1 ≤ i by omega) _ N (b - 1) (by omega) (by omega)]
 generalize hj2 : scanDown (fun x => !Cb c x d[a]!) d i (b - 1) = j at d1
 have a1 : a < d.size := by omega
 have a2 : j < d.size := by omega
 by_cases h1 : i > j
 ·rw [if_pos h1, AC (by omega)]
  simp only [hd, gi a1, gi a2, oS, Int.toNat_natCast]
  rw [H9 (by simp; omega)]
  simp only [← EC]
  refine ⟨trivial, by rw [Bi]; omega, hA.swp a2 a1, ?_, by omega⟩
  have := (scanDown_spec (fun x => !Cb c x d[a]!) d i (b - 1)).2.1 (u2 (by omega))
  rw [hj2] at this
  omega
 ·rw [if_neg h1, AB (by omega)]
  have a3 : i < d.size := by omega
  simp only [hd, gi a3, gi a2, oS, Int.toNat_natCast]
  rw [H9 (by simp; omega)]
  simp only [← EC]
  rw [wn (e := (i : Int) + 1) (n := i + 1) (by omega) (by omega), wn (e := (j : Int) - 1) (n := j - 1) (by omega) (by omega)]
  obtain ⟨g1, g2, g3, g4, g5⟩ := R4 hc N a (fun v31 => (A9 v31.1 (a : Int)).bind fun v53 => (A9 v31.1 v31.2).bind fun v54 => (A9 v31.1 v31.2).bind fun _ => (A9 (v31.1.set ((v31.2).toNat) v53) (a : Int)).bind fun _ =>
     some (v31.2, false, (v31.1.set ((v31.2).toNat) v53).set a v54)) N (i + 1) (j - 1) (swp d i j) (by omega) (by rw [Bi]; omega) (by rw [Bi]; omega) (by rw [Bi]; omega) (by omega) (by omega) (by rw [Bi]; omega) (hA.swp a3 a2)
  rw [Bi] at g2
  rw [g1]
  generalize hr : partLoop (Cb c) a (i + 1) (j - 1) (swp d i j) = r at g2 g3 g4 g5
  have b1 : a < r.2.size := by omega
  have b2 : r.1 < r.2.size := by omega
  simp only [gi b1, gi b2, oS, Int.toNat_natCast]
  rw [H9 (by simp; omega)]
  simp only [← EC]
  exact ⟨trivial, by rw [Bi]; omega, g3.swp b2 b1, g5 a (by omega) (by omega), by omega⟩
end
end Go.Lift
