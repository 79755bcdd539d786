/- Lemmas for ReachAlongSaid, which YtfnobkfnohhmmaaGreatFinZ3 proves. -/
import Derived.Test.YtfnobkfnohhmmaaGreatDec
import Derived.KernelRfl
import Derived.Sort.AssemblyPlain
namespace Go.Lift
open IntKind renaming wrap → wI
open Option renaming bind_some → oS
open List renaming getElem?_eq_some_iff → lI
theorem A6 {α : Type} (xs : List α) (i : Nat) : A5 xs (i : Int) = xs[i]? := by
 unfold A5; simp
theorem CC {n : Int} (h0 : -9223372036854775808 ≤ n) (h1 : n ≤ 9223372036854775807) : wI .i64 n = n := by
 simp [wI, IntKind.signed, IntKind.bits]; omega
theorem AZ {i : Nat} (h : i < 1000000) : wI .i64 ((i : Int) + 1) = ((i + 1 : Nat) : Int) := by
 rw [CC (by omega) (by omega)]; simp
@[simp] theorem AK {α : Type} {a b : Option α} : AV true a b = a := rfl
@[simp] theorem As {α : Type} {a b : Option α} : AV false a b = b := rfl
theorem AG {α : Type} {p : Prop} [Decidable p] {a b : Option α} (h : p) : AV (decide p) a b = a := by simp [h]
theorem AD {α : Type} {p : Prop} [Decidable p] {a b : Option α} (h : ¬ p) : AV (decide p) a b = b := by simp [h]
def V7 (a b : Int) : Int := if a < b then -1 else if b < a then 1 else 0
def D6 : List Int → List Int → Int
 | [], [] => 0
 | [], _ :: _ => -1
 | _ :: _, [] => 1
 | a :: as1, b :: bs => if a < b then -1 else if b < a then 1 else D6 as1 bs
theorem UE (N : Nat) (a b : Int) : EB N a b = some (V7 a b) := by
 unfold EB E7 V7
 by_cases h1 : a < b <;> by_cases h2 : b < a <;> simp [h1, h2]
theorem TY (N : Nat) (a b : Int) : Dy N a b = some (V7 a b) := by
 unfold Dy Ef V7
 by_cases h1 : a < b <;> by_cases h2 : b < a <;> simp [h1, h2]
theorem Cu {α : Type} {xs : List α} {i : Nat} {x : α} (h : xs[i]? = some x) : xs.drop i = x :: xs.drop (i + 1) := by
 obtain ⟨hi, rfl⟩ := lI.1 h
 exact List.drop_eq_getElem_cons hi
theorem P8 (N : Nat) (a b : List Int) (hb : a.length < 1000000) : ∀ (n i : Nat), i ≤ a.length → i ≤ b.length → a.length - i < n →
  B4 N a b (fun _ => AV (decide ((a.length : Int) < (b.length : Int))) (some (-1)) (some 0)) n (i : Int) = some (D6 (a.drop i) (b.drop i))
 | 0, i, _, _, h => by omega
 | n + 1, i, hi, hj, h => by
  unfold B4
  by_cases h1 : i < a.length
  ·rw [AG (by omega), A6]
   have ha : a[i]? = some a[i] := by simp [h1]
   rw [ha, Cu ha]
   simp only [oS]
   by_cases h2 : i < b.length
   ·rw [AD (by omega), A6]
    have hbb : b[i]? = some b[i] := by simp [h2]
    rw [hbb, Cu hbb]
    simp only [oS, UE, D6, V7]
    rw [AZ (by omega), P8 N a b hb n (i + 1) (by omega) (by omega) (by omega)]
    by_cases h3 : a[i] < b[i]
    ·simp [h3]
    ·by_cases h4 : b[i] < a[i]
     ·simp [h3, h4]
     ·simp [h3, h4]
   ·rw [AG (by omega), List.drop_eq_nil_of_le (by omega : b.length ≤ i)]
    simp [D6]
  ·rw [AD (by omega), List.drop_eq_nil_of_le (by omega : a.length ≤ i)]
   by_cases h2 : a.length < b.length
   ·rw [AG (by omega)]
    have hbb : b[i]? = some b[i] := by simp [show i < b.length from by omega]
    rw [Cu hbb]; simp [D6]
   ·rw [AD (by omega), List.drop_eq_nil_of_le (by omega : b.length ≤ i)]
    simp [D6]
theorem Og (N : Nat) (a b : List Int) (hb : a.length < 1000000) : ∀ (n i : Nat), i ≤ a.length → i ≤ b.length → a.length - i < n →
  Br N a b (fun _ => AV (decide ((a.length : Int) < (b.length : Int))) (some (-1)) (some 0)) n (i : Int) = some (D6 (a.drop i) (b.drop i))
 | 0, i, _, _, h => by omega
 | n + 1, i, hi, hj, h => by
  unfold Br
  by_cases h1 : i < a.length
  ·rw [AG (by omega), A6]
   have ha : a[i]? = some a[i] := by simp [h1]
   rw [ha, Cu ha]
   simp only [oS]
   by_cases h2 : i < b.length
   ·rw [AD (by omega), A6]
    have hbb : b[i]? = some b[i] := by simp [h2]
    rw [hbb, Cu hbb]
    simp only [oS, TY, D6, V7]
    rw [AZ (by omega), Og N a b hb n (i + 1) (by omega) (by omega) (by omega)]
    by_cases h3 : a[i] < b[i]
    ·simp [h3]
    ·by_cases h4 : b[i] < a[i]
     ·simp [h3, h4]
     ·simp [h3, h4]
   ·rw [AG (by omega), List.drop_eq_nil_of_le (by omega : b.length ≤ i)]
    simp [D6]
  ·rw [AD (by omega), List.drop_eq_nil_of_le (by omega : a.length ≤ i)]
   by_cases h2 : a.length < b.length
   ·rw [AG (by omega)]
    have hbb : b[i]? = some b[i] := by simp [show i < b.length from by omega]
    rw [Cu hbb]; simp [D6]
   ·rw [AD (by omega), List.drop_eq_nil_of_le (by omega : b.length ≤ i)]
    simp [D6]
theorem Ri (N : Nat) (a b : List Int) (hb : a.length < 1000000) : ∀ (n i : Nat), i ≤ a.length → i ≤ b.length → a.length - i < n →
  CV N a b (fun _ => AV (decide ((a.length : Int) < (b.length : Int))) (some (-1)) (AV (decide ((b.length : Int) < (a.length : Int))) (some 1) (some 0))) n (i : Int) = some (D6 (a.drop i) (b.drop i))
 | 0, i, _, _, h => by omega
 | n + 1, i, hi, hj, h => by
  unfold CV
  simp only [Bb]
  by_cases h1 : i < a.length
  ·rw [AG (p := (i : Int) < (a.length : Int)) (by omega)]
   have ha : a[i]? = some a[i] := by simp [h1]
   rw [Cu ha]
   by_cases h2 : i < b.length
   ·have hbb : b[i]? = some b[i] := by simp [h2]
    rw [show decide ((i : Int) < (b.length : Int)) = true from decide_eq_true (by omega), AK, A6, A6, ha, hbb, Cu hbb]
    simp only [oS, D6]
    rw [AZ (by omega), Ri N a b hb n (i + 1) (by omega) (by omega) (by omega)]
    by_cases h3 : a[i] < b[i]
    ·simp [h3]
    ·by_cases h4 : b[i] < a[i]
     ·simp [h3, h4]
     ·simp [h3, h4]
   ·rw [show decide ((i : Int) < (b.length : Int)) = false from decide_eq_false (by omega), As, AD (by omega), AG (by omega), List.drop_eq_nil_of_le (by omega : b.length ≤ i)]
    simp [D6]
  ·rw [AD (p := (i : Int) < (a.length : Int)) (by omega), As, List.drop_eq_nil_of_le (by omega : a.length ≤ i)]
   by_cases h2 : a.length < b.length
   ·rw [AG (by omega)]
    have hbb : b[i]? = some b[i] := by simp [show i < b.length from by omega]
    rw [Cu hbb]; simp [D6]
   ·rw [AD (by omega), AD (by omega), List.drop_eq_nil_of_le (by omega : b.length ≤ i)]
    simp [D6]
theorem Nj {N : Nat} {a b : List Int} (h : a.length < N) (hN : N ≤ 1000000) : Ct N a b = some (D6 a b) := by
 have := P8 N a b (by omega) N 0 (by omega) (by omega) (by omega)
 simpa [Ct] using this
theorem Qh {N : Nat} {a b : List Int} (h : a.length < N) (hN : N ≤ 1000000) : B1 N a b = some (D6 a b) := by
 have := Og N a b (by omega) N 0 (by omega) (by omega) (by omega)
 simpa [B1] using this
theorem MI {N : Nat} {a b : List Int} (h : a.length < N) (hN : N ≤ 1000000) : C4 N a b = some (D6 a b) := by
 have := Ri N a b (by omega) N 0 (by omega) (by omega) (by omega)
 simpa [C4] using this
theorem Oq : ∀ a : List Int, D6 a a = 0
 | [] => rfl
 | a :: as1 => by simp [D6, Oq as1]
theorem Ml : ∀ a b : List Int, D6 a b = 0 → a = b
 | [], [], _ => rfl
 | [], _ :: _, h => by simp [D6] at h
 | _ :: _, [], h => by simp [D6] at h
 | a :: as1, b :: bs, h => by
  unfold D6 at h
  split at h
  ·omega
  ·split at h
   ·omega
   ·rw [Ml as1 bs h, show a = b from by omega]
theorem IH : ∀ a b : List Int, D6 b a = - D6 a b
 | [], [] => rfl
 | [], _ :: _ => rfl
 | _ :: _, [] => rfl
 | a :: as1, b :: bs => by
  have := IH as1 bs
  unfold D6
  by_cases h1 : a < b
  ·simp [h1, show ¬ b < a from by omega]
  ·by_cases h2 : b < a
   ·simp [h1, h2]
   ·simp [h1, h2, this]
theorem Rv : ∀ a b c : List Int, D6 a b ≤ 0 → D6 b c ≤ 0 → D6 a c ≤ 0
 | [], _, [], _, _ => by simp [D6]
 | [], _, _ :: _, _, _ => by simp [D6]
 | _ :: _, [], _, h, _ => by simp [D6] at h
 | _ :: _, _ :: _, [], _, h => by simp [D6] at h
 | a :: as1, b :: bs, c :: cs, h1, h2 => by
  have ih := Rv as1 bs cs
  unfold D6 at h1 h2 ⊢
  split at h1 <;> split at h2 <;> (try split at h1) <;> (try split at h2) <;> split <;> (try split) <;> omega
def Qs : List Int → Int
 | [] => 0
 | x :: xs => if x = 0 then Qs xs else x
theorem Yy (N : Nat) (a : List Int) (hb : a.length < 1000000) : ∀ (n i : Nat), i ≤ a.length → a.length - i < n →
  Es N a (fun _ => some 0) n (i : Int) = some (Qs (a.drop i))
 | 0, i, _, h => by omega
 | n + 1, i, hi, h => by
  unfold Es
  by_cases h1 : i < a.length
  ·have ha : a[i]? = some a[i] := by simp [h1]
   rw [AG (by omega), A6, ha, Cu ha]
   simp only [oS, Qs]
   rw [AZ (by omega), Yy N a hb n (i + 1) (by omega) (by omega)]
   by_cases h3 : a[i] = 0
   ·simp [h3]
   ·have : (a[i] != 0) = true := by simpa using h3
    simp [h3, this]
  ·rw [AD (by omega), List.drop_eq_nil_of_le (by omega : a.length ≤ i)]
   simp [Qs]
theorem VG {N : Nat} {a : List Int} (h : a.length < N) (hN : N ≤ 1000000) : F1 N a = some (Qs a) := by
 have := Yy N a (by omega) N 0 (by omega) (by omega)
 simpa [F1] using this
theorem Wj (N : Nat) (a : List Int) (hb : a.length < 1000000) (hw : Mq Ku a) : ∀ (n i : Nat), i ≤ a.length → a.length - i < n →
  Cs N a (fun v => some v) n (a.take i, (i : Int)) = some a
 | 0, i, _, h => by omega
 | n + 1, i, hi, h => by
  unfold Cs
  by_cases h1 : i < a.length
  ·have ha : a[i]? = some a[i] := by simp [h1]
   rw [AG (by simpa using h1)]
   simp only
   rw [A6, ha]
   have hr : wI .i64 a[i] = a[i] := by
    have := hw a[i] (List.getElem_mem h1)
    unfold Ku at this
    have h2 : 0 ≤ a[i] ∧ a[i] ≤ 255 := by simpa [Lit.wf, IntKind.min, IntKind.max, IntKind.signed, IntKind.bits] using this
    exact CC (by omega) (by omega)
   simp only [oS, hr]
   have hlen : (a.take i).length + ([a[i]] : List Int).length ≤ Dw := by
    simp [Dw]; omega
   rw [show DE ((a.take i).length + ([a[i]] : List Int).length ≤ Dw) = some () from by unfold DE; rw [if_pos hlen]]
   simp only [oS]
   rw [AZ (by omega), show a.take i ++ [a[i]] = a.take (i + 1) from by rw [List.take_add_one, ha]; rfl]
   exact Wj N a hb hw n (i + 1) (by omega) (by omega)
  ·rw [AD (by simpa using h1)]
   simp only
   rw [List.take_of_length_le (by omega)]
theorem LI {N : Nat} {a : List Int} (h : a.length < N) (hN : N ≤ 1000000) (hw : Mq Ku a) : CT N a = some a := by
 have := Wj N a (by omega) hw N 0 (by omega) (by omega)
 simpa [CT] using this
def Yx (a : Ae) : Prop := a.fBase.length ≤ 8 ∧ a.fNext.length ≤ 8 ∧ a.fHeld.length ≤ 14
def GZ (a b : Ae) : Int := Qs [D6 a.fBase b.fBase, D6 a.fNext b.fNext, D6 a.fHeld b.fHeld]
theorem RP (a b : Ae) : GZ b a = - GZ a b := by
 unfold GZ
 rw [IH a.fBase b.fBase, IH a.fNext b.fNext, IH a.fHeld b.fHeld]
 simp only [Qs, Int.neg_eq_zero]
 split
 ·split
  ·split <;> simp_all
  ·rfl
 ·rfl
theorem Ok (a : Ae) : GZ a a = 0 := by unfold GZ; simp [Oq, Qs]
def D5 {α R : Type} (f : Nat → α → Option R) : Nat → List α → Option R
 | _, [] => none
 | i, x :: xs => match f i x with
  | some r => some r
  | none => D5 f (i + 1) xs
theorem Hh {α R : Type} (f : Nat → α → Option R) (i : Nat) (x : α) (xs : List α) : D5 f i (x :: xs) = match f i x with
  | some r => some r
  | none => D5 f (i + 1) xs := rfl
def BN {R : Type} (a : Option R) (b : Option R) : Option R := match a with
 | some r => some r
 | none => b
theorem DI {α R : Type} (L : Nat → Int → Option R) (xs : List α) (j : Option R) (f : Nat → α → Option R)
  (hs : ∀ (n i : Nat) (x : α), xs[i]? = some x → L (n + 1) (i : Int) = BN (f i x) (L n ((i + 1 : Nat) : Int))) (he : ∀ n : Nat, L (n + 1) (xs.length : Int) = j) :
  ∀ n i : Nat, i ≤ xs.length → xs.length - i < n → L n (i : Int) = BN (D5 f i (xs.drop i)) j
 | 0, i, _, h => by omega
 | n + 1, i, hi, h => by
  by_cases h1 : i < xs.length
  ·have hx : xs[i]? = some xs[i] := by simp [h1]
   rw [hs n i _ hx, Cu hx, DI L xs j f hs he n (i + 1) (by omega) (by omega)]
   rw [Hh]
   cases f i xs[i] <;> rfl
  ·have : i = xs.length := by omega
   subst this
   rw [he n, List.drop_eq_nil_of_le (Nat.le_refl _)]
   rfl
theorem N5 (N : Nat) (k n : Int) : DO N k n = some (decide (0 ≤ k) && decide (k < n)) := by
 unfold DO
 simp only [Bb]
 by_cases h : 0 ≤ k
 ·rw [AG h]; simp [h]
 ·rw [AD h]; simp [h]
theorem Lk (N : Nat) (t : AI) : A8 N t = some (t.fKind == 3 || t.fKind == 4) := by
 unfold A8
 simp only [Bb]
 cases h : t.fKind == 3 <;> simp
def sq (l : List (List Bool)) (n m : Int) : Bool := decide ((l.length : Int) = n) && l.all fun r => decide ((r.length : Int) = m)
theorem Nt {α : Type} (p : α → Bool) {R : Type} (r : Nat → R) : ∀ (i : Nat) (xs : List α), (D5 (fun i x => if p x then none else some (r i)) i xs).isNone = xs.all p
 | i, [] => rfl
 | i, x :: xs => by
  unfold D5
  cases h : p x <;> simp [h, Nt p r (i + 1) xs]
theorem Ol (N : Nat) (l : List (List Bool)) (n m : Int) (h : n < (N : Int)) (hN : N ≤ 1000000) : Db N l n m = some (sq l n m) := by
 unfold Db sq
 by_cases h1 : (l.length : Int) = n
 ·subst h1
  simp only [bne_self_eq_false, As, decide_true, Bool.true_and]
  have := DI (Ce N l (l.length : Int) m (fun _ => some true)) l (some true) (fun _ r => if decide ((r.length : Int) = m) then none else some false)
   (fun n i x hx => by
    have hi := (lI.1 hx).1
    rw [Ce, AG (by omega), A6, hx]
    simp only [oS]
    rw [AZ (by omega)]
    by_cases h2 : (x.length : Int) = m
    ·simp [h2, BN]
    ·have : ((x.length : Int) != m) = true := by simpa using h2
     simp [h2, this, BN])
   (fun n => by rw [Ce, AD (by omega)]) N 0 (by omega) (by omega)
  simp only [Int.ofNat_zero, List.drop_zero] at this
  rw [this]
  have h3 := Nt (fun r : List Bool => decide ((r.length : Int) = m)) (fun _ => false) 0 l
  cases hsc : D5 (fun (_ : Nat) (r : List Bool) => if decide ((r.length : Int) = m) = true then none else some false) 0 l with
  | none => rw [hsc] at h3; rw [← h3]; rfl
  | some b =>
   rw [hsc] at h3
   rw [← h3]
   have : ∀ (i : Nat) (xs : List (List Bool)) b, D5 (fun (_ : Nat) (r : List Bool) => if decide ((r.length : Int) = m) = true then none else some false) i xs = some b → b = false := by
    intro i xs
    induction xs generalizing i with
    | nil => intro b hb; cases hb
    | cons x xs ih =>
     intro b hb
     unfold D5 at hb
     split at hb
     ·rename_i r hr; cases hb; split at hr <;> simp at hr; exact hr
     ·exact ih _ b hb
   rw [this 0 l b hsc]; rfl
 ·have : ((l.length : Int) != n) = true := by simpa using h1
  simp [this, h1]
theorem Or (N : Nat) (l : List (List Bool)) (n m : Int) (h : n < (N : Int)) (hN : N ≤ 1000000) : EI N l n m = some (sq l n m) := by
 unfold EI sq
 simp only [Bb]
 by_cases h1 : (l.length : Int) = n
 ·subst h1
  simp only [beq_self_eq_true, AK, decide_true, Bool.true_and]
  have := DI (Bq N l (fun x => DA N x m) (fun _ => some (-1))) l (some (-1)) (fun i r => if decide ((r.length : Int) = m) then none else some (i : Int))
   (fun n i x hx => by
    have hi := (lI.1 hx).1
    rw [Bq, AG (by omega), A6, hx]
    simp only [oS, DA]
    rw [AZ (by omega)]
    by_cases h2 : (x.length : Int) = m
    ·simp [h2, BN]
    ·have : ((x.length : Int) != m) = true := by simpa using h2
     simp [h2, this, BN])
   (fun n => by rw [Bq, AD (by omega)]) N 0 (by omega) (by omega)
  simp only [Int.ofNat_zero, List.drop_zero] at this
  unfold CD C6
  rw [this]
  have h3 := Nt (fun r : List Bool => decide ((r.length : Int) = m)) (fun i : Nat => (i : Int)) 0 l
  cases hsc : D5 (fun (i : Nat) (r : List Bool) => if decide ((r.length : Int) = m) = true then none else some (i : Int)) 0 l with
  | none => rw [hsc] at h3; rw [← h3]; rfl
  | some b =>
   rw [hsc] at h3
   rw [← h3]
   have : ∀ (i : Nat) (xs : List (List Bool)) b, D5 (fun (i : Nat) (r : List Bool) => if decide ((r.length : Int) = m) = true then none else some (i : Int)) i xs = some b → 0 ≤ b := by
    intro i xs
    induction xs generalizing i with
    | nil => intro b hb; cases hb
    | cons x xs ih =>
     intro b hb
     rw [Hh] at hb
     split at hb
     ·rename_i r hr
      cases hb
      split at hr
      ·cases hr
      ·cases hr; omega
     ·exact ih _ b hb
   have := this 0 l b hsc
   simp [BN, this]
 ·have : ((l.length : Int) == n) = false := by simpa using h1
  simp [this, h1]
open List renaming mem_of_getElem? → lM
open List renaming getD_eq_getElem?_getD → lD
def HT (l : List (List Bool)) : Option Int := D5 (fun i row => if row.getD i false then none else some 1) 0 l
theorem PI {row : List Bool} {i : Nat} (h : i < row.length) : A5 row (i : Int) = some (row.getD i false) := by
 rw [A6, lD]; simp [h]
theorem T4 (N : Nat) (t : AI) (h : t.fRewrite.length < N) (hN : N ≤ 1000000) (hsq : ∀ row, row ∈ t.fRewrite → row.length = t.fRewrite.length) (j : Option Int) :
  BP N t (fun _ => j) N 0 = BN (HT t.fRewrite) j := by
 have := DI (BP N t (fun _ => j)) t.fRewrite j (fun i row => if row.getD i false then none else some 1)
  (fun n i x hx => by
   have hi := (lI.1 hx).1
   have hl := hsq x (lM hx)
   rw [BP, AG (by omega), A6, hx]
   simp only [oS]
   rw [PI (by omega), AZ (by omega)]
   simp only [oS]
   cases x.getD i false <;> rfl)
  (fun n => by rw [BP, AD (by omega)]) N 0 (by omega) (by omega)
 simpa [HT] using this
theorem N6 (N : Nat) (t : AI) (h : t.fRewrite.length < N) (hN : N ≤ 1000000) (hsq : ∀ row, row ∈ t.fRewrite → row.length = t.fRewrite.length) (j : Option Int) :
  CP N t (fun _ => j) N 0 = BN (HT t.fRewrite) j := by
 have := DI (CP N t (fun _ => j)) t.fRewrite j (fun i row => if row.getD i false then none else some 1)
  (fun n i x hx => by
   have hi := (lI.1 hx).1
   have hl := hsq x (lM hx)
   rw [CP, AG (by omega), A6, hx]
   simp only [oS]
   rw [PI (by omega), AZ (by omega)]
   simp only [oS]
   cases x.getD i false <;> rfl)
  (fun n => by rw [CP, AD (by omega)]) N 0 (by omega) (by omega)
 simpa [HT] using this
theorem Mn {l : List (List Bool)} {n m : Int} (h : sq l n m = true) : (l.length : Int) = n ∧ ∀ row, row ∈ l → (row.length : Int) = m := by
 unfold sq at h
 simp only [Bool.and_eq_true, decide_eq_true_eq, List.all_eq_true] at h
 exact h
def DP (p : Ah) (t : AI) : Int :=
 if t.fKind < 1 ∨ 4 < t.fKind ∨ (t.fAware = true ∧ (t.fKind = 3 ∨ t.fKind = 4)) then 1
 else if t.fFrom < 0 ∨ (p.fVersions.length : Int) ≤ t.fFrom ∨ t.fTo < 0 ∨ (p.fVersions.length : Int) ≤ t.fTo then 4
 else
  let f := p.fVersions.getD t.fFrom.toNat 0
  let g := p.fVersions.getD t.fTo.toNat 0
  if sq t.fOK f g = false then 6
  else if t.fKind = 4 then (if sq t.fRewrite f f = false then 6 else (HT t.fRewrite).getD 0)
  else if t.fRewrite.length = 0 then 0 else 6
theorem Eo {α : Type} {xs : List α} {i : Int} {d : α} (h0 : 0 ≤ i) (h1 : i < (xs.length : Int)) : A5 xs i = some (xs.getD i.toNat d) := by
 obtain ⟨k, rfl⟩ := Int.eq_ofNat_of_zero_le h0
 rw [A6, lD, Int.toNat_natCast]
 simp [show k < xs.length from by omega]
theorem Tx {t : AI} (A B : Option Int) (hk : ¬ (t.fAware = true ∧ (t.fKind = 3 ∨ t.fKind = 4))) : AV t.fAware (AV (t.fKind == 3 || t.fKind == 4) A B) B = B := by
 cases ha : t.fAware
 ·rfl
 ·have : (t.fKind == 3 || t.fKind == 4) = false := by
   rw [Bool.or_eq_false_iff]
   constructor
   ·simp only [beq_eq_false_iff_ne]; intro h; exact hk ⟨ha, .inl h⟩
   ·simp only [beq_eq_false_iff_ne]; intro h; exact hk ⟨ha, .inr h⟩
  rw [this]; rfl
theorem JI {p : Ah} {i : Int} (hv : ∀ v, v ∈ p.fVersions → 1 ≤ v ∧ v ≤ 6) (h0 : 0 ≤ i) (h1 : i < (p.fVersions.length : Int)) : 1 ≤ p.fVersions.getD i.toNat 0 ∧ p.fVersions.getD i.toNat 0 ≤ 6 := by
 refine hv _ ?_
 rw [lD, List.getElem?_eq_getElem (by omega)]
 exact List.getElem_mem _
theorem RQ (N : Nat) (p : Ah) (t : AI) (hN : N ≤ 1000000) (h6 : 7 ≤ N) (hv : ∀ v, v ∈ p.fVersions → 1 ≤ v ∧ v ≤ 6) : Eb N p t = some (DP p t) := by
 unfold Eb DP
 simp only [Bb, Lk, oS]
 by_cases k1 : t.fKind < 1
 ·simp [k1]
 by_cases k2 : 4 < t.fKind
 ·simp [k1, k2]
 rw [AD k1, AD k2]
 by_cases hk : t.fAware = true ∧ (t.fKind = 3 ∨ t.fKind = 4)
 ·obtain ⟨ha, k | k⟩ := hk <;> simp [ha, k]
 rw [As, Tx _ _ hk, if_neg (fun h => h.elim k1 fun h => h.elim k2 hk)]
 by_cases f1 : t.fFrom < 0
 ·simp [f1]
 by_cases f2 : (p.fVersions.length : Int) ≤ t.fFrom
 ·simp [f1, f2]
 by_cases f3 : t.fTo < 0
 ·simp [f1, f2, f3]
 by_cases f4 : (p.fVersions.length : Int) ≤ t.fTo
 ·simp [f1, f2, f3, f4]
 rw [AD f1, AD f2, AD f3, if_neg (fun h => h.elim f1 fun h => h.elim f2 fun h => h.elim f3 f4)]
 have hf := JI hv (i := t.fFrom) (by omega) (by omega)
 rw [decide_eq_false f4, As, Eo (d := 0) (by omega : 0 ≤ t.fFrom) (by omega), Eo (d := 0) (by omega : 0 ≤ t.fTo) (by omega)]
 simp only [oS]
 generalize p.fVersions.getD t.fFrom.toNat 0 = f at *
 generalize p.fVersions.getD t.fTo.toNat 0 = g at *
 rw [Ol N t.fOK f g (by omega) hN, Ol N t.fRewrite f f (by omega) hN]
 simp only [oS]
 cases hq : sq t.fOK f g
 ·rfl
 simp only [Bool.not_true, As]
 by_cases k4 : t.fKind = 4
 ·have : (t.fKind != 4) = false := by simp [k4]
  rw [this, As]
  simp only [k4, if_true]
  cases hr : sq t.fRewrite f f
  ·rfl
  ·have h7 := Mn hr
   simp only [Bool.not_true, As]
   rw [T4 N t (by omega) hN (fun row hm => by have := h7.2 row hm; omega)]
   cases HT t.fRewrite <;> simp [BN]
 ·have : (t.fKind != 4) = true := by simpa using k4
  rw [this, AK]
  simp only [k4, if_false]
  by_cases hr : t.fRewrite.length = 0
  ·simp [hr]
  ·have : ((t.fRewrite.length : Int) != 0) = true := bne_iff_ne.2 (by omega)
   rw [this]; simp [hr]
theorem Um (N : Nat) (k : Int) (a : Bool) : FV N k a = some (k == 1 || (k == 2 || ((k == 3 || k == 4) && !a))) := by
 unfold FV
 simp only [Bb]
 cases h1 : k == 1 <;> cases h2 : k == 2 <;> cases h3 : k == 3 <;> cases h4 : k == 4 <;> cases a <;> rfl
theorem MG (N : Nat) (p : Ah) (t : AI) (hN : N ≤ 1000000) (h6 : 7 ≤ N) (hv : ∀ v, v ∈ p.fVersions → 1 ≤ v ∧ v ≤ 6) : FA N p t = some (DP p t) := by
 unfold FA DP
 simp only [Bb, Um, N5, oS]
 by_cases hb : t.fKind < 1 ∨ 4 < t.fKind ∨ (t.fAware = true ∧ (t.fKind = 3 ∨ t.fKind = 4))
 ·have : (t.fKind == 1 || (t.fKind == 2 || ((t.fKind == 3 || t.fKind == 4) && !t.fAware))) = false := by
   rcases hb with h | h | ⟨ha, h | h⟩
   ·rw [beq_eq_false_iff_ne.2 (by omega : t.fKind ≠ 1), beq_eq_false_iff_ne.2 (by omega : t.fKind ≠ 2), beq_eq_false_iff_ne.2 (by omega : t.fKind ≠ 3), beq_eq_false_iff_ne.2 (by omega : t.fKind ≠ 4)]; rfl
   ·rw [beq_eq_false_iff_ne.2 (by omega : t.fKind ≠ 1), beq_eq_false_iff_ne.2 (by omega : t.fKind ≠ 2), beq_eq_false_iff_ne.2 (by omega : t.fKind ≠ 3), beq_eq_false_iff_ne.2 (by omega : t.fKind ≠ 4)]; rfl
   ·simp [ha, h]
   ·simp [ha, h]
  rw [this, if_pos hb]; rfl
 ·have : (t.fKind == 1 || (t.fKind == 2 || ((t.fKind == 3 || t.fKind == 4) && !t.fAware))) = true := by
   have hk : t.fKind = 1 ∨ t.fKind = 2 ∨ t.fKind = 3 ∨ t.fKind = 4 := by
    have h1 : ¬ t.fKind < 1 := fun h => hb (.inl h)
    have h2 : ¬ 4 < t.fKind := fun h => hb (.inr (.inl h))
    omega
   rcases hk with h | h | h | h
   ·simp [h]
   ·simp [h]
   ·cases ha : t.fAware
    ·simp [h]
    ·exact (hb (.inr (.inr ⟨ha, .inl h⟩))).elim
   ·cases ha : t.fAware
    ·simp [h]
    ·exact (hb (.inr (.inr ⟨ha, .inr h⟩))).elim
  rw [this, if_neg hb]
  simp only [Bool.not_true, As]
  by_cases f1 : t.fFrom < 0
  ·simp [f1, show ¬ (0 ≤ t.fFrom) from by omega]
  by_cases f2 : (p.fVersions.length : Int) ≤ t.fFrom
  ·simp [f2, show ¬ (t.fFrom < (p.fVersions.length : Int)) from by omega]
  by_cases f3 : t.fTo < 0
  ·simp [f3, show 0 ≤ t.fFrom from by omega, show t.fFrom < (p.fVersions.length : Int) from by omega, show ¬ (0 ≤ t.fTo) from by omega]
  by_cases f4 : (p.fVersions.length : Int) ≤ t.fTo
  ·simp [f4, show 0 ≤ t.fFrom from by omega, show t.fFrom < (p.fVersions.length : Int) from by omega, show ¬ (t.fTo < (p.fVersions.length : Int)) from by omega]
  rw [if_neg (fun h => h.elim f1 fun h => h.elim f2 fun h => h.elim f3 f4)]
  have hf := JI hv (i := t.fFrom) (by omega) (by omega)
  have hg := JI hv (i := t.fTo) (by omega) (by omega)
  rw [decide_eq_true (by omega : 0 ≤ t.fFrom), decide_eq_true (by omega : t.fFrom < (p.fVersions.length : Int)), decide_eq_true (by omega : 0 ≤ t.fTo), decide_eq_true (by omega : t.fTo < (p.fVersions.length : Int)), Eo (d := 0) (by omega : 0 ≤ t.fFrom) (by omega), Eo (d := 0) (by omega : 0 ≤ t.fTo) (by omega)]
  simp only [Bool.and_self, Bool.not_true, As, oS]
  generalize p.fVersions.getD t.fFrom.toNat 0 = f at *
  generalize p.fVersions.getD t.fTo.toNat 0 = g at *
  rw [Or N t.fOK f g (by omega) hN, Or N t.fRewrite f f (by omega) hN]
  simp only [oS]
  cases hq : sq t.fOK f g
  ·rfl
  simp only [Bool.not_true, As]
  by_cases k4 : t.fKind = 4
  ·simp only [k4, beq_self_eq_true, AK, if_true]
   cases hr : sq t.fRewrite f f
   ·rfl
   ·have h7 := Mn hr
    simp only [Bool.not_true, As]
    rw [N6 N t (by omega) hN (fun row hm => by have := h7.2 row hm; omega)]
    cases HT t.fRewrite <;> simp [BN]
  ·have : (t.fKind == 4) = false := beq_eq_false_iff_ne.2 k4
   rw [this, As]
   simp only [k4, if_false, Bool.not_false, AK]
   by_cases hr : t.fRewrite.length = 0
   ·rw [N6 N t (by omega) hN (fun row hm => by rw [List.eq_nil_of_length_eq_zero hr] at hm; cases hm), List.eq_nil_of_length_eq_zero hr]
    simp [HT, D5, BN]
   ·rw [decide_eq_true (by omega : 0 < (t.fRewrite.length : Int))]
    simp [hr]
def Fv (p : Ah) (i : Nat) (v : Int) : Option Int :=
 if v < 1 ∨ 6 < v ∨ p.fNow.getD i 0 < 0 ∨ v ≤ p.fNow.getD i 0 ∨ p.fTarget.getD i 0 < 0 ∨ v ≤ p.fTarget.getD i 0 then some 7 else none
def Lc (p : Ah) (_ : Nat) (t : AI) : Option Int := if DP p t = 0 then none else some (DP p t)
def Cx (p : Ah) : Int :=
 if 6 < p.fVersions.length ∨ 12 < p.fTables.length then 3
 else if p.fNow.length ≠ p.fVersions.length ∨ p.fTarget.length ≠ p.fVersions.length then 6
 else ((BN (D5 (Fv p) 0 p.fVersions) (D5 (Lc p) 0 p.fTables)).getD 0)
theorem Gw {α R : Type} {f : Nat → α → Option R} : ∀ {i : Nat} {xs : List α}, D5 f i xs = none → ∀ j x, xs[j]? = some x → f (i + j) x = none
 | _, [], _, j, x, hx => by simp at hx
 | i, y :: ys, h, j, x, hx => by
  rw [Hh] at h
  split at h
  ·cases h
  ·rename_i h0
   cases j with
   | zero => simp at hx; subst hx; exact h0
   | succ j =>
    have := Gw h j x (by simpa using hx)
    rwa [show i + 1 + j = i + (j + 1) from by omega] at this
theorem M0 {p : Ah} (h : D5 (Fv p) 0 p.fVersions = none) : ∀ v, v ∈ p.fVersions → 1 ≤ v ∧ v ≤ 6 := by
 intro v hv
 obtain ⟨i, hi⟩ := List.mem_iff_getElem?.1 hv
 have := Gw h i v hi
 unfold Fv at this
 split at this
 ·cases this
 ·rename_i hn
  constructor
  ·exact Int.not_lt.1 fun h => hn (.inl h)
  ·exact Int.not_lt.1 fun h => hn (.inr (.inl h))
theorem C3 {α : Type} {xs : List α} {i : Nat} {d : α} (h : i < xs.length) : A5 xs (i : Int) = some (xs.getD i d) := by
 rw [A6, lD]; simp [h]
theorem Qz (N : Nat) (p : Ah) (hN : N ≤ 1000000) (h1 : p.fVersions.length < N) (h2 : p.fNow.length = p.fVersions.length) (h3 : p.fTarget.length = p.fVersions.length) (j : Option Int) :
  Bl N p (fun _ => j) N 0 = BN (D5 (Fv p) 0 p.fVersions) j := by
 have := DI (Bl N p (fun _ => j)) p.fVersions j (Fv p)
  (fun n i x hx => by
   have hi := (lI.1 hx).1
   rw [Bl, AG (by omega), A6, hx]
   simp only [oS, Bb]
   rw [C3 (d := 0) (by omega), C3 (d := 0) (by omega), AZ (by omega)]
   simp only [oS]
   unfold Fv
   generalize p.fNow.getD i 0 = a
   generalize p.fTarget.getD i 0 = b
   by_cases k1 : x < 1 <;> by_cases k2 : 6 < x <;> by_cases k3 : a < 0 <;> by_cases k4 : x ≤ a <;> by_cases k5 : b < 0 <;> by_cases k6 : x ≤ b <;> simp [k1, k2, k3, k4, k5, k6, BN])
  (fun n => by rw [Bl, AD (by omega)]) N 0 (by omega) (by omega)
 simpa using this
theorem Pe (N : Nat) (p : Ah) (hN : N ≤ 1000000) (h1 : p.fVersions.length < N) (h2 : p.fNow.length = p.fVersions.length) (h3 : p.fTarget.length = p.fVersions.length) (j : Option Int) :
  BS N p (fun _ => j) N 0 = BN (D5 (Fv p) 0 p.fVersions) j := by
 have := DI (BS N p (fun _ => j)) p.fVersions j (Fv p)
  (fun n i x hx => by
   have hi := (lI.1 hx).1
   rw [BS, AG (by omega), A6, hx]
   simp only [oS, Bb, N5]
   rw [C3 (d := 0) (by omega), C3 (d := 0) (by omega), AZ (by omega)]
   simp only [oS]
   unfold Fv
   generalize p.fNow.getD i 0 = a
   generalize p.fTarget.getD i 0 = b
   have e1 : decide (0 ≤ a) = !decide (a < 0) := by rw [← decide_not]; congr 1; simp
   have e2 : decide (a < x) = !decide (x ≤ a) := by rw [← decide_not]; congr 1; simp
   have e3 : decide (0 ≤ b) = !decide (b < 0) := by rw [← decide_not]; congr 1; simp
   have e4 : decide (b < x) = !decide (x ≤ b) := by rw [← decide_not]; congr 1; simp
   rw [e1, e2, e3, e4]
   by_cases k1 : x < 1 <;> by_cases k2 : 6 < x <;> by_cases k3 : a < 0 <;> by_cases k4 : x ≤ a <;> by_cases k5 : b < 0 <;> by_cases k6 : x ≤ b <;> simp [k1, k2, k3, k4, k5, k6, BN])
  (fun n => by rw [BS, AD (by omega)]) N 0 (by omega) (by omega)
 simpa using this
theorem Sw (N : Nat) (p : Ah) (hN : N ≤ 1000000) (h6 : 7 ≤ N) (h1 : p.fTables.length < N) (hv : ∀ v, v ∈ p.fVersions → 1 ≤ v ∧ v ≤ 6) (j : Option Int) :
  Bi N p (fun _ => j) N 0 = BN (D5 (Lc p) 0 p.fTables) j := by
 have := DI (Bi N p (fun _ => j)) p.fTables j (Lc p)
  (fun n i x hx => by
   have hi := (lI.1 hx).1
   rw [Bi, AG (by omega), A6, hx]
   simp only [oS]
   rw [RQ N p x hN h6 hv, AZ (by omega)]
   simp only [oS]
   unfold Lc
   by_cases k : DP p x = 0
   ·simp [k, BN]
   ·rw [bne_iff_ne.2 k, if_neg k]; rfl)
  (fun n => by rw [Bi, AD (by omega)]) N 0 (by omega) (by omega)
 simpa using this
theorem QD (N : Nat) (p : Ah) (hN : N ≤ 1000000) (h6 : 7 ≤ N) (h1 : p.fTables.length < N) (hv : ∀ v, v ∈ p.fVersions → 1 ≤ v ∧ v ≤ 6) (j : Option Int) :
  BI N p (fun _ => j) N 0 = BN (D5 (Lc p) 0 p.fTables) j := by
 have := DI (BI N p (fun _ => j)) p.fTables j (Lc p)
  (fun n i x hx => by
   have hi := (lI.1 hx).1
   rw [BI, AG (by omega), A6, hx]
   simp only [oS]
   rw [MG N p x hN h6 hv, AZ (by omega)]
   simp only [oS]
   unfold Lc
   by_cases k : DP p x = 0
   ·simp [k, BN]
   ·rw [bne_iff_ne.2 k, if_neg k]; rfl)
  (fun n => by rw [BI, AD (by omega)]) N 0 (by omega) (by omega)
 simpa using this
theorem Mu (N : Nat) (p : Ah) (hN : N ≤ 1000000) (h : 20 ≤ N) : Ch N p = some (Cx p) := by
 unfold Ch Cx
 simp only [Bb]
 by_cases k1 : 6 < p.fVersions.length
 ·rw [AG (by omega)]; simp [k1]
 rw [AD (by omega)]
 by_cases k2 : 12 < p.fTables.length
 ·rw [decide_eq_true (by omega : (12 : Int) < (p.fTables.length : Int))]; simp [k2]
 rw [decide_eq_false (by omega : ¬ (12 : Int) < (p.fTables.length : Int)), As, if_neg (by omega)]
 by_cases k3 : p.fNow.length = p.fVersions.length
 ·by_cases k4 : p.fTarget.length = p.fVersions.length
  ·rw [k3, k4]
   simp only [bne_self_eq_false, As, ne_eq, not_true_eq_false, or_self, if_false]
   rw [Qz N p hN (by omega) k3 k4]
   cases hs : D5 (Fv p) 0 p.fVersions with
   | some r => rfl
   | none =>
    simp only [BN]
    rw [Sw N p hN (by omega) (by omega) (M0 hs)]
    cases D5 (Lc p) 0 p.fTables <;> rfl
  ·have : ((p.fTarget.length : Int) != (p.fVersions.length : Int)) = true := bne_iff_ne.2 (by omega)
   rw [this, k3]; simp [k4]
 ·have : ((p.fNow.length : Int) != (p.fVersions.length : Int)) = true := bne_iff_ne.2 (by omega)
  rw [this]; simp [k3]
theorem KS (N : Nat) (p : Ah) (hN : N ≤ 1000000) (h : 20 ≤ N) : C8 N p = some (Cx p) := by
 unfold C8 Cx
 simp only [Bb]
 by_cases k1 : 6 < p.fVersions.length
 ·rw [AG (by omega)]; simp [k1]
 rw [AD (by omega)]
 by_cases k2 : 12 < p.fTables.length
 ·rw [decide_eq_true (by omega : (12 : Int) < (p.fTables.length : Int))]; simp [k2]
 rw [decide_eq_false (by omega : ¬ (12 : Int) < (p.fTables.length : Int)), As, if_neg (by omega)]
 by_cases k3 : p.fNow.length = p.fVersions.length
 ·by_cases k4 : p.fTarget.length = p.fVersions.length
  ·rw [k3, k4]
   simp only [bne_self_eq_false, As, ne_eq, not_true_eq_false, or_self, if_false]
   rw [Pe N p hN (by omega) k3 k4]
   cases hs : D5 (Fv p) 0 p.fVersions with
   | some r => rfl
   | none =>
    simp only [BN]
    rw [QD N p hN (by omega) (by omega) (M0 hs)]
    cases D5 (Lc p) 0 p.fTables <;> rfl
  ·have : ((p.fTarget.length : Int) != (p.fVersions.length : Int)) = true := bne_iff_ne.2 (by omega)
   rw [this, k3]; simp [k4]
 ·have : ((p.fNow.length : Int) != (p.fVersions.length : Int)) = true := bne_iff_ne.2 (by omega)
  rw [this]; simp [k3]
theorem HV {n : Int} (h : Ku n) : 0 ≤ n ∧ n ≤ 255 := by
 unfold Ku at h
 simpa [Lit.wf, IntKind.min, IntKind.max, IntKind.signed, IntKind.bits] using h
theorem NH : ∀ k : Fin 256, CX .u8 0 (k.val : Int) = 0 := by decide +kernel
theorem NF : ∀ k : Fin 256, CX .u8 (k.val : Int) 0 = (k.val : Int) := by decide +kernel
theorem Sf {n : Int} (h : Ku n) : CX .u8 0 n = 0 := by
 have := HV h
 obtain ⟨k, rfl⟩ := Int.eq_ofNat_of_zero_le this.1
 exact NH ⟨k, by omega⟩
theorem SX {n : Int} (h : Ku n) : CX .u8 n 0 = n := by
 have := HV h
 obtain ⟨k, rfl⟩ := Int.eq_ofNat_of_zero_le this.1
 exact NF ⟨k, by omega⟩
theorem FH {α R : Type} {f : Nat → α → Option R} : ∀ {i : Nat} {xs : List α} {r : R}, D5 f i xs = some r → ∃ j x, xs[j]? = some x ∧ f (i + j) x = some r
 | _, [], _, h => by cases h
 | i, y :: ys, r, h => by
  rw [Hh] at h
  split at h
  ·rename_i r' h0
   cases h
   exact ⟨0, y, rfl, h0⟩
  ·obtain ⟨j, x, h1, h2⟩ := FH h
   exact ⟨j + 1, x, by simpa using h1, by rwa [show i + (j + 1) = i + 1 + j from by omega]⟩
structure Ca (p : Ah) : Prop where
 nv : p.fVersions.length ≤ 6
 nt : p.fTables.length ≤ 12
 now : p.fNow.length = p.fVersions.length
 tgt : p.fTarget.length = p.fVersions.length
 ver : ∀ v, v ∈ p.fVersions → 1 ≤ v ∧ v ≤ 6
 tab : ∀ t, t ∈ p.fTables → DP p t = 0
theorem Qu (l : List (List Bool)) : (HT l).getD 0 = 0 ∨ (HT l).getD 0 = 1 := by
 cases h : HT l with
 | none => exact .inl rfl
 | some r =>
  obtain ⟨j, x, _, h⟩ := FH h
  split at h
  ·cases h
  ·cases h; exact .inr rfl
theorem Pq (p : Ah) (t : AI) : DP p t = 0 ∨ DP p t = 1 ∨ DP p t = 4 ∨ DP p t = 6 := by
 unfold DP
 split
 ·exact .inr (.inl rfl)
 split
 ·exact .inr (.inr (.inl rfl))
 simp only
 split
 ·exact .inr (.inr (.inr rfl))
 split
 ·split
  ·exact .inr (.inr (.inr rfl))
  ·rcases Qu t.fRewrite with h | h
   ·exact .inl h
   ·exact .inr (.inl h)
 ·split
  ·exact .inl rfl
  ·exact .inr (.inr (.inr rfl))
theorem HL (p : Ah) : (Cx p = 0 ∧ Ca p) ∨ (Cx p = 1 ∨ Cx p = 3 ∨ Cx p = 4 ∨ Cx p = 6 ∨ Cx p = 7) := by
 unfold Cx
 split
 ·simp
 rename_i k1
 split
 ·simp
 rename_i k2
 cases hs : D5 (Fv p) 0 p.fVersions with
 | some r =>
  obtain ⟨j, x, _, h⟩ := FH hs
  unfold Fv at h
  split at h
  ·cases h; simp [BN]
  ·cases h
 | none =>
  cases ht : D5 (Lc p) 0 p.fTables with
  | some r =>
   obtain ⟨j, t, _, h⟩ := FH ht
   unfold Lc at h
   split at h
   ·cases h
   ·rename_i hne
    cases h
    simp only [BN, Option.getD_some]
    right
    rcases Pq p t with h | h | h | h
    ·exact (hne h).elim
    ·exact .inl h
    ·exact .inr (.inr (.inl h))
    ·exact .inr (.inr (.inr (.inl h)))
  | none =>
   left
   refine ⟨rfl, by omega, by omega, by omega, by omega, M0 hs, fun t hm => ?_⟩
   obtain ⟨j, hj⟩ := List.mem_iff_getElem?.1 hm
   have := Gw ht j t hj
   unfold Lc at this
   split at this
   ·assumption
   ·cases this
def FX (m : Ae) (s : Nat) : Int :=
 if 0 ≤ m.fNext.getD s 0 then NC .u8 (Cc .u8 1 (m.fBase.getD s 0)) (Cc .u8 1 (m.fNext.getD s 0)) else Cc .u8 1 (m.fBase.getD s 0)
def Kk (m : Ae) (i : Nat) (v : Int) : Option Int :=
 if m.fBase.getD i 0 < 0 ∨ v ≤ m.fBase.getD i 0 ∨ m.fNext.getD i 0 < -1 ∨ v ≤ m.fNext.getD i 0 then some 7
 else if m.fBase.getD i 0 = m.fNext.getD i 0 then some 1 else none
def B3 (t : AI) : Bool := t.fKind == 3 || t.fKind == 4
def Uq (p : Ah) (t : AI) : Int := wI .u8 (Cc .u8 1 (p.fVersions.getD t.fFrom.toNat 0) - 1)
def Ia (p : Ah) (m : Ae) (i : Nat) (t : AI) : Option Int :=
 if B3 t = true then (if CX .u8 (FX m t.fFrom.toNat) (m.fHeld.getD i 0) ≠ 0 ∨ CX .u8 (m.fHeld.getD i 0) (Uq p t) ≠ 0 then some 1 else none)
 else if m.fHeld.getD i 0 ≠ 0 then some 1 else none
def GH (p : Ah) (m : Ae) : Int :=
 if Cx p ≠ 0 then Cx p
 else if m.fBase.length ≠ p.fVersions.length ∨ m.fNext.length ≠ p.fVersions.length ∨ m.fHeld.length ≠ p.fTables.length then 6
 else (BN (D5 (Kk m) 0 p.fVersions) (D5 (Ia p m) 0 p.fTables)).getD 0
theorem HW {p : Ah} {t : AI} (h : DP p t = 0) : 0 ≤ t.fFrom ∧ t.fFrom < (p.fVersions.length : Int) ∧ 0 ≤ t.fTo ∧ t.fTo < (p.fVersions.length : Int) := by
 unfold DP at h
 split at h
 ·cases h
 ·split at h
  ·cases h
  ·omega
theorem Kd (N : Nat) (m : Ae) (s : Int) (h0 : 0 ≤ s) (h1 : s < (m.fBase.length : Int)) (h2 : s < (m.fNext.length : Int)) (hb : 0 ≤ m.fBase.getD s.toNat 0) : Ey N m s = some (FX m s.toNat) := by
 unfold Ey FX
 rw [Eo (d := 0) h0 h1, Eo (d := 0) h0 h2]
 simp only [oS, Bb]
 rw [show DE (0 ≤ m.fBase.getD s.toNat 0) = some () from by unfold DE; rw [if_pos hb]]
 simp only [oS]
 by_cases h : 0 ≤ m.fNext.getD s.toNat 0
 ·rw [AG h, if_pos h, show DE (0 ≤ m.fNext.getD s.toNat 0) = some () from by unfold DE; rw [if_pos h]]; rfl
 ·rw [AD h, if_neg h]
theorem IT (N : Nat) (m : Ae) (s : Int) (h0 : 0 ≤ s) (h1 : s < (m.fBase.length : Int)) (h2 : s < (m.fNext.length : Int)) (hb : 0 ≤ m.fBase.getD s.toNat 0) : BM N m s = some (FX m s.toNat) := by
 unfold BM FX
 rw [Eo (d := 0) h0 h1, Eo (d := 0) h0 h2]
 simp only [oS, Bb]
 rw [show DE (0 ≤ m.fBase.getD s.toNat 0) = some () from by unfold DE; rw [if_pos hb]]
 simp only [oS]
 by_cases h : 0 ≤ m.fNext.getD s.toNat 0
 ·rw [AG h, if_pos h, show DE (0 ≤ m.fNext.getD s.toNat 0) = some () from by unfold DE; rw [if_pos h]]; rfl
 ·rw [AD h, if_neg h]
theorem O2 (N : Nat) (p : Ah) (m : Ae) (hN : N ≤ 1000000) (h1 : p.fVersions.length < N) (h2 : m.fBase.length = p.fVersions.length) (h3 : m.fNext.length = p.fVersions.length) (j : Option Int) :
  DN N p m (fun _ => j) N 0 = BN (D5 (Kk m) 0 p.fVersions) j := by
 have := DI (DN N p m (fun _ => j)) p.fVersions j (Kk m)
  (fun n i x hx => by
   have hi := (lI.1 hx).1
   rw [DN, AG (by omega), A6, hx]
   simp only [oS, Bb]
   rw [C3 (d := 0) (by omega), C3 (d := 0) (by omega), AZ (by omega)]
   simp only [oS]
   unfold Kk
   generalize m.fBase.getD i 0 = a
   generalize m.fNext.getD i 0 = b
   by_cases k7 : a = b
   ·subst k7
    by_cases k3 : a < 0 <;> by_cases k4 : x ≤ a <;> by_cases k5 : a < -1 <;> simp [k3, k4, k5, BN]
   ·have k8 : (a == b) = false := beq_eq_false_iff_ne.2 k7
    by_cases k3 : a < 0 <;> by_cases k4 : x ≤ a <;> by_cases k5 : b < -1 <;> by_cases k6 : x ≤ b <;> simp [k3, k4, k5, k6, k7, k8, BN])
  (fun n => by rw [DN, AD (by omega)]) N 0 (by omega) (by omega)
 simpa using this
theorem OS (N : Nat) (p : Ah) (m : Ae) (hN : N ≤ 1000000) (h1 : p.fVersions.length < N) (h2 : m.fBase.length = p.fVersions.length) (h3 : m.fNext.length = p.fVersions.length) (j : Option Int) :
  BY N p m (fun _ => j) N 0 = BN (D5 (Kk m) 0 p.fVersions) j := by
 have := DI (BY N p m (fun _ => j)) p.fVersions j (Kk m)
  (fun n i x hx => by
   have hi := (lI.1 hx).1
   rw [BY, AG (by omega), show A5 p.fVersions (i : Int) = some x from by rw [A6, hx]]
   simp only [oS, Bb]
   rw [C3 (d := 0) (by omega), C3 (d := 0) (by omega), AZ (by omega)]
   simp only [oS]
   unfold Kk
   generalize m.fBase.getD i 0 = a
   generalize m.fNext.getD i 0 = b
   by_cases k7 : a = b
   ·subst k7
    by_cases k3 : a < 0 <;> by_cases k4 : x ≤ a <;> by_cases k5 : a < -1 <;> simp [k3, k4, k5, BN]
   ·have k8 : (a == b) = false := beq_eq_false_iff_ne.2 k7
    by_cases k3 : a < 0 <;> by_cases k4 : x ≤ a <;> by_cases k5 : b < -1 <;> by_cases k6 : x ≤ b <;> simp [k3, k4, k5, k6, k7, k8, BN])
  (fun n => by rw [BY, AD (by omega)]) N 0 (by omega) (by omega)
 simpa using this
structure MixServ (p : Ah) (m : Ae) : Prop where
 base : m.fBase.length = p.fVersions.length
 next : m.fNext.length = p.fVersions.length
 held : m.fHeld.length = p.fTables.length
 b0 : ∀ i, i < p.fVersions.length → 0 ≤ m.fBase.getD i 0 ∧ m.fBase.getD i 0 < p.fVersions.getD i 0
 n0 : ∀ i, i < p.fVersions.length → -1 ≤ m.fNext.getD i 0 ∧ m.fNext.getD i 0 < p.fVersions.getD i 0
 ne : ∀ i, i < p.fVersions.length → m.fBase.getD i 0 ≠ m.fNext.getD i 0
theorem Pf {p : Ah} {m : Ae} (h2 : m.fBase.length = p.fVersions.length) (h3 : m.fNext.length = p.fVersions.length) (h4 : m.fHeld.length = p.fTables.length) (h : D5 (Kk m) 0 p.fVersions = none) : MixServ p m := by
 have key : ∀ i, i < p.fVersions.length → ¬ (m.fBase.getD i 0 < 0 ∨ p.fVersions.getD i 0 ≤ m.fBase.getD i 0 ∨ m.fNext.getD i 0 < -1 ∨ p.fVersions.getD i 0 ≤ m.fNext.getD i 0) ∧ ¬ m.fBase.getD i 0 = m.fNext.getD i 0 := by
  intro i hi
  have hx : p.fVersions[i]? = some (p.fVersions.getD i 0) := by rw [lD]; simp [hi]
  have := Gw h i _ hx
  rw [Nat.zero_add] at this
  unfold Kk at this
  split at this
  ·cases this
  ·split at this
   ·cases this
   ·rename_i k1 k2; exact ⟨k1, k2⟩
 exact ⟨h2, h3, h4, fun i hi => by have := (key i hi).1; omega, fun i hi => by have := (key i hi).1; omega, fun i hi => (key i hi).2⟩
theorem PU {m : Ae} (hw : Mq Ku m.fHeld) {i : Nat} (h : i < m.fHeld.length) : Ku (m.fHeld.getD i 0) := by
 refine hw _ ?_
 rw [lD, List.getElem?_eq_getElem h]
 exact List.getElem_mem _
theorem Iw (N : Nat) (t : AI) : EV N t = some (B3 t) := by
 unfold EV B3
 simp only [Bb]
 cases h : t.fKind == 3 <;> simp
theorem F0 (N : Nat) (t : AI) : A8 N t = some (B3 t) := Lk N t
theorem Qt (N : Nat) (p : Ah) (m : Ae) (hN : N ≤ 1000000) (h1 : p.fTables.length < N) (hp : Ca p) (hm : MixServ p m) (hw : Mq Ku m.fHeld) (j : Option Int) :
  Di N p m (fun _ => j) N 0 = BN (D5 (Ia p m) 0 p.fTables) j := by
 have := DI (Di N p m (fun _ => j)) p.fTables j (Ia p m)
  (fun n i x hx => by
   have hi := (lI.1 hx).1
   have hin := HW (hp.tab x (lM hx))
   have hheld := PU hw (show i < m.fHeld.length from by rw [hm.held]; exact hi)
   have hv := JI hp.ver hin.1 hin.2.1
   rw [Di, AG (by omega), A6, hx]
   simp only [oS, Bb, Iw]
   rw [Kd N m x.fFrom hin.1 (by rw [hm.base]; exact hin.2.1) (by rw [hm.next]; exact hin.2.1) (hm.b0 _ (by omega)).1, Eo (d := 0) hin.1 hin.2.1, C3 (d := 0) (show i < m.fHeld.length from by rw [hm.held]; exact hi), AZ (by omega)]
   simp only [oS]
   rw [show DE (0 ≤ p.fVersions.getD x.fFrom.toNat 0) = some () from by unfold DE; rw [if_pos (by omega)]]
   simp only [oS]
   unfold Ia Uq
   rw [Sf hheld, SX hheld]
   generalize CX .u8 (FX m x.fFrom.toNat) (m.fHeld.getD i 0) = A
   generalize CX .u8 (m.fHeld.getD i 0) (wI .u8 (Cc .u8 1 (p.fVersions.getD x.fFrom.toNat 0) - 1)) = B
   generalize m.fHeld.getD i 0 = H
   cases B3 x
   ·simp only [As, bne_self_eq_false]
    by_cases k : H = 0
    ·simp [k, BN]
    ·have : (H != 0) = true := bne_iff_ne.2 k
     simp [k, this, BN]
   ·simp only [AK]
    by_cases k : A = 0
    ·by_cases k2 : B = 0
     ·simp [k, k2, BN]
     ·have : (B != 0) = true := bne_iff_ne.2 k2
      simp [k, k2, this, BN]
    ·have : (A != 0) = true := bne_iff_ne.2 k
     simp [k, this, BN])
  (fun n => by rw [Di, AD (by omega)]) N 0 (by omega) (by omega)
 simpa using this
theorem QB (N : Nat) (p : Ah) (m : Ae) (hN : N ≤ 1000000) (h1 : p.fTables.length < N) (hp : Ca p) (hm : MixServ p m) (j : Option Int) :
  BQ N p m (fun _ => j) N 0 = BN (D5 (Ia p m) 0 p.fTables) j := by
 have := DI (BQ N p m (fun _ => j)) p.fTables j (Ia p m)
  (fun n i x hx => by
   have hi := (lI.1 hx).1
   have hin := HW (hp.tab x (lM hx))
   have hv := JI hp.ver hin.1 hin.2.1
   rw [BQ, AG (by omega), A6, hx]
   simp only [oS, Bb, F0]
   rw [IT N m x.fFrom hin.1 (by rw [hm.base]; exact hin.2.1) (by rw [hm.next]; exact hin.2.1) (hm.b0 _ (by omega)).1, Eo (d := 0) hin.1 hin.2.1, C3 (d := 0) (show i < m.fHeld.length from by rw [hm.held]; exact hi), AZ (by omega)]
   simp only [oS]
   rw [show DE (0 ≤ p.fVersions.getD x.fFrom.toNat 0) = some () from by unfold DE; rw [if_pos (by omega)]]
   simp only [oS]
   unfold Ia Uq
   generalize CX .u8 (FX m x.fFrom.toNat) (m.fHeld.getD i 0) = A
   generalize CX .u8 (m.fHeld.getD i 0) (wI .u8 (Cc .u8 1 (p.fVersions.getD x.fFrom.toNat 0) - 1)) = B
   generalize m.fHeld.getD i 0 = H
   cases B3 x
   ·simp only [Bool.not_false, AK, As]
    by_cases k : H = 0
    ·simp [k, BN]
    ·have : (H != 0) = true := bne_iff_ne.2 k
     simp [k, this, BN]
   ·simp only [Bool.not_true, As, AK]
    by_cases k : A = 0
    ·by_cases k2 : B = 0
     ·simp [k, k2, BN]
     ·have : (B != 0) = true := bne_iff_ne.2 k2
      simp [k, k2, this, BN]
    ·have : (A != 0) = true := bne_iff_ne.2 k
     by_cases k2 : B = 0
     ·simp [k, k2, this, BN]
     ·have h5 : (B != 0) = true := bne_iff_ne.2 k2
      simp [k, h5, BN])
  (fun n => by rw [BQ, AD (by omega)]) N 0 (by omega) (by omega)
 simpa using this
theorem K4 (N : Nat) (p : Ah) (m : Ae) (hN : N ≤ 1000000) (h : 20 ≤ N) (hw : Mq Ku m.fHeld) : ET N p m = some (GH p m) := by
 unfold ET GH
 rw [KS N p hN h]
 simp only [oS, Bb]
 by_cases k0 : Cx p = 0
 ·have hp : Ca p := by
   rcases HL p with h | h
   ·exact h.2
   ·omega
  have hnv := hp.nv
  have hnt := hp.nt
  rw [k0]
  simp only [bne_self_eq_false, As, ne_eq, not_true_eq_false, if_false]
  by_cases k1 : m.fBase.length = p.fVersions.length
  ·by_cases k2 : m.fNext.length = p.fVersions.length
   ·by_cases k3 : m.fHeld.length = p.fTables.length
    ·rw [k1, k2, k3]
     simp only [bne_self_eq_false, As, not_true_eq_false, or_self, if_false]
     rw [O2 N p m hN (by omega) k1 k2]
     cases hs : D5 (Kk m) 0 p.fVersions with
     | some r => rfl
     | none =>
      simp only [BN]
      rw [Qt N p m hN (by omega) hp (Pf k1 k2 k3 hs) hw]
      cases D5 (Ia p m) 0 p.fTables <;> rfl
    ·have : ((m.fHeld.length : Int) != (p.fTables.length : Int)) = true := bne_iff_ne.2 (by omega)
     rw [this, k1, k2]; simp [k3]
   ·have : ((m.fNext.length : Int) != (p.fVersions.length : Int)) = true := bne_iff_ne.2 (by omega)
    rw [this, k1]; simp [k2]
  ·have : ((m.fBase.length : Int) != (p.fVersions.length : Int)) = true := bne_iff_ne.2 (by omega)
   rw [this]; simp [k1]
 ·rw [bne_iff_ne.2 k0]; simp [k0]
theorem K6 (N : Nat) (p : Ah) (m : Ae) (hN : N ≤ 1000000) (h : 20 ≤ N) : Dq N p m = some (GH p m) := by
 unfold Dq GH
 rw [Mu N p hN h]
 simp only [oS, Bb]
 by_cases k0 : Cx p = 0
 ·have hp : Ca p := by
   rcases HL p with h | h
   ·exact h.2
   ·omega
  have hnv := hp.nv
  have hnt := hp.nt
  rw [k0]
  simp only [bne_self_eq_false, As, ne_eq, not_true_eq_false, if_false]
  by_cases k1 : m.fBase.length = p.fVersions.length
  ·by_cases k2 : m.fNext.length = p.fVersions.length
   ·by_cases k3 : m.fHeld.length = p.fTables.length
    ·rw [k1, k2, k3]
     simp only [bne_self_eq_false, As, not_true_eq_false, or_self, if_false]
     rw [OS N p m hN (by omega) k1 k2]
     cases hs : D5 (Kk m) 0 p.fVersions with
     | some r => rfl
     | none =>
      simp only [BN]
      rw [QB N p m hN (by omega) hp (Pf k1 k2 k3 hs)]
      cases D5 (Ia p m) 0 p.fTables <;> rfl
    ·have : ((m.fHeld.length : Int) != (p.fTables.length : Int)) = true := bne_iff_ne.2 (by omega)
     rw [this, k1, k2]; simp [k3]
   ·have : ((m.fNext.length : Int) != (p.fVersions.length : Int)) = true := bne_iff_ne.2 (by omega)
    rw [this, k1]; simp [k2]
  ·have : ((m.fBase.length : Int) != (p.fVersions.length : Int)) = true := bne_iff_ne.2 (by omega)
   rw [this]; simp [k1]
 ·rw [bne_iff_ne.2 k0]; simp [k0]
@[simp] theorem A7 {α β : Type} (k : α) (f : α → β) : Bb k f = f k := rfl
@[simp] theorem SE {p : Prop} [Decidable p] (h : p) : DE p = some () := by unfold DE; rw [if_pos h]
theorem AA {β : Type} {p : Prop} [Decidable p] (h : p) (f : Unit → Option β) : (DE p).bind f = f () := by rw [SE h]; rfl
theorem T6 {α : Type} (b : Bool) (x y : Option α) : AV b x y = if b = true then x else y := by cases b <;> rfl
def G6 {α β : Type} (g : Nat → α → List β) : Nat → List α → List β
 | _, [] => []
 | i, x :: xs => g i x ++ G6 g (i + 1) xs
def HB {α A : Type} (f : Nat → α → A → A) : Nat → List α → A → A
 | _, [], a => a
 | i, x :: xs, a => HB f (i + 1) xs (f i x a)
theorem IG {α β : Type} {g : Nat → α → List β} {c : Nat} : ∀ {i : Nat} {xs : List α}, (∀ j x, xs[j]? = some x → (g (i + j) x).length ≤ c) → (G6 g i xs).length ≤ c * xs.length
 | _, [], _ => by simp [G6]
 | i, x :: xs, h => by
  have h1 := h 0 x rfl
  have h2 := IG (g := g) (c := c) (i := i + 1) (xs := xs) fun j y hy => by
   have := h (j + 1) y (by simpa using hy)
   rwa [show i + (j + 1) = i + 1 + j from by omega] at this
  rw [G6, List.length_append, List.length_cons, Nat.mul_add]
  simp only [Nat.add_zero] at h1
  omega
theorem HO {α A S R : Type} (L : Nat → S → Option R) (mk : A → Int → S) (xs : List α) (j : A → Option R) (f : Nat → α → A → A) (I : Nat → A → Prop)
  (hs : ∀ (n i : Nat) (x : α) (a : A), xs[i]? = some x → I i a → L (n + 1) (mk a (i : Int)) = L n (mk (f i x a) ((i + 1 : Nat) : Int)) ∧ I (i + 1) (f i x a))
  (he : ∀ (n : Nat) (a : A), I xs.length a → L (n + 1) (mk a (xs.length : Int)) = j a) :
  ∀ (n i : Nat) (a : A), i ≤ xs.length → xs.length - i < n → I i a → L n (mk a (i : Int)) = j (HB f i (xs.drop i) a) ∧ I xs.length (HB f i (xs.drop i) a)
 | 0, i, _, _, h, _ => by omega
 | n + 1, i, a, hi, h, ha => by
  by_cases h1 : i < xs.length
  ·have hx : xs[i]? = some xs[i] := by simp [h1]
   obtain ⟨e1, e2⟩ := hs n i _ a hx ha
   rw [e1, Cu hx, HB]
   exact HO L mk xs j f I hs he n (i + 1) _ (by omega) (by omega) e2
  ·have : i = xs.length := by omega
   subst this
   rw [List.drop_eq_nil_of_le (Nat.le_refl _), HB]
   exact ⟨he n a ha, ha⟩
theorem Nc {α β : Type} (g : Nat → α → List β) : ∀ (i : Nat) (xs : List α) (acc : List β), HB (fun i x a => a ++ g i x) i xs acc = acc ++ G6 g i xs
 | _, [], acc => by simp [HB, G6]
 | i, x :: xs, acc => by rw [HB, Nc g (i + 1) xs, G6, List.append_assoc]
theorem JJ {α β S R : Type} (L : Nat → S → Option R) (mk : List β → Int → S) (xs : List α) (j : List β → Option R) (g : Nat → α → List β) (c B : Nat)
  (hg : ∀ i x, xs[i]? = some x → (g i x).length ≤ c)
  (hs : ∀ (n i : Nat) (x : α) (a : List β), xs[i]? = some x → a.length + (g i x).length ≤ B → L (n + 1) (mk a (i : Int)) = L n (mk (a ++ g i x) ((i + 1 : Nat) : Int)))
  (he : ∀ (n : Nat) (a : List β), L (n + 1) (mk a (xs.length : Int)) = j a) (n : Nat) (a : List β) (hn : xs.length < n) (ha : a.length + c * xs.length ≤ B) :
  L n (mk a 0) = j (a ++ G6 g 0 xs) := by
 have := HO L mk xs j (fun i x a => a ++ g i x) (fun i b => i ≤ xs.length ∧ b.length ≤ a.length + c * i)
  (fun n i x b hx hb => by
   have h1 := hg i x hx
   have hi := (lI.1 hx).1
   have h2 : c * (i + 1) ≤ c * xs.length := Nat.mul_le_mul_left c hi
   have h3 : c * (i + 1) = c * i + c := Nat.mul_succ c i
   refine ⟨hs n i x b hx (by have := hb.2; omega), hi, ?_⟩
   rw [List.length_append]
   have := hb.2
   omega)
  (fun n b _ => he n b) n 0 a (Nat.zero_le _) (by omega) ⟨Nat.zero_le _, by omega⟩
 have h2 := this.1
 rw [List.drop_zero, Nc] at h2
 exact h2
def Du (s : Int) (v : Nat) : Bool := s.toNat.testBit v
def HG (m : Ae) (s v : Nat) : Bool := decide (m.fBase.getD s 0 = (v : Int)) || decide (m.fNext.getD s 0 = (v : Int))
theorem Uc : ∀ (s : Fin 256) (v : Fin 8), Fp .u8 (D3 .u8 (s.val : Int) (v.val : Int)) 1 = if Du (s.val : Int) v.val then 1 else 0 := by decide +kernel
theorem Pn {s : Int} {v : Nat} (h0 : 0 ≤ s) (h1 : s ≤ 255) (hv : v < 8) : Fp .u8 (D3 .u8 s (v : Int)) 1 = if Du s v then 1 else 0 := by
 obtain ⟨k, rfl⟩ := Int.eq_ofNat_of_zero_le h0
 exact Uc ⟨k, by omega⟩ ⟨v, hv⟩
theorem PA {s : Int} {v : Nat} (h0 : 0 ≤ s) (h1 : s ≤ 255) (hv : v < 8) : (Fp .u8 (D3 .u8 s (v : Int)) 1 == 0) = !Du s v := by
 rw [Pn h0 h1 hv]; cases Du s v <;> rfl
theorem PJ {s : Int} {v : Nat} (h0 : 0 ≤ s) (h1 : s ≤ 255) (hv : v < 8) : (Fp .u8 (D3 .u8 s (v : Int)) 1 == 1) = Du s v := by
 rw [Pn h0 h1 hv]; cases Du s v <;> rfl
theorem Jb {s : Int} {v : Nat} (h1 : s ≤ 255) (hv : 8 ≤ v) : Du s v = false := by
 unfold Du
 apply Nat.testBit_lt_two_pow
 have : (2 : Nat) ^ 8 ≤ 2 ^ v := Nat.pow_le_pow_right (by omega) hv
 omega
theorem IW : ∀ (b : Fin 8) (v : Fin 8), Du (Cc .u8 1 (b.val : Int)) v.val = decide (b.val = v.val) ∧ 0 ≤ Cc .u8 1 (b.val : Int) ∧ Cc .u8 1 (b.val : Int) ≤ 255 := by decide +kernel
theorem TX : ∀ (b n : Fin 8) (v : Fin 8), Du (NC .u8 (Cc .u8 1 (b.val : Int)) (Cc .u8 1 (n.val : Int))) v.val = (decide (b.val = v.val) || decide (n.val = v.val))
  ∧ 0 ≤ NC .u8 (Cc .u8 1 (b.val : Int)) (Cc .u8 1 (n.val : Int)) ∧ NC .u8 (Cc .u8 1 (b.val : Int)) (Cc .u8 1 (n.val : Int)) ≤ 255 := by decide +kernel
theorem Sn {m : Ae} {s : Nat} (hb0 : 0 ≤ m.fBase.getD s 0) (hb1 : m.fBase.getD s 0 < 8) (hn1 : m.fNext.getD s 0 < 8) :
  (∀ v, Du (FX m s) v = HG m s v) ∧ 0 ≤ FX m s ∧ FX m s ≤ 255 := by
 unfold FX HG
 obtain ⟨b, hb⟩ := Int.eq_ofNat_of_zero_le hb0
 rw [hb] at hb1 ⊢
 by_cases h : 0 ≤ m.fNext.getD s 0
 ·obtain ⟨n, hn⟩ := Int.eq_ofNat_of_zero_le h
  rw [hn] at hn1 ⊢
  rw [if_pos (by omega)]
  have h1 := TX ⟨b, by omega⟩ ⟨n, by omega⟩
  refine ⟨fun v => ?_, (h1 0).2⟩
  by_cases hv : v < 8
  ·rw [(h1 ⟨v, hv⟩).1]
   simp only [Int.ofNat_inj]
  ·rw [Jb (h1 0).2.2 (by omega)]
   simp; omega
 ·rw [if_neg h]
  have h1 := IW ⟨b, by omega⟩
  refine ⟨fun v => ?_, (h1 0).2⟩
  have h3 : decide (m.fNext.getD s 0 = (v : Int)) = false := decide_eq_false (by omega)
  rw [h3, Bool.or_false]
  by_cases hv : v < 8
  ·rw [(h1 ⟨v, hv⟩).1]
   simp only [Int.ofNat_inj]
  ·rw [Jb (h1 0).2.2 (by omega)]
   simp; omega
theorem Tl {a : Nat} (h : a < 256) : (BitVec.ofInt 8 (a : Int)).toNat = a := by
 simp; omega
theorem Nm {a b : Int} (ha : 0 ≤ a ∧ a ≤ 255) (hb : 0 ≤ b ∧ b ≤ 255) : CX .u8 a b = 0 ↔ ∀ v, Du a v = true → Du b v = true := by
 obtain ⟨a, rfl⟩ := Int.eq_ofNat_of_zero_le ha.1
 obtain ⟨b, rfl⟩ := Int.eq_ofNat_of_zero_le hb.1
 have hA := Tl (a := a) (by omega)
 have hB := Tl (a := b) (by omega)
 unfold CX Du
 simp only [IntKind.bits, Int.toNat_natCast]
 have hx : ∀ x : BitVec 8, wI .u8 (x.toNat : Int) = (x.toNat : Int) := by
  intro x
  have := x.isLt
  simp [wI, IntKind.signed, IntKind.bits]
  omega
 rw [hx]
 constructor
 ·intro h v hv
  have h0 : (BitVec.ofInt 8 (a : Int) &&& ~~~BitVec.ofInt 8 (b : Int)) = (BitVec.ofNat 8 0) := by
   apply BitVec.eq_of_toNat_eq
   simp only [BitVec.toNat_ofNat, Nat.zero_mod]
   exact Int.ofNat_inj.1 h
  by_cases hv8 : v < 8
  ·have h1 : (BitVec.ofInt 8 (a : Int) &&& ~~~BitVec.ofInt 8 (b : Int)).getLsbD v = false := by rw [h0]; simp
   rw [BitVec.getLsbD_and, BitVec.getLsbD_not] at h1
   have e1 : (BitVec.ofInt 8 (a : Int)).getLsbD v = a.testBit v := by unfold BitVec.getLsbD; rw [hA]
   have e2 : (BitVec.ofInt 8 (b : Int)).getLsbD v = b.testBit v := by unfold BitVec.getLsbD; rw [hB]
   rw [e1, e2, hv] at h1
   simpa [hv8] using h1
  ·have := Jb (s := (a : Int)) (v := v) (by omega) (by omega)
   unfold Du at this
   rw [Int.toNat_natCast, hv] at this
   cases this
 ·intro h
  have h0 : (BitVec.ofInt 8 (a : Int) &&& ~~~BitVec.ofInt 8 (b : Int)) = (BitVec.ofNat 8 0) := by
   apply BitVec.eq_of_getLsbD_eq
   intro i hi
   rw [BitVec.getLsbD_and, BitVec.getLsbD_not]
   have e1 : (BitVec.ofInt 8 (a : Int)).getLsbD i = a.testBit i := by unfold BitVec.getLsbD; rw [hA]
   have e2 : (BitVec.ofInt 8 (b : Int)).getLsbD i = b.testBit i := by unfold BitVec.getLsbD; rw [hB]
   rw [e1, e2]
   have := h i
   cases h3 : a.testBit i
   ·simp
   ·rw [this h3]; simp
  have h2 : ∀ x : BitVec 8, x = (BitVec.ofNat 8 0) → (x.toNat : Int) = 0 := fun x hx => by rw [hx]; rfl
  exact h2 _ h0
theorem TU : ∀ n : Fin 9, (∀ v : Fin 8, Du (wI .u8 (Cc .u8 1 (n.val : Int) - 1)) v.val = decide (v.val < n.val)) ∧ 0 ≤ wI .u8 (Cc .u8 1 (n.val : Int) - 1) ∧ wI .u8 (Cc .u8 1 (n.val : Int) - 1) ≤ 255 := by decide +kernel
theorem TO {n : Int} (h0 : 0 ≤ n) (h1 : n ≤ 8) : (∀ v, Du (wI .u8 (Cc .u8 1 n - 1)) v = decide ((v : Int) < n)) ∧ 0 ≤ wI .u8 (Cc .u8 1 n - 1) ∧ wI .u8 (Cc .u8 1 n - 1) ≤ 255 := by
 obtain ⟨n, rfl⟩ := Int.eq_ofNat_of_zero_le h0
 have h := TU ⟨n, by omega⟩
 refine ⟨fun v => ?_, h.2⟩
 by_cases hv : v < 8
 ·rw [h.1 ⟨v, hv⟩]; simp
 ·rw [Jb h.2.2 (by omega)]
  symm; apply decide_eq_false; omega
structure Cp (p : Ah) (m : Ae) : Prop extends MixServ p m where
 range : ∀ i, i < p.fTables.length → 0 ≤ m.fHeld.getD i 0 ∧ m.fHeld.getD i 0 ≤ 255
 low : ∀ i t, p.fTables[i]? = some t → B3 t = true → ∀ v, HG m t.fFrom.toNat v = true → Du (m.fHeld.getD i 0) v = true
 high : ∀ i t, p.fTables[i]? = some t → B3 t = true → ∀ v, Du (m.fHeld.getD i 0) v = true → (v : Int) < p.fVersions.getD t.fFrom.toNat 0
 none : ∀ i t, p.fTables[i]? = some t → B3 t = false → m.fHeld.getD i 0 = 0
theorem Iy {p : Ah} (hp : Ca p) {i : Nat} (hi : i < p.fVersions.length) : 1 ≤ p.fVersions.getD i 0 ∧ p.fVersions.getD i 0 ≤ 6 := by
 have := JI (i := (i : Int)) hp.ver (by omega) (by omega)
 simpa using this
theorem Hq {p : Ah} {m : Ae} (hp : Ca p) (hm : MixServ p m) {s : Nat} (hs : s < p.fVersions.length) :
  (∀ v, Du (FX m s) v = HG m s v) ∧ 0 ≤ FX m s ∧ FX m s ≤ 255 := by
 have h1 := hm.b0 s hs
 have h2 := hm.n0 s hs
 have h3 := Iy hp hs
 exact Sn h1.1 (by omega) (by omega)
theorem PB {p : Ah} {m : Ae} (hp : Ca p) (hm : MixServ p m) {i : Nat} {t : AI} (ht : p.fTables[i]? = some t) (hr : 0 ≤ m.fHeld.getD i 0 ∧ m.fHeld.getD i 0 ≤ 255) :
  Ia p m i t = none ↔ ((B3 t = true → (∀ v, HG m t.fFrom.toNat v = true → Du (m.fHeld.getD i 0) v = true) ∧ (∀ v, Du (m.fHeld.getD i 0) v = true → (v : Int) < p.fVersions.getD t.fFrom.toNat 0)) ∧ (B3 t = false → m.fHeld.getD i 0 = 0)) := by
 have hin := HW (hp.tab t (lM ht))
 have hrun := Hq hp hm (s := t.fFrom.toNat) (by omega)
 have hver := Iy hp (i := t.fFrom.toNat) (by omega)
 have hall := TO (n := p.fVersions.getD t.fFrom.toNat 0) (by omega) (by omega)
 unfold Ia Uq
 have e1 := Nm hrun.2 hr
 have e2 := Nm hr hall.2
 cases hst : B3 t
 ·simp
 ·simp only [if_true, true_implies, Bool.true_eq_false, false_implies, and_true, ite_eq_right_iff, reduceCtorEq, imp_false, not_or, Decidable.not_not]
  rw [e1, e2]
  simp only [hrun.1, hall.1, decide_eq_true_eq]
theorem MN {p : Ah} {m : Ae} (hw : Mq Ku m.fHeld) (h : GH p m = 0) : Ca p ∧ Cp p m := by
 unfold GH at h
 split at h
 ·rename_i k; exact (k h).elim
 ·rename_i k0
  have hp : Ca p := by
   rcases HL p with h | h
   ·exact h.2
   ·omega
  split at h
  ·cases h
  ·rename_i k1
   have b1 : m.fBase.length = p.fVersions.length := Decidable.not_not.1 fun h => k1 (.inl h)
   have b2 : m.fNext.length = p.fVersions.length := Decidable.not_not.1 fun h => k1 (.inr (.inl h))
   have b3 : m.fHeld.length = p.fTables.length := Decidable.not_not.1 fun h => k1 (.inr (.inr h))
   cases hs : D5 (Kk m) 0 p.fVersions with
   | some r =>
    obtain ⟨j, x, _, he⟩ := FH hs
    rw [hs] at h
    unfold Kk at he
    simp only [BN, Option.getD_some] at h
    split at he
    ·cases he; cases h
    ·split at he
     ·cases he; cases h
     ·cases he
   | none =>
    have hm := Pf b1 b2 b3 hs
    rw [hs] at h
    simp only [BN] at h
    cases ht : D5 (Ia p m) 0 p.fTables with
    | some r =>
     obtain ⟨j, x, _, he⟩ := FH ht
     rw [ht] at h
     simp only [Option.getD_some] at h
     subst h
     unfold Ia at he
     split at he
     ·split at he <;> cases he
     ·split at he <;> cases he
    | none =>
     have hr : ∀ i, i < p.fTables.length → 0 ≤ m.fHeld.getD i 0 ∧ m.fHeld.getD i 0 ≤ 255 := fun i hi => HV (PU hw (by omega))
     have key : ∀ i t, p.fTables[i]? = some t → _ := fun i t hi => (PB hp hm hi (hr i (lI.1 hi).1)).1 (by have := Gw ht i t hi; rwa [Nat.zero_add] at this)
     exact ⟨hp, hm, hr, fun i t hi hst => ((key i t hi).1 hst).1, fun i t hi hst => ((key i t hi).1 hst).2, fun i t hi hst => (key i t hi).2 hst⟩
theorem Ep {α R : Type} {f : Nat → α → Option R} : ∀ {i : Nat} {xs : List α}, (∀ j x, xs[j]? = some x → f (i + j) x = none) → D5 f i xs = none
 | _, [], _ => rfl
 | i, y :: ys, h => by
  rw [Hh, show f i y = none from h 0 y rfl]
  exact Ep fun j x hx => by
   have := h (j + 1) x (by simpa using hx)
   rwa [show i + (j + 1) = i + 1 + j from by omega] at this
theorem OQ {p : Ah} (hp : Ca p) (hr : ∀ i, i < p.fVersions.length → 0 ≤ p.fNow.getD i 0 ∧ p.fNow.getD i 0 < p.fVersions.getD i 0 ∧ 0 ≤ p.fTarget.getD i 0 ∧ p.fTarget.getD i 0 < p.fVersions.getD i 0) : Cx p = 0 := by
 have := hp.nv
 have := hp.nt
 have := hp.now
 have := hp.tgt
 unfold Cx
 rw [if_neg (by omega), if_neg (by omega)]
 have h1 : D5 (Fv p) 0 p.fVersions = none := Ep fun j x hx => by
  have hj := (lI.1 hx).1
  have h1 := hr j hj
  have h2 := Iy hp hj
  have e : p.fVersions.getD j 0 = x := by rw [lD, hx]; rfl
  rw [e] at h1 h2
  unfold Fv
  rw [Nat.zero_add, if_neg (by omega)]
 have h2 : D5 (Lc p) 0 p.fTables = none := Ep fun j x hx => by
  unfold Lc
  rw [if_pos (hp.tab x (lM hx))]
 rw [h1, h2]; rfl
theorem DB {p : Ah} (h : Cx p = 0) : Ca p ∧ ∀ i, i < p.fVersions.length → 0 ≤ p.fNow.getD i 0 ∧ p.fNow.getD i 0 < p.fVersions.getD i 0 ∧ 0 ≤ p.fTarget.getD i 0 ∧ p.fTarget.getD i 0 < p.fVersions.getD i 0 := by
 have hp : Ca p := by
  rcases HL p with h | h
  ·exact h.2
  ·omega
 refine ⟨hp, fun i hi => ?_⟩
 have h1 := hp.nv
 have h2 := hp.nt
 have h3 := hp.now
 have h4 := hp.tgt
 unfold Cx at h
 rw [if_neg (by omega), if_neg (by omega)] at h
 cases hs : D5 (Fv p) 0 p.fVersions with
 | some r =>
  obtain ⟨j, x, _, he⟩ := FH hs
  rw [hs] at h
  unfold Fv at he
  split at he
  ·cases he; cases h
  ·cases he
 | none =>
  have hx : p.fVersions[i]? = some (p.fVersions.getD i 0) := by rw [lD]; simp [hi]
  have := Gw hs i _ hx
  rw [Nat.zero_add] at this
  unfold Fv at this
  split at this
  ·cases this
  ·rename_i hn; omega
theorem JA {p : Ah} {m : Ae} (hv : Cx p = 0) (hm : Cp p m) : GH p m = 0 := by
 obtain ⟨hp, _⟩ := DB hv
 unfold GH
 rw [hv, if_neg (by simp), if_neg (by have := hm.base; have := hm.next; have := hm.held; omega)]
 have h1 : D5 (Kk m) 0 p.fVersions = none := Ep fun j x hx => by
  have hj := (lI.1 hx).1
  have e : p.fVersions.getD j 0 = x := by rw [lD, hx]; rfl
  have h1 := hm.b0 j hj
  have h2 := hm.n0 j hj
  have h3 := hm.ne j hj
  rw [e] at h1 h2
  unfold Kk
  rw [Nat.zero_add, if_neg (by omega), if_neg h3]
 have h2 : D5 (Ia p m) 0 p.fTables = none := Ep fun j x hx => by
  have hj := (lI.1 hx).1
  rw [Nat.zero_add]
  exact (PB hp hm.toMixServ hx (hm.range j hj)).2 ⟨fun hst => ⟨hm.low j x hx hst, hm.high j x hx hst⟩, fun hst => hm.none j x hx hst⟩
 rw [h1, h2]; rfl
def M5 {α : Type} (g : Nat → α → Bool) : Nat → List α → Bool
 | _, [] => false
 | i, x :: xs => g i x || M5 g (i + 1) xs
theorem Ko {α β : Type} (g : Nat → α → List β) (h : Nat → α → Bool) : ∀ (i : Nat) (xs : List α) (a : List β) (b : Bool),
  HB (fun i x (s : List β × Bool) => (s.1 ++ g i x, s.2 || h i x)) i xs (a, b) = (a ++ G6 g i xs, b || M5 h i xs)
 | _, [], a, b => by simp [HB, G6, M5]
 | i, x :: xs, a, b => by rw [HB, Ko g h, G6, M5, List.append_assoc, Bool.or_assoc]
def gC (i u : Nat) (m : Ae) (t : AI) (v : Nat) (ok : Bool) : List Av :=
 if HG m t.fTo.toNat v && (!ok && !t.fAware) then [⟨(i : Int), (u : Int), (v : Int)⟩] else []
def hC (m : Ae) (t : AI) (v : Nat) (ok : Bool) : Bool := HG m t.fTo.toNat v && ok
def I6 (i : Nat) (m : Ae) (t : AI) (u : Nat) (row : List Bool) : List Av :=
 G6 (gC i u m t) 0 row ++ if t.fAware && !M5 (hC m t) 0 row then [⟨(i : Int), (u : Int), -1⟩] else []
def RO (m : Ae) (i : Nat) (t : AI) (u : Nat) : Bool := if B3 t then Du (m.fHeld.getD i 0) u else HG m t.fFrom.toNat u
def IR (m : Ae) (i : Nat) (t : AI) : List Av := G6 (fun u row => if RO m i t u then I6 i m t u row else []) 0 t.fOK
def DG (p : Ah) (m : Ae) : List Av := G6 (IR m) 0 p.fTables
structure Mw (p : Ah) (t : AI) : Prop where
 kind : 1 ≤ t.fKind ∧ t.fKind ≤ 4
 aware : t.fAware = true → B3 t = false
 from0 : 0 ≤ t.fFrom ∧ t.fFrom < (p.fVersions.length : Int)
 to0 : 0 ≤ t.fTo ∧ t.fTo < (p.fVersions.length : Int)
 okL : (t.fOK.length : Int) = p.fVersions.getD t.fFrom.toNat 0
 okR : ∀ row, row ∈ t.fOK → (row.length : Int) = p.fVersions.getD t.fTo.toNat 0
 reL : t.fKind = 4 → (t.fRewrite.length : Int) = p.fVersions.getD t.fFrom.toNat 0
 reR : ∀ row, row ∈ t.fRewrite → (row.length : Int) = p.fVersions.getD t.fFrom.toNat 0
 reD : t.fKind = 4 → HT t.fRewrite = none
 reN : t.fKind ≠ 4 → t.fRewrite = []
theorem LF {p : Ah} {t : AI} (h : DP p t = 0) : Mw p t := by
 unfold DP at h
 split at h
 ·cases h
 rename_i h1
 split at h
 ·cases h
 rename_i h2
 simp only at h
 split at h
 ·cases h
 rename_i h3
 have h3 : sq t.fOK (p.fVersions.getD t.fFrom.toNat 0) (p.fVersions.getD t.fTo.toNat 0) = true := by simpa using h3
 have h3 := Mn h3
 have ha : t.fAware = true → B3 t = false := by
  intro ha
  unfold B3
  rw [Bool.or_eq_false_iff, beq_eq_false_iff_ne, beq_eq_false_iff_ne]
  exact ⟨fun hk => h1 (.inr (.inr ⟨ha, .inl hk⟩)), fun hk => h1 (.inr (.inr ⟨ha, .inr hk⟩))⟩
 split at h
 ·rename_i h4
  split at h
  ·cases h
  rename_i h5
  have h5 : sq t.fRewrite (p.fVersions.getD t.fFrom.toNat 0) (p.fVersions.getD t.fFrom.toNat 0) = true := by simpa using h5
  have h5 := Mn h5
  refine ⟨by omega, ha, by omega, by omega, h3.1, h3.2, fun _ => h5.1, h5.2, fun _ => ?_, fun h => (h h4).elim⟩
  cases hd : HT t.fRewrite with
  | none => rfl
  | some r =>
   obtain ⟨j, x, _, hx⟩ := FH hd
   rw [hd] at h
   split at hx
   ·cases hx
   ·cases hx; cases h
 ·rename_i h4
  split at h
  ·rename_i h5
   have h5 := List.eq_nil_of_length_eq_zero h5
   refine ⟨by omega, ha, by omega, by omega, h3.1, h3.2, fun h => (h4 h).elim, fun row hr => ?_, fun h => (h4 h).elim, fun _ => h5⟩
   rw [h5] at hr; cases hr
  ·cases h
theorem JN {R : Type} (b : Bool) (acc : List Av) (x : Av) (j : List Av → Option R) (h : acc.length + 1 ≤ Dw) :
  AV b ((DE (acc.length + ([x] : List Av).length ≤ Dw)).bind fun _ => j (acc ++ [x])) (j acc) = j (acc ++ if b then [x] else []) := by
 cases b
 ·simp
 ·rw [AK, AA (by simpa using h)]; rfl
theorem P4 (N : Nat) (m : Ae) (t : AI) (i u : Nat) (row : List Bool) (R : Int) (b1 b2 acc : List Av) (j : List Av × Bool → Option (List Av))
  (hN : N ≤ 1000000) (h8 : 8 ≤ N) (hrow : row.length ≤ 6) (hacc : acc.length + 6 ≤ Dw) (hR0 : 0 ≤ R) (hR1 : R ≤ 255) (hRb : ∀ v, Du R v = HG m t.fTo.toNat v) :
  BO N (b1, (i : Int)) t R (b2, (u : Int)) row j N (acc, false, 0) = j (acc ++ G6 (gC i u m t) 0 row, M5 (hC m t) 0 row) := by
 have := HO (A := List Av × Bool) (BO N (b1, (i : Int)) t R (b2, (u : Int)) row j) (fun a k => (a.1, a.2, k)) row (fun a => j a) (fun v ok s => (s.1 ++ gC i u m t v ok, s.2 || hC m t v ok))
  (fun v a => v ≤ row.length ∧ a.1.length ≤ acc.length + v)
  (fun n v ok a hx ha => by
   have hv := (lI.1 hx).1
   obtain ⟨c, f⟩ := a
   simp only at ha
   refine ⟨?_, by omega, ?_⟩
   ·rw [BO]
    simp only [A7]
    rw [AG (by omega), A6, hx]
    simp only [oS]
    rw [AA (by omega), PA hR0 hR1 (by omega), hRb, AZ (by omega), JN _ _ _ (fun l => BO N (b1, (i : Int)) t R (b2, (u : Int)) row j n (l, true, ((v + 1 : Nat) : Int))) (by omega)]
    unfold gC hC
    rw [JN _ _ _ (fun l => BO N (b1, (i : Int)) t R (b2, (u : Int)) row j n (l, ok, ((v + 1 : Nat) : Int))) (by omega)]
    cases HG m t.fTo.toNat v
    ·simp
    ·cases ok <;> cases f <;> cases t.fAware <;> simp
   ·simp only [gC, List.length_append]
    split <;> simp <;> omega)
  (fun n a _ => by
   rw [BO]
   simp only [A7]
   rw [AD (by omega)]) N 0 (acc, false) (by omega) (by omega) ⟨by omega, by simp⟩
 have h2 := this.1
 rw [List.drop_zero, Ko, Bool.false_or] at h2
 exact h2
theorem Mm {p : Ah} {t : AI} (hp : Ca p) (ht : Mw p t) : t.fOK.length ≤ 6 ∧ ∀ row, row ∈ t.fOK → row.length ≤ 6 := by
 have h1 := JI hp.ver ht.from0.1 ht.from0.2
 have h2 := JI hp.ver ht.to0.1 ht.to0.2
 have h3 := ht.okL
 exact ⟨by omega, fun row hr => by have := ht.okR row hr; omega⟩
theorem QS (i u : Nat) (m : Ae) (t : AI) (v : Nat) (ok : Bool) : (gC i u m t v ok).length ≤ 1 := by
 unfold gC; split <;> simp
theorem Q1 (i : Nat) (m : Ae) (t : AI) (u : Nat) (row : List Bool) (h : row.length ≤ 6) : (I6 i m t u row).length ≤ 7 := by
 unfold I6
 rw [List.length_append]
 have := IG (g := gC i u m t) (c := 1) (i := 0) (xs := row) (fun j x _ => QS _ _ _ _ _ _)
 split <;> simp <;> omega
theorem QO (i : Nat) (m : Ae) (t : AI) (u : Nat) (row : List Bool) (h : row.length ≤ 6) : (if RO m i t u = true then I6 i m t u row else []).length ≤ 7 := by
 have := Q1 i m t u row h
 split <;> simp <;> omega
theorem L2 {p : Ah} {t : AI} (hp : Ca p) (ht : Mw p t) (i : Nat) (m : Ae) : (IR m i t).length ≤ 42 := by
 have h1 := Mm hp ht
 have := IG (g := fun u row => if RO m i t u = true then I6 i m t u row else []) (c := 7) (i := 0) (xs := t.fOK) (fun j x hx => QO i m t _ x (h1.2 x (lM hx)))
 unfold IR
 omega
theorem KF (N : Nat) (p : Ah) (m : Ae) (t : AI) (i : Nat) (W R : Int) (b1 acc : List Av) (j : List Av → Option (List Av))
  (hN : N ≤ 1000000) (h8 : 8 ≤ N) (hp : Ca p) (ht : Mw p t) (hacc : acc.length + 42 ≤ 10000) (hR0 : 0 ≤ R) (hR1 : R ≤ 255) (hRb : ∀ v, Du R v = HG m t.fTo.toNat v) (hW0 : 0 ≤ W) (hW1 : W ≤ 255) (hWb : ∀ v, Du W v = RO m i t v) :
  B7 N (b1, (i : Int)) t R W j N (acc, 0) = j (acc ++ IR m i t) := by
 have hl := Mm hp ht
 exact JJ (B7 N (b1, (i : Int)) t R W j) (fun a k => (a, k)) t.fOK j (fun u row => if RO m i t u then I6 i m t u row else []) 7 10000
  (fun u row hx => QO i m t u row (hl.2 row (lM hx)))
  (fun n u row a hx ha => by
   have hu := (lI.1 hx).1
   have hrow := hl.2 row (lM hx)
   rw [B7]
   simp only [A7]
   rw [AG (by omega), AA (by omega), PA hW0 hW1 (by omega), hWb, A6, hx]
   simp only [oS]
   rw [P4 N m t i u row R b1 a a _ hN h8 hrow (by unfold Dw; omega) hR0 hR1 hRb, AZ (by omega)]
   cases hw : RO m i t u
   ·simp
   ·simp only [Bool.not_true, As, if_true, I6]
    have h1 := IG (g := gC i u m t) (c := 1) (i := 0) (xs := row) (fun j x _ => QS _ _ _ _ _ _)
    have := JN (R := List Av) (t.fAware && !M5 (hC m t) 0 row) (a ++ G6 (gC i u m t) 0 row) ⟨(i : Int), (u : Int), -1⟩ (fun l => B7 N (b1, (i : Int)) t R W j n (l, ((u + 1 : Nat) : Int))) (by rw [List.length_append]; unfold Dw; rw [hw, if_pos rfl] at ha; omega)
    rw [← List.append_assoc, ← this]
    cases t.fAware <;> cases M5 (hC m t) 0 row <;> rfl)
  (fun n a => by
   rw [B7]
   simp only [A7]
   rw [AD (by omega)]) N acc (by omega) (by omega)
theorem PG (N : Nat) (p : Ah) (m : Ae) (t : AI) (i u : Nat) (row : List Bool) (b1 b2 acc : List Av) (j : List Av × Bool → Option (List Av))
  (hN : N ≤ 1000000) (h8 : 8 ≤ N) (hp : Ca p) (hm : MixServ p m) (ht : Mw p t) (hu : t.fOK[u]? = some row) (hacc : acc.length + 6 ≤ Dw) :
  Bo N p m (b1, (i : Int)) t (b2, (u : Int)) j N (acc, false, 0) = j (acc ++ G6 (gC i u m t) 0 row, M5 (hC m t) 0 row) := by
 have hrow := (Mm hp ht).2 row (lM hu)
 have hR := Hq hp hm (s := t.fTo.toNat) (by have := ht.to0; omega)
 have hlen := ht.okR row (lM hu)
 have hto := ht.to0
 have := HO (A := List Av × Bool) (Bo N p m (b1, (i : Int)) t (b2, (u : Int)) j) (fun a k => (a.1, a.2, k)) row (fun a => j a) (fun v ok s => (s.1 ++ gC i u m t v ok, s.2 || hC m t v ok))
  (fun v a => v ≤ row.length ∧ a.1.length ≤ acc.length + v)
  (fun n v ok a hx ha => by
   have hv := (lI.1 hx).1
   obtain ⟨c, f⟩ := a
   simp only at ha
   refine ⟨?_, by omega, ?_⟩
   ·rw [Bo]
    simp only [A7]
    rw [Eo (d := 0) hto.1 hto.2, IT N m t.fTo hto.1 (by rw [hm.base]; exact hto.2) (by rw [hm.next]; exact hto.2) (hm.b0 _ (by omega)).1, A6, hu]
    simp only [oS]
    unfold Cf
    rw [AG (by omega), A6, hx, AA (by omega), PJ hR.2.1 hR.2.2 (by omega), hR.1]
    simp only [oS]
    rw [AZ (by omega), JN _ _ _ (fun l => Bo N p m (b1, (i : Int)) t (b2, (u : Int)) j n (l, true, ((v + 1 : Nat) : Int))) (by omega)]
    unfold gC hC
    rw [JN _ _ _ (fun l => Bo N p m (b1, (i : Int)) t (b2, (u : Int)) j n (l, ok, ((v + 1 : Nat) : Int))) (by omega)]
    cases HG m t.fTo.toNat v
    ·simp
    ·cases ok <;> cases f <;> cases t.fAware <;> simp
   ·simp only [gC, List.length_append]
    split <;> simp <;> omega)
  (fun n a _ => by
   rw [Bo]
   simp only [A7]
   rw [Eo (d := 0) hto.1 hto.2]
   simp only [oS]
   rw [AD (by omega)]) N 0 (acc, false) (by omega) (by omega) ⟨by omega, by simp⟩
 have h2 := this.1
 rw [List.drop_zero, Ko, Bool.false_or] at h2
 exact h2
theorem KD (N : Nat) (p : Ah) (m : Ae) (t : AI) (i : Nat) (W : Int) (b1 acc : List Av) (j : List Av → Option (List Av))
  (hN : N ≤ 1000000) (h8 : 8 ≤ N) (hp : Ca p) (hm : MixServ p m) (ht : Mw p t) (hacc : acc.length + 42 ≤ 10000) (hW0 : 0 ≤ W) (hW1 : W ≤ 255) (hWb : ∀ v, Du W v = RO m i t v) :
  BC N p m (b1, (i : Int)) t W j N (acc, 0) = j (acc ++ IR m i t) := by
 have hl := Mm hp ht
 have hfr := ht.from0
 have hok := ht.okL
 exact JJ (BC N p m (b1, (i : Int)) t W j) (fun a k => (a, k)) t.fOK j (fun u row => if RO m i t u then I6 i m t u row else []) 7 10000
  (fun u row hx => QO i m t u row (hl.2 row (lM hx)))
  (fun n u row a hx ha => by
   have hu := (lI.1 hx).1
   have hrow := hl.2 row (lM hx)
   rw [BC]
   simp only [A7]
   rw [Eo (d := 0) hfr.1 hfr.2]
   simp only [oS]
   unfold Cf
   rw [AG (by omega), AA (by omega), PJ hW0 hW1 (by omega), hWb]
   simp only [oS]
   rw [PG N p m t i u row b1 a a _ hN h8 hp hm ht hx (by unfold Dw; omega), AZ (by omega)]
   cases hw : RO m i t u
   ·simp
   ·simp only [Bool.not_true, As, if_true, I6]
    have h1 := IG (g := gC i u m t) (c := 1) (i := 0) (xs := row) (fun j x _ => QS _ _ _ _ _ _)
    have := JN (R := List Av) (t.fAware && !M5 (hC m t) 0 row) (a ++ G6 (gC i u m t) 0 row) ⟨(i : Int), (u : Int), -1⟩ (fun l => BC N p m (b1, (i : Int)) t W j n (l, ((u + 1 : Nat) : Int))) (by rw [List.length_append]; unfold Dw; rw [hw, if_pos rfl] at ha; omega)
    rw [← List.append_assoc, ← this]
    cases t.fAware <;> cases M5 (hC m t) 0 row <;> rfl)
  (fun n a => by
   rw [BC]
   simp only [A7]
   rw [Eo (d := 0) hfr.1 hfr.2]
   simp only [oS]
   rw [AD (by omega)]) N acc (by omega) (by omega)
theorem LC (N : Nat) (p : Ah) (m : Ae) (hN : N ≤ 1000000) (h20 : 20 ≤ N) (hp : Ca p) (hm : Cp p m) : Fa N p m = some (DG p m) := by
 unfold Fa
 have hnt := hp.nt
 rw [JJ (C2 N p m _) (fun a k => (a, k)) p.fTables some (IR m) 42 9000
  (fun i t hx => L2 hp (LF (hp.tab t (lM hx))) i m)
  (fun n i t a hx ha => by
   have hi := (lI.1 hx).1
   have ht := LF (hp.tab t (lM hx))
   have hto := ht.to0
   have hfr := ht.from0
   have hR := Hq hp hm.toMixServ (s := t.fTo.toNat) (by omega)
   have hF := Hq hp hm.toMixServ (s := t.fFrom.toNat) (by omega)
   have hH := hm.range i hi
   rw [C2]
   simp only [A7]
   rw [AG (by omega), A6, hx]
   simp only [oS, Iw]
   rw [Kd N m t.fFrom hfr.1 (by rw [hm.base]; exact hfr.2) (by rw [hm.next]; exact hfr.2) (hm.b0 _ (by omega)).1, Kd N m t.fTo hto.1 (by rw [hm.base]; exact hto.2) (by rw [hm.next]; exact hto.2) (hm.b0 _ (by omega)).1, C3 (d := 0) (by rw [hm.held]; exact hi), AZ (by omega)]
   simp only [oS]
   cases hs : B3 t
   ·rw [As, KF N p m t i _ _ a a _ hN (by omega) hp ht (by omega) hR.2.1 hR.2.2 hR.1 hF.2.1 hF.2.2 (fun v => by unfold RO; rw [hs, hF.1]; rfl)]
   ·rw [AK, KF N p m t i _ _ a a _ hN (by omega) hp ht (by omega) hR.2.1 hR.2.2 hR.1 hH.1 hH.2 (fun v => by unfold RO; rw [hs]; rfl)])
  (fun n a => by
   rw [C2]
   simp only [A7]
   rw [AD (by omega)]) N [] (by omega) (by simp; omega)]
 rfl
theorem LG (N : Nat) (p : Ah) (m : Ae) (hN : N ≤ 1000000) (h20 : 20 ≤ N) (hp : Ca p) (hm : Cp p m) : Ea N p m = some (DG p m) := by
 unfold Ea
 have hnt := hp.nt
 rw [JJ (Cj N p m _) (fun a k => (a, k)) p.fTables some (IR m) 42 9000
  (fun i t hx => L2 hp (LF (hp.tab t (lM hx))) i m)
  (fun n i t a hx ha => by
   have hi := (lI.1 hx).1
   have ht := LF (hp.tab t (lM hx))
   have hto := ht.to0
   have hfr := ht.from0
   have hF := Hq hp hm.toMixServ (s := t.fFrom.toNat) (by omega)
   have hH := hm.range i hi
   rw [Cj]
   simp only [A7]
   rw [AG (by omega), A6, hx]
   simp only [oS, F0]
   rw [IT N m t.fFrom hfr.1 (by rw [hm.base]; exact hfr.2) (by rw [hm.next]; exact hfr.2) (hm.b0 _ (by omega)).1, C3 (d := 0) (by rw [hm.held]; exact hi), AZ (by omega)]
   simp only [oS]
   cases hs : B3 t
   ·rw [As, KD N p m t i _ a a _ hN (by omega) hp hm.toMixServ ht (by omega) hF.2.1 hF.2.2 (fun v => by unfold RO; rw [hs, hF.1]; rfl)]
   ·rw [AK, KD N p m t i _ a a _ hN (by omega) hp hm.toMixServ ht (by omega) hH.1 hH.2 (fun v => by unfold RO; rw [hs]; rfl)])
  (fun n a => by
   rw [Cj]
   simp only [A7]
   rw [AD (by omega)]) N [] (by omega) (by simp; omega)]
 rfl
theorem Fw {A S R : Type} (L : Nat → S → Option R) (mk : A → Int → S) (len : Nat) (j : A → Option R) (I : Nat → A → Prop)
  (hs : ∀ (n i : Nat) (a : A), i < len → I i a → ∃ a', L (n + 1) (mk a (i : Int)) = L n (mk a' ((i + 1 : Nat) : Int)) ∧ I (i + 1) a')
  (he : ∀ (n : Nat) (a : A), I len a → L (n + 1) (mk a (len : Int)) = j a) :
  ∀ (n i : Nat) (a : A), i ≤ len → len - i < n → I i a → ∃ a', L n (mk a (i : Int)) = j a' ∧ I len a'
 | 0, i, _, _, h, _ => by omega
 | n + 1, i, a, hi, h, ha => by
  by_cases h1 : i < len
  ·obtain ⟨a', e1, e2⟩ := hs n i a h1 ha
   rw [e1]
   exact Fw L mk len j I hs he n (i + 1) _ (by omega) (by omega) e2
  ·have : i = len := by omega
   subst this
   exact ⟨a, he n a ha, ha⟩
theorem Ii {α : Type} {xs ys : List α} {i : Nat} {d : α} (h : i < xs.length) : (xs ++ ys).getD i d = xs.getD i d := by
 rw [lD, lD, List.getElem?_append_left h]
theorem Ij {α : Type} {xs : List α} {y : α} {i : Nat} {d : α} (h : i = xs.length) : (xs ++ [y]).getD i d = y := by
 subst h; rw [lD, List.getElem?_append_right (Nat.le_refl _)]; simp
theorem Nk {α : Type} {P : Nat → α → Prop} {xs : List α} {y : α} {d : α} {n : Nat} (hn : xs.length = n) (h : ∀ k, k < n → P k (xs.getD k d)) (hy : P n y) : ∀ k, k < n + 1 → P k ((xs ++ [y]).getD k d) := by
 intro k hk
 by_cases h1 : k < n
 ·rw [Ii (by omega)]; exact h k h1
 ·have : k = n := by omega
  subst this
  rw [Ij hn.symm]; exact hy
theorem Q7 {l : List Int} (hw : Mq Ku l) (i : Nat) : 0 ≤ l.getD i 0 ∧ l.getD i 0 ≤ 255 := by
 by_cases h : i < l.length
 ·have : l.getD i 0 ∈ l := by rw [lD, List.getElem?_eq_getElem h]; exact List.getElem_mem _
  exact HV (hw _ this)
 ·rw [lD, List.getElem?_eq_none (by omega)]
  exact ⟨by decide, by decide⟩
theorem N4 (N : Nat) {l : List Int} (hw : Mq Ku l) (i : Nat) : DH N l (i : Int) = some (l.getD i 0) := by
 unfold DH
 have h2 := Q7 hw i
 by_cases h : i < l.length
 ·rw [AG (by omega), C3 (d := 0) h]
  simp only [oS]
  rw [CC (by omega) (by omega)]
 ·rw [AD (by omega), lD, List.getElem?_eq_none (by omega)]; rfl
theorem Hg {a n : Int} (ha : 0 ≤ a) (hn : 0 < n) : 0 ≤ Int.tmod a n ∧ Int.tmod a n < n := ⟨Int.tmod_nonneg n ha, Int.tmod_lt_of_pos a hn⟩
theorem UY {l : List (List Bool)} {n m : Int} (h1 : (l.length : Int) = n) (h2 : ∀ row, row ∈ l → (row.length : Int) = m) : sq l n m = true := by
 unfold sq
 simp only [Bool.and_eq_true, decide_eq_true_eq, List.all_eq_true]
 exact ⟨h1, h2⟩
theorem VQ {p : Ah} {t : AI} (h : Mw p t) : DP p t = 0 := by
 have hk := h.kind
 have hf := h.from0
 have ht := h.to0
 unfold DP
 rw [if_neg, if_neg (by omega)]
 ·simp only [UY h.okL h.okR]
  rw [if_neg (by simp)]
  by_cases h4 : t.fKind = 4
  ·rw [if_pos h4, UY (h.reL h4) h.reR, if_neg (by simp), h.reD h4]; rfl
  ·rw [if_neg h4, h.reN h4]; rfl
 ·rintro (h1 | h1 | ⟨h1, h2⟩)
  ·omega
  ·omega
  ·have := h.aware h1
   unfold B3 at this
   rw [Bool.or_eq_false_iff, beq_eq_false_iff_ne, beq_eq_false_iff_ne] at this
   omega
theorem Sy (N : Nat) (m bad : Int) (diag : Bool) (i : Nat) (acc : List (List Bool)) {_R : Type} (j : List Bool → Option (List (List Bool))) (hN : N ≤ 1000000) (h20 : 20 ≤ N) (hm : 0 ≤ m ∧ m ≤ 6) (hi : i < 6) :
  ∃ row, Cb N m bad diag (acc, (i : Int)) j N ([], 0) = j row ∧ (row.length : Int) = m ∧ (diag = true → (i : Int) < m → row.getD i false = true) := by
 obtain ⟨M, rfl⟩ := Int.eq_ofNat_of_zero_le hm.1
 obtain ⟨row, e, h1, h2⟩ := Fw (A := List Bool) (Cb N (M : Int) bad diag (acc, (i : Int)) j) (fun a k => (a, k)) M j
  (fun k a => a.length = k ∧ ∀ q, q < k → diag = true → q = i → a.getD q false = true)
  (fun n k a hk ha => by
   refine ⟨a ++ [(diag && decide (i = k)) || (Int.tmod (D3 .u16 bad ((3 * i + k : Nat) : Int)) 2 == 0)], ?_, by simp [ha.1], Nk (P := fun q y => diag = true → q = i → y = true) ha.1 ha.2 (fun h1 h2 => by simp [h1, h2])⟩
   rw [Cb]
   simp only [A7]
   rw [AG (by omega), AZ (by omega), CC (n := 3 * (i : Int)) (by omega) (by omega), CC (n := 3 * (i : Int) + (k : Int)) (by omega) (by omega)]
   have l1 : ∀ y : Bool, a.length + ([y] : List Bool).length ≤ Dw := by intro y; rw [ha.1]; unfold Dw; simp; omega
   simp only [AA (l1 _), AA (show (0 : Int) ≤ 3 * (i : Int) + (k : Int) by omega)]
   have e1 : ((3 * i + k : Nat) : Int) = 3 * (i : Int) + (k : Int) := by omega
   rw [e1]
   have e2 : (((i : Nat) : Int) == ((k : Nat) : Int)) = decide (i = k) := by
    by_cases h : i = k
    ·simp [h]
    ·rw [decide_eq_false h]; exact beq_eq_false_iff_ne.2 (by omega)
   rw [e2]
   cases diag <;> cases decide (i = k) <;> rfl)
  (fun n a _ => by
   rw [Cb]
   simp only [A7]
   rw [AD (by omega)]) N 0 [] (Nat.zero_le _) (by omega) ⟨rfl, fun q hq => by omega⟩
 exact ⟨row, e, by omega, fun hd hlt => h2 i (by omega) hd rfl⟩
theorem Q5 (N : Nat) (n m bad : Int) (diag : Bool) (hN : N ≤ 1000000) (h20 : 20 ≤ N) (hn : 0 ≤ n ∧ n ≤ 6) (hm : 0 ≤ m ∧ m ≤ 6) :
  ∃ l, DK N n m bad diag = some l ∧ (l.length : Int) = n ∧ (∀ row, row ∈ l → (row.length : Int) = m) ∧ (diag = true → n = m → HT l = none) := by
 obtain ⟨M, rfl⟩ := Int.eq_ofNat_of_zero_le hn.1
 unfold DK
 obtain ⟨l, e, h1, h2⟩ := Fw (A := List (List Bool)) (B8 N (M : Int) m bad diag (fun v => some v)) (fun a k => (a, k)) M some
  (fun k a => a.length = k ∧ ∀ q, q < k → (((a.getD q []).length : Nat) : Int) = m ∧ (diag = true → (q : Int) < m → (a.getD q []).getD q false = true))
  (fun n k a hk ha => by
   obtain ⟨row, e, h1, h2⟩ := Sy (_R := Unit) N m bad diag k a (fun (v5 : List Bool) =>
    (DE (a.length + (([v5] : List (List Bool))).length ≤ Dw)).bind fun _ =>
    B8 N (M : Int) m bad diag (fun v => some v) n (a ++ (([v5] : List (List Bool))), (wI .i64 ((k : Int) + 1)))) hN h20 hm (by omega)
   refine ⟨a ++ [row], ?_, by simp [ha.1], Nk (P := fun q y => ((y.length : Nat) : Int) = m ∧ (diag = true → (q : Int) < m → y.getD q false = true)) ha.1 ha.2 ⟨h1, h2⟩⟩
   rw [B8]
   simp only
   rw [AG (by omega), e, AA (by rw [ha.1]; unfold Dw; simp; omega), AZ (by omega)])
  (fun n a _ => by
   rw [B8]
   simp only
   rw [AD (by omega)]) N 0 [] (Nat.zero_le _) (by omega) ⟨rfl, fun q hq => by omega⟩
 have key : ∀ q row, l[q]? = some row → l.getD q [] = row := fun q row hq => by rw [lD, hq]; rfl
 refine ⟨l, e, by omega, fun row hr => ?_, fun hd hnm => ?_⟩
 ·obtain ⟨q, hq⟩ := List.mem_iff_getElem?.1 hr
  have := (h2 q (by have := (lI.1 hq).1; omega)).1
  rwa [key q row hq] at this
 ·unfold HT
  refine Ep fun q row hq => ?_
  have hlt := (lI.1 hq).1
  have := (h2 q (by omega)).2 hd (by omega)
  rw [key q row hq] at this
  rw [Nat.zero_add, this]; rfl
structure U6 (p : Ah) : Prop where
 valid : Cx p = 0
 nv : p.fVersions.length ≤ 3
 nt : p.fTables.length ≤ 4
 v3 : ∀ v, v ∈ p.fVersions → v ≤ 3
theorem RN {p q : Ah} (h : p.fVersions = q.fVersions) (t : AI) : DP p t = DP q t := by
 unfold DP; rw [h]
theorem XK (N : Nat) (d : B5) (hN : N ≤ 1000000) (h20 : 20 ≤ N) (hw : ES d) : ∃ p ok, EQ N d = some (p, ok) ∧ (ok = true → U6 p) := by
 obtain ⟨w1, w2, w3, w4, _⟩ := hw
 unfold EQ
 simp only [A7]
 by_cases k1 : 3 < d.fVersions.length
 ·rw [AG (by omega)]; exact ⟨_, false, rfl, fun h => by cases h⟩
 by_cases k2 : 4 < d.fLinks.length
 ·rw [AD (by omega), decide_eq_true (by omega : (4 : Int) < (d.fLinks.length : Int))]; exact ⟨_, false, rfl, fun h => by cases h⟩
 rw [AD (by omega), decide_eq_false (by omega : ¬ (4 : Int) < (d.fLinks.length : Int)), As]
 obtain ⟨⟨vs, ns, ts⟩, e, h1, h2, h3, h4⟩ := Fw (A := List Int × List Int × List Int) (Cq N d fun v5 => Bx N d v5 (fun v16 => some (Ah.mk v5.1 v5.2.1 v5.2.2 v16, true)) N ([], 0)) (fun a k => (a.1, a.2.1, a.2.2, k)) d.fVersions.length
  (fun v5 => Bx N d v5 (fun v16 => some (Ah.mk v5.1 v5.2.1 v5.2.2 v16, true)) N ([], 0))
  (fun i a => a.1.length = i ∧ a.2.1.length = i ∧ a.2.2.length = i ∧ (∀ k, k < i → (1 ≤ a.1.getD k 0 ∧ a.1.getD k 0 ≤ 3) ∧ (0 ≤ a.2.1.getD k 0 ∧ a.2.1.getD k 0 < a.1.getD k 0) ∧ (0 ≤ a.2.2.getD k 0 ∧ a.2.2.getD k 0 < a.1.getD k 0)))
  (fun n i a hi ha => by
   obtain ⟨vs, ns, ts⟩ := a
   obtain ⟨h1, h2, h3, h4⟩ := ha
   simp only at h1 h2 h3 h4
   have hv := Q7 w1 i
   have hb := Q7 w2 i
   have hk := Q7 w3 i
   have hm := Hg (n := 3) hv.1 (by omega)
   obtain ⟨v, hvd⟩ : ∃ v, v = 1 + Int.tmod (d.fVersions.getD i 0) 3 := ⟨_, rfl⟩
   have m1 := Hg (n := v) hb.1 (by omega)
   have m2 := Hg (n := v) hk.1 (by omega)
   refine ⟨(vs ++ [v], ns ++ [Int.tmod (d.fNow.getD i 0) v], ts ++ [Int.tmod (d.fTarget.getD i 0) v]), ?_, by simp [h1], by simp [h2], by simp [h3], ?_⟩
   ·rw [Cq]
    simp only
    rw [AG (by omega), C3 (d := 0) hi, N4 N w2, N4 N w3]
    simp only [oS]
    rw [CC (n := Int.tmod _ _) (by omega) (by omega), CC (n := 1 + _) (by omega) (by omega), ← hvd, AZ (by omega)]
    have l1 : ∀ y : Int, vs.length + ([y] : List Int).length ≤ Dw := by intro y; rw [h1]; unfold Dw; simp; omega
    have l2 : ∀ y : Int, ns.length + ([y] : List Int).length ≤ Dw := by intro y; rw [h2]; unfold Dw; simp; omega
    have l3 : ∀ y : Int, ts.length + ([y] : List Int).length ≤ Dw := by intro y; rw [h3]; unfold Dw; simp; omega
    simp only [AA (l1 _), AA (l2 _), AA (l3 _), AA (show v ≠ 0 by omega)]
   ·intro k hk
    simp only
    by_cases hki : k < i
    ·rw [Ii (by omega), Ii (by omega), Ii (by omega)]; exact h4 k hki
    ·have : k = i := by omega
     subst this
     rw [Ij h1.symm, Ij h2.symm, Ij h3.symm]
     omega)
  (fun n a _ => by
   rw [Cq]
   simp only
   rw [AD (by omega)]) N 0 ([], [], []) (Nat.zero_le _) (by omega) ⟨rfl, rfl, rfl, fun k hk => by omega⟩
 simp only at h1 h2 h3 h4
 have e' : Cq N d (fun v5 => Bx N d v5 (fun v16 => some (Ah.mk v5.1 v5.2.1 v5.2.2 v16, true)) N ([], 0)) N ([], [], [], 0) = _ := e
 rw [e']
 have hvs : ∀ v, v ∈ vs → 1 ≤ v ∧ v ≤ 3 := by
  intro v hv
  obtain ⟨q, hq⟩ := List.mem_iff_getElem?.1 hv
  have := (h4 q (by have := (lI.1 hq).1; omega)).1
  rwa [lD, hq] at this
 have fin : ∀ tabs : List AI, tabs.length ≤ 4 → (∀ t, t ∈ tabs → DP ⟨vs, ns, ts, []⟩ t = 0) → U6 ⟨vs, ns, ts, tabs⟩ := by
  intro tabs ht h
  have hp : Ca ⟨vs, ns, ts, tabs⟩ := ⟨show vs.length ≤ 6 by omega, show tabs.length ≤ 12 by omega, show ns.length = vs.length by omega, show ts.length = vs.length by omega, fun v hv => by have := hvs v hv; omega, fun t ht => by rw [← h t ht]; exact RN rfl t⟩
  exact ⟨OQ hp fun i hi => by have := h4 i (by have : i < vs.length := hi; omega); simp only; omega, show vs.length ≤ 3 by omega, ht, fun v hv => (hvs v hv).2⟩
 by_cases k3 : vs.length = 0
 ·refine ⟨_, true, ?_, fun _ => fin [] (by simp) (fun t ht => by cases ht)⟩
  obtain ⟨M, rfl⟩ : ∃ M, N = M + 1 := ⟨N - 1, by omega⟩
  rw [Bx]
  simp only [A7]
  rw [k3]
  by_cases k4 : (0 : Int) < (d.fLinks.length : Int)
  ·rw [AG k4]; rfl
  ·rw [AD k4]; rfl
 obtain ⟨tabs, e2, g1, g2⟩ := Fw (A := List AI) (Bx N d (vs, ns, ts) (fun v16 => some (Ah.mk vs ns ts v16, true))) (fun a k => (a, k)) d.fLinks.length (fun v16 => some (Ah.mk vs ns ts v16, true))
  (fun i a => a.length = i ∧ ∀ t, t ∈ a → DP ⟨vs, ns, ts, []⟩ t = 0)
  (fun n i a hi ha => by
   have hx : d.fLinks[i]? = some d.fLinks[i] := by simp [hi]
   generalize d.fLinks[i] = l at hx
   obtain ⟨u1, u2, u3, _, u5, u6, _⟩ := w4 l (lM hx)
   have u1 := HV u1
   have u2 := HV u2
   have u3 := HV u3
   have mk := Hg (n := 4) u1.1 (by omega)
   have hL : (0 : Int) < (vs.length : Int) := by omega
   have mf := Hg (n := (vs.length : Int)) u2.1 hL
   have mt := Hg (n := (vs.length : Int)) u3.1 hL
   rw [Bx]
   simp only [A7]
   rw [AG (by omega), decide_eq_true hL, AK, A6, hx]
   simp only [oS]
   rw [AA (by omega), AA (by omega), CC (n := l.fFrom) (by omega) (by omega), CC (n := l.fTo) (by omega) (by omega), CC (n := Int.tmod l.fKind 4) (by omega) (by omega), CC (n := 1 + _) (by omega) (by omega), AZ (by omega)]
   simp only [Lk, oS]
   rw [Eo (d := 0) mf.1 mf.2, Eo (d := 0) mt.1 mt.2]
   simp only [oS]
   have hA : ∀ q : Int, 0 ≤ q → q < (vs.length : Int) → 1 ≤ vs.getD q.toNat 0 ∧ vs.getD q.toNat 0 ≤ 3 := fun q h0 h1 => (h4 q.toNat (by omega)).1
   have hf := hA _ mf.1 mf.2
   have ht := hA _ mt.1 mt.2
   obtain ⟨A, eA, a1, a2, _⟩ := Q5 N (vs.getD (Int.tmod l.fFrom (vs.length : Int)).toNat 0) (vs.getD (Int.tmod l.fTo (vs.length : Int)).toNat 0) l.fBad false hN h20 (by omega) (by omega)
   obtain ⟨B, eB, b1, b2, b3⟩ := Q5 N (vs.getD (Int.tmod l.fFrom (vs.length : Int)).toNat 0) (vs.getD (Int.tmod l.fFrom (vs.length : Int)).toNat 0) l.fLost true hN h20 (by omega) (by omega)
   rw [eA, eB]
   simp only [oS]
   have l1 : ∀ y : AI, a.length + ([y] : List AI).length ≤ Dw := by intro y; rw [ha.1]; unfold Dw; simp; omega
   simp only [AA (l1 _)]
   obtain ⟨kd, hkd⟩ : ∃ kd, kd = 1 + Int.tmod l.fKind 4 := ⟨_, rfl⟩
   rw [← hkd]
   have fin2 : ∀ (aw : Bool) (re : List (List Bool)), (aw = true → (kd == 3 || kd == 4) = false) → ((kd = 4 → re = B) ∧ (kd ≠ 4 → re = [])) →
     DP ⟨vs, ns, ts, []⟩ (AI.mk kd (Int.tmod l.fFrom (vs.length : Int)) (Int.tmod l.fTo (vs.length : Int)) aw A re) = 0 := by
    intro aw re haw hre
    refine VQ ⟨show 1 ≤ kd ∧ kd ≤ 4 by omega, haw, mf, mt, a1, a2, fun h => by rw [hre.1 h]; exact b1, fun row hr => ?_, fun h => by rw [hre.1 h]; exact b3 rfl rfl, fun h => hre.2 h⟩
    by_cases h4 : kd = 4
    ·simp only at hr; rw [hre.1 h4] at hr; exact b2 row hr
    ·simp only at hr; rw [hre.2 h4] at hr; cases hr
   have app : ∀ t, DP ⟨vs, ns, ts, []⟩ t = 0 → (a ++ [t]).length = i + 1 ∧ ∀ t', t' ∈ a ++ [t] → DP ⟨vs, ns, ts, []⟩ t' = 0 := by
    intro t ht
    refine ⟨by simp [ha.1], fun t' ht' => ?_⟩
    rcases List.mem_append.1 ht' with h | h
    ·exact ha.2 t' h
    ·rw [List.mem_singleton.1 h]; exact ht
   by_cases h4 : kd = 4
   ·have e4 : (kd == 4) = true := beq_iff_eq.2 h4
    have hre : (kd = 4 → B = B) ∧ (kd ≠ 4 → B = []) := ⟨fun _ => rfl, fun h => (h h4).elim⟩
    rw [e4]
    simp only [AK, Bool.or_true, Bool.not_true]
    cases l.fAware
    ·exact ⟨_, rfl, app _ (fin2 false B (fun h => by cases h) hre)⟩
    ·exact ⟨_, rfl, app _ (fin2 false B (fun h => by cases h) hre)⟩
   ·have e4 : (kd == 4) = false := beq_eq_false_iff_ne.2 h4
    have hre : (kd = 4 → ([] : List (List Bool)) = B) ∧ (kd ≠ 4 → ([] : List (List Bool)) = []) := ⟨fun h => (h4 h).elim, fun _ => rfl⟩
    rw [e4]
    simp only [As, Bool.or_false]
    cases l.fAware
    ·exact ⟨_, rfl, app _ (fin2 false [] (fun h => by cases h) hre)⟩
    ·cases e3 : kd == 3
     ·exact ⟨_, rfl, app _ (fin2 true [] (fun _ => by rw [e3, e4]; rfl) hre)⟩
     ·exact ⟨_, rfl, app _ (fin2 false [] (fun h => by cases h) hre)⟩)
  (fun n a _ => by
   rw [Bx]
   simp only [A7]
   rw [AD (by omega), As]) N 0 [] (Nat.zero_le _) (by omega) ⟨rfl, fun t ht => by cases ht⟩
 exact ⟨_, true, e2, fun _ => fin tabs (by omega) g2⟩
def HI : List Int → Nat → Nat
 | [], _ => 0
 | _, 0 => 0
 | n :: ns, q + 1 => (if 0 ≤ n then 1 else 0) + HI ns q
theorem HR (l : List Int) : HI l 0 = 0 := by cases l <;> rfl
theorem GT : ∀ (l : List Int) (q : Nat), q < l.length → HI l (q + 1) = HI l q + if 0 ≤ l.getD q 0 then 1 else 0
 | [], q, h => by simp at h
 | n :: ns, 0, _ => by simp [HI, HR]
 | n :: ns, q + 1, h => by
  rw [HI, GT ns q (by simpa using h), HI, List.getD_cons_succ, Nat.add_assoc]
theorem Nh (l : List Int) {a b : Nat} (h : a ≤ b) (hb : b ≤ l.length) : HI l a ≤ HI l b := by
 induction b with
 | zero => rw [Nat.le_zero.1 h]; exact Nat.le_refl _
 | succ b ih =>
  by_cases h1 : a = b + 1
  ·rw [h1]; exact Nat.le_refl _
  ·have := ih (by omega) (by omega)
   rw [GT l b (by omega)]; omega
theorem Jq (l : List Int) : ∀ q, q ≤ l.length → HI l q ≤ q
 | 0, _ => by rw [HR]; exact Nat.le_refl _
 | q + 1, h => by
  have := Jq l q (by omega)
  rw [GT l q h]
  split <;> omega
def Ll (l : List Int) (k q : Nat) : Int := if 0 ≤ l.getD q 0 ∧ k.testBit (HI l q) = true then -1 else l.getD q 0
def TI (l : List Int) (k : Nat) : List Int := (List.range l.length).map (Ll l k)
def VJ (m : Ae) (k : Nat) : Ae := ⟨m.fBase, TI m.fNext k, m.fHeld⟩
def DC (m : Ae) : List Ae := (List.range (2 ^ HI m.fNext m.fNext.length)).map (VJ m)
theorem Lb (l : List Int) (k : Nat) : (TI l k).length = l.length := by simp [TI]
theorem OI (l : List Int) (k q : Nat) (h : q < l.length) : (TI l k).getD q 0 = Ll l k q := by
 unfold TI; rw [lD, List.getElem?_map, List.getElem?_range h]; rfl
theorem Iz {l1 l2 : List Int} (h1 : l1.length = l2.length) (h : ∀ q, q < l1.length → l1.getD q 0 = l2.getD q 0) : l1 = l2 := by
 apply List.ext_getElem h1
 intro q h2 h3
 have := h q h2
 rw [lD, lD, List.getElem?_eq_getElem h2, List.getElem?_eq_getElem h3] at this
 exact this
theorem RF : ∀ (k : Fin 64) (b : Fin 7), Fp .i64 (D3 .i64 (k.val : Int) (b.val : Int)) 1 = (if k.val.testBit b.val then 1 else 0) ∧ Int.tmod (D3 .i64 (k.val : Int) (b.val : Int)) 2 = (if k.val.testBit b.val then 1 else 0) := by decide +kernel
theorem Ud : ∀ n : Fin 7, Cc .i64 1 (n.val : Int) = ((2 ^ n.val : Nat) : Int) := by decide +kernel
structure Mh (m x : Ae) : Prop where
 base : x.fBase = m.fBase
 held : x.fHeld = m.fHeld
 len : x.fNext.length = m.fNext.length
 next : ∀ q, q < m.fNext.length → x.fNext.getD q 0 = m.fNext.getD q 0 ∨ (0 ≤ m.fNext.getD q 0 ∧ x.fNext.getD q 0 = -1)
theorem Mh.refl (m : Ae) : Mh m m := ⟨rfl, rfl, rfl, fun _ _ => .inl rfl⟩
theorem Mh.trans {a b c : Ae} (h1 : Mh a b) (h2 : Mh b c) : Mh a c :=
 ⟨h2.base.trans h1.base, h2.held.trans h1.held, h2.len.trans h1.len, fun q hq => by
  have e1 := h1.next q hq
  have e2 := h2.next q (by rw [h1.len]; exact hq)
  omega⟩
theorem Sv (m : Ae) (k : Nat) : Mh m (VJ m k) :=
 ⟨rfl, rfl, Lb _ _, fun q hq => by
  show (TI m.fNext k).getD q 0 = _ ∨ _ ∧ (TI m.fNext k).getD q 0 = _
  rw [OI _ _ _ hq]; unfold Ll
  split
  ·rename_i h; exact .inr ⟨h.1, rfl⟩
  ·exact .inl rfl⟩
theorem Q9 : ∀ (l x : List Int), x.length = l.length → (∀ q, q < l.length → x.getD q 0 = l.getD q 0 ∨ (0 ≤ l.getD q 0 ∧ x.getD q 0 = -1)) → ∃ k, k < 2 ^ HI l l.length ∧ ∀ q, q < l.length → x.getD q 0 = Ll l k q
 | [], x, h, _ => ⟨0, by simp [HI], fun q hq => by simp at hq⟩
 | n :: ns, [], h, _ => by simp at h
 | n :: ns, y :: ys, h, hq => by
  obtain ⟨k, hk, hk2⟩ := Q9 ns ys (by simpa using h) (fun q hq' => by have := hq (q + 1) (by simpa using hq'); simpa using this)
  have h0 := hq 0 (by simp)
  simp only [List.getD_cons_zero] at h0
  by_cases hn : 0 ≤ n
  ·refine ⟨2 * k + if y = n then 0 else 1, ?_, ?_⟩
   ·rw [List.length_cons, HI, if_pos hn, Nat.pow_add]
    split <;> omega
   ·intro q hq'
    cases q with
    | zero =>
     simp only [List.getD_cons_zero, Ll, HR]
     by_cases hy : y = n
     ·simp [hy]
     ·rw [if_neg hy, if_pos ⟨hn, by simp⟩]; omega
    | succ q =>
     have := hk2 q (by simpa using hq')
     simp only [List.getD_cons_succ, Ll, HI, if_pos hn] at this ⊢
     rw [this, Nat.add_comm 1, Nat.testBit_succ]
     have : (2 * k + if y = n then 0 else 1) / 2 = k := by split <;> omega
     rw [this]
  ·refine ⟨k, ?_, ?_⟩
   ·rw [List.length_cons, HI, if_neg hn, Nat.zero_add]; exact hk
   ·intro q hq'
    cases q with
    | zero =>
     simp only [List.getD_cons_zero, Ll, HR]
     rw [if_neg (fun h => hn h.1)]
     omega
    | succ q =>
     have := hk2 q (by simpa using hq')
     simp only [List.getD_cons_succ, Ll, HI, if_neg hn, Nat.zero_add] at this ⊢
     exact this
theorem D1 {m x : Ae} : x ∈ DC m ↔ Mh m x := by
 unfold DC
 rw [List.mem_map]
 constructor
 ·rintro ⟨k, _, rfl⟩; exact Sv m k
 ·intro h
  obtain ⟨k, hk, hq⟩ := Q9 m.fNext x.fNext h.len h.next
  refine ⟨k, List.mem_range.2 hk, ?_⟩
  have : TI m.fNext k = x.fNext := Iz (by rw [Lb, h.len]) fun q hq' => by
   rw [Lb] at hq'
   rw [OI _ _ _ hq', hq q hq']
  unfold VJ
  rw [this, ← h.base, ← h.held]
theorem VS {m x : Ae} (h : Mh m x) {s : Nat} (hs : s < m.fNext.length) {v : Nat} (hv : HG x s v = true) : HG m s v = true := by
 unfold HG at hv ⊢
 rw [h.base] at hv
 have := h.next s hs
 simp only [Bool.or_eq_true, decide_eq_true_eq] at hv ⊢
 omega
theorem Rg {p : Ah} {m x : Ae} (hp : Ca p) (hm : Cp p m) (h : Mh m x) : Cp p x := by
 refine ⟨⟨by rw [h.base]; exact hm.base, by rw [h.len]; exact hm.next, by rw [h.held]; exact hm.held, fun i hi => by rw [h.base]; exact hm.b0 i hi, fun i hi => ?_, fun i hi => ?_⟩, fun i hi => by rw [h.held]; exact hm.range i hi, fun i t ht hs v hv => ?_, fun i t ht hs v hv => ?_, fun i t ht hs => by rw [h.held]; exact hm.none i t ht hs⟩
 ·have h1 := hm.n0 i hi
  have h2 := h.next i (by rw [hm.next]; exact hi)
  have h3 := Iy hp hi
  omega
 ·have h1 := hm.ne i hi
  have h2 := h.next i (by rw [hm.next]; exact hi)
  have h3 := hm.b0 i hi
  rw [h.base]
  omega
 ·have hin := (LF (hp.tab t (lM ht))).from0
  rw [h.held]
  exact hm.low i t ht hs v (VS h (by rw [hm.next]; omega) hv)
 ·rw [h.held] at hv
  exact hm.high i t ht hs v hv
theorem IK (N : Nat) (l : List Int) (h : l.length ≤ Dw) : BF N l = some l := by
 unfold BF
 rw [AA (by simpa using h)]; rfl
theorem Oo (N : Nat) (l : List Int) (h : l.length ≤ Dw) : BJ N l = some l := by
 unfold BJ
 rw [AA (by simpa using h)]; rfl
theorem H6 {l : List Int} {i q : Nat} {y : Int} (hi : i < l.length) : (l.set i y).getD q 0 = if q = i then y else l.getD q 0 := by
 rw [lD, lD, List.getElem?_set]
 by_cases h : i = q
 ·subst h; simp [hi]
 ·rw [if_neg h, if_neg (fun e => h e.symm)]
theorem T9 {l : List Int} {a b : Nat} (ha : a < l.length) (hb : b < l.length) (h1 : 0 ≤ l.getD a 0) (h2 : 0 ≤ l.getD b 0) (h : HI l a = HI l b) : a = b := by
 rcases Nat.lt_trichotomy a b with h3 | h3 | h3
 ·have := Nh l (a := a + 1) (b := b) h3 (by omega)
  rw [GT l a ha, if_pos h1] at this; omega
 ·exact h3
 ·have := Nh l (a := b + 1) (b := a) h3 (by omega)
  rw [GT l b hb, if_pos h2] at this; omega
structure Tk (l : List Int) (o : List Int) : Prop where
 len : o.length = HI l l.length
 at_ : ∀ b, b < o.length → ∃ i : Nat, o.getD b 0 = (i : Int) ∧ i < l.length ∧ 0 ≤ l.getD i 0 ∧ HI l i = b
theorem Py (N : Nat) (l o : List Int) (k : Nat) (acc : List Ae) (hN : N ≤ 1000000) (h20 : 20 ≤ N) (hl : l.length ≤ 6) (ho : Tk l o) (hk : k < 64) (j : List Int → Option (List Ae × Int)) :
  CI N o (acc, (k : Int)) j N (l, 0) = j (TI l k) := by
 have hol := Jq l l.length (Nat.le_refl _)
 have hoL := ho.len
 obtain ⟨x, e, h1, h2⟩ := Fw (A := List Int) (CI N o (acc, (k : Int)) j) (fun a k => (a, k)) o.length j
  (fun b a => a.length = l.length ∧ ∀ q, q < l.length → a.getD q 0 = if 0 ≤ l.getD q 0 ∧ HI l q < b ∧ k.testBit (HI l q) = true then -1 else l.getD q 0)
  (fun n b a hb ha => by
   obtain ⟨i, hi1, hi2, hi3, hi4⟩ := ho.at_ b hb
   have hbit := RF ⟨k, hk⟩ ⟨b, by omega⟩
   rw [CI]
   simp only [A7]
   rw [AG (by omega), C3 (d := 0) hb]
   simp only [oS]
   rw [AA (by omega), hi1, hbit.1, C3 (d := 0) (show i < a.length by rw [ha.1]; exact hi2), AZ (by omega)]
   simp only [oS, Int.toNat_natCast]
   cases hkb : k.testBit b
   ·refine ⟨a, rfl, ha.1, fun q hq => ?_⟩
    rw [ha.2 q hq]
    by_cases hqb : HI l q = b
    ·rw [hqb, hkb]; simp
    ·by_cases h3 : HI l q < b
     ·have : HI l q < b + 1 := by omega
      simp [h3, this]
     ·have : ¬ HI l q < b + 1 := by omega
      simp [h3, this]
   ·refine ⟨a.set i (-1), rfl, by simp [ha.1], fun q hq => ?_⟩
    rw [H6 (by rw [ha.1]; exact hi2), ha.2 q hq]
    by_cases hqi : q = i
    ·subst hqi
     rw [if_pos rfl, if_pos ⟨hi3, by omega, by rw [hi4]; exact hkb⟩]
    ·rw [if_neg hqi]
     by_cases h0 : 0 ≤ l.getD q 0
     ·have hne : HI l q ≠ b := fun h => hqi (T9 hq hi2 h0 hi3 (by omega))
      by_cases h3 : HI l q < b
      ·have : HI l q < b + 1 := by omega
       simp [h3, this]
      ·have : ¬ HI l q < b + 1 := by omega
       simp [h3, this]
     ·rw [if_neg (fun h => h0 h.1), if_neg (fun h => h0 h.1)])
  (fun n a _ => by
   rw [CI]
   simp only [A7]
   rw [AD (by omega)]) N 0 l (Nat.zero_le _) (by omega) ⟨rfl, fun q hq => by simp⟩
 have e' : CI N o (acc, (k : Int)) j N (l, 0) = j x := e
 rw [e']
 congr 1
 refine Iz (by rw [Lb, h1]) fun q hq => ?_
 rw [h1] at hq
 rw [h2 q hq, OI _ _ _ hq, Ll]
 by_cases h0 : 0 ≤ l.getD q 0
 ·have h3 := Nh l (a := q + 1) (b := l.length) hq (Nat.le_refl _)
  rw [GT l q hq, if_pos h0] at h3
  have : HI l q < o.length := by omega
  simp [this]
 ·rw [if_neg (fun h => h0 h.1), if_neg (fun h => h0 h.1)]
theorem P1 (N : Nat) (m : Ae) (k : Nat) (acc : List Ae) (hN : N ≤ 1000000) (h20 : 20 ≤ N) (hl : m.fNext.length ≤ 6) (hk : k < 64) (j : List Int → Option (List Ae)) :
  BL N m (acc, (k : Int)) j N (m.fNext, 0, 0) = j (TI m.fNext k) := by
 obtain ⟨⟨x, pl⟩, e, h1, h2, h3⟩ := Fw (A := List Int × Nat) (BL N m (acc, (k : Int)) j) (fun a k => (a.1, (a.2 : Int), k)) m.fNext.length (fun a => j a.1)
  (fun i a => a.2 = HI m.fNext i ∧ a.1.length = m.fNext.length ∧ ∀ q, q < m.fNext.length → a.1.getD q 0 = if q < i then Ll m.fNext k q else m.fNext.getD q 0)
  (fun n i a hi ha => by
   obtain ⟨a, pl⟩ := a
   obtain ⟨a1, a2, a3⟩ := ha
   simp only at a1 a2 a3
   have hple := Jq m.fNext i (by omega)
   have hbit := RF ⟨k, hk⟩ ⟨pl, by omega⟩
   have hs := GT m.fNext i hi
   rw [BL]
   simp only [A7]
   rw [AG (by omega), C3 (d := 0) hi]
   simp only [oS]
   rw [AZ (by omega)]
   by_cases h0 : m.fNext.getD i 0 < 0
   ·rw [AG h0]
    refine ⟨(a, pl), rfl, by simp only; rw [hs, if_neg (by omega), a1]; rfl, a2, fun q hq => ?_⟩
    simp only
    rw [a3 q hq]
    by_cases hqi : q = i
    ·subst hqi
     rw [if_neg (by omega), if_pos (by omega), Ll, if_neg (by omega)]
    ·by_cases h4 : q < i
     ·rw [if_pos h4, if_pos (by omega)]
     ·rw [if_neg h4, if_neg (by omega)]
   ·rw [AD h0, AA (by omega), C3 (d := 0) (show i < a.length by omega), hbit.2, AZ (by omega)]
    simp only [oS, Int.toNat_natCast]
    cases hkb : k.testBit pl
    ·refine ⟨(a, pl + 1), rfl, by simp only; rw [hs, if_pos (by omega), a1], a2, fun q hq => ?_⟩
     simp only
     rw [a3 q hq]
     by_cases hqi : q = i
     ·subst hqi
      rw [if_neg (by omega), if_pos (by omega), Ll, ← a1, hkb]; simp
     ·by_cases h4 : q < i
      ·rw [if_pos h4, if_pos (by omega)]
      ·rw [if_neg h4, if_neg (by omega)]
    ·refine ⟨(a.set i (-1), pl + 1), rfl, by simp only; rw [hs, if_pos (by omega), a1], by simp [a2], fun q hq => ?_⟩
     simp only
     rw [H6 (by omega), a3 q hq]
     by_cases hqi : q = i
     ·subst hqi
      rw [if_pos rfl, if_pos (by omega), Ll, ← a1, if_pos ⟨by omega, hkb⟩]
     ·rw [if_neg hqi]
      by_cases h4 : q < i
      ·rw [if_pos h4, if_pos (by omega)]
      ·rw [if_neg h4, if_neg (by omega)])
  (fun n a _ => by
   rw [BL]
   simp only [A7]
   rw [AD (by omega)]) N 0 (m.fNext, 0) (Nat.zero_le _) (by omega) ⟨(HR _).symm, rfl, fun q hq => by simp⟩
 have e' : BL N m (acc, (k : Int)) j N (m.fNext, 0, 0) = j x := e
 rw [e']
 congr 1
 simp only at h2 h3
 refine Iz (by rw [Lb, h2]) fun q hq => ?_
 rw [h2] at hq
 rw [h3 q hq, if_pos hq, OI _ _ _ hq]
theorem TD (N : Nat) (m : Ae) (hN : N ≤ 1000000) (h20 : 20 ≤ N) (hl : m.fNext.length ≤ 6) (j : List Int → Option (List Ae × Int)) :
  ∃ o, Do N m j N ([], 0) = j o ∧ Tk m.fNext o := by
 obtain ⟨o, e, h1, h2⟩ := Fw (A := List Int) (Do N m j) (fun a k => (a, k)) m.fNext.length j
  (fun i o => o.length = HI m.fNext i ∧ ∀ b, b < o.length → ∃ q : Nat, o.getD b 0 = (q : Int) ∧ q < m.fNext.length ∧ 0 ≤ m.fNext.getD q 0 ∧ HI m.fNext q = b)
  (fun n i o hi ho => by
   have hple := Jq m.fNext i (by omega)
   have hs := GT m.fNext i hi
   rw [Do]
   simp only [A7]
   rw [AG (by omega), C3 (d := 0) hi]
   simp only [oS]
   rw [AZ (by omega)]
   by_cases h0 : 0 ≤ m.fNext.getD i 0
   ·rw [AG h0, AA (by rw [ho.1]; unfold Dw; simp; omega)]
    refine ⟨o ++ [(i : Int)], rfl, by rw [hs, if_pos h0, ← ho.1]; simp, ?_⟩
    rw [List.length_append]
    exact Nk (P := fun b y => ∃ q : Nat, y = (q : Int) ∧ q < m.fNext.length ∧ 0 ≤ m.fNext.getD q 0 ∧ HI m.fNext q = b) rfl ho.2 ⟨i, rfl, hi, h0, ho.1.symm⟩
   ·rw [AD h0]
    exact ⟨o, rfl, by rw [hs, if_neg h0, ho.1]; rfl, ho.2⟩)
  (fun n a _ => by
   rw [Do]
   simp only [A7]
   rw [AD (by omega)]) N 0 [] (Nat.zero_le _) (by omega) ⟨(HR _).symm, fun b hb => by simp at hb⟩
 exact ⟨o, e, h1, h2⟩
theorem Kg {n : Nat} (h : n ≤ 6) : 2 ^ n ≤ 64 := Nat.pow_le_pow_right (n := 2) (by omega) h
theorem Mp {n : Nat} (h : n ≤ 6) : Cc .i64 1 (n : Int) = ((2 ^ n : Nat) : Int) := Ud ⟨n, by omega⟩
theorem JB {β : Type} (f : Nat → β) (n : Nat) : (List.range (n + 1)).map f = (List.range n).map f ++ [f n] := by
 rw [List.range_succ, List.map_append]; rfl
theorem JX (N : Nat) (p : Ah) (m : Ae) (hN : N ≤ 1000000) (h20 : 100 ≤ N) (hw : Mq Ku m.fHeld) (hv : GH p m = 0) : Fr N p m = some (DC m, 0) := by
 obtain ⟨hp, hm⟩ := MN hw hv
 have hnv := hp.nv
 have hnt := hp.nt
 have hl : m.fNext.length ≤ 6 := by rw [hm.next]; omega
 unfold Fr
 rw [K4 N p m hN (by omega) hw, hv]
 simp only [oS, bne_self_eq_false, As]
 obtain ⟨o, e, ho⟩ := TD N m hN (by omega) hl (fun (v4 : (List Int)) =>
   (DE (0 ≤ (v4.length : Int))).bind fun _ =>
   CG N m v4 (fun (v12 : (List Ae)) =>
    some (v12, 0)) N (([] : List Ae), 0))
 rw [e, AA (by omega)]
 have hoL := ho.len
 have hol := Jq m.fNext m.fNext.length (Nat.le_refl _)
 have hpow := Kg (show HI m.fNext m.fNext.length ≤ 6 by omega)
 obtain ⟨a, e2, h1⟩ := Fw (A := List Ae) (CG N m o fun v12 => some (v12, 0)) (fun a k => (a, k)) (2 ^ HI m.fNext m.fNext.length) (fun v12 => some (v12, 0))
  (fun i a => a = (List.range i).map (VJ m))
  (fun n i a hi ha => by
   refine ⟨a ++ [VJ m i], ?_, by rw [JB, ha]⟩
   have hal : a.length = i := by rw [ha]; simp
   rw [CG]
   rw [hoL, Mp (n := HI m.fNext m.fNext.length) (by omega), AG (by omega), IK N m.fBase (by have := hm.base; unfold Dw; omega), IK N m.fNext (by unfold Dw; omega), Oo N m.fHeld (by have := hm.held; unfold Dw; omega)]
   simp only [oS]
   rw [Py N m.fNext o i a hN (by omega) hl ho (by omega), AA (by rw [hal]; unfold Dw; simp; omega), AZ (by omega)]
   rfl)
  (fun n a _ => by
   rw [CG]
   rw [hoL, Mp (n := HI m.fNext m.fNext.length) (by omega), AD (by simp)]) N 0 [] (Nat.zero_le _) (by omega) rfl
 have e2' : CG N m o (fun v12 => some (v12, 0)) N ([], 0) = some (a, 0) := e2
 rw [e2', h1]; rfl
theorem QF (N : Nat) (m : Ae) (h1 : m.fBase.length ≤ Dw) (h2 : m.fNext.length ≤ Dw) (h3 : m.fHeld.length ≤ Dw) : DV N m = some m := by
 unfold DV
 rw [AA (by simpa using h1), AA (by simpa using h2), AA (by simpa using h3)]; rfl
theorem QU (N : Nat) (m : Ae) (hN : N ≤ 1000000) (h20 : 100 ≤ N) (h1 : m.fBase.length ≤ 100) (hl : m.fNext.length ≤ 6) (h3 : m.fHeld.length ≤ 100) : DZ N m = some (DC m) := by
 unfold DZ
 obtain ⟨c, e, hc⟩ := Fw (A := Nat) (Ci N m (fun (v2 : Int) =>
  Bv N m v2 (fun (v8 : (List Ae)) => some v8) N (([] : List Ae), 0))) (fun a k => ((a : Int), k)) m.fNext.length (fun a => Bv N m (a : Int) (fun (v8 : (List Ae)) => some v8) N (([] : List Ae), 0))
  (fun i a => a = HI m.fNext i)
  (fun n i a hi ha => by
   have hple := Jq m.fNext i (by omega)
   have hs := GT m.fNext i hi
   rw [Ci]
   simp only [A7]
   rw [AG (by omega), C3 (d := 0) hi]
   simp only [oS]
   rw [AZ (by omega), AZ (by omega)]
   by_cases h0 : 0 ≤ m.fNext.getD i 0
   ·rw [AG h0]
    exact ⟨a + 1, rfl, by rw [hs, if_pos h0, ha]⟩
   ·rw [AD h0]
    exact ⟨a, rfl, by rw [hs, if_neg h0, ha]; rfl⟩)
  (fun n a _ => by
   rw [Ci]
   simp only [A7]
   rw [AD (by omega)]) N 0 0 (Nat.zero_le _) (by omega) (HR _).symm
 have e' : Ci N m (fun (v2 : Int) => Bv N m v2 (fun (v8 : (List Ae)) => some v8) N (([] : List Ae), 0)) N (0, 0) = _ := e
 rw [e', hc]
 have hol := Jq m.fNext m.fNext.length (Nat.le_refl _)
 have hpow := Kg (show HI m.fNext m.fNext.length ≤ 6 by omega)
 obtain ⟨a, e2, h1⟩ := Fw (A := List Ae) (Bv N m (HI m.fNext m.fNext.length : Int) fun v8 => some v8) (fun a k => (a, k)) (2 ^ HI m.fNext m.fNext.length) some
  (fun i a => a = (List.range i).map (VJ m))
  (fun n i a hi ha => by
   refine ⟨a ++ [VJ m i], ?_, by rw [JB, ha]⟩
   have hal : a.length = i := by rw [ha]; simp
   rw [Bv]
   rw [AA (by omega), Mp (n := HI m.fNext m.fNext.length) (by omega), AG (by omega), QF N m (by unfold Dw; omega) (by unfold Dw; omega) (by unfold Dw; omega)]
   simp only [oS]
   rw [P1 N m i a hN (by omega) hl (by omega), AA (by rw [hal]; unfold Dw; simp; omega), AZ (by omega)]
   rfl)
  (fun n a _ => by
   rw [Bv]
   rw [AA (by omega), Mp (n := HI m.fNext m.fNext.length) (by omega), AD (by simp)]) N 0 [] (Nat.zero_le _) (by omega) rfl
 have e2' : Bv N m (HI m.fNext m.fNext.length : Int) (fun v8 => some v8) N ([], 0) = some a := e2
 rw [e2', h1]; rfl
theorem Qy (N : Nat) (p : Ah) (m : Ae) (hN : N ≤ 1000000) (h20 : 100 ≤ N) (hp : Ca p) (hm : Cp p m) : DZ N m = some (DC m) := by
 have := hp.nv
 have := hp.nt
 exact QU N m hN h20 (by rw [hm.base]; omega) (by rw [hm.next]; omega) (by rw [hm.held]; omega)
theorem L4 {p : Ah} {m : Ae} (hm : Cp p m) : Mq Ku m.fHeld := by
 intro x hx
 obtain ⟨q, hq⟩ := List.mem_iff_getElem?.1 hx
 have h1 := (lI.1 hq).1
 have := hm.range q (by rw [← hm.held]; exact h1)
 rw [lD, hq] at this
 unfold Ku
 simp only [Option.getD_some] at this
 simp [Lit.wf, IntKind.min, IntKind.max, IntKind.signed, IntKind.bits]
 omega
def Lq (p : Ah) (x : Ae) : Option (Ae × Av) := match DG p x with
 | [] => none
 | c :: _ => some (x, c)
def MH (p : Ah) (m : Ae) : Option (Ae × Av) := D5 (fun _ x => Lq p x) 0 (DC m)
def GE : Ae := ⟨[], [], []⟩
def SW : Av := ⟨0, 0, 0⟩
def Qw (p : Ah) (m : Ae) : Ae × Av × Int := match MH p m with
 | some (x, c) => (x, c, 0)
 | none => (GE, SW, 15)
def HH (p : Ah) (m : Ae) : Bool := (MH p m).isNone
theorem Jc {m : Ae} (hl : m.fNext.length ≤ 6) : (DC m).length ≤ 64 := by
 unfold DC
 have hol := Jq m.fNext m.fNext.length (Nat.le_refl _)
 have hpow := Kg (show HI m.fNext m.fNext.length ≤ 6 by omega)
 simpa using hpow
theorem PD {α R R' : Type} (f : Nat → α → Option R) (g : R → R') : ∀ (i : Nat) (xs : List α), D5 (fun i x => (f i x).map g) i xs = (D5 f i xs).map g
 | _, [] => rfl
 | i, x :: xs => by
  rw [Hh, Hh]
  cases f i x
  ·exact PD f g (i + 1) xs
  ·rfl
theorem OU (N : Nat) (p : Ah) (m : Ae) (hN : N ≤ 1000000) (h20 : 100 ≤ N) (hw : Mq Ku m.fHeld) (hv : GH p m = 0) : GN N p m = some (Qw p m) := by
 obtain ⟨hp, hm⟩ := MN hw hv
 have hnv := hp.nv
 unfold GN
 rw [JX N p m hN h20 hw hv]
 simp only [oS, bne_self_eq_false, As]
 have hal := Jc (m := m) (by rw [hm.next]; omega)
 have := DI (Eh N p (DC m, 0) fun _ => some (GE, SW, 15)) (DC m) (some (GE, SW, 15)) (fun _ x => (Lq p x).map fun y => (y.1, y.2, 0))
  (fun n i x hx => by
   have hi := (lI.1 hx).1
   have hx2 := Rg hp hm (D1.1 (lM hx))
   rw [Eh, AG (by simp only; omega)]
   simp only [A6, hx, oS]
   rw [LC N p x hN (by omega) hp hx2, AZ (by omega)]
   simp only [oS, Lq]
   cases DG p x with
   | nil => rfl
   | cons c cs => rw [AG (by simp only [List.length_cons]; omega)]; rfl)
  (fun n => by rw [Eh, AD (by simp)]) N 0 (Nat.zero_le _) (by omega)
 rw [List.drop_zero, PD] at this
 exact this.trans (by
  unfold Qw MH
  cases D5 (fun _ x => Lq p x) 0 (DC m) <;> rfl)
theorem NJ (N : Nat) (p : Ah) (m : Ae) (hN : N ≤ 1000000) (h20 : 100 ≤ N) (hw : Mq Ku m.fHeld) (hv : GH p m = 0) : EW N p m = some (HH p m, 0) := by
 unfold EW
 rw [OU N p m hN h20 hw hv]
 unfold HH Qw
 cases MH p m <;> rfl
theorem Pv {α R : Type} {f : Nat → α → Option R} {i : Nat} {xs : List α} : (D5 f i xs).isNone = true ↔ ∀ j x, xs[j]? = some x → f (i + j) x = none := by
 constructor
 ·intro h
  exact Gw (Option.isNone_iff_eq_none.1 h)
 ·intro h
  rw [Ep h]; rfl
theorem LQ {p : Ah} {x : Ae} : Lq p x = none ↔ DG p x = [] := by
 unfold Lq
 cases DG p x <;> simp
theorem QK {p : Ah} {m : Ae} : HH p m = true ↔ ∀ x, Mh m x → DG p x = [] := by
 unfold HH MH
 rw [Pv]
 constructor
 ·intro h x hx
  obtain ⟨j, hj⟩ := List.mem_iff_getElem?.1 (D1.2 hx)
  exact LQ.1 (h j x hj)
 ·intro h j x hx
  exact LQ.2 (h x (D1.1 (lM hx)))
theorem P3 (N : Nat) (p : Ah) (m : Ae) (hN : N ≤ 1000000) (h20 : 100 ≤ N) (hp : Ca p) (hm : Cp p m) : DW N p m = some (DG p m).isEmpty := by
 unfold DW
 rw [LG N p m hN (by omega) hp hm]
 simp only [oS]
 cases DG p m with
 | nil => rfl
 | cons c cs =>
  rw [beq_eq_false_iff_ne.2 (by simp only [List.length_cons]; omega)]; rfl
theorem Mc {N : Nat} {a b : Ae} (hN : N ≤ 1000000) (h1 : a.fBase.length < N) (h2 : a.fNext.length < N) (h3 : a.fHeld.length < N) (h4 : b.fHeld.length < N) (wa : Mq Ku a.fHeld) (wb : Mq Ku b.fHeld) : Cw N a b = some (GZ a b) := by
 unfold Cw
 rw [MI h1 hN, MI h2 hN, LI h3 hN wa, LI h4 hN wb]
 simp only [oS]
 rw [MI h3 hN]
 unfold GZ Qs
 by_cases h1 : D6 a.fBase b.fBase = 0
 ·simp only [h1, Qs]
  by_cases h2 : D6 a.fNext b.fNext = 0
  ·simp only [h2]
   by_cases h3 : D6 a.fHeld b.fHeld = 0 <;> simp [h3]
  ·have : (D6 a.fNext b.fNext != 0) = true := by simpa using h2
   simp [h2, this]
 ·have : (D6 a.fBase b.fBase != 0) = true := by simpa using h1
  simp [h1, this]
theorem Oa (N : Nat) (a : List Ae) (hN : N ≤ 1000000) (h : a.length < N) (hs : ∀ x, x ∈ a → Dt N x x = some true) : El N a a = some true := by
 unfold El
 rw [bne_self_eq_false, As]
 have := DI (Cy N a a fun _ => some true) a (some true) (fun _ _ => none)
  (fun n i x hx => by
   have hi := (lI.1 hx).1
   rw [Cy, AG (by omega)]
   simp only [A6, hx, oS]
   rw [hs x (lM hx), AZ (by omega)]; rfl)
  (fun n => by rw [Cy, AD (by simp)]) N 0 (Nat.zero_le _) (by omega)
 refine this.trans ?_
 rw [Ep (fun _ _ _ => rfl)]; rfl
open Go
def Fe (p : Ah) (t : AI) : Int := if B3 t = true then Cc .u8 1 (p.fNow.getD t.fFrom.toNat 0) else 0
def Bz (p : Ah) : Ae := ⟨p.fNow, List.replicate p.fNow.length (-1), p.fTables.map (Fe p)⟩
theorem RM (N : Nat) (h : 100 ≤ N) (n : Nat) (hn : n ≤ 6) : D4 N [(-1)] (n : Int) = some (List.replicate n (-1)) := by
 obtain ⟨k, rfl⟩ : ∃ k, N = k + 100 := ⟨N - 100, by omega⟩
 have : n = 0 ∨ n = 1 ∨ n = 2 ∨ n = 3 ∨ n = 4 ∨ n = 5 ∨ n = 6 := by omega
 rcases this with rfl | rfl | rfl | rfl | rfl | rfl | rfl
 all_goals (show _ = _; kernel_rfl)
theorem PS (T : List Int) (i : Nat) (hi : i < T.length) : (T.take i ++ List.replicate (T.length - i) 0).set i (T.getD i 0) = T.take (i + 1) ++ List.replicate (T.length - (i + 1)) 0 := by
 have hl : (T.take i).length = i := by simp; omega
 rw [List.set_append_right _ _ (by omega), hl, Nat.sub_self, show T.length - i = (T.length - (i + 1)) + 1 from by omega, List.replicate_succ, List.set_cons_zero, List.take_add_one, List.append_assoc]
 have : T[i]? = some (T.getD i 0) := by rw [lD]; simp [hi]
 rw [this]; rfl
theorem RI (T : List Int) (i : Nat) (hi : i < T.length) (h0 : T.getD i 0 = 0) : T.take i ++ List.replicate (T.length - i) 0 = T.take (i + 1) ++ List.replicate (T.length - (i + 1)) 0 := by
 rw [← PS T i hi, h0, List.set_append_right _ _ (by rw [List.length_take]; omega)]
 congr 1
 have hl : (T.take i).length = i := by simp; omega
 rw [hl, Nat.sub_self, show T.length - i = (T.length - (i + 1)) + 1 from by omega, List.replicate_succ, List.set_cons_zero]
theorem QI {p : Ah} (hv : Cx p = 0) {t : AI} (ht : t ∈ p.fTables) : 0 ≤ t.fFrom ∧ t.fFrom.toNat < p.fNow.length ∧ 0 ≤ p.fNow.getD t.fFrom.toNat 0 ∧ p.fNow.getD t.fFrom.toNat 0 < 6 ∧ p.fNow.getD t.fFrom.toNat 0 < p.fVersions.getD t.fFrom.toNat 0 ∧ t.fFrom.toNat < p.fVersions.length := by
 obtain ⟨hp, hr⟩ := DB hv
 have h1 := HW (hp.tab t ht)
 have h2 := hr t.fFrom.toNat (by omega)
 have h3 := Iy hp (i := t.fFrom.toNat) (by omega)
 have := hp.now
 refine ⟨h1.1, by omega, h2.1, by omega, h2.2.1, by omega⟩
theorem ID {p : Ah} {i : Nat} {t : AI} (ht : p.fTables[i]? = some t) : (p.fTables.map (Fe p)).getD i 0 = Fe p t := by
 rw [lD, List.getElem?_map, ht]; rfl
theorem OL (N : Nat) (p : Ah) (hN : N ≤ 1000000) (h20 : 100 ≤ N) : FM N p = some (if Cx p = 0 then Bz p else ⟨[], [], []⟩, Cx p) := by
 unfold FM
 rw [KS N p hN (by omega)]
 simp only [oS]
 by_cases hv : Cx p = 0
 ·rw [if_pos hv, hv]
  obtain ⟨hp, _⟩ := DB hv
  have hnv := hp.nv
  have hnt := hp.nt
  have hnow := hp.now
  rw [bne_self_eq_false, As, IK N _ (by simp only [Dw]; omega)]
  simp only [oS]
  rw [RM N h20 _ (by omega)]
  simp only [oS]
  rw [AA (by simp only [Dw]; omega)]
  obtain ⟨a', e, ha⟩ := Fw (DL N p fun v7 => some (Ae.mk p.fNow (List.replicate p.fNow.length (-1)) v7, 0)) (fun a i => (a, i)) p.fTables.length (fun v7 => some (Ae.mk p.fNow (List.replicate p.fNow.length (-1)) v7, 0))
   (fun i a => a = (p.fTables.map (Fe p)).take i ++ List.replicate ((p.fTables.map (Fe p)).length - i) 0)
   (fun n i a hi ha => by
    have hx : p.fTables[i]? = some p.fTables[i] := by simp [hi]
    have hm : p.fTables[i] ∈ p.fTables := List.getElem_mem hi
    obtain ⟨n1, n2, n3, n4, _⟩ := QI hv hm
    rw [DL, AG (by simp only; omega)]
    simp only [A7, A6, hx, oS, Iw, AZ (show i < 1000000 by omega)]
    have hal : i < (p.fTables.map (Fe p)).length := by simpa using hi
    cases hs : B3 p.fTables[i]
    ·rw [As]
     refine ⟨a, rfl, ?_⟩
     rw [ha]
     exact RI _ _ hal (by rw [ID hx]; unfold Fe; rw [hs]; rfl)
    ·rw [AK]
     have e1 : A5 p.fNow p.fTables[i].fFrom = some (p.fNow.getD p.fTables[i].fFrom.toNat 0) := by
      obtain ⟨q, hq⟩ := Int.eq_ofNat_of_zero_le n1
      rw [hq]; exact C3 (by rw [hq] at n2; simpa using n2)
     rw [e1]
     simp only [oS]
     rw [AA n3]
     have hl : i < a.length := by rw [ha]; simp; omega
     have e2 : a[i]? = some a[i] := by simp [hl]
     rw [e2]
     simp only [oS]
     refine ⟨_, rfl, ?_⟩
     rw [← PS _ _ hal, ID hx, ha]
     unfold Fe; rw [hs]; rfl)
   (fun n a ha => by rw [DL, AD (by simp)]) N 0 (List.replicate p.fTables.length 0) (Nat.zero_le _) (by omega) (by simp)
  have e' : DL N p (fun v7 => some (Ae.mk p.fNow (List.replicate p.fNow.length (-1)) v7, 0)) N (List.replicate ((p.fTables.length : Int)).toNat (0 : Int), 0) = _ := e
  rw [e', ha]
  have e5 : (p.fTables.map (Fe p)).take p.fTables.length = p.fTables.map (Fe p) := List.take_of_length_le (by simp)
  simp [Bz, e5]
 ·rw [if_neg hv, bne_iff_ne.2 hv, AK]
theorem KU (N : Nat) (p : Ah) (hN : N ≤ 1000000) (h20 : 100 ≤ N) : D7 N p = some (if Cx p = 0 then Bz p else ⟨[], [], []⟩, Cx p) := by
 unfold D7
 rw [Mu N p hN (by omega)]
 simp only [oS]
 by_cases hv : Cx p = 0
 ·rw [if_pos hv, hv]
  obtain ⟨hp, _⟩ := DB hv
  have hnv := hp.nv
  have hnt := hp.nt
  have hnow := hp.now
  rw [bne_self_eq_false, As]
  obtain ⟨a', e, ha⟩ := Fw (BZ N p fun v4 => Bn N p (fun v10 => some (Ae.mk v4.1 v4.2 v10, 0)) N (([] : List Int), 0)) (fun a i => (a.1, a.2, i)) p.fVersions.length (fun v4 => Bn N p (fun v10 => some (Ae.mk v4.1 v4.2 v10, 0)) N (([] : List Int), 0))
   (fun i a => a = (p.fNow.take i, List.replicate i (-1)))
   (fun n i a hi ha => by
    subst ha
    rw [BZ, AG (by simp only; omega)]
    have hx : p.fNow[i]? = some p.fNow[i] := by simp [show i < p.fNow.length from by omega]
    simp only [A6, hx, oS, AZ (show i < 1000000 by omega)]
    rw [AA (by simp [Dw]; omega), AA (by simp [Dw]; omega)]
    refine ⟨(p.fNow.take i ++ [p.fNow[i]], List.replicate i (-1) ++ [-1]), rfl, ?_⟩
    rw [List.take_add_one, hx, List.replicate_succ']; rfl)
   (fun n a ha => by rw [BZ, AD (by simp)]) N 0 ([], []) (Nat.zero_le _) (by omega) rfl
  have e' : BZ N p (fun v4 => Bn N p (fun v10 => some (Ae.mk v4.1 v4.2 v10, 0)) N (([] : List Int), 0)) N (([] : List Int), ([] : List Int), 0) = _ := e
  rw [e', ha]
  simp only
  obtain ⟨b', e2, hb⟩ := Fw (Bn N p fun v10 => some (Ae.mk (p.fNow.take p.fVersions.length) (List.replicate p.fVersions.length (-1)) v10, 0)) (fun a i => (a, i)) p.fTables.length (fun v10 => some (Ae.mk (p.fNow.take p.fVersions.length) (List.replicate p.fVersions.length (-1)) v10, 0))
   (fun i a => a = (p.fTables.map (Fe p)).take i)
   (fun n i a hi ha => by
    subst ha
    have hx : p.fTables[i]? = some p.fTables[i] := by simp [hi]
    have hm : p.fTables[i] ∈ p.fTables := List.getElem_mem hi
    obtain ⟨n1, n2, n3, n4, _⟩ := QI hv hm
    rw [Bn, AG (by simp only; omega)]
    simp only [A7, A6, hx, oS, F0, AZ (show i < 1000000 by omega)]
    have hT : (p.fTables.map (Fe p))[i]? = some (Fe p p.fTables[i]) := by rw [List.getElem?_map, hx]; rfl
    have hlen : ((p.fTables.map (Fe p)).take i).length + 1 ≤ Dw := by simp [Dw]; omega
    cases hs : B3 p.fTables[i]
    ·rw [As, AA (by simpa using hlen)]
     refine ⟨_, rfl, ?_⟩
     rw [List.take_add_one, hT]
     unfold Fe; rw [hs]; rfl
    ·rw [AK]
     have e1 : A5 p.fNow p.fTables[i].fFrom = some (p.fNow.getD p.fTables[i].fFrom.toNat 0) := by
      obtain ⟨q, hq⟩ := Int.eq_ofNat_of_zero_le n1
      rw [hq]; exact C3 (by rw [hq] at n2; simpa using n2)
     rw [e1]
     simp only [oS]
     rw [AA n3, AA (by simpa using hlen)]
     refine ⟨_, rfl, ?_⟩
     rw [List.take_add_one, hT]
     unfold Fe; rw [hs]; rfl)
   (fun n a ha => by rw [Bn, AD (by simp)]) N 0 [] (Nat.zero_le _) (by omega) rfl
  have e3 : Bn N p (fun v10 => some (Ae.mk (p.fNow.take p.fVersions.length) (List.replicate p.fVersions.length (-1)) v10, 0)) N (([] : List Int), 0) = _ := e2
  rw [e3, hb]
  simp only [Bz, ← hnow, List.take_length]
  rw [show p.fTables.length = (p.fTables.map (Fe p)).length from by simp, List.take_length]
 ·rw [if_neg hv, bne_iff_ne.2 hv, AK]
theorem JH {p : Ah} (hv : Cx p = 0) : Cp p (Bz p) := by
 obtain ⟨hp, hr⟩ := DB hv
 have hnow := hp.now
 have hnx : ∀ i, i < p.fVersions.length → (List.replicate p.fNow.length (-1 : Int)).getD i 0 = -1 := fun i hi => by
  rw [lD, List.getElem?_replicate, if_pos (by omega)]; rfl
 have hone : ∀ (i : Nat) (t : AI), p.fTables[i]? = some t → ∃ b : Nat, b < 6 ∧ p.fNow.getD t.fFrom.toNat 0 = (b : Int) ∧ (b : Int) < p.fVersions.getD t.fFrom.toNat 0 ∧ t.fFrom.toNat < p.fVersions.length := fun i t ht => by
  obtain ⟨n1, n2, n3, n4, n5, n6⟩ := QI hv (lM ht)
  obtain ⟨b, hb⟩ := Int.eq_ofNat_of_zero_le n3
  exact ⟨b, by omega, hb, by omega, n6⟩
 have hbit : ∀ b : Nat, b < 8 → ∀ v, Du (Cc .u8 1 (b : Int)) v = decide (b = v) := fun b hb v => by
  by_cases h : v < 8
  ·exact (IW ⟨b, hb⟩ ⟨v, h⟩).1
  ·rw [Jb (IW ⟨b, hb⟩ ⟨0, by omega⟩).2.2 (by omega)]
   symm; apply decide_eq_false; omega
 refine { base := hnow, next := by simp [Bz, hnow], held := by simp [Bz], b0 := fun i hi => ⟨(hr i hi).1, (hr i hi).2.1⟩, n0 := fun i hi => ?_, ne := fun i hi => ?_, range := fun i hi => ?_, low := fun i t ht hs v hv' => ?_, high := fun i t ht hs v hb => ?_, none := fun i t ht hs => ?_ }
 ·show -1 ≤ (List.replicate p.fNow.length (-1 : Int)).getD i 0 ∧ (List.replicate p.fNow.length (-1 : Int)).getD i 0 < _
  rw [hnx i hi]
  have := Iy hp hi
  omega
 ·show p.fNow.getD i 0 ≠ (List.replicate p.fNow.length (-1 : Int)).getD i 0
  rw [hnx i hi]
  have := hr i hi
  omega
 ·have hx : p.fTables[i]? = some p.fTables[i] := by simp [hi]
  show 0 ≤ (p.fTables.map (Fe p)).getD i 0 ∧ (p.fTables.map (Fe p)).getD i 0 ≤ 255
  rw [ID hx]
  unfold Fe
  split
  ·obtain ⟨b, h1, h2, _⟩ := hone i _ hx
   rw [h2]
   exact (IW ⟨b, by omega⟩ ⟨0, by omega⟩).2
  ·omega
 ·show Du ((p.fTables.map (Fe p)).getD i 0) v = true
  obtain ⟨b, h1, h2, h3, h4⟩ := hone i t ht
  rw [ID ht]
  unfold Fe
  rw [if_pos hs, h2, hbit b (by omega)]
  unfold HG at hv'
  have h5 : (Bz p).fBase.getD t.fFrom.toNat 0 = (b : Int) := h2
  have h6 : (Bz p).fNext.getD t.fFrom.toNat 0 = -1 := hnx _ h4
  rw [h5, h6, Bool.or_eq_true, decide_eq_true_iff, decide_eq_true_iff] at hv'
  apply decide_eq_true; omega
 ·have hb : Du ((p.fTables.map (Fe p)).getD i 0) v = true := hb
  obtain ⟨b, h1, h2, h3, h4⟩ := hone i t ht
  rw [ID ht] at hb
  unfold Fe at hb
  rw [if_pos hs, h2, hbit b (by omega), decide_eq_true_iff] at hb
  omega
 ·show (p.fTables.map (Fe p)).getD i 0 = 0
  rw [ID ht]; unfold Fe; rw [hs]; rfl
theorem LP (x : BitVec 8) : wI .u8 (x.toNat : Int) = (x.toNat : Int) := by
 have := x.isLt
 simp [wI, IntKind.signed, IntKind.bits]
 omega
theorem PT (x : BitVec 8) : 0 ≤ (x.toNat : Int) ∧ (x.toNat : Int) ≤ 255 := by
 have := x.isLt
 omega
theorem SI (x : BitVec 8) (v : Nat) : Du (x.toNat : Int) v = x.getLsbD v := by
 unfold Du; rw [Int.toNat_natCast]; rfl
theorem OW {a : Int} (ha : 0 ≤ a ∧ a ≤ 255) (v : Nat) : (BitVec.ofInt 8 a).getLsbD v = Du a v := by
 obtain ⟨a, rfl⟩ := Int.eq_ofNat_of_zero_le ha.1
 unfold BitVec.getLsbD Du
 rw [Tl (by omega), Int.toNat_natCast]
theorem QY {a b : Int} (ha : 0 ≤ a ∧ a ≤ 255) (hb : 0 ≤ b ∧ b ≤ 255) : (∀ v, Du (CX .u8 a b) v = (Du a v && !Du b v)) ∧ 0 ≤ CX .u8 a b ∧ CX .u8 a b ≤ 255 := by
 have e : CX .u8 a b = ((BitVec.ofInt 8 a &&& ~~~BitVec.ofInt 8 b).toNat : Int) := LP (BitVec.ofInt 8 a &&& ~~~BitVec.ofInt 8 b)
 rw [e]
 refine ⟨fun v => ?_, PT _⟩
 rw [SI, BitVec.getLsbD_and, BitVec.getLsbD_not, OW ha, OW hb]
 by_cases h : v < 8
 ·simp [h]
 ·rw [Jb ha.2 (by omega)]; simp
theorem QT {a b : Int} (ha : 0 ≤ a ∧ a ≤ 255) (hb : 0 ≤ b ∧ b ≤ 255) : (∀ v, Du (NC .u8 a b) v = (Du a v || Du b v)) ∧ 0 ≤ NC .u8 a b ∧ NC .u8 a b ≤ 255 := by
 have e : NC .u8 a b = ((BitVec.ofInt 8 a ||| BitVec.ofInt 8 b).toNat : Int) := LP (BitVec.ofInt 8 a ||| BitVec.ofInt 8 b)
 rw [e]
 refine ⟨fun v => ?_, PT _⟩
 rw [SI, BitVec.getLsbD_or, OW ha, OW hb]
theorem TK {b : Nat} (hb : b < 8) : (∀ v, Du (Cc .u8 1 (b : Int)) v = decide (b = v)) ∧ 0 ≤ Cc .u8 1 (b : Int) ∧ Cc .u8 1 (b : Int) ≤ 255 := by
 refine ⟨fun v => ?_, (IW ⟨b, hb⟩ ⟨0, by omega⟩).2⟩
 by_cases h : v < 8
 ·exact (IW ⟨b, hb⟩ ⟨v, h⟩).1
 ·rw [Jb (IW ⟨b, hb⟩ ⟨0, by omega⟩).2.2 (by omega)]
  symm; apply decide_eq_false; omega
theorem SN (N : Nat) {s : Int} {v : Nat} (hs : 0 ≤ s ∧ s ≤ 255) (hv : v < 8) : Cf N s (v : Int) = some (Du s v) := by
 unfold Cf
 rw [AA (by omega), Pn hs.1 hs.2 hv]
 cases Du s v <;> rfl
def UX (v : Nat) : Nat := ((List.range 8).find? fun u => v.testBit u).getD 8
def Ws (v : Nat) : Nat := ((List.range 8).filter fun u => v.testBit u).length
theorem VH : ∀ v : Fin 256, CF 0 (v.val : Int) = some (UX v.val : Int) := by decide +kernel
theorem Xd (N : Nat) {v : Nat} (h : v < 256) : CF N (v : Int) = some (UX v : Int) := VH ⟨v, h⟩
theorem T8 : ∀ v : Fin 256, v.val ≠ 0 → UX v.val < 8 ∧ Du (v.val : Int) (UX v.val) = true ∧ 0 ≤ Fp .u8 (v.val : Int) (wI .u8 ((v.val : Int) - 1)) ∧ Fp .u8 (v.val : Int) (wI .u8 ((v.val : Int) - 1)) ≤ 255 ∧
  Ws (Fp .u8 (v.val : Int) (wI .u8 ((v.val : Int) - 1))).toNat + 1 = Ws v.val ∧
  ∀ u : Fin 8, Du (Fp .u8 (v.val : Int) (wI .u8 ((v.val : Int) - 1))) u.val = (Du (v.val : Int) u.val && decide (u.val ≠ UX v.val)) := by decide +kernel
theorem Xi (v : Nat) : Ws v ≤ 8 := by
 have := List.length_filter_le (fun u => v.testBit u) (List.range 8)
 simpa [Ws] using this
theorem Qm (N : Nat) (t : AI) (b : Int) (rw_ : Nat → Bool) : ∀ (k n v : Nat), Ws v ≤ k → k < n → v < 256 →
  (∀ u, u < 8 → Du (v : Int) u = true → ∃ row, A5 t.fRewrite (u : Int) = some row ∧ A5 row b = some (rw_ u)) →
  C9 N t b (fun _ => some true) n (v : Int) = some ((List.range 8).all fun u => !Du (v : Int) u || rw_ u)
 | k, 0, v, _, h, _, _ => by omega
 | k, n + 1, v, hk, hn, hv, hr => by
  rw [C9]
  by_cases h0 : v = 0
  ·subst h0
   have : (((0 : Nat) : Int) != 0) = false := rfl
   rw [this, As]
   congr 1
  ·have h1 : ((v : Int) != 0) = true := bne_iff_ne.2 (by omega)
   obtain ⟨l1, l2, l3, l4, l5, l6⟩ := T8 ⟨v, hv⟩ h0
   simp only at l1 l2 l3 l4 l5 l6
   obtain ⟨row, e1, e2⟩ := hr _ l1 l2
   rw [h1, AK, Xd N hv]
   simp only [oS, e1, e2]
   obtain ⟨w, hw⟩ := Int.eq_ofNat_of_zero_le l3
   rw [hw] at l4 l5 l6 ⊢
   rw [Int.toNat_natCast] at l5
   cases hq : rw_ (UX v)
   ·rw [Bool.not_false, AK]
    congr 1
    symm
    rw [List.all_eq_false]
    exact ⟨UX v, by simpa using l1, by rw [l2, hq]; simp⟩
   ·rw [Bool.not_true, As]
    match k, hk with
    | 0, hk => exfalso; omega
    | k + 1, hk =>
    rw [Qm N t b rw_ k n w (by omega) (by omega) (by omega) (fun u hu hb => hr u hu (by have := l6 ⟨u, hu⟩; simp only at this; rw [hb] at this; simpa using (Bool.and_eq_true_iff.1 this.symm).1))]
    congr 1
    rw [Bool.eq_iff_iff, List.all_eq_true, List.all_eq_true]
    refine ⟨fun h u hu => ?_, fun h u hu => ?_⟩
    ·have hu8 : u < 8 := by simpa using hu
     have h3 := h u hu
     have h4 := l6 ⟨u, hu8⟩
     simp only at h4
     rw [h4] at h3
     by_cases e : u = UX v
     ·rw [e, hq]; simp
     ·simpa [e] using h3
    ·have hu8 : u < 8 := by simpa using hu
     have h3 := h u hu
     have h4 := l6 ⟨u, hu8⟩
     simp only at h4
     rw [h4]
     cases hb : Du (v : Int) u
     ·simp
     ·rw [hb] at h3; simp at h3; simp [h3]
theorem Qf (N : Nat) (m : Ae) (s : Int) (h0 : 0 ≤ s) (h1 : s < (m.fBase.length : Int)) (h2 : s < (m.fNext.length : Int)) (hb : 0 ≤ m.fBase.getD s.toNat 0) : Fn N m s = some (FX m s.toNat) := by
 unfold Fn FX
 rw [Eo (d := 0) h0 h1, Eo (d := 0) h0 h2]
 simp only [oS, Bb]
 rw [show DE (0 ≤ m.fBase.getD s.toNat 0) = some () from by unfold DE; rw [if_pos hb]]
 simp only [oS]
 by_cases h : 0 ≤ m.fNext.getD s.toNat 0
 ·rw [AG h, if_pos h, show DE (0 ≤ m.fNext.getD s.toNat 0) = some () from by unfold DE; rw [if_pos h]]; rfl
 ·rw [AD h, if_neg h]
theorem JG (N : Nat) (t : AI) : Fc N t = some (B3 t) := by
 unfold Fc B3
 simp only [Bb]
 cases h : t.fKind == 3 <;> simp
def Ic (s : Au) : Bool := decide (1 ≤ s.fKind ∧ s.fKind ≤ 4 ∧ 0 ≤ s.fIndex ∧ 0 ≤ s.fVersion) && (s.fKind == 1 || s.fVersion == 0)
def G9 (p : Ah) (s : Au) : Bool :=
 if s.fKind = 3 then decide (s.fIndex < (p.fTables.length : Int)) else decide (s.fIndex < (p.fVersions.length : Int)) && (s.fKind != 1 || decide (s.fVersion < p.fVersions.getD s.fIndex.toNat 0))
theorem NK (N : Nat) (s : Au) : F3 N s = some (Ic s) := by
 unfold F3 Ic SA
 simp only [Bb]
 by_cases h1 : (if s.fVersion < s.fIndex then s.fVersion else s.fIndex) < 0
 ·rw [AG h1, AK, decide_eq_false (by split at h1 <;> omega)]; rfl
 ·rw [AD h1]
  by_cases h2 : s.fKind < 1
  ·rw [AG h2, AK, decide_eq_false (by omega)]; rfl
  ·rw [AD h2]
   by_cases h3 : 4 < s.fKind
   ·rw [decide_eq_true h3, AK, decide_eq_false (by omega)]; rfl
   ·rw [decide_eq_false h3, As, decide_eq_true (by split at h1 <;> omega), Bool.true_and]
    cases h4 : s.fKind == 1 <;> simp
theorem OT (N : Nat) (s : Au) : D8 N s = some (Ic s) := by
 unfold D8 Ic
 simp only [Bb]
 by_cases h1 : 1 ≤ s.fKind
 ·rw [AG h1]
  by_cases h2 : s.fKind ≤ 4
  ·rw [AG h2]
   by_cases h3 : 0 ≤ s.fIndex
   ·rw [AG h3]
    by_cases h4 : 0 ≤ s.fVersion
    ·rw [AG h4, decide_eq_true (by omega), Bool.true_and]
     cases h5 : s.fKind == 1 <;> simp
    ·rw [AD h4, decide_eq_false (by omega)]; rfl
   ·rw [AD h3, decide_eq_false (by omega)]; rfl
  ·rw [AD h2, decide_eq_false (by omega)]; rfl
 ·rw [AD h1, decide_eq_false (by omega)]; rfl
theorem MB (N : Nat) (p : Ah) (s : Au) (hv : Ic s = true) : FF N p s = some (G9 p s) := by
 have h0 : 0 ≤ s.fIndex := by
  unfold Ic at hv
  rw [Bool.and_eq_true, decide_eq_true_iff] at hv
  exact hv.1.2.2.1
 unfold FF G9
 simp only [Bb]
 by_cases h1 : s.fKind = 3
 ·rw [if_pos h1, beq_iff_eq.2 h1, AK]
 ·rw [if_neg h1, beq_eq_false_iff_ne.2 h1, As]
  by_cases h2 : s.fIndex < (p.fVersions.length : Int)
  ·rw [AG h2, decide_eq_true h2, Bool.true_and]
   cases h3 : s.fKind != 1
   ·rw [As, Eo (d := 0) h0 h2, Bool.false_or]; rfl
   ·rw [AK]; rfl
  ·rw [AD h2, decide_eq_false h2]; rfl
def Ro (s : Au) (t : AI) : Bool := t.fFrom == s.fIndex && B3 t
def R8 (s : Au) (i : Nat) (t : AI) (a : List Int) : List Int := if Ro s t = true then a.set i (NC .u8 (a.getD i 0) (Cc .u8 1 s.fVersion)) else a
def H2 (p : Ah) (s : Au) (held : List Int) : List Int := HB (R8 s) 0 p.fTables held
theorem Mg {_R : Type} (N : Nat) (p : Ah) (s : Au) (held : List Int) (hv : 0 ≤ s.fVersion) (hl : held.length = p.fTables.length) (h12 : p.fTables.length < N) (hN : N ≤ 1000000) (j : List Int → Option (Bool × List Int × List Int)) :
  Dk N p s j N (held, 0) = j (H2 p s held) ∧ (H2 p s held).length = p.fTables.length := by
 have := HO (Dk N p s j) (fun a i => (a, i)) p.fTables j (R8 s) (fun i a => a.length = p.fTables.length)
  (fun n i x a hx ha => by
   have hi := (lI.1 hx).1
   rw [Dk, AG (by simp only; omega)]
   simp only [A7, A6, hx, oS, JG, AZ (show i < 1000000 by omega)]
   have e2 : a[i]? = some (a.getD i 0) := by rw [lD]; simp [show i < a.length from by omega]
   unfold R8 Ro
   cases h1 : x.fFrom == s.fIndex
   ·rw [As, As, Bool.false_and, if_neg (by simp)]; exact ⟨rfl, ha⟩
   ·rw [AK, Bool.true_and]
    cases h2 : B3 x
    ·rw [As, if_neg (by simp)]; exact ⟨rfl, ha⟩
    ·rw [AK, e2, if_pos rfl]
     simp only [oS]
     rw [AA hv]
     exact ⟨rfl, by simpa using ha⟩)
  (fun n a ha => by rw [Dk, AD (by simp)]) N 0 held (Nat.zero_le _) (by omega) hl
 rw [List.drop_zero] at this
 exact this
theorem MZ (N : Nat) (p : Ah) (s : Au) (held : List Int) (hv : 0 ≤ s.fVersion) (hl : held.length = p.fTables.length) (h12 : p.fTables.length < N) (hN : N ≤ 1000000) (j : List Int → Option (Ae × Bool)) :
  BR N p s j N (held, 0) = j (H2 p s held) := by
 have := HO (BR N p s j) (fun a i => (a, i)) p.fTables j (R8 s) (fun i a => a.length = p.fTables.length)
  (fun n i x a hx ha => by
   have hi := (lI.1 hx).1
   rw [BR, AG (by simp only; omega)]
   simp only [A7, A6, hx, oS, F0, AZ (show i < 1000000 by omega)]
   have e2 : a[i]? = some (a.getD i 0) := by rw [lD]; simp [show i < a.length from by omega]
   unfold R8 Ro
   cases h1 : x.fFrom == s.fIndex
   ·rw [As, As, Bool.false_and, if_neg (by simp)]; exact ⟨rfl, ha⟩
   ·rw [AK, Bool.true_and]
    cases h2 : B3 x
    ·rw [As, if_neg (by simp)]; exact ⟨rfl, ha⟩
    ·rw [AK, e2, if_pos rfl]
     simp only [oS]
     rw [AA hv]
     exact ⟨rfl, by simpa using ha⟩)
  (fun n a ha => by rw [BR, AD (by simp)]) N 0 held (Nat.zero_le _) (by omega) hl
 rw [List.drop_zero] at this
 exact this.1
def J4 (m : Ae) (t : AI) (u : Nat) : Bool := (t.fRewrite.getD u []).getD (m.fBase.getD t.fFrom.toNat 0).toNat false
def M4 (m : Ae) (i : Nat) (t : AI) (u : Nat) : Bool := Du (m.fHeld.getD i 0) u && !HG m t.fFrom.toNat u
def Hv (_p : Ah) (m : Ae) (i : Nat) (t : AI) : Bool := t.fKind == 4 && (List.range 8).any fun u => M4 m i t u && !J4 m t u
def GJ (p : Ah) (m : Ae) (s : Au) : Option Ae :=
 let i := s.fIndex.toNat
 if s.fKind = 1 then (if 0 ≤ m.fNext.getD i 0 ∨ m.fBase.getD i 0 = s.fVersion then none else some ⟨m.fBase, m.fNext.set i s.fVersion, H2 p s m.fHeld⟩)
 else if s.fKind = 3 then match p.fTables[i]? with
  | none => none
  | some t => if B3 t = false ∨ m.fHeld.getD i 0 = FX m t.fFrom.toNat ∨ Hv p m i t = true then none else some ⟨m.fBase, m.fNext, m.fHeld.set i (FX m t.fFrom.toNat)⟩
 else if m.fNext.getD i 0 < 0 then none
 else some ⟨if s.fKind = 2 then m.fBase.set i (m.fNext.getD i 0) else m.fBase, m.fNext.set i (-1), m.fHeld⟩
def E6 (p : Ah) (m : Ae) (s : Au) : Ae × Int :=
 if Ic s = false then (GE, 1) else if G9 p s = false then (GE, 4) else match GJ p m s with
  | none => (GE, 11)
  | some x => (x, 0)
end Go.Lift
namespace Go.Lift
open Option renaming bind_some → oS
open List renaming mem_of_getElem? → lM
open List renaming getElem?_eq_some_iff → lI
open List renaming getD_eq_getElem?_getD → lD
open Go
section clear
variable {p : Ah} {m : Ae} {i : Nat} {t : AI}
theorem Sb (hp : Ca p) (hm : Cp p m) (ht : p.fTables[i]? = some t) (hs : B3 t = true) {u : Nat} (h : Du (m.fHeld.getD i 0) u = true) : (u : Int) < p.fVersions.getD t.fFrom.toNat 0 ∧ u < 6 ∧ t.fFrom.toNat < p.fVersions.length := by
 have h1 := hm.high i t ht hs u h
 have hin := HW (hp.tab t (lM ht))
 have h2 := Iy hp (i := t.fFrom.toNat) (by omega)
 exact ⟨h1, by omega, by omega⟩
theorem So (hp : Ca p) (hm : Cp p m) (ht : p.fTables[i]? = some t) (hs : B3 t = true) (h4 : t.fKind = 4) {u : Nat} (h : Du (m.fHeld.getD i 0) u = true) :
  A5 t.fRewrite (u : Int) = some (t.fRewrite.getD u []) ∧ A5 (t.fRewrite.getD u []) (m.fBase.getD t.fFrom.toNat 0) = some (J4 m t u) := by
 have hT := LF (hp.tab t (lM ht))
 obtain ⟨h1, h2, h3⟩ := Sb hp hm ht hs h
 have hl := hT.reL h4
 have e : t.fRewrite[u]? = some (t.fRewrite.getD u []) := by rw [lD]; simp [show u < t.fRewrite.length from by omega]
 have hr := hT.reR _ (lM e)
 have hb := hm.b0 t.fFrom.toNat h3
 refine ⟨by rw [A6, e], ?_⟩
 unfold J4
 obtain ⟨b, hb'⟩ := Int.eq_ofNat_of_zero_le hb.1
 rw [hb'] at hb ⊢
 rw [Int.toNat_natCast]
 exact C3 (by omega)
theorem NE (N : Nat) (hN : N ≤ 1000000) (h20 : 100 ≤ N) (hp : Ca p) (hm : Cp p m) (ht : p.fTables[i]? = some t) :
  FW N p m (i : Int) = some (if B3 t = false ∨ m.fHeld.getD i 0 = FX m t.fFrom.toNat ∨ Hv p m i t = true then (false, m.fHeld) else (true, m.fHeld.set i (FX m t.fFrom.toNat))) := by
 have hi := (lI.1 ht).1
 have hin := HW (hp.tab t (lM ht))
 have hb := hm.base
 have hnx := hm.next
 have hh := hm.held
 have hr := Hq hp hm.toMixServ (s := t.fFrom.toNat) (by omega)
 have hrg := hm.range i hi
 have eh : A5 m.fHeld (i : Int) = some (m.fHeld.getD i 0) := C3 (by omega)
 unfold FW
 simp only [A7, A6, ht, oS, JG]
 have eh' : m.fHeld[i]? = some (m.fHeld.getD i 0) := by rw [← A6, eh]
 cases hs : B3 t
 ·rw [Bool.not_false, AK, if_pos (.inl rfl)]
 ·rw [Bool.not_true, As, Qf N m _ hin.1 (by omega) (by omega) (hm.b0 _ (by omega)).1]
  simp only [oS, eh']
  by_cases h1 : m.fHeld.getD i 0 = FX m t.fFrom.toNat
  ·rw [beq_iff_eq.2 h1, AK, AK, if_pos (.inr (.inl h1))]
  ·rw [beq_eq_false_iff_ne.2 h1, As]
   by_cases h4 : t.fKind = 4
   ·rw [beq_iff_eq.2 h4, AK, Eo (d := 0) hin.1 (by omega)]
    simp only [oS]
    obtain ⟨a1, a2, a3⟩ := QY hrg hr.2
    obtain ⟨w, hw⟩ := Int.eq_ofNat_of_zero_le a2
    unfold Fl
    rw [hw] at a1 a3 ⊢
    rw [Qm N t _ (J4 m t) 8 N w (Xi _) (by omega) (by omega) (fun u hu hbu => by
     have := a1 u; rw [hbu] at this
     exact ⟨_, So hp hm ht hs h4 (Bool.and_eq_true_iff.1 this.symm).1⟩)]
    simp only [oS]
    have e : (!(List.range 8).all fun u => !Du (w : Int) u || J4 m t u) = Hv p m i t := by
     unfold Hv
     rw [beq_iff_eq.2 h4, Bool.true_and, List.not_all_eq_any_not]
     congr 1
     funext u
     rw [a1 u, hr.1 u]
     unfold M4
     cases Du (m.fHeld.getD i 0) u <;> cases HG m t.fFrom.toNat u <;> cases J4 m t u <;> rfl
    rw [e]
    cases hst : Hv p m i t
    ·rw [As, if_neg (by rintro (h | h | h); cases h; exact h1 h; cases h)]; rfl
    ·rw [AK, if_pos (.inr (.inr rfl))]
   ·have e : Hv p m i t = false := by unfold Hv; rw [beq_eq_false_iff_ne.2 h4]; rfl
    rw [beq_eq_false_iff_ne.2 h4, As, As, e, if_neg (by rintro (h | h | h); cases h; exact h1 h; cases h)]; rfl
theorem NB (N : Nat) (hN : N ≤ 1000000) (h20 : 100 ≤ N) (hp : Ca p) (hm : Cp p m) (ht : p.fTables[i]? = some t) (hs : B3 t = true) (s : Au) (hsi : s.fIndex = (i : Int)) (j : Option (Ae × Bool)) :
  BA N p m s t (FX m t.fFrom.toNat) (fun _ => j) N 0 = if Hv p m i t = true then some (GE, false) else j := by
 have hi := (lI.1 ht).1
 have hin := HW (hp.tab t (lM ht))
 have hb := hm.base
 have hh := hm.held
 have hr := Hq hp hm.toMixServ (s := t.fFrom.toNat) (by omega)
 have hrg := hm.range i hi
 have hver := Iy hp (i := t.fFrom.toNat) (by omega)
 obtain ⟨nv, hnv⟩ := Int.eq_ofNat_of_zero_le (show 0 ≤ p.fVersions.getD t.fFrom.toNat 0 by omega)
 have eh' : m.fHeld[i]? = some (m.fHeld.getD i 0) := by rw [lD]; simp [show i < m.fHeld.length from by omega]
 have := DI (BA N p m s t (FX m t.fFrom.toNat) fun _ => j) (List.range nv) j (fun u _ => if (M4 m i t u && (t.fKind == 4 && !J4 m t u)) = true then some (GE, false) else none)
  (fun n u x hx => by
   have hu : u < nv := by
    have := (lI.1 hx).1
    simpa using this
   rw [BA, Eo (d := 0) hin.1 (by omega), hnv]
   simp only [oS]
   rw [AG (by omega)]
   simp only [A7, hsi, A6, eh', oS]
   rw [SN N hrg (by omega), AZ (by omega)]
   simp only [oS]
   cases h1 : Du (m.fHeld.getD i 0) u
   ·have e : M4 m i t u = false := by unfold M4; rw [h1]; rfl
    rw [As, As, As, e]; rfl
   ·rw [AK, SN N hr.2 (by omega), hr.1 u]
    simp only [oS]
    have e : M4 m i t u = !HG m t.fFrom.toNat u := by unfold M4; rw [h1]; rfl
    rw [← e]
    cases h2 : M4 m i t u
    ·rw [As, As]; rfl
    ·rw [AK]
     by_cases h4 : t.fKind = 4
     ·obtain ⟨e1, e2⟩ := So hp hm ht hs h4 h1
      rw [A6] at e1
      rw [beq_iff_eq.2 h4, AK, e1, Eo (d := 0) hin.1 (by omega)]
      simp only [oS]
      rw [e2]
      simp only [oS]
      cases J4 m t u <;> rfl
     ·rw [beq_eq_false_iff_ne.2 h4, As, As]; rfl)
  (fun n => by
   rw [BA, Eo (d := 0) hin.1 (by omega), hnv]
   simp only [oS, List.length_range]
   rw [AD (by omega)]) N 0 (Nat.zero_le _) (by simp; omega)
 have e0 : BA N p m s t (FX m t.fFrom.toNat) (fun _ => j) N 0 = _ := this
 rw [e0, List.drop_zero]
 by_cases hst : Hv p m i t = true
 ·rw [if_pos hst]
  unfold Hv at hst
  rw [Bool.and_eq_true, List.any_eq_true] at hst
  obtain ⟨h4, u, hu, h5⟩ := hst
  rw [Bool.and_eq_true] at h5
  have h6 : Du (m.fHeld.getD i 0) u = true := by have := h5.1; unfold M4 at this; exact (Bool.and_eq_true_iff.1 this).1
  have h7 := Sb hp hm ht hs h6
  cases hsc : D5 (fun u (_ : Nat) => if (M4 m i t u && (t.fKind == 4 && !J4 m t u)) = true then some (GE, false) else none) 0 (List.range nv) with
  | some r =>
   obtain ⟨q, x, hx, hf⟩ := FH hsc
   split at hf
   ·cases hf; rfl
   ·cases hf
  | none =>
   exfalso
   have hx : (List.range nv)[u]? = some u := List.getElem?_range (by omega)
   have := Gw hsc u u hx
   rw [Nat.zero_add, h5.1, h4, h5.2] at this
   cases this
 ·rw [if_neg hst]
  have : D5 (fun u (_ : Nat) => if (M4 m i t u && (t.fKind == 4 && !J4 m t u)) = true then some (GE, false) else none) 0 (List.range nv) = none := Ep fun q x hx => by
   rw [Nat.zero_add]
   split
   ·rename_i h5
    exfalso; apply hst
    rw [Bool.and_eq_true, Bool.and_eq_true] at h5
    unfold Hv
    rw [h5.2.1, Bool.true_and, List.any_eq_true]
    have hq : q < nv := by
     have := (lI.1 hx).1
     simpa using this
    exact ⟨q, List.mem_range.2 (by omega), by rw [h5.1, h5.2.2]; rfl⟩
   ·rfl
  rw [this]; rfl
end clear
end Go.Lift
namespace Go.Lift
open Option renaming bind_some → oS
open List renaming mem_of_getElem? → lM
open Go
theorem JM {s : Au} (h : Ic s = true) : 1 ≤ s.fKind ∧ s.fKind ≤ 4 ∧ 0 ≤ s.fIndex ∧ 0 ≤ s.fVersion ∧ (s.fKind ≠ 1 → s.fVersion = 0) := by
 unfold Ic at h
 rw [Bool.and_eq_true, decide_eq_true_iff, Bool.or_eq_true, beq_iff_eq, beq_iff_eq] at h
 exact ⟨h.1.1, h.1.2.1, h.1.2.2.1, h.1.2.2.2, fun hk => h.2.elim (fun e => (hk e).elim) id⟩
theorem Lu {p : Ah} {s : Au} (h : G9 p s = true) : (s.fKind = 3 → s.fIndex < (p.fTables.length : Int)) ∧ (s.fKind ≠ 3 → s.fIndex < (p.fVersions.length : Int)) ∧ (s.fKind = 1 → s.fVersion < p.fVersions.getD s.fIndex.toNat 0) := by
 unfold G9 at h
 split at h
 ·rename_i hk
  rw [decide_eq_true_iff] at h
  exact ⟨fun _ => h, fun hn => (hn hk).elim, fun h1 => by omega⟩
 ·rename_i hk
  rw [Bool.and_eq_true, decide_eq_true_iff, Bool.or_eq_true, decide_eq_true_iff, bne_iff_ne] at h
  exact ⟨fun h3 => (hk h3).elim, fun _ => h.1, fun h1 => h.2.elim (fun hn => (hn h1).elim) id⟩
theorem Of (N : Nat) {p : Ah} {m : Ae} (hp : Ca p) (hm : Cp p m) : Fb N m = some m := by
 have hnv := hp.nv
 have hnt := hp.nt
 have h1 := hm.base
 have h2 := hm.next
 have h3 := hm.held
 unfold Fb
 rw [IK N _ (by simp only [Dw]; omega), IK N _ (by simp only [Dw]; omega), Oo N _ (by simp only [Dw]; omega)]
 rfl
theorem ND (N : Nat) (hN : N ≤ 1000000) (h20 : 100 ≤ N) {p : Ah} {m : Ae} (hp : Ca p) (hm : Cp p m) {s : Au} (hv : Ic s = true) (hx : G9 p s = true) :
  ∃ o, Fs N p m s = some (o, (GJ p m s).isSome) ∧ ∀ x, GJ p m s = some x → o = x := by
 obtain ⟨k1, k4, i0, v0, vk⟩ := JM hv
 obtain ⟨x3, xn, x1⟩ := Lu hx
 have hnv := hp.nv
 have hnt := hp.nt
 have hb := hm.base
 have hn := hm.next
 have hh := hm.held
 obtain ⟨i, hi⟩ := Int.eq_ofNat_of_zero_le i0
 unfold Fs GJ
 rw [Of N hp hm]
 simp only [oS, A7]
 by_cases hk1 : s.fKind = 1
 ·have hi1 : (i : Int) < p.fVersions.length := by have := xn (by omega); omega
  rw [beq_iff_eq.2 hk1, AK, if_pos hk1]
  unfold Hk
  simp only [A7, hi, Int.toNat_natCast]
  rw [C3 (d := 0) (show i < m.fNext.length by omega)]
  simp only [oS]
  by_cases c1 : 0 ≤ m.fNext.getD i 0
  ·rw [AG c1, AK, if_pos (.inl c1)]
   exact ⟨_, rfl, fun x hx => by cases hx⟩
  ·rw [AD c1, C3 (d := 0) (show i < m.fBase.length by omega)]
   simp only [oS]
   by_cases c2 : m.fBase.getD i 0 = s.fVersion
   ·rw [beq_iff_eq.2 c2, AK, if_pos (.inr c2)]
    exact ⟨_, rfl, fun x hx => by cases hx⟩
   ·rw [beq_eq_false_iff_ne.2 c2, As, (Mg (_R := Unit) N p s m.fHeld v0 hh (by omega) hN _).1, if_neg (by rintro (h | h); exact c1 h; exact c2 h)]
    exact ⟨_, rfl, fun x hx => by cases hx; rfl⟩
 ·rw [beq_eq_false_iff_ne.2 hk1, As, if_neg hk1]
  by_cases hk3 : s.fKind = 3
  ·have hi3 : i < p.fTables.length := by have := x3 hk3; omega
   have ht : p.fTables[i]? = some p.fTables[i] := by simp [hi3]
   rw [beq_iff_eq.2 hk3, AK, if_pos hk3, hi, NE N hN h20 hp hm ht]
   simp only [oS, Int.toNat_natCast, ht]
   split
   ·exact ⟨_, rfl, fun x hx => by cases hx⟩
   ·exact ⟨_, rfl, fun x hx => by cases hx; rfl⟩
  ·have hi1 : (i : Int) < p.fVersions.length := by have := xn hk3; omega
   rw [beq_eq_false_iff_ne.2 hk3, As, if_neg hk3, hi, C3 (d := 0) (show i < m.fNext.length by omega)]
   simp only [oS, Int.toNat_natCast]
   by_cases c1 : m.fNext.getD i 0 < 0
   ·rw [AG c1, if_pos c1]
    exact ⟨_, rfl, fun x hx => by cases hx⟩
   ·rw [AD c1, if_neg c1]
    by_cases hk2 : s.fKind = 2
    ·rw [beq_iff_eq.2 hk2, AK, C3 (d := 0) (show i < m.fBase.length by omega), if_pos hk2]
     exact ⟨_, rfl, fun x hx => by cases hx; rfl⟩
    ·rw [beq_eq_false_iff_ne.2 hk2, As, if_neg hk2]
     exact ⟨_, rfl, fun x hx => by cases hx; rfl⟩
theorem NS (N : Nat) (hN : N ≤ 1000000) (h20 : 100 ≤ N) {p : Ah} {m : Ae} (hp : Ca p) (hm : Cp p m) (s : Au) : Ft N p m s = some (E6 p m s) := by
 unfold Ft E6
 rw [NK]
 simp only [oS]
 cases hv : Ic s
 ·rw [Bool.not_false, AK, if_pos rfl]; rfl
 ·rw [Bool.not_true, As, if_neg (by simp), MB N p s hv]
  simp only [oS]
  cases hx : G9 p s
  ·rw [Bool.not_false, AK, if_pos rfl]; rfl
  ·rw [Bool.not_true, As, if_neg (by simp)]
   obtain ⟨o, e, ho⟩ := ND N hN h20 hp hm hv hx
   rw [e]
   simp only [oS]
   cases ha : GJ p m s with
   | none => rfl
   | some x => rw [ho x ha]; rfl
theorem Pb (N : Nat) (hN : N ≤ 1000000) (h20 : 100 ≤ N) {p : Ah} {m : Ae} (hp : Ca p) (hm : Cp p m) {s : Au} (hv : Ic s = true) (hx : G9 p s = true) :
  Dm N p m s = some (match GJ p m s with | none => (GE, false) | some x => (x, true)) := by
 obtain ⟨k1, k4, i0, v0, vk⟩ := JM hv
 obtain ⟨x3, xn, x1⟩ := Lu hx
 have hnv := hp.nv
 have hnt := hp.nt
 have hb := hm.base
 have hn := hm.next
 have hh := hm.held
 obtain ⟨i, hi⟩ := Int.eq_ofNat_of_zero_le i0
 unfold Dm GJ
 rw [AA (by simp [Dw]; omega), AA (by simp [Dw]; omega), AA (by simp [Dw]; omega)]
 simp only [A7, List.nil_append]
 by_cases hk1 : s.fKind = 1
 ·have hi1 : (i : Int) < p.fVersions.length := by have := xn (by omega); omega
  rw [beq_iff_eq.2 hk1, AK, if_pos hk1]
  simp only [hi, Int.toNat_natCast]
  rw [C3 (d := 0) (show i < m.fNext.length by omega)]
  simp only [oS]
  by_cases c1 : 0 ≤ m.fNext.getD i 0
  ·rw [AG c1, AK, if_pos (.inl c1)]; rfl
  ·rw [AD c1, C3 (d := 0) (show i < m.fBase.length by omega)]
   simp only [oS]
   by_cases c2 : m.fBase.getD i 0 = s.fVersion
   ·rw [beq_iff_eq.2 c2.symm, AK, if_pos (.inr c2)]; rfl
   ·rw [beq_eq_false_iff_ne.2 (fun h => c2 h.symm), As, MZ N p s m.fHeld v0 hh (by omega) hN _, if_neg (by rintro (h | h); exact c1 h; exact c2 h)]
 ·rw [beq_eq_false_iff_ne.2 hk1, As, if_neg hk1]
  by_cases hk3 : s.fKind = 3
  ·have hi3 : i < p.fTables.length := by have := x3 hk3; omega
   have ht : p.fTables[i]? = some p.fTables[i] := by simp [hi3]
   have hin := HW (hp.tab _ (lM ht))
   have eh' : A5 m.fHeld (i : Int) = some (m.fHeld.getD i 0) := C3 (by omega)
   rw [beq_eq_false_iff_ne.2 (show s.fKind ≠ 2 by omega), As, beq_iff_eq.2 hk3, AK, if_pos hk3, hi, A6, ht]
   simp only [oS, F0, Int.toNat_natCast, ht]
   cases hs : B3 p.fTables[i]
   ·rw [Bool.not_false, AK, if_pos (.inl rfl)]; rfl
   ·rw [Bool.not_true, As, IT N m _ hin.1 (by omega) (by omega) (hm.b0 _ (by omega)).1, eh']
    simp only [oS]
    by_cases h1 : m.fHeld.getD i 0 = FX m (p.fTables[i]).fFrom.toNat
    ·rw [beq_iff_eq.2 h1, AK, if_pos (.inr (.inl h1))]; rfl
    ·rw [beq_eq_false_iff_ne.2 h1, As]
     rw [NB N hN h20 hp hm ht hs s hi]
     cases hst : Hv p m i p.fTables[i]
     ·rw [if_neg (by simp), if_neg (by rintro (h | h | h); cases h; exact h1 h; cases h)]
     ·rw [if_pos rfl, if_pos (.inr (.inr rfl))]
  ·have hi1 : (i : Int) < p.fVersions.length := by have := xn hk3; omega
   rw [if_neg hk3, hi, C3 (d := 0) (show i < m.fNext.length by omega)]
   simp only [oS, Int.toNat_natCast]
   by_cases hk2 : s.fKind = 2
   ·rw [beq_iff_eq.2 hk2, AK, if_pos hk2]
    by_cases c1 : m.fNext.getD i 0 < 0
    ·rw [AG c1, if_pos c1]; rfl
    ·rw [AD c1, if_neg c1, C3 (d := 0) (show i < m.fBase.length by omega)]; rfl
   ·rw [beq_eq_false_iff_ne.2 hk2, As, beq_eq_false_iff_ne.2 hk3, As, if_neg hk2]
    by_cases c1 : m.fNext.getD i 0 < 0
    ·rw [AG c1, if_pos c1]; rfl
    ·rw [AD c1, if_neg c1]
end Go.Lift
namespace Go.Lift
open Option renaming bind_some → oS
open List renaming mem_of_getElem? → lM
open List renaming getElem?_eq_some_iff → lI
open Go
theorem Qk (s : Au) : ∀ (xs : List AI) (i : Nat) (a : List Int), i + xs.length ≤ a.length → (HB (R8 s) i xs a).length = a.length ∧ ∀ q, (HB (R8 s) i xs a).getD q 0 = match (if i ≤ q then xs[q - i]? else none) with
  | some t => if Ro s t = true then NC .u8 (a.getD q 0) (Cc .u8 1 s.fVersion) else a.getD q 0
  | none => a.getD q 0
 | [], i, a, _ => by
  refine ⟨rfl, fun q => ?_⟩
  split
  ·rename_i h; split at h
   ·simp at h
   ·cases h
  ·rfl
 | x :: xs, i, a, hl => by
  have hl' : i + (xs.length + 1) ≤ a.length := by simpa using hl
  have ha : (R8 s i x a).length = a.length := by unfold R8; split <;> simp
  obtain ⟨ih1, ih2⟩ := Qk s xs (i + 1) (R8 s i x a) (by omega)
  refine ⟨by rw [HB, ih1, ha], fun q => ?_⟩
  rw [HB, ih2 q]
  have hu : (R8 s i x a).getD q 0 = if q = i ∧ Ro s x = true then NC .u8 (a.getD q 0) (Cc .u8 1 s.fVersion) else a.getD q 0 := by
   unfold R8
   by_cases hc : Ro s x = true
   ·rw [if_pos hc, H6 (by omega)]
    by_cases hq : q = i
    ·subst hq; rw [if_pos rfl, if_pos ⟨rfl, hc⟩]
    ·rw [if_neg hq, if_neg (fun h => hq h.1)]
   ·rw [if_neg hc, if_neg (fun h => hc h.2)]
  by_cases h1 : i + 1 ≤ q
  ·rw [if_pos h1, if_pos (show i ≤ q by omega), hu, if_neg (by omega)]
   rw [show (x :: xs)[q - i]? = xs[q - (i + 1)]? from by rw [show q - i = (q - (i + 1)) + 1 from by omega, List.getElem?_cons_succ]]
  ·rw [if_neg h1]
   by_cases h2 : q = i
   ·subst h2
    rw [if_pos (Nat.le_refl _), Nat.sub_self, hu]
    simp
   ·rw [if_neg (show ¬ i ≤ q by omega), hu, if_neg (by omega)]
theorem R1 {p : Ah} {s : Au} {held : List Int} (hl : held.length = p.fTables.length) : (H2 p s held).length = p.fTables.length ∧ ∀ q t, p.fTables[q]? = some t → (H2 p s held).getD q 0 = if Ro s t = true then NC .u8 (held.getD q 0) (Cc .u8 1 s.fVersion) else held.getD q 0 := by
 obtain ⟨h1, h2⟩ := Qk s p.fTables 0 held (by omega)
 refine ⟨h1.trans hl, fun q t ht => ?_⟩
 have := h2 q
 rw [if_pos (Nat.zero_le _), Nat.sub_zero, ht] at this
 exact this
theorem Nb {m : Ae} {s v : Nat} : HG m s v = true ↔ m.fBase.getD s 0 = (v : Int) ∨ m.fNext.getD s 0 = (v : Int) := by
 unfold HG; rw [Bool.or_eq_true, decide_eq_true_iff, decide_eq_true_iff]
theorem Ta {p : Ah} {m x : Ae} (hp : Ca p) (hm : Cp p m) {s : Au} (hv : Ic s = true) (hx : G9 p s = true) (h : GJ p m s = some x) : Cp p x := by
 obtain ⟨k1, k4, i0, v0, vk⟩ := JM hv
 obtain ⟨x3, xn, x1⟩ := Lu hx
 obtain ⟨i, hi⟩ := Int.eq_ofNat_of_zero_le i0
 have hb := hm.base
 have hn := hm.next
 have hh := hm.held
 unfold GJ at h
 simp only [hi, Int.toNat_natCast] at h
 rw [hi, Int.toNat_natCast] at x1
 split at h
 ·rename_i hk1
  have hi1 : i < p.fVersions.length := by have := xn (by omega); omega
  have hx1 := x1 hk1
  have hvi := Iy hp hi1
  split at h
  ·cases h
  rename_i hc
  cases h
  obtain ⟨u1, u2⟩ := R1 (s := s) hh
  obtain ⟨b, hbv⟩ := Int.eq_ofNat_of_zero_le v0
  have hob := TK (b := b) (by omega)
  have hN : ∀ q, (m.fNext.set i s.fVersion).getD q 0 = if q = i then s.fVersion else m.fNext.getD q 0 := fun q => H6 (by omega)
  refine { base := hb, next := by simpa using hn, held := u1, b0 := hm.b0, n0 := fun q hq => ?_, ne := fun q hq => ?_, range := fun q hq => ?_, low := fun q t ht hs v hr => ?_, high := fun q t ht hs v hbit => ?_, none := fun q t ht hs => ?_ }
  ·show -1 ≤ (m.fNext.set i s.fVersion).getD q 0 ∧ (m.fNext.set i s.fVersion).getD q 0 < _
   rw [hN q]
   split
   ·rename_i e; subst e; omega
   ·exact hm.n0 q hq
  ·show m.fBase.getD q 0 ≠ (m.fNext.set i s.fVersion).getD q 0
   rw [hN q]
   split
   ·rename_i e; subst e; exact fun h => hc (.inr h)
   ·exact hm.ne q hq
  ·have ht : p.fTables[q]? = some p.fTables[q] := by simp [hq]
   show 0 ≤ (H2 p s m.fHeld).getD q 0 ∧ (H2 p s m.fHeld).getD q 0 ≤ 255
   rw [u2 q _ ht, hbv]
   split
   ·exact (QT (hm.range q hq) hob.2).2
   ·exact hm.range q hq
  ·have hq := (lI.1 ht).1
   show Du ((H2 p s m.fHeld).getD q 0) v = true
   have hin := HW (hp.tab t (lM ht))
   rw [Nb] at hr
   have hr : m.fBase.getD t.fFrom.toNat 0 = (v : Int) ∨ (m.fNext.set i s.fVersion).getD t.fFrom.toNat 0 = (v : Int) := hr
   rw [hN] at hr
   rw [u2 q t ht, hbv]
   have hlow := hm.low q t ht hs v
   rw [Nb] at hlow
   by_cases hf : t.fFrom.toNat = i
   ·have hup : Ro s t = true := by unfold Ro; rw [hs, Bool.and_true, beq_iff_eq, hi]; omega
    rw [if_pos hup, (QT (hm.range q hq) hob.2).1, hob.1 v, Bool.or_eq_true, decide_eq_true_iff]
    rw [if_pos hf] at hr
    rcases hr with h | h
    ·exact .inl (hlow (.inl h))
    ·right; omega
   ·rw [if_neg hf] at hr
    have hup : Ro s t = false := by unfold Ro; rw [hs, Bool.and_true, beq_eq_false_iff_ne, hi]; omega
    rw [hup, if_neg (by simp)]
    exact hlow hr
  ·have hq := (lI.1 ht).1
   have hbit : Du ((H2 p s m.fHeld).getD q 0) v = true := hbit
   have hin := HW (hp.tab t (lM ht))
   rw [u2 q t ht, hbv] at hbit
   split at hbit
   ·rename_i hup
    rw [(QT (hm.range q hq) hob.2).1, hob.1 v, Bool.or_eq_true, decide_eq_true_iff] at hbit
    rcases hbit with h | h
    ·exact hm.high q t ht hs v h
    ·unfold Ro at hup
     rw [hs, Bool.and_true, beq_iff_eq, hi] at hup
     rw [hup, Int.toNat_natCast]; omega
   ·exact hm.high q t ht hs v hbit
  ·show (H2 p s m.fHeld).getD q 0 = 0
   have hup : Ro s t = false := by unfold Ro; rw [hs, Bool.and_false]
   rw [u2 q t ht, hup, if_neg (by simp)]
   exact hm.none q t ht hs
 ·rename_i hk1
  split at h
  ·rename_i hk3
   have hi3 : i < p.fTables.length := by have := x3 hk3; omega
   have ht0 : p.fTables[i]? = some p.fTables[i] := by simp [hi3]
   rw [ht0] at h
   simp only at h
   split at h
   ·cases h
   rename_i hc
   cases h
   have hin0 := HW (hp.tab _ (lM ht0))
   have hr0 := Hq hp hm.toMixServ (s := (p.fTables[i]).fFrom.toNat) (by omega)
   have hs0 : B3 p.fTables[i] = true := by
    cases hs : B3 p.fTables[i]
    ·exact (hc (.inl hs)).elim
    ·rfl
   have hH : ∀ q, (m.fHeld.set i (FX m (p.fTables[i]).fFrom.toNat)).getD q 0 = if q = i then FX m (p.fTables[i]).fFrom.toNat else m.fHeld.getD q 0 := fun q => H6 (by omega)
   refine { base := hb, next := hn, held := by simpa using hh, b0 := hm.b0, n0 := hm.n0, ne := hm.ne, range := fun q hq => ?_, low := fun q t ht hs v hr => ?_, high := fun q t ht hs v hbit => ?_, none := fun q t ht hs => ?_ }
   ·show 0 ≤ (m.fHeld.set i (FX m (p.fTables[i]).fFrom.toNat)).getD q 0 ∧ (m.fHeld.set i (FX m (p.fTables[i]).fFrom.toNat)).getD q 0 ≤ 255
    rw [hH q]
    split
    ·exact hr0.2
    ·exact hm.range q hq
   ·show Du ((m.fHeld.set i (FX m (p.fTables[i]).fFrom.toNat)).getD q 0) v = true
    have hr : HG m t.fFrom.toNat v = true := hr
    rw [hH q]
    split
    ·rename_i e; subst e
     rw [ht0] at ht; cases ht
     rw [hr0.1]; exact hr
    ·exact hm.low q t ht hs v hr
   ·have hbit : Du ((m.fHeld.set i (FX m (p.fTables[i]).fFrom.toNat)).getD q 0) v = true := hbit
    rw [hH q] at hbit
    split at hbit
    ·rename_i e; subst e
     rw [ht0] at ht; cases ht
     rw [hr0.1] at hbit
     exact hm.high q _ ht0 hs0 v (hm.low q _ ht0 hs0 v hbit)
    ·exact hm.high q t ht hs v hbit
   ·show (m.fHeld.set i (FX m (p.fTables[i]).fFrom.toNat)).getD q 0 = 0
    rw [hH q, if_neg (fun e => by subst e; rw [ht0] at ht; cases ht; rw [hs0] at hs; cases hs)]
    exact hm.none q t ht hs
  ·rename_i hk3
   have hi1 : i < p.fVersions.length := by have := xn hk3; omega
   have hvi := Iy hp hi1
   split at h
   ·cases h
   rename_i hc
   cases h
   have hN : ∀ q, (m.fNext.set i (-1)).getD q 0 = if q = i then -1 else m.fNext.getD q 0 := fun q => H6 (by omega)
   have hB : ∀ q, (if s.fKind = 2 then m.fBase.set i (m.fNext.getD i 0) else m.fBase).getD q 0 = if s.fKind = 2 ∧ q = i then m.fNext.getD i 0 else m.fBase.getD q 0 := fun q => by
    by_cases hk2 : s.fKind = 2
    ·rw [if_pos hk2, H6 (by omega)]
     by_cases e : q = i
     ·rw [if_pos e, if_pos ⟨hk2, e⟩]
     ·rw [if_neg e, if_neg (fun h => e h.2)]
    ·rw [if_neg hk2, if_neg (fun h => hk2 h.1)]
   have hrun : ∀ q v, HG ⟨if s.fKind = 2 then m.fBase.set i (m.fNext.getD i 0) else m.fBase, m.fNext.set i (-1), m.fHeld⟩ q v = true → HG m q v = true := fun q v hr => by
    rw [Nb] at hr ⊢
    simp only [hN q, hB q] at hr
    by_cases e : q = i
    ·subst e
     rw [if_pos rfl] at hr
     by_cases hk2 : s.fKind = 2
     ·rw [if_pos ⟨hk2, rfl⟩] at hr; omega
     ·rw [if_neg (fun h => hk2 h.1)] at hr; omega
    ·rw [if_neg e, if_neg (fun h => e h.2)] at hr; exact hr
   refine { base := by simp only; split <;> simp [hb], next := by simpa using hn, held := hh, b0 := fun q hq => ?_, n0 := fun q hq => ?_, ne := fun q hq => ?_, range := hm.range, low := fun q t ht hs v hr => hm.low q t ht hs v (hrun _ _ hr), high := hm.high, none := hm.none }
   ·simp only [hB q]
    split
    ·rename_i e; obtain ⟨_, e⟩ := e; subst e
     have := hm.n0 q hq
     omega
    ·exact hm.b0 q hq
   ·simp only [hN q]
    split
    ·rename_i e; subst e; omega
    ·exact hm.n0 q hq
   ·simp only [hB q, hN q]
    have h1 := hm.b0 q hq
    by_cases e : q = i
    ·rw [if_pos e]
     split
     ·rename_i e2; obtain ⟨_, e2⟩ := e2; subst e2; omega
     ·omega
    ·rw [if_neg e, if_neg (fun h => e h.2)]; exact hm.ne q hq
theorem OF (N : Nat) (hN : N ≤ 1000000) (h20 : 100 ≤ N) {p : Ah} {m : Ae} (hw : Mq Ku m.fHeld) (s : Au) : D9 N p m s = some (if GH p m = 0 then E6 p m s else (GE, GH p m)) := by
 unfold D9 E6
 rw [K6 N p m hN (by omega)]
 simp only [oS, A7]
 by_cases hval : GH p m = 0
 ·obtain ⟨hp, hm⟩ := MN hw hval
  rw [if_pos hval, hval, bne_self_eq_false, As, OT]
  simp only [oS]
  cases hv : Ic s
  ·rw [Bool.not_false, AK, if_pos rfl]; rfl
  ·rw [Bool.not_true, As, if_neg (by simp)]
   obtain ⟨k1, k4, i0, v0, vk⟩ := JM hv
   have key : ∀ b : Bool, G9 p s = b → (if b = false then (GE, (4 : Int)) else match GJ p m s with | none => (GE, 11) | some x => (x, 0)) = (if b = false then (GE, (4 : Int)) else match GJ p m s with | none => (GE, 11) | some x => (x, 0)) := fun _ _ => rfl
   have tail : G9 p s = true → ((Dm N p m s).bind fun v15 => AV (!v15.2) (some (Ae.mk [] [] [], (11 : Int))) (some (v15.1, 0))) = some (match GJ p m s with | none => (GE, 11) | some x => (x, 0)) := fun hx => by
    rw [Pb N hN h20 hp hm hv hx]
    cases GJ p m s <;> rfl
   have zz : (Ae.mk [] [] [], (4 : Int)) = (GE, 4) := rfl
   by_cases hk3 : s.fKind = 3
   ·rw [beq_iff_eq.2 hk3, AK, show (s.fKind != 3) = false from by rw [hk3]; rfl]
    have hX : G9 p s = decide (s.fIndex < (p.fTables.length : Int)) := by unfold G9; rw [if_pos hk3]
    by_cases c : (p.fTables.length : Int) ≤ s.fIndex
    ·rw [AG c, AK, hX, decide_eq_false (by omega), if_pos rfl]; rfl
    ·have hx : G9 p s = true := by rw [hX, decide_eq_true (by omega)]
     rw [AD c, As, As, beq_eq_false_iff_ne.2 (show s.fKind ≠ 1 by omega), As, As, hx, if_neg (by simp)]
     exact tail hx
   ·rw [beq_eq_false_iff_ne.2 hk3, As, bne_iff_ne.2 hk3, AK]
    have hX : G9 p s = (decide (s.fIndex < (p.fVersions.length : Int)) && (s.fKind != 1 || decide (s.fVersion < p.fVersions.getD s.fIndex.toNat 0))) := by unfold G9; rw [if_neg hk3]
    by_cases c : (p.fVersions.length : Int) ≤ s.fIndex
    ·rw [decide_eq_true c, AK, hX, decide_eq_false (show ¬ s.fIndex < (p.fVersions.length : Int) by omega), Bool.false_and, if_pos rfl]; rfl
    ·rw [decide_eq_false c, As]
     by_cases hk1 : s.fKind = 1
     ·rw [beq_iff_eq.2 hk1, AK, Eo (d := 0) i0 (by omega)]
      simp only [oS]
      by_cases c2 : p.fVersions.getD s.fIndex.toNat 0 ≤ s.fVersion
      ·rw [decide_eq_true c2, AK, hX, decide_eq_false (show ¬ s.fVersion < p.fVersions.getD s.fIndex.toNat 0 by omega), show (s.fKind != 1) = false from by rw [hk1]; rfl, Bool.false_or, Bool.and_false, if_pos rfl]; rfl
      ·have hx : G9 p s = true := by rw [hX, decide_eq_true (by omega), decide_eq_true (by omega), Bool.or_true]; rfl
       rw [decide_eq_false c2, As, hx, if_neg (by simp)]
       exact tail hx
     ·have hx : G9 p s = true := by rw [hX, decide_eq_true (by omega), bne_iff_ne.2 hk1]; rfl
      rw [beq_eq_false_iff_ne.2 hk1, As, As, hx, if_neg (by simp)]
      exact tail hx
 ·rw [if_neg hval, bne_iff_ne.2 hval, AK]; rfl
theorem Lo {p : Ah} {m : Ae} (hp : Ca p) (hm : Cp p m) {s : Au} (h : (E6 p m s).2 = 0) : Cp p (E6 p m s).1 := by
 unfold E6 at h ⊢
 split at h
 ·cases h
 rename_i h1
 rw [if_neg h1]
 split at h
 ·cases h
 rename_i h2
 rw [if_neg h2]
 cases ha : GJ p m s with
 | none => rw [ha] at h; cases h
 | some x => exact Ta hp hm (by simpa using h1) (by simpa using h2) ha
end Go.Lift
namespace Go.Lift
open Go
section
variable {N : Nat} {p : Ah} {l : List Au}
end
end Go.Lift
namespace Go.Lift
open Go
theorem Q2 (N : Nat) (l : List Au) (h : l.length ≤ Dw) : BD N l = some l := by
 unfold BD
 rw [AA (by simpa using h)]; rfl
structure V3 (p : Ah) (m x : Ae) : Prop where
 base : m.fBase = x.fBase
 next : m.fNext = x.fNext
 held : ∀ i, i < p.fTables.length → ∀ v, Du (m.fHeld.getD i 0) v = true → Du (x.fHeld.getD i 0) v = true
theorem V3.refl (p : Ah) (m : Ae) : V3 p m m := ⟨rfl, rfl, fun _ _ _ h => h⟩
theorem V3.trans {p : Ah} {a b c : Ae} (h : V3 p a b) (g : V3 p b c) : V3 p a c := ⟨h.base.trans g.base, h.next.trans g.next, fun i hi v hv => g.held i hi v (h.held i hi v hv)⟩
end Go.Lift
namespace Go.Lift
namespace Bfs
section
variable {α σ : Type}
def code (rk : σ → Nat) (K : Nat) (w : List σ) : Nat := w.foldl (fun c s => c * K + rk s) 0
def Yh (rk : σ → Nat) (K : Nat) (w : List σ) : Prop := ∀ s, s ∈ w → 1 ≤ rk s ∧ rk s ≤ K
theorem Yh.snoc {rk : σ → Nat} {K : Nat} {w : List σ} {s : σ} (h : Yh rk K w) (hs : 1 ≤ rk s ∧ rk s ≤ K) : Yh rk K (w ++ [s]) := by
 intro x hx; rcases List.mem_append.1 hx with h1 | h1
 ·exact h x h1
 ·rw [List.mem_singleton.1 h1]; exact hs
abbrev Nd (α σ : Type) := α × Int × σ
def put [DecidableEq α] (i : Nat) (l : List (Nd α σ)) (q : σ × α) : List (Nd α σ) := if (l.any fun n => decide (n.1 = q.2)) = true then l else l ++ [(q.2, (i : Int), q.1)]
def TF [DecidableEq α] (most i : Nat) : List (σ × α) → List (Nd α σ) → Option (List (Nd α σ))
 | [], l => some l
 | q :: qs, l => if most < (put i l q).length then none else TF most i qs (put i l q)
def go [DecidableEq α] (nxt : α → List (σ × α)) (most : Nat) : Nat → Nat → List (Nd α σ) → Option (List (Nd α σ))
 | 0, _, _ => none
 | n + 1, i, l => match l[i]? with
  | none => some l
  | some nd => (TF most i (nxt nd.1) l).bind fun l' => go nxt most n (i + 1) l'
def run (nxt : α → List (σ × α)) (x : α) : List σ → α → Prop
 | [], y => y = x
 | s :: w, y => ∃ z, (s, z) ∈ nxt x ∧ run nxt z w y
theorem Fg {nxt : α → List (σ × α)} : ∀ {u w : List σ} {x y : α}, run nxt x (u ++ w) y ↔ ∃ z, run nxt x u z ∧ run nxt z w y
 | [], w, x, y => by simp [run]
 | s :: u, w, x, y => by
  simp only [List.cons_append, run]
  constructor
  ·rintro ⟨z, h1, h2⟩
   obtain ⟨z', h3, h4⟩ := Fg.1 h2
   exact ⟨z', ⟨z, h1, h3⟩, h4⟩
  ·rintro ⟨z', ⟨z, h1, h3⟩, h4⟩
   exact ⟨z, h1, Fg.2 ⟨z', h3, h4⟩⟩
end
end Bfs
end Go.Lift
namespace Go.Lift
open Option renaming bind_some → oS
open Go
theorem PL : ∀ {l : List Int}, Qs l = 0 → ∀ x, x ∈ l → x = 0
 | [], _, x, hx => by cases hx
 | y :: ys, h, x, hx => by
  unfold Qs at h
  split at h
  ·rename_i hy
   rcases List.mem_cons.1 hx with rfl | hx
   ·exact hy
   ·exact PL h x hx
  ·rename_i hy; exact absurd h hy
theorem JL {a b : Ae} (h : GZ a b = 0) : a = b := by
 have := PL h
 have h1 := Ml _ _ (this (D6 a.fBase b.fBase) (by simp))
 have h2 := Ml _ _ (this (D6 a.fNext b.fNext) (by simp))
 have h3 := Ml _ _ (this (D6 a.fHeld b.fHeld) (by simp))
 cases a; cases b; simp only at h1 h2 h3; subst h1; subst h2; subst h3; rfl
instance X9 : DecidableEq Ae := fun a b => if h : GZ a b = 0 then isTrue (JL h) else isFalse (fun e => h (by rw [e]; exact Ok b))
theorem PY (a b : Ae) : (GZ a b == 0) = decide (a = b) := by
 by_cases h : a = b
 ·rw [decide_eq_true h, h, Ok]; rfl
 ·rw [decide_eq_false h]
  exact beq_eq_false_iff_ne.2 fun e => h (JL e)
theorem Sq {N : Nat} {p : Ah} {a b : Ae} (hN : N ≤ 1000000) (h20 : 100 ≤ N) (hp : Ca p) (ha : Cp p a) (hb : Cp p b) : Dt N a b = some (decide (a = b)) := by
 have hnv := hp.nv
 have hnt := hp.nt
 unfold Dt
 rw [Mc hN (by rw [ha.base]; omega) (by rw [ha.next]; omega) (by rw [ha.held]; omega) (by rw [hb.held]; omega) (L4 ha) (L4 hb)]
 simp only [oS]
 rw [PY]
end Go.Lift
namespace Go.Lift
open IntKind renaming wrap → wI
open Option renaming bind_some → oS
open List renaming mem_of_getElem? → lM
open Go
open Go.Sort (swp insInner insOuter insertionSort siftDown heapBuild heapPop heapSort)
section
variable {α : Type} [Inhabited α]
theorem wn {e : Int} {n : Nat} (h : e = (n : Int)) (hn : n < 1000000000) : wI .i64 e = (n : Int) := by
 subst h; exact CC (by omega) (by omega)
theorem gi {d : Array α} {i : Nat} (h : i < d.size) : A5 d.toList (i : Int) = some d[i]! := by
 rw [A6]
 simp [h, getElem!_pos]
theorem H1 {β γ : Type} {l : List β} {i : Nat} (h : i < l.length) (X : Option γ) : ((A5 l (i : Int)).bind fun _ => X) = X := by
 rw [A6, List.getElem?_eq_getElem h]; rfl
theorem Ej (d : Array α) (i j : Nat) : (swp d i j).toList = (d.toList.set i d[j]!).set j d[i]! := by
 unfold swp; simp
theorem Bf (d : Array α) (i j : Nat) : (swp d i j).size = d.size := by unfold swp; simp
def CL (P : α → Prop) (d : Array α) : Prop := ∀ x, x ∈ d.toList → P x
theorem CL.get {P : α → Prop} {d : Array α} (h : CL P d) {i : Nat} (hi : i < d.size) : P d[i]! := by
 have := gi hi
 rw [A6] at this
 exact h _ (lM this)
theorem CL.swp {P : α → Prop} {d : Array α} (h : CL P d) {i j : Nat} (hi : i < d.size) (hj : j < d.size) : CL P (swp d i j) := by
 intro x hx
 rw [Ej] at hx
 rcases List.mem_or_eq_of_mem_set hx with hx | hx
 ·rcases List.mem_or_eq_of_mem_set hx with hx | hx
  ·exact h x hx
  ·rw [hx]; exact h.get hj
 ·rw [hx]; exact h.get hi
variable {P : α → Prop} {cmp : α × α → Option Int} {c : α → α → Int}
def B0 (c : α → α → Int) (x y : α) : Bool := decide (c x y < 0)
theorem S5 (hc : ∀ x y, P x → P y → cmp (x, y) = some (c x y)) (N a : Nat) (J : List α → Option (List α)) : ∀ (n j : Nat) (d : Array α), j < n → j < d.size → d.size ≤ 100000 → CL P d →
  Gs.insertionSort_L4 N (a : Int) cmp J n (d.toList, (j : Int)) = J (insInner (B0 c) a j d).toList ∧ (insInner (B0 c) a j d).size = d.size ∧ CL P (insInner (B0 c) a j d)
 | 0, j, d, h, _, _, _ => by omega
 | n + 1, j, d, h, hj, hs, hA => by
  rw [Gs.insertionSort_L4]
  simp only [A7]
  rcases j with _ | j
  ·rw [AD (by omega), As]
   exact ⟨rfl, rfl, hA⟩
  ·simp only [wn (e := ((j + 1 : Nat) : Int) - 1) (n := j) (by omega) (by omega), gi hj, gi (show j < d.size by omega), oS, Int.toNat_natCast]
   rw [hc _ _ (hA.get hj) (hA.get (by omega))]
   simp only [oS]
   rw [H1 (by simp; omega), ← Ej]
   rw [insInner]
   by_cases ha : a < j + 1
   ·rw [AG (by omega), T6]
    by_cases hl : c d[j + 1]! d[j]! < 0
    ·rw [if_pos (decide_eq_true hl), if_pos (by simp [ha, B0, hl])]
     have := S5 hc N a J n j (swp d (j + 1) j) (by omega) (by rw [Bf]; omega) (by rw [Bf]; exact hs) (hA.swp hj (by omega))
     rw [Bf] at this
     exact this
    ·rw [if_neg (by simpa using hl), if_neg (by simp [B0, hl])]
     exact ⟨rfl, rfl, hA⟩
   ·rw [AD (by omega), As, if_neg (by simp [ha])]
    exact ⟨rfl, rfl, hA⟩
theorem Rw (hc : ∀ x y, P x → P y → cmp (x, y) = some (c x y)) (N a b : Nat) (J : List α → Option (List α)) : ∀ (n i : Nat) (d : Array α), b - i < n → b ≤ d.size → d.size < N → d.size ≤ 100000 → i ≤ 200000 → CL P d →
  Gs.insertionSort_L1 N (a : Int) (b : Int) cmp J n (d.toList, (i : Int)) = J (insOuter (B0 c) a b i d).toList ∧ (insOuter (B0 c) a b i d).size = d.size ∧ CL P (insOuter (B0 c) a b i d)
 | 0, i, d, h, _, _, _, _, _ => by omega
 | n + 1, i, d, h, hb, hN, hs, hi2, hA => by
  rw [Gs.insertionSort_L1, insOuter]
  by_cases hi : i < b
  ·rw [AG (by simp only; omega), if_pos hi]
   obtain ⟨e1, e2, e3⟩ := S5 hc N a (fun v5 => Gs.insertionSort_L1 N (a : Int) (b : Int) cmp J n (v5, ((i + 1 : Nat) : Int))) N i d (by omega) (by omega) hs hA
   simp only [wn (e := (i : Int) + 1) (n := i + 1) (by omega) (by omega)]
   rw [e1]
   have := Rw hc N a b J n (i + 1) (insInner (B0 c) a i d) (by omega) (by omega) (by omega) (by omega) (by omega) e3
   rw [e2] at this
   exact this
  ·rw [AD (by simp only; omega), if_neg hi]
   exact ⟨rfl, rfl, hA⟩
theorem Vn (hc : ∀ x y, P x → P y → cmp (x, y) = some (c x y)) {N a b : Nat} {d : Array α} (hab : a ≤ b) (hb : b ≤ d.size) (hN : d.size < N) (hs : d.size ≤ 100000) (hA : CL P d) :
  Gs.insertionSort N d.toList (a : Int) (b : Int) cmp = some (insertionSort (B0 c) d a b).toList ∧ (insertionSort (B0 c) d a b).size = d.size ∧ CL P (insertionSort (B0 c) d a b) := by
 unfold Gs.insertionSort
 rw [wn (e := (a : Int) + 1) (n := a + 1) (by omega) (by omega)]
 exact Rw hc N a b (fun v2 => some v2) N (a + 1) d (by omega) hb hN hs (by omega) hA
theorem Pp (hc : ∀ x y, P x → P y → cmp (x, y) = some (c x y)) {N hi first : Nat} : ∀ (n root : Nat) (d : Array α), hi - root < n → first + hi ≤ d.size → d.size ≤ 100000 → root ≤ 100000 → CL P d → root < hi ∨ hi = 0 ∨ True → (2 * root + 1 < hi → root < hi) →
  Gs.siftDown_L1 N (hi : Int) (first : Int) cmp (fun v2 => some v2) n (d.toList, (root : Int)) = some (siftDown (B0 c) hi first root d).toList ∧ (siftDown (B0 c) hi first root d).size = d.size ∧ CL P (siftDown (B0 c) hi first root d)
 | 0, root, d, h, _, _, _, _, _, _ => by omega
 | n + 1, root, d, h, hf, hs, hr, hA, _, _ => by
  rw [Gs.siftDown_L1, siftDown]
  simp only [A7]
  have e1 : wI .i64 ((wI .i64 (2 * (root : Int))) + 1) = ((2 * root + 1 : Nat) : Int) := by
   rw [wn (e := 2 * (root : Int)) (n := 2 * root) (by omega) (by omega), wn (n := 2 * root + 1) (by omega) (by omega)]
  have e2 : wI .i64 (((2 * root + 1 : Nat) : Int) + 1) = ((2 * root + 2 : Nat) : Int) := wn (by omega) (by omega)
  have e3 : wI .i64 ((first : Int) + ((2 * root + 1 : Nat) : Int)) = ((first + (2 * root + 1) : Nat) : Int) := by
   by_cases hx : first < 200000
   ·exact wn (by omega) (by omega)
   ·omega
  have e4 : wI .i64 ((first : Int) + (root : Int)) = ((first + root : Nat) : Int) := wn (by omega) (by omega)
  have e5 : wI .i64 (((first + (2 * root + 1) : Nat) : Int) + 1) = ((first + (2 * root + 1) + 1 : Nat) : Int) := wn (by omega) (by omega)
  have e6 : wI .i64 ((first : Int) + ((2 * root + 2 : Nat) : Int)) = ((first + (2 * root + 2) : Nat) : Int) := wn (by omega) (by omega)
  simp only [e1, e2, e3, e4, e5]
  by_cases h1 : 2 * root + 1 ≥ hi
  ·rw [AG (by omega), dif_pos h1]
   exact ⟨rfl, rfl, hA⟩
  ·rw [AD (by omega), dif_neg h1]
   -- what follows when the child is known
   have tail : ∀ ch : Nat, ch < hi → root < ch → wI .i64 ((first : Int) + (ch : Int)) = ((first + ch : Nat) : Int) →
     (((A5 d.toList ((first + root : Nat) : Int)).bind fun v11 => (A5 d.toList (wI .i64 ((first : Int) + (ch : Int)))).bind fun v12 => (cmp (v11, v12)).bind fun v13 => AV (!(decide (v13 < 0))) (some d.toList)
      ((A5 d.toList (wI .i64 ((first : Int) + (ch : Int)))).bind fun v15 => (A5 d.toList ((first + root : Nat) : Int)).bind fun v16 => (A5 d.toList ((first + root : Nat) : Int)).bind fun _ =>
       (A5 (d.toList.set (((first + root : Nat) : Int)).toNat v15) (wI .i64 ((first : Int) + (ch : Int)))).bind fun _ =>
       Gs.siftDown_L1 N (hi : Int) (first : Int) cmp (fun v2 => some v2) n ((d.toList.set (((first + root : Nat) : Int)).toNat v15).set ((wI .i64 ((first : Int) + (ch : Int)))).toNat v16, (ch : Int)))) =
      some (if !B0 c d[first + root]! d[first + ch]! then d else siftDown (B0 c) hi first ch (swp d (first + root) (first + ch))).toList) ∧
     (if !B0 c d[first + root]! d[first + ch]! then d else siftDown (B0 c) hi first ch (swp d (first + root) (first + ch))).size = d.size ∧ CL P (if !B0 c d[first + root]! d[first + ch]! then d else siftDown (B0 c) hi first ch (swp d (first + root) (first + ch))) := by
    intro ch h2 h3 h4
    have a1 : first + root < d.size := by omega
    have a2 : first + ch < d.size := by omega
    simp only [h4, gi a1, gi a2, oS, Int.toNat_natCast]
    rw [hc _ _ (hA.get a1) (hA.get a2)]
    simp only [oS]
    rw [H1 (by simp; omega), ← Ej]
    unfold B0
    cases hl : decide (c d[first + root]! d[first + ch]! < 0)
    ·rw [Bool.not_false, AK, if_pos rfl]
     exact ⟨rfl, rfl, hA⟩
    ·rw [Bool.not_true, As, if_neg (by simp)]
     have := Pp hc (N := N) (hi := hi) (first := first) n ch (swp d (first + root) (first + ch)) (by omega) (by rw [Bf]; omega) (by rw [Bf]; exact hs) (by omega) (hA.swp a1 a2) (.inl h2) (fun _ => h2)
     rw [Bf] at this
     exact this
   have t1 := tail (2 * root + 1) (by omega) (by omega) e3
   rw [e3] at t1
   by_cases h2 : 2 * root + 1 + 1 < hi
   ·rw [AG (by omega)]
    simp only [gi (show first + (2 * root + 1) < d.size by omega), gi (show first + (2 * root + 1) + 1 < d.size by omega), oS] at t1 ⊢
    rw [hc _ _ (hA.get (by omega)) (hA.get (by omega))]
    simp only [oS]
    have t2 := tail (2 * root + 2) (by omega) (by omega) e6
    rw [e6] at t2
    cases hl : decide (c d[first + (2 * root + 1)]! d[first + (2 * root + 1) + 1]! < 0)
    ·rw [As, if_neg (by simp [B0, hl])]
     exact t1
    ·rw [AK, if_pos (by simp [B0, h2]; simpa using hl), dif_pos (show 2 * root + 2 < hi by omega)]
     simp only [e6]
     exact t2
   ·rw [AD (by omega), As, if_neg (by simp [h2])]
    exact t1
theorem MP (hc : ∀ x y, P x → P y → cmp (x, y) = some (c x y)) {N a b : Nat} (hab : a ≤ b) (J : List α → Option (List α)) : ∀ (n k : Nat) (d : Array α), k < n → b ≤ d.size → d.size < N → d.size ≤ 100000 → k ≤ 100000 → CL P d →
  Gs.heapSort_L1 N (a : Int) (b : Int) cmp J n (d.toList, (k : Int) - 1) = J (heapBuild (B0 c) (b - a) a k d).toList ∧ (heapBuild (B0 c) (b - a) a k d).size = d.size ∧ CL P (heapBuild (B0 c) (b - a) a k d)
 | 0, k, d, h, _, _, _, _, _ => by omega
 | n + 1, k, d, h, hb, hN, hs, hk, hA => by
  rw [Gs.heapSort_L1]
  rcases k with _ | k
  ·rw [AD (by simp only; omega)]
   exact ⟨rfl, rfl, hA⟩
  ·have e0 : (((k + 1 : Nat) : Int) - 1) = (k : Int) := by omega
   simp only [e0]
   rw [AG (by omega)]
   unfold Gs.siftDown
   rw [wn (e := (b : Int) - (a : Int)) (n := b - a) (by omega) (by omega)]
   obtain ⟨e1, e2, e3⟩ := Pp hc (N := N) (hi := b - a) (first := a) N k d (by omega) (by omega) hs (by omega) hA (.inr (.inr trivial)) (fun _ => by omega)
   rw [e1]
   simp only [oS, heapBuild]
   have ew : wI .i64 ((k : Int) - 1) = (k : Int) - 1 := CC (by omega) (by omega)
   rw [ew]
   have := MP hc (N := N) hab J n k (siftDown (B0 c) (b - a) a k d) (by omega) (by omega) (by omega) (by omega) (by omega) e3
   rw [e2] at this
   exact this
theorem Qj (hc : ∀ x y, P x → P y → cmp (x, y) = some (c x y)) {N a b : Nat} (hab : a ≤ b) (J : List α → Option (List α)) : ∀ (n k : Nat) (d : Array α), k < n → a + k ≤ d.size → d.size < N → d.size ≤ 100000 → CL P d →
  Gs.heapSort_L5 N (a : Int) cmp J n (d.toList, (k : Int) - 1) = J (heapPop (B0 c) a k d).toList ∧ (heapPop (B0 c) a k d).size = d.size ∧ CL P (heapPop (B0 c) a k d)
 | 0, k, d, h, _, _, _, _ => by omega
 | n + 1, k, d, h, hb, hN, hs, hA => by
  rw [Gs.heapSort_L5]
  rcases k with _ | k
  ·rw [AD (by simp only; omega)]
   exact ⟨rfl, rfl, hA⟩
  ·have e0 : (((k + 1 : Nat) : Int) - 1) = (k : Int) := by omega
   have a1 : a + k < d.size := by omega
   have a2 : a < d.size := by omega
   have e1 : wI .i64 ((a : Int) + (k : Int)) = ((a + k : Nat) : Int) := wn (by omega) (by omega)
   simp only [e0, e1]
   rw [AG (by omega)]
   simp only [gi a1, gi a2, oS, Int.toNat_natCast]
   rw [H1 (by simp; omega), ← Ej]
   unfold Gs.siftDown
   obtain ⟨f1, f2, f3⟩ := Pp hc (N := N) (hi := k) (first := a) N 0 (swp d a (a + k)) (by omega) (by rw [Bf]; omega) (by rw [Bf]; exact hs) (by omega) (hA.swp a2 a1) (.inr (.inr trivial)) (fun _ => by omega)
   have f1' : Gs.siftDown_L1 N (k : Int) (a : Int) cmp (fun v2 => some v2) N ((swp d a (a + k)).toList, 0) = _ := f1
   rw [f1']
   rw [Bf] at f2
   simp only [oS, heapPop]
   have ew : wI .i64 ((k : Int) - 1) = (k : Int) - 1 := CC (by omega) (by omega)
   rw [ew]
   have := Qj hc (N := N) hab J n k (siftDown (B0 c) k a 0 (swp d a (a + k))) (by omega) (by omega) (by omega) (by omega) f3
   rw [f2] at this
   exact this
theorem Ui (hc : ∀ x y, P x → P y → cmp (x, y) = some (c x y)) {N a b : Nat} {d : Array α} (hab : a < b) (hb : b ≤ d.size) (hN : d.size < N) (hs : d.size ≤ 100000) (hA : CL P d) :
  Gs.heapSort N d.toList (a : Int) (b : Int) cmp = some (heapSort (B0 c) d a b).toList ∧ (heapSort (B0 c) d a b).size = d.size ∧ CL P (heapSort (B0 c) d a b) := by
 unfold Gs.heapSort heapSort
 have e1 : wI .i64 (Int.tdiv (wI .i64 ((wI .i64 ((b : Int) - (a : Int))) - 1)) 2) = (((b - a - 1) / 2 + 1 : Nat) : Int) - 1 := by
  rw [wn (e := (b : Int) - (a : Int)) (n := b - a) (by omega) (by omega), wn (e := ((b - a : Nat) : Int) - 1) (n := b - a - 1) (by omega) (by omega)]
  rw [wn (n := (b - a - 1) / 2) (by rw [Int.tdiv_eq_ediv_of_nonneg (by omega)]; omega) (by omega)]
  omega
 have e2 : wI .i64 ((wI .i64 ((b : Int) - (a : Int))) - 1) = (((b - a : Nat) : Int)) - 1 := by
  rw [wn (e := (b : Int) - (a : Int)) (n := b - a) (by omega) (by omega)]
  exact CC (by omega) (by omega)
 rw [e1, e2]
 obtain ⟨f1, f2, f3⟩ := MP hc (N := N) (a := a) (b := b) (by omega) (fun v2 => Gs.heapSort_L5 N (a : Int) cmp (fun v6 => some v6) N (v2, (((b - a : Nat) : Int)) - 1)) N ((b - a - 1) / 2 + 1) d (by omega) hb hN hs (by omega) hA
 rw [f1]
 obtain ⟨g1, g2, g3⟩ := Qj hc (N := N) (a := a) (b := b) (by omega) (fun v6 => some v6) N (b - a) (heapBuild (B0 c) (b - a) a ((b - a - 1) / 2 + 1) d) (by omega) (by omega) (by omega) (by omega) f3
 rw [g1]
 exact ⟨rfl, by rw [g2, f2], g3⟩
end
end Go.Lift
namespace Go.Lift
open IntKind renaming wrap → wI
open Option renaming bind_some → oS
open Go
open Go.Sort (swp scanUp scanDown partLoop partition partEqLoop partitionEqual scanSorted shiftDown shiftUp partialIns partialInsertionSort reverseLoop reverseRange)
section
variable {α : Type} [Inhabited α] {P : α → Prop} {cmp : α × α → Option Int} {c : α → α → Int}
theorem Oe (N : Nat) (J : List α → Option (List α)) : ∀ (n i j : Nat) (d : Array α), j - i < n → j < d.size → d.size ≤ 100000 → i ≤ 100000 → CL P d →
  Gs.reverseRange_L1 N J n (d.toList, (i : Int), (j : Int)) = J (reverseLoop i j d).toList ∧ (reverseLoop i j d).size = d.size ∧ CL P (reverseLoop i j d)
 | 0, i, j, d, h, _, _, _, _ => by omega
 | n + 1, i, j, d, h, hj, hs, hi, hA => by
  rw [Gs.reverseRange_L1, reverseLoop]
  by_cases hij : i < j
  ·rw [AG (by simp only; omega), if_pos hij]
   simp only [gi hj, gi (show i < d.size by omega), oS, Int.toNat_natCast]
   rw [H1 (by simp; omega), ← Ej, wn (e := (i : Int) + 1) (n := i + 1) (by omega) (by omega), wn (e := (j : Int) - 1) (n := j - 1) (by omega) (by omega)]
   have := Oe N J n (i + 1) (j - 1) (swp d i j) (by omega) (by rw [Bf]; omega) (by rw [Bf]; exact hs) (by omega) (hA.swp (by omega) hj)
   rw [Bf] at this
   exact this
  ·rw [AD (by simp only; omega), if_neg hij]
   exact ⟨rfl, rfl, hA⟩
theorem VL {N a b : Nat} {d : Array α} (hab : a < b) (hb : b ≤ d.size) (hN : d.size < N) (hs : d.size ≤ 100000) (hA : CL P d) :
  Gs.reverseRange N d.toList (a : Int) (b : Int) cmp = some (reverseRange d a b).toList ∧ (reverseRange d a b).size = d.size ∧ CL P (reverseRange d a b) := by
 unfold Gs.reverseRange reverseRange
 rw [wn (e := (b : Int) - 1) (n := b - 1) (by omega) (by omega)]
 exact Oe N (fun v2 => some v2) N a (b - 1) d (by omega) (by omega) hs (by omega) hA
theorem L8 (hc : ∀ x y, P x → P y → cmp (x, y) = some (c x y)) (N b : Nat) {d : Array α} (hb : b ≤ d.size) (hs : d.size ≤ 100000) (hA : CL P d) (x y : Int) (J : Int → Option (Bool × List α)) : ∀ (n i : Nat), b - i < n → 1 ≤ i → i ≤ 100001 →
  Gs.partialInsertionSort_L5 N (b : Int) cmp (d.toList, x, y) J n (i : Int) = J (scanSorted (B0 c) d b i : Nat)
 | 0, i, h, _, _ => by omega
 | n + 1, i, h, hi, hi2 => by
  rw [Gs.partialInsertionSort_L5, scanSorted]
  simp only [A7]
  by_cases h1 : i < b
  ·rw [AG (by omega)]
   simp only [wn (e := (i : Int) - 1) (n := i - 1) (by omega) (by omega), gi (show i < d.size by omega), gi (show i - 1 < d.size by omega), oS]
   rw [hc _ _ (hA.get (by omega)) (hA.get (by omega))]
   simp only [oS]
   cases hl : decide (c d[i]! d[i - 1]! < 0)
   ·rw [Bool.not_false, AK, if_pos (by simp [h1, B0, hl]), wn (e := (i : Int) + 1) (n := i + 1) (by omega) (by omega)]
    exact L8 hc N b hb hs hA x y J n (i + 1) (by omega) (by omega) (by omega)
   ·rw [Bool.not_true, As, if_neg (by simp [B0, hl])]
  ·rw [AD (by omega), As, if_neg (by simp [h1])]
theorem Jr (lt : α → α → Bool) (d : Array α) (b : Nat) : ∀ (n i : Nat), b - i < n → i ≤ scanSorted lt d b i ∧ (i ≤ b → scanSorted lt d b i ≤ b)
 | 0, i, h => by omega
 | n + 1, i, h => by
  rw [scanSorted]
  by_cases h1 : (decide (i < b) && !lt d[i]! d[i - 1]!) = true
  ·rw [if_pos h1]
   simp only [Bool.and_eq_true, decide_eq_true_eq] at h1
   have := Jr lt d b n (i + 1) (by omega)
   omega
  ·rw [if_neg h1]; omega
theorem MY (hc : ∀ x y, P x → P y → cmp (x, y) = some (c x y)) (N : Nat) (J : List α → Option (Bool × List α)) : ∀ (n j : Nat) (d : Array α), j < n → j < d.size → d.size ≤ 100000 → CL P d →
  Gs.partialInsertionSort_L21 N cmp J n (d.toList, (j : Int)) = J (shiftDown (B0 c) j d).toList ∧ (shiftDown (B0 c) j d).size = d.size ∧ CL P (shiftDown (B0 c) j d)
 | 0, j, d, h, _, _, _ => by omega
 | n + 1, j, d, h, hj, hs, hA => by
  rw [Gs.partialInsertionSort_L21]
  rcases j with _ | j
  ·rw [AD (by simp)]
   exact ⟨rfl, rfl, hA⟩
  ·rw [AG (by simp only; omega)]
   simp only [wn (e := ((j + 1 : Nat) : Int) - 1) (n := j) (by omega) (by omega), gi hj, gi (show j < d.size by omega), oS, Int.toNat_natCast]
   rw [hc _ _ (hA.get hj) (hA.get (by omega))]
   simp only [oS]
   rw [H1 (by simp; omega), ← Ej]
   rw [shiftDown]
   cases hl : decide (c d[j + 1]! d[j]! < 0)
   ·rw [Bool.not_false, AK, if_pos (by simp [B0, hl])]
    exact ⟨rfl, rfl, hA⟩
   ·rw [Bool.not_true, As, if_neg (by simp [B0, hl])]
    have := MY hc N J n j (swp d (j + 1) j) (by omega) (by rw [Bf]; omega) (by rw [Bf]; exact hs) (hA.swp hj (by omega))
    rw [Bf] at this
    exact this
theorem P9 (hc : ∀ x y, P x → P y → cmp (x, y) = some (c x y)) (N b : Nat) (J : List α → Option (Bool × List α)) : ∀ (n j : Nat) (d : Array α), b - j < n → 1 ≤ j → j ≤ 100001 → b ≤ d.size → d.size ≤ 100000 → CL P d →
  Gs.partialInsertionSort_L33 N (b : Int) cmp J n (d.toList, (j : Int)) = J (shiftUp (B0 c) b j d).toList ∧ (shiftUp (B0 c) b j d).size = d.size ∧ CL P (shiftUp (B0 c) b j d)
 | 0, j, d, h, _, _, _, _, _ => by omega
 | n + 1, j, d, h, hj, hj2, hb, hs, hA => by
  rw [Gs.partialInsertionSort_L33, shiftUp]
  by_cases h1 : j < b
  ·rw [AG (by simp only; omega), if_pos h1]
   simp only [wn (e := (j : Int) - 1) (n := j - 1) (by omega) (by omega), gi (show j < d.size by omega), gi (show j - 1 < d.size by omega), oS, Int.toNat_natCast]
   rw [hc _ _ (hA.get (by omega)) (hA.get (by omega))]
   simp only [oS]
   rw [H1 (by simp; omega), ← Ej]
   cases hl : decide (c d[j]! d[j - 1]! < 0)
   ·rw [Bool.not_false, AK, if_pos (by simp [B0, hl])]
    exact ⟨rfl, rfl, hA⟩
   ·rw [Bool.not_true, As, if_neg (by simp [B0, hl]), wn (e := (j : Int) + 1) (n := j + 1) (by omega) (by omega)]
    have := P9 hc N b J n (j + 1) (swp d j (j - 1)) (by omega) (by omega) (by omega) (by rw [Bf]; exact hb) (by rw [Bf]; exact hs) (hA.swp (by omega) (by omega))
    rw [Bf] at this
    exact this
  ·rw [AD (by simp only; omega), if_neg h1]
   exact ⟨rfl, rfl, hA⟩
theorem IU (hc : ∀ x y, P x → P y → cmp (x, y) = some (c x y)) {N a b : Nat} (J : List α → Option (Bool × List α)) (hJ : ∀ l, J l = some (false, l)) : ∀ (s i : Nat) (n : Nat) (d : Array α), s < n → s ≤ 5 → a < i → i ≤ b → b ≤ d.size → d.size < N → d.size ≤ 100000 → CL P d →
  Gs.partialInsertionSort_L1 N (a : Int) (b : Int) cmp J n (d.toList, (i : Int), ((5 - s : Nat) : Int)) = some ((partialIns (B0 c) a b s i d).2, (partialIns (B0 c) a b s i d).1.toList) ∧ (partialIns (B0 c) a b s i d).1.size = d.size ∧ CL P (partialIns (B0 c) a b s i d).1
 | s, i, 0, d, h, _, _, _, _, _, _, _ => by omega
 | 0, i, n + 1, d, h, _, _, _, hb, hN, hs, hA => by
  rw [Gs.partialInsertionSort_L1, AD (by simp), hJ]
  exact ⟨rfl, rfl, hA⟩
 | s + 1, i, n + 1, d, h, h5, hai, hib, hb, hN, hs, hA => by
  rw [Gs.partialInsertionSort_L1, AG (by simp only; omega)]
  simp only [A7]
  rw [L8 hc N b hb hs hA _ _ _ N i (by omega) (by omega) (by omega)]
  obtain ⟨g1, g2⟩ := Jr (B0 c) d b (b + 1) i (by omega)
  have g2 := g2 hib
  unfold partialIns
  simp only
  generalize hk : scanSorted (B0 c) d b i = k at g1 g2
  have e5 : wI .i64 (((5 - (s + 1) : Nat) : Int) + 1) = ((5 - s : Nat) : Int) := wn (by omega) (by omega)
  by_cases h1 : k = b
  ·rw [if_pos h1, show (((k : Nat) : Int) == (b : Int)) = true from beq_iff_eq.2 (by omega), AK]
   exact ⟨rfl, rfl, hA⟩
  ·rw [if_neg h1, show (((k : Nat) : Int) == (b : Int)) = false from beq_eq_false_iff_ne.2 (by omega), As, wn (e := (b : Int) - (a : Int)) (n := b - a) (by omega) (by omega)]
   by_cases h2 : b - a < 50
   ·rw [if_pos h2, AG (by omega)]
    exact ⟨rfl, rfl, hA⟩
   ·rw [if_neg h2, AD (by omega)]
    have k1 : k < d.size := by omega
    have k2 : k - 1 < d.size := by omega
    simp only [wn (e := (k : Int) - 1) (n := k - 1) (by omega) (by omega), gi k1, gi k2, oS, Int.toNat_natCast]
    rw [H1 (by simp; omega)]
    simp only [← Ej]
    rw [wn (e := (k : Int) - (a : Int)) (n := k - a) (by omega) (by omega), e5]
    have hA1 := hA.swp (i := k) (j := k - 1) k1 k2
    have hs1 := Bf d k (k - 1)
    -- the second shift and the next step
    have fin : ∀ d2 : Array α, d2.size = d.size → CL P d2 →
      (AV (decide (2 ≤ (wI .i64 ((b : Int) - (k : Int)))))
        (Gs.partialInsertionSort_L33 N (b : Int) cmp (fun v34 => Gs.partialInsertionSort_L1 N (a : Int) (b : Int) cmp J n (v34, (k : Int), ((5 - s : Nat) : Int))) N (d2.toList, (wI .i64 ((k : Int) + 1))))
        (Gs.partialInsertionSort_L1 N (a : Int) (b : Int) cmp J n (d2.toList, (k : Int), ((5 - s : Nat) : Int))) =
       some ((partialIns (B0 c) a b s k (if b - k ≥ 2 then shiftUp (B0 c) b (k + 1) d2 else d2)).2, (partialIns (B0 c) a b s k (if b - k ≥ 2 then shiftUp (B0 c) b (k + 1) d2 else d2)).1.toList)) ∧
       (partialIns (B0 c) a b s k (if b - k ≥ 2 then shiftUp (B0 c) b (k + 1) d2 else d2)).1.size = d.size ∧ CL P (partialIns (B0 c) a b s k (if b - k ≥ 2 then shiftUp (B0 c) b (k + 1) d2 else d2)).1 := by
     intro d2 z1 z2
     rw [wn (e := (b : Int) - (k : Int)) (n := b - k) (by omega) (by omega), wn (e := (k : Int) + 1) (n := k + 1) (by omega) (by omega)]
     by_cases h3 : b - k ≥ 2
     ·rw [AG (by omega), if_pos h3]
      obtain ⟨f1, f2, f3⟩ := P9 hc N b (fun v34 => Gs.partialInsertionSort_L1 N (a : Int) (b : Int) cmp J n (v34, (k : Int), ((5 - s : Nat) : Int))) N (k + 1) d2 (by omega) (by omega) (by omega) (by omega) (by omega) z2
      rw [f1]
      have := IU hc (N := N) (a := a) (b := b) J hJ s k n (shiftUp (B0 c) b (k + 1) d2) (by omega) (by omega) (by omega) (by omega) (by omega) (by omega) (by omega) f3
      rw [f2, z1] at this
      exact this
     ·rw [AD (by omega), if_neg h3]
      have := IU hc (N := N) (a := a) (b := b) J hJ s k n d2 (by omega) (by omega) (by omega) (by omega) (by omega) (by omega) (by omega) z2
      rw [z1] at this
      exact this
    by_cases h4 : k - a ≥ 2
    ·rw [AG (by omega), if_pos h4]
     obtain ⟨f1, f2, f3⟩ := MY hc N (fun v22 => AV (decide (2 ≤ (wI .i64 ((b : Int) - (k : Int)))))
        (Gs.partialInsertionSort_L33 N (b : Int) cmp (fun v34 => Gs.partialInsertionSort_L1 N (a : Int) (b : Int) cmp J n (v34, (k : Int), ((5 - s : Nat) : Int))) N (v22, (wI .i64 ((k : Int) + 1))))
        (Gs.partialInsertionSort_L1 N (a : Int) (b : Int) cmp J n (v22, (k : Int), ((5 - s : Nat) : Int)))) N (k - 1) (swp d k (k - 1)) (by omega) (by omega) (by omega) hA1
     rw [f1]
     exact fin _ (by rw [f2, hs1]) f3
    ·rw [AD (by omega), if_neg h4]
     exact fin _ hs1 hA1
theorem Q0 (hc : ∀ x y, P x → P y → cmp (x, y) = some (c x y)) {N a b : Nat} {d : Array α} (hab : a < b) (hb : b ≤ d.size) (hN : d.size < N) (h6 : 6 ≤ N) (hs : d.size ≤ 100000) (hA : CL P d) :
  Gs.partialInsertionSort N d.toList (a : Int) (b : Int) cmp = some ((partialInsertionSort (B0 c) d a b).2, (partialInsertionSort (B0 c) d a b).1.toList) ∧ (partialInsertionSort (B0 c) d a b).1.size = d.size ∧ CL P (partialInsertionSort (B0 c) d a b).1 := by
 unfold Gs.partialInsertionSort partialInsertionSort
 rw [wn (e := (a : Int) + 1) (n := a + 1) (by omega) (by omega)]
 exact IU hc (fun v2 => some (false, v2)) (fun _ => rfl) 5 (a + 1) N d (by omega) (Nat.le_refl _) (by omega) (by omega) hb hN hs hA
end
end Go.Lift
namespace Go.Lift
open Option renaming bind_some → oS
open Go
open Go.Sort (swp scanUp scanDown partLoop partition partEqLoop partitionEqual scanUp_ge scanDown_le scanUp_spec scanDown_spec guard_of)
section
variable {α : Type} [Inhabited α] {P : α → Prop} {cmp : α × α → Option Int} {c : α → α → Int}
theorem Vg (hc : ∀ x y, P x → P y → cmp (x, y) = some (c x y)) (N a : Nat) {d : Array α} (ha : a < d.size) (hs : d.size ≤ 100000) (hA : CL P d) (x : Int) {j : Nat} (hj : j < d.size) (J : Int → Option (Int × List α)) : ∀ (n i : Nat), j + 1 - i < n → i ≤ 100001 →
  Gs.partitionEqual_L7 N (a : Int) cmp (d.toList, x, (j : Int)) J n (i : Int) = J (scanUp (fun x => !B0 c d[a]! x) d j i : Nat)
 | 0, i, h, _ => by omega
 | n + 1, i, h, hi => by
  rw [Gs.partitionEqual_L7, scanUp]
  simp only [A7]
  by_cases h1 : i ≤ j
  ·rw [AG (by omega)]
   simp only [gi ha, gi (show i < d.size by omega), oS]
   rw [hc _ _ (hA.get ha) (hA.get (by omega))]
   simp only [oS]
   cases hl : decide (c d[a]! d[i]! < 0)
   ·rw [Bool.not_false, AK, if_pos (by simp [h1, B0, hl]), wn (e := (i : Int) + 1) (n := i + 1) (by omega) (by omega)]
    exact Vg hc N a ha hs hA x hj J n (i + 1) (by omega) (by omega)
   ·rw [Bool.not_true, As, if_neg (by simp [B0, hl])]
  ·rw [AD (by omega), As, if_neg (by simp [h1])]
theorem Rn (hc : ∀ x y, P x → P y → cmp (x, y) = some (c x y)) (N a : Nat) {d : Array α} (ha : a < d.size) (hs : d.size ≤ 100000) (hA : CL P d) (x y : Int) {i : Nat} (hi : 1 ≤ i) (J : Int → Option (Int × List α)) : ∀ (n j : Nat), j < n → j < d.size →
  Gs.partitionEqual_L15 N (a : Int) cmp (d.toList, x, y) (i : Int) J n (j : Int) = J (scanDown (fun x => B0 c d[a]! x) d i j : Nat)
 | 0, j, h, _ => by omega
 | n + 1, j, h, hj => by
  rw [Gs.partitionEqual_L15]
  simp only [A7]
  rcases j with _ | j
  ·rw [AD (by omega), As]; rfl
  ·rw [scanDown]
   by_cases h1 : i ≤ j + 1
   ·rw [AG (by omega)]
    simp only [gi ha, gi hj, oS]
    rw [hc _ _ (hA.get ha) (hA.get hj)]
    simp only [oS]
    cases hl : decide (c d[a]! d[j + 1]! < 0)
    ·rw [As, if_neg (by simp [B0, hl])]
    ·rw [AK, if_pos (by simp [h1, B0, hl]), wn (e := ((j + 1 : Nat) : Int) - 1) (n := j) (by omega) (by omega)]
     exact Rn hc N a ha hs hA x y hi J n j (by omega) (by omega)
   ·rw [AD (by omega), As, if_neg (by simp [h1])]
theorem RB (hc : ∀ x y, P x → P y → cmp (x, y) = some (c x y)) (N a : Nat) (J : List α × Int → Option (Int × List α)) : ∀ (n i j : Nat) (d : Array α), j + 1 - i < n → a < d.size → d.size + 1 < N → d.size ≤ 100000 → 1 ≤ i → i ≤ j + 2 → j < d.size → CL P d →
  Gs.partitionEqual_L5 N (a : Int) cmp J n (d.toList, (i : Int), (j : Int)) = J ((partEqLoop (B0 c) a i j d).2.toList, ((partEqLoop (B0 c) a i j d).1 : Int)) ∧ (partEqLoop (B0 c) a i j d).2.size = d.size ∧ CL P (partEqLoop (B0 c) a i j d).2 ∧ i ≤ (partEqLoop (B0 c) a i j d).1 ∧ ∀ B, i ≤ B → j + 1 ≤ B → (partEqLoop (B0 c) a i j d).1 ≤ B
 | 0, i, j, d, h, _, _, _, _, _, _, _ => by omega
 | n + 1, i, j, d, h, ha, hN, hs, hi, hij, hj, hA => by
  rw [Gs.partitionEqual_L5]
  have u1 := scanUp_ge (fun x => !B0 c d[a]! x) d j i
  have u2 := (scanUp_spec (fun x => !B0 c d[a]! x) d j _ i rfl).2.1
  rw [Vg hc N a ha hs hA _ hj _ N i (by omega) (by omega)]
  rw [partEqLoop]
  simp only
  generalize hi2 : scanUp (fun x => !B0 c d[a]! x) d j i = i2 at u1 u2
  have d1 := scanDown_le (fun x => B0 c d[a]! x) d i2 j
  have d2 := (scanDown_spec (fun x => B0 c d[a]! x) d i2 j).2.1
  rw [Rn hc N a ha hs hA _ _ (show 1 ≤ i2 by omega) _ N j (by omega) hj]
  generalize hj2 : scanDown (fun x => B0 c d[a]! x) d i2 j = j2 at d1 d2
  by_cases h1 : i2 > j2
  ·rw [if_pos h1, AG (by omega)]
   refine ⟨rfl, rfl, hA, u1, fun B h2 h3 => ?_⟩
   by_cases h4 : i ≤ j + 1
   ·exact Nat.le_trans (u2 h4) h3
   ·rw [Go.Sort.scanUp, if_neg (by simp; omega)] at hi2
    simp only; omega
  ·rw [if_neg h1, AD (by omega), dif_pos (guard_of u1 d1 h1)]
   have k1 : i2 < d.size := by omega
   have k2 : j2 < d.size := by omega
   simp only [gi k1, gi k2, oS, Int.toNat_natCast]
   rw [H1 (by simp; omega)]
   simp only [← Ej]
   rw [wn (e := (i2 : Int) + 1) (n := i2 + 1) (by omega) (by omega), wn (e := (j2 : Int) - 1) (n := j2 - 1) (by omega) (by omega)]
   obtain ⟨g1, g2, g3, g4, g5⟩ := RB hc N a J n (i2 + 1) (j2 - 1) (swp d i2 j2) (by omega) (by rw [Bf]; omega) (by rw [Bf]; omega) (by rw [Bf]; omega) (by omega) (by omega) (by rw [Bf]; omega) (hA.swp k1 k2)
   rw [Bf] at g2
   exact ⟨g1, g2, g3, by omega, fun B h2 h3 => g5 B (by omega) (by omega)⟩
theorem Xn (hc : ∀ x y, P x → P y → cmp (x, y) = some (c x y)) {N a b pv : Nat} {d : Array α} (hab : a < b) (hap : a ≤ pv) (hpb : pv < b) (hb : b ≤ d.size) (hN : d.size + 1 < N) (hs : d.size ≤ 100000) (hA : CL P d) :
  Gs.partitionEqual N d.toList (a : Int) (b : Int) (pv : Int) cmp = some (((partitionEqual (B0 c) d a b pv).1 : Int), (partitionEqual (B0 c) d a b pv).2.toList) ∧ (partitionEqual (B0 c) d a b pv).2.size = d.size ∧ CL P (partitionEqual (B0 c) d a b pv).2 ∧ a < (partitionEqual (B0 c) d a b pv).1 ∧ (partitionEqual (B0 c) d a b pv).1 ≤ b := by
 unfold Gs.partitionEqual partitionEqual
 have k1 : a < d.size := by omega
 have k2 : pv < d.size := by omega
 simp only [gi k1, gi k2, oS, Int.toNat_natCast]
 rw [H1 (by simp; omega)]
 simp only [← Ej]
 rw [wn (e := (a : Int) + 1) (n := a + 1) (by omega) (by omega), wn (e := (b : Int) - 1) (n := b - 1) (by omega) (by omega)]
 obtain ⟨g1, g2, g3, g4, g5⟩ := RB hc N a (fun v6 => some (v6.2, v6.1)) N (a + 1) (b - 1) (swp d a pv) (by omega) (by rw [Bf]; omega) (by rw [Bf]; omega) (by rw [Bf]; omega) (by omega) (by omega) (by rw [Bf]; omega) (hA.swp k1 k2)
 rw [Bf] at g2
 exact ⟨g1, g2, g3, by omega, g5 b (by omega) (by omega)⟩
theorem UZ (hc : ∀ x y, P x → P y → cmp (x, y) = some (c x y)) (N a : Nat) {d : Array α} (ha : a < d.size) (hs : d.size ≤ 100000) (hA : CL P d) (x : Int) {j : Nat} (hj : j < d.size) (J : Int → Option (Int × Bool × List α)) : ∀ (n i : Nat), j + 1 - i < n → i ≤ 100001 →
  Gs.partition_L32 N (a : Int) cmp (d.toList, x, (j : Int)) J n (i : Int) = J (scanUp (fun x => B0 c x d[a]!) d j i : Nat)
 | 0, i, h, _ => by omega
 | n + 1, i, h, hi => by
  rw [Gs.partition_L32, scanUp]
  simp only [A7]
  by_cases h1 : i ≤ j
  ·rw [AG (by omega)]
   simp only [gi ha, gi (show i < d.size by omega), oS]
   rw [hc _ _ (hA.get (by omega)) (hA.get ha)]
   simp only [oS]
   cases hl : decide (c d[i]! d[a]! < 0)
   ·rw [As, if_neg (by simp [B0, hl])]
   ·rw [AK, if_pos (by simp [h1, B0, hl]), wn (e := (i : Int) + 1) (n := i + 1) (by omega) (by omega)]
    exact UZ hc N a ha hs hA x hj J n (i + 1) (by omega) (by omega)
  ·rw [AD (by omega), As, if_neg (by simp [h1])]
theorem RC (hc : ∀ x y, P x → P y → cmp (x, y) = some (c x y)) (N a : Nat) {d : Array α} (ha : a < d.size) (hs : d.size ≤ 100000) (hA : CL P d) (x y : Int) {i : Nat} (hi : 1 ≤ i) (J : Int → Option (Int × Bool × List α)) : ∀ (n j : Nat), j < n → j < d.size →
  Gs.partition_L40 N (a : Int) cmp (d.toList, x, y) (i : Int) J n (j : Int) = J (scanDown (fun x => !B0 c x d[a]!) d i j : Nat)
 | 0, j, h, _ => by omega
 | n + 1, j, h, hj => by
  rw [Gs.partition_L40]
  simp only [A7]
  rcases j with _ | j
  ·rw [AD (by omega), As]; rfl
  ·rw [scanDown]
   by_cases h1 : i ≤ j + 1
   ·rw [AG (by omega)]
    simp only [gi ha, gi hj, oS]
    rw [hc _ _ (hA.get hj) (hA.get ha)]
    simp only [oS]
    cases hl : decide (c d[j + 1]! d[a]! < 0)
    ·rw [Bool.not_false, AK, if_pos (by simp [h1, B0, hl]), wn (e := ((j + 1 : Nat) : Int) - 1) (n := j) (by omega) (by omega)]
     exact RC hc N a ha hs hA x y hi J n j (by omega) (by omega)
    ·rw [Bool.not_true, As, if_neg (by simp [B0, hl])]
   ·rw [AD (by omega), As, if_neg (by simp [h1])]
theorem Rb (hc : ∀ x y, P x → P y → cmp (x, y) = some (c x y)) (N a : Nat) (J : List α × Int → Option (Int × Bool × List α)) : ∀ (n i j : Nat) (d : Array α), j + 1 - i < n → a < d.size → d.size + 1 < N → d.size ≤ 100000 → 1 ≤ i → i ≤ j + 2 → j < d.size → CL P d →
  Gs.partition_L30 N (a : Int) cmp J n (d.toList, (i : Int), (j : Int)) = J ((partLoop (B0 c) a i j d).2.toList, ((partLoop (B0 c) a i j d).1 : Int)) ∧ (partLoop (B0 c) a i j d).2.size = d.size ∧ CL P (partLoop (B0 c) a i j d).2 ∧ (partLoop (B0 c) a i j d).1 ≤ j ∧ ∀ A, A + 1 ≤ i → A ≤ j → A ≤ (partLoop (B0 c) a i j d).1
 | 0, i, j, d, h, _, _, _, _, _, _, _ => by omega
 | n + 1, i, j, d, h, ha, hN, hs, hi, hij, hj, hA => by
  rw [Gs.partition_L30]
  have u1 := scanUp_ge (fun x => B0 c x d[a]!) d j i
  have u2 := (scanUp_spec (fun x => B0 c x d[a]!) d j _ i rfl).2.1
  rw [UZ hc N a ha hs hA _ hj _ N i (by omega) (by omega)]
  rw [partLoop]
  simp only
  generalize hi2 : scanUp (fun x => B0 c x d[a]!) d j i = i2 at u1 u2
  have d1 := scanDown_le (fun x => !B0 c x d[a]!) d i2 j
  rw [RC hc N a ha hs hA _ _ (show 1 ≤ i2 by omega) _ N j (by omega) hj]
  generalize hj2 : scanDown (fun x => !B0 c x d[a]!) d i2 j = j2 at d1
  by_cases h1 : i2 > j2
  ·rw [if_pos h1, AG (by omega)]
   refine ⟨rfl, rfl, hA, d1, fun A h2 h3 => ?_⟩
   by_cases h4 : i ≤ j + 1
   ·have := (scanDown_spec (fun x => !B0 c x d[a]!) d i2 j).2.1 (u2 h4)
    rw [hj2] at this
    simp only; omega
   ·have : j2 = j := by
     rw [← hj2]
     rcases j with _ | j
     ·rfl
     ·rw [scanDown, if_neg (by simp; omega)]
    simp only; omega
  ·rw [if_neg h1, AD (by omega), dif_pos (guard_of u1 d1 h1)]
   have k1 : i2 < d.size := by omega
   have k2 : j2 < d.size := by omega
   simp only [gi k1, gi k2, oS, Int.toNat_natCast]
   rw [H1 (by simp; omega)]
   simp only [← Ej]
   rw [wn (e := (i2 : Int) + 1) (n := i2 + 1) (by omega) (by omega), wn (e := (j2 : Int) - 1) (n := j2 - 1) (by omega) (by omega)]
   obtain ⟨g1, g2, g3, g4, g5⟩ := Rb hc N a J n (i2 + 1) (j2 - 1) (swp d i2 j2) (by omega) (by rw [Bf]; omega) (by rw [Bf]; omega) (by rw [Bf]; omega) (by omega) (by omega) (by rw [Bf]; omega) (hA.swp k1 k2)
   rw [Bf] at g2
   exact ⟨g1, g2, g3, by omega, fun A h2 h3 => g5 A (by omega) (by omega)⟩
theorem TB (hc : ∀ x y, P x → P y → cmp (x, y) = some (c x y)) (N a pv b : Nat) {p0 : List α} {v1 v2 : α} {d : Array α} (hd : (p0.set ((a : Int)).toNat v1).set ((pv : Int)).toNat v2 = d.toList) (ha : a < d.size) (hs : d.size ≤ 100000) (hA : CL P d) (hb : b ≤ d.size) (hb1 : 1 ≤ b) (J : Int → Option (Int × Bool × List α)) : ∀ (n i : Nat), b - i < n → i ≤ 100001 →
  Gs.partition_L5 N p0 (a : Int) (b : Int) (pv : Int) cmp v1 v2 J n (i : Int) = J (scanUp (fun x => B0 c x d[a]!) d (b - 1) i : Nat)
 | 0, i, h, _ => by omega
 | n + 1, i, h, hi => by
  rw [Gs.partition_L5, scanUp]
  simp only [A7, hd]
  rw [wn (e := (b : Int) - 1) (n := b - 1) (by omega) (by omega)]
  by_cases h1 : i ≤ b - 1
  ·rw [AG (by omega)]
   simp only [gi ha, gi (show i < d.size by omega), oS]
   rw [hc _ _ (hA.get (by omega)) (hA.get ha)]
   simp only [oS]
   cases hl : decide (c d[i]! d[a]! < 0)
   ·rw [As, if_neg (by simp [B0, hl])]
   ·rw [AK, if_pos (by simp [h1, B0, hl]), wn (e := (i : Int) + 1) (n := i + 1) (by omega) (by omega)]
    exact TB hc N a pv b hd ha hs hA hb hb1 J n (i + 1) (by omega) (by omega)
  ·rw [AD (by omega), As, if_neg (by simp [h1])]
theorem Qp (hc : ∀ x y, P x → P y → cmp (x, y) = some (c x y)) (N a pv : Nat) {p0 : List α} {v1 v2 : α} {d : Array α} (hd : (p0.set ((a : Int)).toNat v1).set ((pv : Int)).toNat v2 = d.toList) (ha : a < d.size) (hs : d.size ≤ 100000) (hA : CL P d) {i : Nat} (hi : 1 ≤ i) (J : Int → Option (Int × Bool × List α)) : ∀ (n j : Nat), j < n → j < d.size →
  Gs.partition_L13 N p0 (a : Int) (pv : Int) cmp v1 v2 (i : Int) J n (j : Int) = J (scanDown (fun x => !B0 c x d[a]!) d i j : Nat)
 | 0, j, h, _ => by omega
 | n + 1, j, h, hj => by
  rw [Gs.partition_L13]
  simp only [A7, hd]
  rcases j with _ | j
  ·rw [AD (by omega), As]; rfl
  ·rw [scanDown]
   by_cases h1 : i ≤ j + 1
   ·rw [AG (by omega)]
    simp only [gi ha, gi hj, oS]
    rw [hc _ _ (hA.get hj) (hA.get ha)]
    simp only [oS]
    cases hl : decide (c d[j + 1]! d[a]! < 0)
    ·rw [Bool.not_false, AK, if_pos (by simp [h1, B0, hl]), wn (e := ((j + 1 : Nat) : Int) - 1) (n := j) (by omega) (by omega)]
     exact Qp hc N a pv hd ha hs hA hi J n j (by omega) (by omega)
    ·rw [Bool.not_true, As, if_neg (by simp [B0, hl])]
   ·rw [AD (by omega), As, if_neg (by simp [h1])]
theorem Xj (hc : ∀ x y, P x → P y → cmp (x, y) = some (c x y)) {N a b pv : Nat} {d0 : Array α} (hab : a < b) (hap : a ≤ pv) (hpb : pv < b) (hb : b ≤ d0.size) (hN : d0.size + 1 < N) (hs : d0.size ≤ 100000) (hA0 : CL P d0) :
  Gs.partition N d0.toList (a : Int) (b : Int) (pv : Int) cmp = some (((partition (B0 c) d0 a b pv).1 : Int), (partition (B0 c) d0 a b pv).2.1, (partition (B0 c) d0 a b pv).2.2.toList) ∧ (partition (B0 c) d0 a b pv).2.2.size = d0.size ∧ CL P (partition (B0 c) d0 a b pv).2.2 ∧ a ≤ (partition (B0 c) d0 a b pv).1 ∧ (partition (B0 c) d0 a b pv).1 < b := by
 unfold Gs.partition partition
 have k1 : a < d0.size := by omega
 have k2 : pv < d0.size := by omega
 simp only [gi k1, gi k2, oS]
 have hd : (d0.toList.set ((a : Int)).toNat d0[pv]!).set ((pv : Int)).toNat d0[a]! = (swp d0 a pv).toList := by rw [Ej]; rfl
 have hsz := Bf d0 a pv
 have hA := hA0.swp k1 k2
 generalize swp d0 a pv = d at hd hsz hA
 rw [H1 (by simp; omega)]
 simp only [Int.toNat_natCast] at hd ⊢
 rw [wn (e := (a : Int) + 1) (n := a + 1) (by omega) (by omega), wn (e := (b : Int) - 1) (n := b - 1) (by omega) (by omega)]
 have u1 := scanUp_ge (fun x => B0 c x d[a]!) d (b - 1) (a + 1)
 have u2 := (scanUp_spec (fun x => B0 c x d[a]!) d (b - 1) _ (a + 1) rfl).2.1
 rw [TB hc N a pv b (p0 := d0.toList) (by simpa using hd) (by omega) (by omega) hA (by omega) (by omega) _ N (a + 1) (by omega) (by omega)]
 generalize hi2 : scanUp (fun x => B0 c x d[a]!) d (b - 1) (a + 1) = i at u1 u2
 have d1 := scanDown_le (fun x => !B0 c x d[a]!) d i (b - 1)
 rw [Qp hc N a pv (p0 := d0.toList) (by simpa using hd) (by omega) (by omega) hA (show 1 ≤ i by omega) _ N (b - 1) (by omega) (by omega)]
 generalize hj2 : scanDown (fun x => !B0 c x d[a]!) d i (b - 1) = j at d1
 have a1 : a < d.size := by omega
 have a2 : j < d.size := by omega
 by_cases h1 : i > j
 ·rw [if_pos h1, AG (by omega)]
  simp only [hd, gi a1, gi a2, oS, Int.toNat_natCast]
  rw [H1 (by simp; omega)]
  simp only [← Ej]
  refine ⟨trivial, by rw [Bf]; omega, hA.swp a2 a1, ?_, by omega⟩
  have := (scanDown_spec (fun x => !B0 c x d[a]!) d i (b - 1)).2.1 (u2 (by omega))
  rw [hj2] at this
  omega
 ·rw [if_neg h1, AD (by omega)]
  have a3 : i < d.size := by omega
  simp only [hd, gi a3, gi a2, oS, Int.toNat_natCast]
  rw [H1 (by simp; omega)]
  simp only [← Ej]
  rw [wn (e := (i : Int) + 1) (n := i + 1) (by omega) (by omega), wn (e := (j : Int) - 1) (n := j - 1) (by omega) (by omega)]
  obtain ⟨g1, g2, g3, g4, g5⟩ := Rb hc N a (fun v31 => (A5 v31.1 (a : Int)).bind fun v53 => (A5 v31.1 v31.2).bind fun v54 => (A5 v31.1 v31.2).bind fun _ => (A5 (v31.1.set ((v31.2).toNat) v53) (a : Int)).bind fun _ =>
     some (v31.2, false, (v31.1.set ((v31.2).toNat) v53).set a v54)) N (i + 1) (j - 1) (swp d i j) (by omega) (by rw [Bf]; omega) (by rw [Bf]; omega) (by rw [Bf]; omega) (by omega) (by omega) (by rw [Bf]; omega) (hA.swp a3 a2)
  rw [Bf] at g2
  rw [g1]
  generalize hr : partLoop (B0 c) a (i + 1) (j - 1) (swp d i j) = r at g2 g3 g4 g5
  have b1 : a < r.2.size := by omega
  have b2 : r.1 < r.2.size := by omega
  simp only [gi b1, gi b2, oS, Int.toNat_natCast]
  rw [H1 (by simp; omega)]
  simp only [← Ej]
  exact ⟨trivial, by rw [Bf]; omega, g3.swp b2 b1, g5 a (by omega) (by omega), by omega⟩
end
end Go.Lift
namespace Go.Lift
open IntKind renaming wrap → wI
open Option renaming bind_some → oS
open Go
open Go.Sort (swp order2 median medianAdjacent choosePivot Hint xorNext bitsLen breakStep breakPatterns pdq insertionSort heapSort reverseRange partialInsertionSort partitionEqual partition)
theorem IX {n : Nat} (h : n < 18446744073709551616) : wI .u64 (n : Int) = (n : Int) := by
 show ((n : Int) % (18446744073709551616 : Int)) = n
 exact Int.emod_eq_of_lt (by omega) (by omega)
theorem Uo (n : Nat) : wI .u64 (n : Int) = ((n % 18446744073709551616 : Nat) : Int) := by
 show ((n : Int) % (18446744073709551616 : Int)) = _
 omega
theorem Tb (r : UInt64) : r.toNat < 18446744073709551616 := UInt64.toNat_lt r
theorem VR (r : UInt64) : BitVec.ofInt 64 (r.toNat : Int) = r.toBitVec := by
 rw [BitVec.ofInt_natCast]
 apply BitVec.eq_of_toNat_eq
 rw [BitVec.toNat_ofNat]
 exact Nat.mod_eq_of_lt (Tb r)
theorem UD (r s : UInt64) : FZ .u64 (r.toNat : Int) (s.toNat : Int) = ((r ^^^ s).toNat : Int) := by
 show wI .u64 (((BitVec.ofInt 64 (r.toNat : Int) ^^^ BitVec.ofInt 64 (s.toNat : Int)).toNat : Nat) : Int) = _
 rw [VR, VR]
 exact IX (BitVec.isLt _)
theorem Rq (r k : UInt64) (q : Nat) (hq : k.toNat = q) (h64 : q < 64) (hs : Cc .u64 (r.toNat : Int) (q : Int) = wI .u64 ((r.toNat : Int) * 2 ^ q)) : Cc .u64 (r.toNat : Int) (q : Int) = ((r <<< k).toNat : Int) := by
 rw [hs, UInt64.toNat_shiftLeft, hq, Nat.mod_eq_of_lt h64, Nat.shiftLeft_eq]
 rw [show ((r.toNat : Int) * 2 ^ q) = ((r.toNat * 2 ^ q : Nat) : Int) from by simp, Uo]
theorem WA (r : UInt64) : Cc .u64 (r.toNat : Int) 13 = ((r <<< 13).toNat : Int) := Rq r 13 13 rfl (by decide) rfl
theorem Wh (r : UInt64) : Cc .u64 (r.toNat : Int) 17 = ((r <<< 17).toNat : Int) := Rq r 17 17 rfl (by decide) rfl
theorem XF (r : UInt64) : D3 .u64 (r.toNat : Int) 7 = ((r >>> 7).toNat : Int) := by
 show (r.toNat : Int).fdiv (128 : Int) = _
 rw [UInt64.toNat_shiftRight, show (7 : UInt64).toNat % 64 = 7 from rfl, Nat.shiftRight_eq_div_pow]
 rw [Int.fdiv_eq_ediv_of_nonneg _ (by omega)]
 omega
theorem TC (N : Nat) (r : UInt64) : Dj N (r.toNat : Int) = some (((xorNext r).toNat : Int), ((xorNext r).toNat : Int)) := by
 unfold Dj xorNext
 simp only [WA, UD, XF, Wh]
theorem Uf (r : UInt64) {m : Nat} (h : m < 18446744073709551616) : Fp .u64 (r.toNat : Int) (m : Int) = ((r.toNat &&& m : Nat) : Int) := by
 show wI .u64 (((BitVec.ofInt 64 (r.toNat : Int) &&& BitVec.ofInt 64 (m : Int)).toNat : Nat) : Int) = _
 rw [VR, BitVec.ofInt_natCast, BitVec.toNat_and, BitVec.toNat_ofNat, Nat.mod_eq_of_lt h]
 exact IX (Nat.lt_of_le_of_lt Nat.and_le_left (Tb r))
theorem Uk : ((List.range 1001).all fun n => decide (Dl 0 (n : Int) = some ((bitsLen n : Nat) : Int))) = true := by kernel_rfl
theorem Ww (N : Nat) : Dl N = Dl 0 := rfl
theorem S7 (N : Nat) {n : Nat} (h : n ≤ 1000) : Dl N (n : Int) = some ((bitsLen n : Nat) : Int) := by
 rw [Ww]
 exact of_decide_eq_true (List.all_eq_true.1 Uk n (List.mem_range.2 (by omega)))
theorem Q6 {n : Nat} (h : n ≤ 1000) : bitsLen n ≤ 10 := by
 have : ((List.range 1001).all fun n => decide (bitsLen n ≤ 10)) = true := by kernel_rfl
 exact of_decide_eq_true (List.all_eq_true.1 this n (List.mem_range.2 (by omega)))
theorem Rs {n : Nat} (h : n ≤ 1000) (h1 : 1 ≤ n) : n < 1 <<< bitsLen n ∧ 1 <<< bitsLen n ≤ 2 * n ∧ 2 ≤ 1 <<< bitsLen n := by
 have : ((List.range 1001).all fun n => decide (1 ≤ n → n < 1 <<< bitsLen n ∧ 1 <<< bitsLen n ≤ 2 * n ∧ 2 ≤ 1 <<< bitsLen n)) = true := by kernel_rfl
 exact of_decide_eq_true (List.all_eq_true.1 this n (List.mem_range.2 (by omega))) h1
theorem Td (N : Nat) {n : Nat} (h : n ≤ 1000) (h1 : 1 ≤ n) : Dg N (n : Int) = some ((1 <<< bitsLen n : Nat) : Int) := by
 unfold Dg
 rw [IX (by omega), S7 N h]
 simp only [oS]
 rw [AA (by omega)]
 have hb := Q6 h
 have := Rs h h1
 have e : Cc .u64 1 ((bitsLen n : Nat) : Int) = wI .u64 (((1 <<< bitsLen n : Nat)) : Int) := by
  unfold Cc
  rw [show min (((bitsLen n : Nat) : Int)).toNat (IntKind.bits .u64) = bitsLen n from by
   rw [Int.toNat_natCast]; show min _ 64 = _; omega]
  rw [Nat.shiftLeft_eq]
  simp
 rw [e, IX (by omega)]
section
variable {α : Type} [Inhabited α] {P : α → Prop} {cmp : α × α → Option Int} {c : α → α → Int}
theorem Kr (N a b m : Nat) (hm : m < 1000000) {d : Array α} {r : UInt64} {idx0 : Nat} (hab : a + 8 ≤ b) (hb : b ≤ d.size) (hs : d.size ≤ 1000) (hml : b - a < m ∧ m ≤ 2 * (b - a)) (h0 : idx0 < d.size) (h1 : idx0 ≤ a + (b - a) / 4 * 2 + 1) (_h2 : a ≤ idx0) (J : List α → Option (List α)) (n : Nat) (hA : CL P d) :
  Gs.breakPatterns_L3 N (a : Int) (b : Int) (m : Int) J (n + 1) (d.toList, (r.toNat : Int), (idx0 : Int)) = Gs.breakPatterns_L3 N (a : Int) (b : Int) (m : Int) J n ((breakStep a (b - a) m (r, d) idx0).2.toList, ((breakStep a (b - a) m (r, d) idx0).1.toNat : Int), ((idx0 + 1 : Nat) : Int)) ∧ (breakStep a (b - a) m (r, d) idx0).2.size = d.size ∧ CL P (breakStep a (b - a) m (r, d) idx0).2 := by
 rw [Gs.breakPatterns_L3]
 have el : wI .i64 ((b : Int) - (a : Int)) = ((b - a : Nat) : Int) := wn (by omega) (by omega)
 have e4 : wI .i64 (Int.tdiv ((b - a : Nat) : Int) 4) = (((b - a) / 4 : Nat) : Int) := wn (by rw [Int.tdiv_eq_ediv_of_nonneg (by omega)]; omega) (by omega)
 have f2x : wI .i64 ((((b - a) / 4 : Nat) : Int) * 2) = (((b - a) / 4 * 2 : Nat) : Int) := wn (by omega) (by omega)
 have g2x : wI .i64 ((a : Int) + (((b - a) / 4 * 2 : Nat) : Int)) = ((a + (b - a) / 4 * 2 : Nat) : Int) := wn (by omega) (by omega)
 have e1 : wI .i64 (((a + (b - a) / 4 * 2 : Nat) : Int) + 1) = ((a + (b - a) / 4 * 2 + 1 : Nat) : Int) := wn (by omega) (by omega)
 simp only [el, e4, f2x, g2x, e1]
 rw [AG (by omega), TC]
 simp only [oS, A7]
 rw [show wI .u64 ((m : Int) - 1) = ((m - 1 : Nat) : Int) from by rw [show ((m : Int) - 1) = ((m - 1 : Nat) : Int) from by omega]; exact IX (by omega)]
 rw [Uf _ (by omega)]
 have hle : (xorNext r).toNat &&& (m - 1) ≤ m - 1 := Nat.and_le_right
 unfold breakStep
 simp only
 generalize ho : (xorNext r).toNat &&& (m - 1) = o at hle
 rw [wn (e := ((o : Nat) : Int)) (n := o) rfl (by omega)]
 have fin : ∀ q : Nat, q < b - a → ((A5 d.toList (wI .i64 ((a : Int) + (q : Int)))).bind fun v9 => (A5 d.toList (idx0 : Int)).bind fun v10 => (A5 d.toList (idx0 : Int)).bind fun _ =>
   (A5 (d.toList.set ((idx0 : Int)).toNat v9) (wI .i64 ((a : Int) + (q : Int)))).bind fun _ =>
    Gs.breakPatterns_L3 N (a : Int) (b : Int) (m : Int) J n ((d.toList.set ((idx0 : Int)).toNat v9).set ((wI .i64 ((a : Int) + (q : Int)))).toNat v10, ((xorNext r).toNat : Int), (wI .i64 ((idx0 : Int) + 1)))) =
   Gs.breakPatterns_L3 N (a : Int) (b : Int) (m : Int) J n ((swp d idx0 (a + q)).toList, ((xorNext r).toNat : Int), ((idx0 + 1 : Nat) : Int)) ∧ (swp d idx0 (a + q)).size = d.size ∧ CL P (swp d idx0 (a + q)) := by
  intro q hq
  have k1 : a + q < d.size := by omega
  rw [wn (e := (a : Int) + (q : Int)) (n := a + q) (by omega) (by omega), wn (e := (idx0 : Int) + 1) (n := idx0 + 1) (by omega) (by omega)]
  simp only [gi k1, gi h0, oS, Int.toNat_natCast]
  rw [H1 (by simp; omega), ← Ej]
  exact ⟨rfl, Bf _ _ _, hA.swp h0 k1⟩
 by_cases hge : b - a ≤ o
 ·rw [AG (by omega), if_pos hge, wn (e := ((o : Nat) : Int) - ((b - a : Nat) : Int)) (n := o - (b - a)) (by omega) (by omega)]
  exact fin (o - (b - a)) (by omega)
 ·rw [AD (by omega), if_neg hge]
  exact fin o (by omega)
theorem SS {N a b : Nat} {d : Array α} (hab : a + 8 ≤ b) (hb : b ≤ d.size) (hN : d.size < N) (hs : d.size ≤ 1000) (h6 : 6 ≤ N) (hA : CL P d) :
  Gs.breakPatterns N d.toList (a : Int) (b : Int) cmp = some (breakPatterns d a b).toList ∧ (breakPatterns d a b).size = d.size ∧ CL P (breakPatterns d a b) := by
 unfold Gs.breakPatterns breakPatterns
 simp only
 rw [wn (e := (b : Int) - (a : Int)) (n := b - a) (by omega) (by omega), AG (by omega), if_pos (by omega), Td N (by omega) (by omega)]
 simp only [oS]
 have hp := Rs (n := b - a) (by omega) (by omega)
 rw [IX (by omega)]
 have e4 : wI .i64 (Int.tdiv ((b - a : Nat) : Int) 4) = (((b - a) / 4 : Nat) : Int) := wn (by rw [Int.tdiv_eq_ediv_of_nonneg (by omega)]; omega) (by omega)
 have f2x : wI .i64 ((((b - a) / 4 : Nat) : Int) * 2) = (((b - a) / 4 * 2 : Nat) : Int) := wn (by omega) (by omega)
 have g2x : wI .i64 ((a : Int) + (((b - a) / 4 * 2 : Nat) : Int)) = ((a + (b - a) / 4 * 2 : Nat) : Int) := wn (by omega) (by omega)
 have e1y : wI .i64 (((a + (b - a) / 4 * 2 : Nat) : Int) - 1) = ((a + (b - a) / 4 * 2 - 1 : Nat) : Int) := wn (by omega) (by omega)
 simp only [e4, f2x, g2x, e1y]
 generalize hm : 1 <<< bitsLen (b - a) = m at hp
 have hr0 : ((b - a : Nat) : Int) = ((UInt64.ofNat (b - a)).toNat : Int) := by
  rw [UInt64.toNat_ofNat', Nat.mod_eq_of_lt (by omega)]
 rw [hr0]
 generalize hi : a + (b - a) / 4 * 2 - 1 = i0
 generalize UInt64.ofNat (b - a) = r0
 obtain ⟨N', rfl⟩ : ∃ q, N = q + 4 := ⟨N - 4, by omega⟩
 obtain ⟨f1, f2, f3⟩ := Kr (N' + 4) a b m (by omega) (r := r0) (idx0 := i0) hab hb hs ⟨hp.1, hp.2.1⟩ (by omega) (by omega) (by omega) (fun v4 => some v4) (N' + 3) hA
 rw [f1]
 generalize hs1 : breakStep a (b - a) m (r0, d) i0 = s1 at f2 f3
 obtain ⟨r1, d1⟩ := s1
 simp only at f2 f3 ⊢
 obtain ⟨g1, g2, g3⟩ := Kr (N' + 4) a b m (by omega) (r := r1) (d := d1) (idx0 := i0 + 1) hab (by omega) (by omega) ⟨hp.1, hp.2.1⟩ (by omega) (by omega) (by omega) (fun v4 => some v4) (N' + 2) f3
 rw [g1]
 generalize hs2 : breakStep a (b - a) m (r1, d1) (i0 + 1) = s2 at g2 g3
 obtain ⟨r2, d2⟩ := s2
 simp only at g2 g3 ⊢
 obtain ⟨k1, k2, k3⟩ := Kr (N' + 4) a b m (by omega) (r := r2) (d := d2) (idx0 := i0 + 1 + 1) hab (by omega) (by omega) ⟨hp.1, hp.2.1⟩ (by omega) (by omega) (by omega) (fun v4 => some v4) (N' + 1) g3
 rw [k1, Gs.breakPatterns_L3]
 have el : wI .i64 ((b : Int) - (a : Int)) = ((b - a : Nat) : Int) := wn (by omega) (by omega)
 have e4 : wI .i64 (Int.tdiv ((b - a : Nat) : Int) 4) = (((b - a) / 4 : Nat) : Int) := wn (by rw [Int.tdiv_eq_ediv_of_nonneg (by omega)]; omega) (by omega)
 have f2x : wI .i64 ((((b - a) / 4 : Nat) : Int) * 2) = (((b - a) / 4 * 2 : Nat) : Int) := wn (by omega) (by omega)
 have g2x : wI .i64 ((a : Int) + (((b - a) / 4 * 2 : Nat) : Int)) = ((a + (b - a) / 4 * 2 : Nat) : Int) := wn (by omega) (by omega)
 have e1 : wI .i64 (((a + (b - a) / 4 * 2 : Nat) : Int) + 1) = ((a + (b - a) / 4 * 2 + 1 : Nat) : Int) := wn (by omega) (by omega)
 simp only [el, e4, f2x, g2x, e1]
 rw [AD (by omega)]
 exact ⟨rfl, k2.trans (g2.trans f2), k3⟩
theorem QA (hc : ∀ x y, P x → P y → cmp (x, y) = some (c x y)) (N : Nat) {d : Array α} {a b s : Nat} (ha : a < d.size) (hb : b < d.size) (hs : s < 1000) (hA : CL P d) : Gs.order2 N d.toList (a : Int) (b : Int) (s : Int) cmp = some (((order2 (B0 c) d a b s).1 : Int), ((order2 (B0 c) d a b s).2.1 : Int), ((order2 (B0 c) d a b s).2.2 : Int)) ∧
  (order2 (B0 c) d a b s).1 < d.size ∧ (order2 (B0 c) d a b s).2.1 < d.size ∧ (order2 (B0 c) d a b s).2.2 ≤ s + 1 := by
 unfold Gs.order2 order2
 simp only [gi ha, gi hb, oS]
 rw [hc _ _ (hA.get hb) (hA.get ha)]
 simp only [oS]
 rw [wn (e := (s : Int) + 1) (n := s + 1) (by omega) (by omega)]
 cases hl : decide (c d[b]! d[a]! < 0)
 ·rw [As, if_neg (by simp [B0, hl])]
  exact ⟨rfl, ha, hb, by simp⟩
 ·rw [AK, if_pos (by simp [B0, hl])]
  exact ⟨rfl, hb, ha, by simp⟩
theorem QX (hc : ∀ x y, P x → P y → cmp (x, y) = some (c x y)) (N : Nat) {d : Array α} {a b e s : Nat} (ha : a < d.size) (hb : b < d.size) (he : e < d.size) (hs : s < 900) (hA : CL P d) : Gs.median N d.toList (a : Int) (b : Int) (e : Int) (s : Int) cmp = some (((median (B0 c) d a b e s).1 : Int), ((median (B0 c) d a b e s).2 : Int)) ∧ (median (B0 c) d a b e s).1 < d.size ∧ (median (B0 c) d a b e s).2 ≤ s + 3 := by
 unfold Gs.median median
 simp only
 obtain ⟨f1, f2, f3, f4⟩ := QA hc N ha hb (show s < 1000 by omega) hA
 rw [f1]
 simp only [oS]
 obtain ⟨g1, g2, g3, g4⟩ := QA hc N f3 he (show (order2 (B0 c) d a b s).2.2 < 1000 by omega) hA
 rw [g1]
 simp only [oS]
 obtain ⟨k1, k2, k3, k4⟩ := QA hc N f2 g2 (show (order2 (B0 c) d (order2 (B0 c) d a b s).2.1 e (order2 (B0 c) d a b s).2.2).2.2 < 1000 by omega) hA
 rw [k1]
 exact ⟨rfl, k3, by omega⟩
theorem QR (hc : ∀ x y, P x → P y → cmp (x, y) = some (c x y)) (N : Nat) {d : Array α} {a s : Nat} (h1 : 1 ≤ a) (ha : a + 1 < d.size) (hs : s < 900) (hz : d.size ≤ 100000) (hA : CL P d) : Gs.medianAdjacent N d.toList (a : Int) (s : Int) cmp = some (((medianAdjacent (B0 c) d a s).1 : Int), ((medianAdjacent (B0 c) d a s).2 : Int)) ∧ (medianAdjacent (B0 c) d a s).1 < d.size ∧ (medianAdjacent (B0 c) d a s).2 ≤ s + 3 := by
 unfold Gs.medianAdjacent medianAdjacent
 rw [wn (e := (a : Int) - 1) (n := a - 1) (by omega) (by omega), wn (e := (a : Int) + 1) (n := a + 1) (by omega) (by omega)]
 obtain ⟨f1, f2, f3⟩ := QX hc N (d := d) (a := a - 1) (b := a) (e := a + 1) (by omega) (by omega) ha hs hA
 rw [f1]
 exact ⟨rfl, f2, f3⟩
def LS : Hint → Int
 | .unknown => 0
 | .increasing => 1
 | .decreasing => 2
theorem SD (hc : ∀ x y, P x → P y → cmp (x, y) = some (c x y)) (N : Nat) {d : Array α} {a b : Nat} (hab : a + 12 < b) (hb : b ≤ d.size) (hz : d.size ≤ 100000) (hA : CL P d) : Gs.choosePivot N d.toList (a : Int) (b : Int) cmp = some (((choosePivot (B0 c) d a b).1 : Int), LS (choosePivot (B0 c) d a b).2) := by
 unfold Gs.choosePivot choosePivot
 simp only [A7]
 have el : wI .i64 ((b : Int) - (a : Int)) = ((b - a : Nat) : Int) := wn (by omega) (by omega)
 have e4 : wI .i64 (Int.tdiv ((b - a : Nat) : Int) 4) = (((b - a) / 4 : Nat) : Int) := wn (by rw [Int.tdiv_eq_ediv_of_nonneg (by omega)]; omega) (by omega)
 have f1 : wI .i64 ((((b - a) / 4 : Nat) : Int) * 1) = (((b - a) / 4 * 1 : Nat) : Int) := wn (by omega) (by omega)
 have f2 : wI .i64 ((((b - a) / 4 : Nat) : Int) * 2) = (((b - a) / 4 * 2 : Nat) : Int) := wn (by omega) (by omega)
 have f3 : wI .i64 ((((b - a) / 4 : Nat) : Int) * 3) = (((b - a) / 4 * 3 : Nat) : Int) := wn (by omega) (by omega)
 have g1 : wI .i64 ((a : Int) + (((b - a) / 4 * 1 : Nat) : Int)) = ((a + (b - a) / 4 * 1 : Nat) : Int) := wn (by omega) (by omega)
 have g2 : wI .i64 ((a : Int) + (((b - a) / 4 * 2 : Nat) : Int)) = ((a + (b - a) / 4 * 2 : Nat) : Int) := wn (by omega) (by omega)
 have g3 : wI .i64 ((a : Int) + (((b - a) / 4 * 3 : Nat) : Int)) = ((a + (b - a) / 4 * 3 : Nat) : Int) := wn (by omega) (by omega)
 simp only [el, e4, f1, f2, f3, g1, g2, g3]
 generalize hi : a + (b - a) / 4 * 1 = i
 generalize hj : a + (b - a) / 4 * 2 = j
 generalize hk : a + (b - a) / 4 * 3 = k
 have hsw : ∀ (p s : Nat), (AV (((s : Nat) : Int) == 0) (some ((p : Int), (1 : Int))) (AV (((s : Nat) : Int) == 12) (some ((p : Int), (2 : Int))) (some ((p : Int), (0 : Int))))) = some ((p : Int), LS (if s = 0 then .increasing else if s = 12 then .decreasing else .unknown)) := by
  intro p s
  by_cases h0 : s = 0
  ·subst h0; rfl
  ·rw [if_neg h0, show (((s : Nat) : Int) == 0) = false from beq_eq_false_iff_ne.2 (by omega), As]
   by_cases h12 : s = 12
   ·subst h12; rfl
   ·rw [if_neg h12, show (((s : Nat) : Int) == 12) = false from beq_eq_false_iff_ne.2 (by omega), As]; rfl
 rw [AG (by omega), if_pos (show b - a ≥ 8 by omega)]
 by_cases h50 : b - a ≥ 50
 ·rw [AG (by omega), if_pos h50]
  obtain ⟨a1, a2, a3⟩ := QR hc N (d := d) (a := i) (s := 0) (by omega) (by omega) (by omega) hz hA
  have a1' : Gs.medianAdjacent N d.toList (i : Int) 0 cmp = _ := a1
  rw [a1']
  simp only [oS]
  obtain ⟨b1, b2, b3⟩ := QR hc N (d := d) (a := j) (s := (medianAdjacent (B0 c) d i 0).2) (by omega) (by omega) (by omega) hz hA
  rw [b1]
  simp only [oS]
  obtain ⟨c1, c2, c3⟩ := QR hc N (d := d) (a := k) (s := (medianAdjacent (B0 c) d j (medianAdjacent (B0 c) d i 0).2).2) (by omega) (by omega) (by omega) hz hA
  rw [c1]
  simp only [oS]
  obtain ⟨d1, d2, d3⟩ := QX hc N a2 b2 c2 (show (medianAdjacent (B0 c) d k (medianAdjacent (B0 c) d j (medianAdjacent (B0 c) d i 0).2).2).2 < 900 by omega) hA
  rw [d1]
  simp only [oS]
  exact hsw _ _
 ·rw [AD (by omega), if_neg h50]
  obtain ⟨d1, d2, d3⟩ := QX hc N (d := d) (a := i) (b := j) (e := k) (s := 0) (by omega) (by omega) (by omega) (by omega) hA
  have d1' : Gs.median N d.toList (i : Int) (j : Int) (k : Int) 0 cmp = _ := d1
  rw [d1']
  simp only [oS]
  exact hsw _ _
end
end Go.Lift
namespace Go.Lift
open IntKind renaming wrap → wI
open Option renaming bind_some → oS
open Go
open Go.Sort (swp Hint bitsLen pdq insertionSort heapSort reverseRange partialInsertionSort partitionEqual partition choosePivot breakPatterns SWO PermIn SortedIn Below)
section
variable {α : Type} [Inhabited α] {P : α → Prop} {cmp : α × α → Option Int} {c : α → α → Int}
theorem Tq (h : Hint) : (LS h == 1) = decide (h = .increasing) := by cases h <;> rfl
theorem SY (h : Hint) : (LS h == 2) = decide (h = .decreasing) := by cases h <;> rfl
theorem S9 {N a b limit : Nat} {d : Array α} (wb : Bool) (hab : a + 12 < b) (hb : b ≤ d.size) (hN : d.size < N) (hs : d.size ≤ 1000) (h6 : 6 ≤ N) (hl : 1 ≤ limit ∧ limit ≤ 100) (hA : CL P d) (F : List α × Int → Option (List α)) :
  Bb F (fun j7 => AV (!wb) ((Gs.breakPatterns N d.toList (a : Int) (b : Int) cmp).bind fun v9 => j7 (v9, wI .i64 ((limit : Int) - 1))) (j7 (d.toList, (limit : Int)))) = F ((if !wb then breakPatterns d a b else d).toList, ((if !wb then limit - 1 else limit : Nat) : Int)) ∧ (if !wb then breakPatterns d a b else d).size = d.size ∧ CL P (if !wb then breakPatterns d a b else d) := by
 rw [A7]
 cases wb
 ·obtain ⟨f1, f2, f3⟩ := SS (cmp := cmp) (N := N) (show a + 8 ≤ b by omega) hb hN hs h6 hA
  rw [f1, wn (e := (limit : Int) - 1) (n := limit - 1) (by omega) (by omega)]
  exact ⟨rfl, f2, f3⟩
 ·exact ⟨rfl, rfl, hA⟩
theorem Tp {N a b p : Nat} {d : Array α} (h : Hint) (hab : a + 12 < b) (hp : a ≤ p) (hpb : p < b) (hb : b ≤ d.size) (hN : d.size < N) (hs : d.size ≤ 1000) (hA : CL P d) (F : List α × Int × Int → Option (List α)) :
  Bb F (fun j11 => AV (LS h == 2) ((Gs.reverseRange N d.toList (a : Int) (b : Int) cmp).bind fun v13 => j11 (v13, wI .i64 (wI .i64 ((b : Int) - 1) - wI .i64 ((p : Int) - (a : Int))), 1)) (j11 (d.toList, (p : Int), LS h))) =
   F ((if h = .decreasing then reverseRange d a b else d).toList, ((if h = .decreasing then (b - 1) - (p - a) else p : Nat) : Int), LS (if h = .decreasing then Hint.increasing else h)) ∧ (if h = .decreasing then reverseRange d a b else d).size = d.size ∧ CL P (if h = .decreasing then reverseRange d a b else d) := by
 rw [A7, SY]
 by_cases hd : h = .decreasing
 ·obtain ⟨f1, f2, f3⟩ := VL (cmp := cmp) (N := N) (show a < b by omega) hb hN (by omega) hA
  rw [f1, wn (e := (b : Int) - 1) (n := b - 1) (by omega) (by omega), wn (e := (p : Int) - (a : Int)) (n := p - a) (by omega) (by omega), wn (n := (b - 1) - (p - a)) (by omega) (by omega)]
  simp only [hd, decide_true, AK, if_true, oS]
  exact ⟨rfl, f2, f3⟩
 ·simp only [hd, decide_false, As, if_false]
  exact ⟨trivial, trivial, hA⟩
def OA (c : α → α → Int) (wb wp : Bool) (h : Hint) (d : Array α) (a b : Nat) : Array α × Bool := if wb && wp && h = .increasing then partialInsertionSort (B0 c) d a b else (d, false)
theorem SB (hc : ∀ x y, P x → P y → cmp (x, y) = some (c x y)) {N a b : Nat} {d : Array α} (wb wp : Bool) (h : Hint) (hab : a + 12 < b) (hb : b ≤ d.size) (hN : d.size < N) (hs : d.size ≤ 1000) (h6 : 6 ≤ N) (hA : CL P d) (F : List α → Option (List α)) :
  Bb F (fun j14 => Bb (fun (v15 : Bool) => AV v15 ((Gs.partialInsertionSort N d.toList (a : Int) (b : Int) cmp).bind fun v19 => AV v19.1 (some v19.2) (j14 v19.2)) (j14 d.toList)) fun j15 => AV wb (AV wp (j15 (LS h == 1)) (j15 false)) (j15 false)) =
   (if (OA c wb wp h d a b).2 then some (OA c wb wp h d a b).1.toList else F (OA c wb wp h d a b).1.toList) ∧ (OA c wb wp h d a b).1.size = d.size ∧ CL P (OA c wb wp h d a b).1 := by
 rw [A7, A7, Tq]
 unfold OA
 have hno : ∀ q : Bool, q = false → (F d.toList) = (if (if q = true then partialInsertionSort (B0 c) d a b else (d, false)).2 then some (if q = true then partialInsertionSort (B0 c) d a b else (d, false)).1.toList else F (if q = true then partialInsertionSort (B0 c) d a b else (d, false)).1.toList) ∧ (if q = true then partialInsertionSort (B0 c) d a b else (d, false)).1.size = d.size ∧ CL P (if q = true then partialInsertionSort (B0 c) d a b else (d, false)).1 := by
  intro q hq; subst hq; exact ⟨rfl, rfl, hA⟩
 cases wb
 ·exact hno _ rfl
 cases wp
 ·exact hno _ rfl
 by_cases hd : h = .increasing
 ·simp only [hd, decide_true, AK, Bool.and_self, if_true]
  obtain ⟨f1, f2, f3⟩ := Q0 hc (N := N) (show a < b by omega) hb hN h6 (by omega) hA
  rw [f1]
  simp only [oS]
  refine ⟨?_, f2, f3⟩
  cases (partialInsertionSort (B0 c) d a b).2 <;> rfl
 ·simp only [hd, decide_false, As, AK]
  exact hno _ rfl
theorem UP (hc : ∀ x y, P x → P y → cmp (x, y) = some (c x y)) {a p : Nat} {d : Array α} (hb : a ≤ d.size) (hs : d.size ≤ 1000) (hp : p < d.size) (hA : CL P d) (F : Bool → Option (List α)) :
  Bb F (fun j21 => AV (decide (0 < (a : Int))) ((A5 d.toList (wI .i64 ((a : Int) - 1))).bind fun v23 => (A5 d.toList (p : Int)).bind fun v24 => (cmp (v23, v24)).bind fun v25 => j21 (!decide (v25 < 0))) (j21 false)) = F (decide (a > 0) && !B0 c d[a - 1]! d[p]!) := by
 rw [A7]
 by_cases h0 : 0 < a
 ·rw [AG (by omega), wn (e := (a : Int) - 1) (n := a - 1) (by omega) (by omega), gi (show a - 1 < d.size by omega), gi hp]
  simp only [oS]
  rw [hc _ _ (hA.get (by omega)) (hA.get hp)]
  simp only [oS, B0, h0, decide_true, Bool.true_and]
 ·rw [AD (by omega)]
  simp [h0]
theorem S8 (hc : ∀ x y, P x → P y → cmp (x, y) = some (c x y)) {N : Nat} (hN : 1010 ≤ N) : ∀ (w : Nat) (k n : Nat) (d : Array α) (a b limit : Nat) (wb wp : Bool) (J : Unit → Option (List α)), b - a ≤ w → w < n → w ≤ k → a ≤ b → b ≤ d.size → d.size ≤ 1000 → limit ≤ 100 → CL P d →
  Gs.pdqsort_L1 N cmp (Gs.pdqsort_R N k) J n (d.toList, (a : Int), (b : Int), (limit : Int), wb, wp) = some (pdq (B0 c) d a b limit wb wp).toList ∧ (pdq (B0 c) d a b limit wb wp).size = d.size ∧ CL P (pdq (B0 c) d a b limit wb wp) := by
 intro w
 induction w using Nat.strongRecOn with
 | _ w ih =>
 intro k n d a b limit wb wp J hw hn hk hab hb hs hl hA
 obtain ⟨n, rfl⟩ : ∃ q, n = q + 1 := ⟨n - 1, by omega⟩
 rw [Gs.pdqsort_L1, pdq]
 have el : wI .i64 ((b : Int) - (a : Int)) = ((b - a : Nat) : Int) := wn (by omega) (by omega)
 simp only [el]
 by_cases h12 : b - a ≤ 12
 ·rw [AG (by omega), if_pos h12]
  obtain ⟨f1, f2, f3⟩ := Vn hc (N := N) hab hb (by omega) (by omega) hA
  rw [f1]
  exact ⟨rfl, f2, f3⟩
 rw [AD (by omega), if_neg h12]
 by_cases h0 : limit = 0
 ·rw [if_pos h0, show ((limit : Int) == 0) = true from beq_iff_eq.2 (by omega), AK]
  obtain ⟨f1, f2, f3⟩ := Ui hc (N := N) (show a < b by omega) hb (by omega) (by omega) hA
  rw [f1]
  exact ⟨rfl, f2, f3⟩
 rw [if_neg h0, show ((limit : Int) == 0) = false from beq_eq_false_iff_ne.2 (by omega), As]
 -- the recursion
 have rec_ : ∀ (q : Nat) (d : Array α) (a b limit : Nat), b - a ≤ q → q < w → a ≤ b → b ≤ d.size → d.size ≤ 1000 → limit ≤ 100 → CL P d → Gs.pdqsort_R N k d.toList (a : Int) (b : Int) (limit : Int) cmp = some (pdq (B0 c) d a b limit true true).toList ∧ (pdq (B0 c) d a b limit true true).size = d.size ∧ CL P (pdq (B0 c) d a b limit true true) := by
  intro q d a b limit h1 h2 h3 h4 h5 h6 h7
  obtain ⟨k', rfl⟩ : ∃ q, k = q + 1 := ⟨k - 1, by omega⟩
  rw [Gs.pdqsort_R]
  unfold Gs.pdqsort_B
  exact ih (min q 1000) (by omega) k' N d a b limit true true _ (by omega) (by omega) (by omega) h3 h4 h5 h6 h7
 obtain ⟨e1, e2, e3⟩ := S9 (cmp := cmp) (N := N) (a := a) (b := b) (limit := limit) wb (by omega) hb (by omega) hs (by omega) ⟨by omega, hl⟩ hA _
 rw [e1]
 clear e1
 generalize (if !wb then breakPatterns d a b else d) = d1 at e2 e3 ⊢
 generalize hl1 : (if !wb then limit - 1 else limit) = l1
 have hl2 : l1 ≤ 100 := by rw [← hl1]; split <;> omega
 clear hl1
 simp only
 rw [SD hc N (by omega) (by omega) (by omega) e3]
 obtain ⟨p1, p2⟩ := Go.Sort.choosePivot_holds (B0 c) d1 a b (by omega)
 generalize choosePivot (B0 c) d1 a b = cp at p1 p2 ⊢
 obtain ⟨p, h⟩ := cp
 simp only [oS] at p1 p2 ⊢
 obtain ⟨e4, e5, e6⟩ := Tp (cmp := cmp) (N := N) (a := a) (b := b) h (by omega) p1 p2 (by omega) (by omega) (by omega) e3 _
 rw [e4]
 clear e4
 generalize (if h = .decreasing then reverseRange d1 a b else d1) = d2 at e5 e6 ⊢
 generalize hq : (if h = .decreasing then (b - 1) - (p - a) else p) = q
 have hq1 : a ≤ q ∧ q < b := by rw [← hq]; split <;> omega
 clear hq
 generalize (if h = .decreasing then Hint.increasing else h) = h'
 simp only
 obtain ⟨e7, e8, e9⟩ := SB hc (N := N) (a := a) (b := b) wb wp h' (by omega) (show b ≤ d2.size by omega) (by omega) (by omega) (by omega) e6 _
 rw [e7]
 clear e7
 have hpr : (if (wb && wp && decide (h' = Hint.increasing)) = true then partialInsertionSort (B0 c) d2 a b else (d2, false)) = OA c wb wp h' d2 a b := rfl
 rw [hpr]
 by_cases hpi : (OA c wb wp h' d2 a b).2 = true
 ·simp only [hpi, if_true]
  exact ⟨trivial, by omega, e9⟩
 simp only [hpi]
 generalize (OA c wb wp h' d2 a b).1 = d3 at e8 e9 ⊢
 rw [UP hc (by omega) (by omega) (by omega) e9]
 cases (decide (a > 0) && !B0 c d3[a - 1]! d3[q]!)
 ·simp only [As, Bool.false_eq_true, if_false]
  obtain ⟨f1, f2, f3, f4, f5⟩ := Xj hc (N := N) (show a < b by omega) hq1.1 hq1.2 (show b ≤ d3.size by omega) (by omega) (by omega) e9
  rw [f1]
  generalize partition (B0 c) d3 a b q = r at f2 f3 f4 f5 ⊢
  obtain ⟨mid, al, d4⟩ := r
  simp only [oS] at f2 f3 f4 f5 ⊢
  have m1 : wI .i64 ((mid : Int) - (a : Int)) = ((mid - a : Nat) : Int) := wn (by omega) (by omega)
  have m2 : wI .i64 ((b : Int) - (mid : Int)) = ((b - mid : Nat) : Int) := wn (by omega) (by omega)
  have m3 : wI .i64 ((mid : Int) + 1) = ((mid + 1 : Nat) : Int) := wn (by omega) (by omega)
  have m4 : wI .i64 (Int.tdiv ((b - a : Nat) : Int) 8) = (((b - a) / 8 : Nat) : Int) := wn (by rw [Int.tdiv_eq_ediv_of_nonneg (by omega)]; omega) (by omega)
  have m5 : decide ((((b - a) / 8 : Nat) : Int) ≤ ((mid - a : Nat) : Int)) = decide (mid - a ≥ (b - a) / 8) := by rw [decide_eq_decide]; omega
  have m6 : decide ((((b - a) / 8 : Nat) : Int) ≤ ((b - mid : Nat) : Int)) = decide (b - mid ≥ (b - a) / 8) := by rw [decide_eq_decide]; omega
  simp only [m1, m2, m3, m4, m5, m6, dif_pos (show a ≤ mid ∧ mid < b from ⟨f4, f5⟩)]
  by_cases hsm : mid - a < b - mid
  ·rw [AG (by omega)]
   simp only [hsm, if_true]
   obtain ⟨g1, g2, g3⟩ := rec_ (mid - a) d4 a mid l1 (Nat.le_refl _) (by omega) f4 (by omega) (by omega) hl2 f3
   rw [g1]
   simp only [oS]
   obtain ⟨k1, k2, k3⟩ := ih (b - (mid + 1)) (by omega) k n (pdq (B0 c) d4 a mid l1 true true) (mid + 1) b l1 (decide (mid - a ≥ (b - a) / 8)) al J (Nat.le_refl _) (by omega) (by omega) (by omega) (by omega) (by omega) hl2 g3
   exact ⟨k1, by omega, k3⟩
  ·rw [AD (by omega)]
   simp only [hsm, if_false]
   obtain ⟨g1, g2, g3⟩ := rec_ (b - (mid + 1)) d4 (mid + 1) b l1 (Nat.le_refl _) (by omega) (by omega) (by omega) (by omega) hl2 f3
   rw [g1]
   simp only [oS]
   obtain ⟨k1, k2, k3⟩ := ih (mid - a) (by omega) k n (pdq (B0 c) d4 (mid + 1) b l1 true true) a mid l1 (decide (b - mid ≥ (b - a) / 8)) al J (Nat.le_refl _) (by omega) (by omega) (by omega) (by omega) (by omega) hl2 g3
   exact ⟨k1, by omega, k3⟩
 ·simp only [AK, if_true]
  obtain ⟨f1, f2, f3, f4, f5⟩ := Xn hc (N := N) (show a < b by omega) hq1.1 hq1.2 (show b ≤ d3.size by omega) (by omega) (by omega) e9
  rw [f1]
  generalize partitionEqual (B0 c) d3 a b q = r at f2 f3 f4 f5 ⊢
  obtain ⟨mid, d4⟩ := r
  simp only [oS] at f2 f3 f4 f5 ⊢
  simp only [dif_pos (show a < mid ∧ mid ≤ b from ⟨f4, f5⟩)]
  obtain ⟨k1, k2, k3⟩ := ih (b - mid) (by omega) k n d4 mid b l1 wb wp J (Nat.le_refl _) (by omega) (by omega) (by omega) (by omega) (by omega) hl2 f3
  simp only [Bool.false_eq_true, if_false]
  exact ⟨k1, by omega, k3⟩
end
end Go.Lift
namespace Go.Lift
open Go
open Go.Sort (bitsLen pdq SWO PermIn SortedIn)
structure IC {α : Type} (c : α → α → Int) : Prop where
 anti : ∀ x y, c y x = - c x y
 le : ∀ x y z, c x y ≤ 0 → c y z ≤ 0 → c x z ≤ 0
namespace IC
variable {α : Type} {c : α → α → Int}
theorem self (O : IC c) (x : α) : c x x = 0 := by have := O.anti x x; omega
theorem lt1 (O : IC c) {x y z : α} (h : c x y < 0) (h2 : c y z ≤ 0) : c x z < 0 := by
 have h3 := O.le x y z (by omega) h2
 by_cases h0 : c x z = 0
 ·have h4 := O.anti x z
  have h5 := O.le y z x h2 (by omega)
  have h6 := O.anti x y
  omega
 ·omega
theorem lt2 (O : IC c) {x y z : α} (h : c x y ≤ 0) (h2 : c y z < 0) : c x z < 0 := by
 have h3 := O.le x y z h (by omega)
 by_cases h0 : c x z = 0
 ·have h4 := O.anti x z
  have h5 := O.le z x y (by omega) h
  have h6 := O.anti y z
  omega
 ·omega
theorem or {d : α → α → Int} (O : IC c) (Q : IC d) : IC (fun x y => if c x y = 0 then d x y else c x y) := by
 refine ⟨fun x y => ?_, fun x y z => ?_⟩
 ·have := O.anti x y
  by_cases h : c x y = 0
  ·simp only [h, show c y x = 0 by omega, if_true]; exact Q.anti x y
  ·simp only [h, show ¬ c y x = 0 by omega, if_false]; exact this
 ·intro h1 h2
  have a1 : c x y ≤ 0 := by revert h1; split <;> omega
  have a2 : c y z ≤ 0 := by revert h2; split <;> omega
  have a3 := O.le x y z a1 a2
  by_cases h0 : c x z = 0
  ·have b1 : c x y = 0 := by
    by_cases q : c x y = 0
    ·exact q
    ·have := O.lt1 (show c x y < 0 by omega) a2; omega
   have b2 : c y z = 0 := by
    by_cases q : c y z = 0
    ·exact q
    ·have := O.lt2 a1 (show c y z < 0 by omega); omega
   simp only [b1, b2, h0, if_true] at h1 h2 ⊢
   exact Q.le x y z h1 h2
  ·simp only [h0, if_false]; exact a3
theorem swo (O : IC c) : SWO (B0 c) := by
 refine ⟨fun x => ?_, fun x y z => ?_, fun x y z => ?_⟩
 ·unfold B0; rw [O.self x]; rfl
 ·unfold B0; intro h1 h2
  exact decide_eq_true (O.lt1 (of_decide_eq_true h1) (by have := of_decide_eq_true h2; omega))
 ·unfold B0; intro h1 h2
  have := of_decide_eq_false h1
  have := of_decide_eq_false h2
  have := O.anti x y
  have := O.anti y z
  have := O.anti x z
  have := O.le z y x (by omega) (by omega)
  exact decide_eq_false (by omega)
end IC
section
variable {α : Type} [Inhabited α] {P : α → Prop} {cmp : α × α → Option Int} {c : α → α → Int}
theorem R5 (O : IC c) (hc : ∀ x y, P x → P y → cmp (x, y) = some (c x y)) {N : Nat} (hN : 1010 ≤ N) (l : List α) (hl : l.length ≤ 1000) (hP : ∀ x, x ∈ l → P x) :
  ∃ r : List α, Gs.pdqsort N l 0 ((l.length : Nat) : Int) ((bitsLen l.length : Nat) : Int) cmp = some r ∧ r.Perm l ∧ r.Pairwise (fun x y => c x y ≤ 0) := by
 have hb := Q6 hl
 have hA : CL P l.toArray := fun x hx => hP x hx
 obtain ⟨k, rfl⟩ : ∃ q, N = q + 1 := ⟨N - 1, by omega⟩
 obtain ⟨f1, f2, f3⟩ := S8 hc hN 1000 k (k + 1) l.toArray 0 l.length (bitsLen l.length) true true (fun _ => none) (by omega) (by omega) (by omega) (by omega) (by simp) (by simpa using hl) (by omega) hA
 obtain ⟨⟨g0, _, g1⟩, g2⟩ := Go.Sort.sort_sorts (B0 c) O.swo l.toArray
 unfold Go.Sort.sort at g0 g1 g2
 simp only [List.size_toArray] at g0 g1 g2
 refine ⟨_, f1, ?_, ?_⟩
 ·generalize pdq (B0 c) l.toArray 0 l.length (bitsLen l.length) true true = d at g0 g1
  have e1 : (d.extract 0 l.length).toList = d.toList := by rw [← g0]; simp
  have e2 : (l.toArray.extract 0 l.length).toList = l := by simp
  rw [e1, e2] at g1
  exact g1
 ·generalize pdq (B0 c) l.toArray 0 l.length (bitsLen l.length) true true = d at g0 g2
  rw [List.pairwise_iff_getElem]
  intro i j hi hj hij
  have := of_decide_eq_false (g2 i j (Nat.zero_le _) hij (by rw [← g0]; simpa using hj))
  rw [getElem!_pos d i (by simpa using hi), getElem!_pos d j (by simpa using hj)] at this
  have h2 := O.anti d[i] d[j]
  simp only [Array.getElem_toList]
  omega
end
section
variable {α : Type} {c : α → α → Int}
abbrev Iq (c : α → α → Int) (l : List α) : Prop := l.Pairwise (fun x y => c x y < 0)
theorem Nv (O : IC c) : ∀ (a b : List α), Iq c a → Iq c b → (∀ x, x ∈ a ↔ x ∈ b) → a = b
 | [], [], _, _, _ => rfl
 | [], y :: ys, _, _, h => by have := (h y).2 (by simp); simp at this
 | x :: xs, [], _, _, h => by have := (h x).1 (by simp); simp at this
 | x :: xs, y :: ys, ha, hb, h => by
  obtain ⟨a1, a2⟩ := List.pairwise_cons.1 ha
  obtain ⟨b1, b2⟩ := List.pairwise_cons.1 hb
  have exy : x = y := by
   rcases List.mem_cons.1 ((h x).1 (by simp)) with e | e
   ·exact e
   rcases List.mem_cons.1 ((h y).2 (by simp)) with f | f
   ·exact f.symm
   have := b1 x e
   have := a1 y f
   have := O.anti x y
   omega
  subst exy
  rw [Nv O xs ys a2 b2 fun z => ?_]
  constructor
  ·intro hz
   rcases List.mem_cons.1 ((h z).1 (by simp [hz])) with e | e
   ·subst e; have := a1 z hz; have := O.self z; omega
   ·exact e
  ·intro hz
   rcases List.mem_cons.1 ((h z).2 (by simp [hz])) with e | e
   ·subst e; have := b1 z hz; have := O.self z; omega
   ·exact e
end
theorem QQ : IC D6 := ⟨fun a b => IH a b, Rv⟩
theorem IC.pull {α β : Type} {c : α → α → Int} (O : IC c) (f : β → α) : IC (fun x y => c (f x) (f y)) := ⟨fun _x _y => O.anti _ _, fun _x _y _z => O.le _ _ _⟩
theorem ON : IC GZ := by
 have := (QQ.pull Ae.fBase).or ((QQ.pull Ae.fNext).or (QQ.pull Ae.fHeld))
 have e : GZ = fun (x y : Ae) => if D6 x.fBase y.fBase = 0 then (if D6 x.fNext y.fNext = 0 then D6 x.fHeld y.fHeld else D6 x.fNext y.fNext) else D6 x.fBase y.fBase := by
  funext x y
  unfold GZ Qs Qs Qs Qs
  repeat' split
  all_goals (first | rfl | omega | simp_all)
 rw [e]; exact this
end Go.Lift
namespace Go.Lift
open IntKind renaming wrap → wI
open Go
variable {α : Type}
def Gs.compact_L11 (z : α) (N : Nat) (p0 : List α) (p1 : (α × α) → Option Bool) (v2 : Int) (j11 : ((List α) × Int) → Option (Nat × (List α))) : Nat → ((List α) × Int × Int) → Option (Nat × (List α))
 | 0, _ => none
 | n11 + 1, v11 =>
  AV ((decide (v11.2.2 < ((((p0.length - (v2).toNat)) : Nat) : Int))))
   (Bb (fun (v14 : (List α) × Int) =>
    Gs.compact_L11 z N p0 p1 v2 j11 n11 (v14.1, v14.2, (wI .i64 (v11.2.2 + 1))))
   fun j14 =>
   (DE (((v2).toNat) + ((p0.length - (v2).toNat)) ≤ v11.1.length)).bind fun _ =>
   (A5 (((v11.1.drop ((v2).toNat)).take ((p0.length - (v2).toNat)))) v11.2.2).bind fun v15 =>
   (A5 (((v11.1.drop ((v2).toNat)).take ((p0.length - (v2).toNat)))) ((wI .i64 (v11.2.2 - 1)))).bind fun v17 =>
   (p1 ((v15, v17))).bind fun v18 =>
   AV ((!v18))
    ((A5 (((v11.1.drop ((v2).toNat)).take ((p0.length - (v2).toNat)))) v11.2.2).bind fun v20 =>
    (A5 v11.1 v11.2.1).bind fun _ =>
    j14 (v11.1.set ((v11.2.1).toNat) v20, (wI .i64 (v11.2.1 + 1))))
    (j14 (v11.1, v11.2.1)))
   (j11 (v11.1, v11.2.1))
def Gs.compact_L2 (z : α) (N : Nat) (p0 : List α) (p1 : (α × α) → Option Bool) (j2 : Unit → Option (Nat × (List α))) : Nat → Int → Option (Nat × (List α))
 | 0, _ => none
 | n2 + 1, v2 =>
  AV ((decide (v2 < (p0.length : Int))))
   ((A5 p0 v2).bind fun v5 =>
   (A5 p0 ((wI .i64 (v2 - 1)))).bind fun v6 =>
   (p1 ((v5, v6))).bind fun v7 =>
   AV v7
    ((DE ((0 : Int) ≤ v2 ∧ (v2).toNat ≤ p0.length ∧ p0.length ≤ p0.length)).bind fun _ =>
    Gs.compact_L11 z N p0 p1 v2 (fun (v12 : (List α) × Int) =>
     (DE ((0 : Int) ≤ v12.2 ∧ (v12.2).toNat ≤ v12.1.length ∧ v12.1.length ≤ v12.1.length)).bind fun _ =>
     (DE ((0 : Int) ≤ v12.2 ∧ 0 ≤ (v12.2).toNat ∧ (v12.2).toNat ≤ (HP v12.1 ((v12.2).toNat) (List.replicate ((v12.1.length - (v12.2).toNat)) (z))).length)).bind fun _ =>
     some ((v12.2).toNat, HP v12.1 ((v12.2).toNat) (List.replicate ((v12.1.length - (v12.2).toNat)) (z)))) N (p0, v2, 1))
    (Gs.compact_L2 z N p0 p1 j2 n2 (wI .i64 (v2 + 1))))
   (j2 ())
def Gs.compact (z : α) (N : Nat) (p0 : List α) (p1 : (α × α) → Option Bool) : Option (Nat × (List α)) :=
 AV ((decide ((p0.length : Int) < 2)))
  (some (p0.length, p0))
  (Gs.compact_L2 z N p0 p1 (fun (_ : Unit) =>
   some (p0.length, p0)) N 1)
end Go.Lift
namespace Go.Lift
open Option renaming bind_some → oS
open List renaming mem_of_getElem? → lM
open Go
section
variable {α : Type} {c : α → α → Int}
def Gd (c : α → α → Int) (l : List α) (r : List α) (j : Nat) : Prop := Iq c r ∧ ∀ x, x ∈ r ↔ x ∈ l.take (j + 1)
theorem Rd {l r : List α} {j : Nat} (h : Gd c l r j) (hj : j + 1 < l.length) (e : l[j + 1] = l[j]) : Gd c l r (j + 1) := by
 refine ⟨h.1, fun x => ?_⟩
 rw [List.take_succ_eq_append_getElem hj, List.mem_append, ← h.2 x, List.mem_singleton, e]
 constructor
 ·exact .inl
 ·rintro (h1 | rfl)
  ·exact h1
  ·exact (h.2 _).2 (List.mem_take_iff_getElem.2 ⟨j, by omega, rfl⟩)
theorem Re (O : IC c) (h0 : ∀ x y, c x y = 0 → x = y) {l r : List α} {j : Nat} (hs : l.Pairwise (fun x y => c x y ≤ 0)) (h : Gd c l r j) (hj : j + 1 < l.length) (e : l[j + 1] ≠ l[j]) : Gd c l (r ++ [l[j + 1]]) (j + 1) := by
 rw [List.pairwise_iff_getElem] at hs
 refine ⟨List.pairwise_append.2 ⟨h.1, List.pairwise_singleton _ _, fun x hx y hy => ?_⟩, fun x => ?_⟩
 ·rw [List.mem_singleton.1 hy]
  obtain ⟨i, hi, rfl⟩ := List.mem_take_iff_getElem.1 ((h.2 x).1 hx)
  have h1 : c l[j] l[j + 1] < 0 := by
   have := hs j (j + 1) (by omega) hj (by omega)
   by_cases q : c l[j] l[j + 1] = 0
   ·exact absurd (h0 _ _ q).symm e
   ·omega
  by_cases q : i = j
  ·subst q; exact h1
  ·exact O.lt2 (hs i j (by omega) (by omega) (by omega)) h1
 ·rw [List.take_succ_eq_append_getElem hj, List.mem_append, List.mem_append, h.2 x]
variable {P : α → Prop} {eq : α × α → Option Bool} {b : α → α → Bool}
theorem Pm (O : IC c) (h0 : ∀ x y, c x y = 0 → x = y) (z : α) (hc : ∀ x y, P x → P y → eq (x, y) = some (b x y)) (hb : ∀ x y, b x y = true ↔ x = y) (N : Nat) (l : List α) (hl : l.length ≤ 1000) (hP : ∀ x, x ∈ l → P x) (hs : l.Pairwise (fun x y => c x y ≤ 0)) (i0 : Nat) (h1 : 1 ≤ i0) (h2 : i0 < l.length) (J : List α × Int → Option (Nat × List α)) :
  ∀ (n q k : Nat) (a : List α), l.length - q < n → i0 < q → q ≤ l.length → k + 1 ≤ q → a.length = l.length → Gd c l (a.take k) (q - 1) → a.drop (q - 1) = l.drop (q - 1) →
  ∃ (a' : List α) (k' : Nat), Gs.compact_L11 z N l eq (i0 : Int) J n (a, (k : Int), ((q - i0 : Nat) : Int)) = J (a', (k' : Int)) ∧ a'.length = l.length ∧ k' ≤ l.length ∧ Gd c l (a'.take k') (l.length - 1)
 | 0, q, k, a, h, _, _, _, _, _, _ => by omega
 | n + 1, q, k, a, h, hq, hql, hk, ha, hg, hd => by
  rw [Gs.compact_L11]
  simp only [A7, Int.toNat_natCast]
  have at_ : ∀ p, q - 1 ≤ p → p < l.length → a[p]? = l[p]? := by
   intro p hp hpl
   have : (a.drop (q - 1))[p - (q - 1)]? = (l.drop (q - 1))[p - (q - 1)]? := by rw [hd]
   rw [List.getElem?_drop, List.getElem?_drop, show q - 1 + (p - (q - 1)) = p by omega] at this
   exact this
  by_cases h3 : q < l.length
  ·rw [AG (by omega), AA (by omega)]
   have hx : l[q]? = some l[q] := by simp [h3]
   have hy : l[q - 1]? = some l[q - 1] := by simp <;> omega
   have ix : ∀ p, i0 ≤ p → q - 1 ≤ p → p < l.length → A5 ((a.drop i0).take (l.length - i0)) ((p - i0 : Nat) : Int) = l[p]? := by
    intro p g1 g2 g3
    rw [A6, List.getElem?_take_of_lt (by omega), List.getElem?_drop, show i0 + (p - i0) = p by omega]
    exact at_ p g2 g3
   rw [CC (n := ((q - i0 : Nat) : Int) - 1) (by omega) (by omega), show (((q - i0 : Nat) : Int) - 1) = ((q - 1 - i0 : Nat) : Int) by omega, ix q (by omega) (by omega) h3, ix (q - 1) (by omega) (by omega) (by omega), hx, hy]
   simp only [oS]
   rw [hc _ _ (hP _ (lM hx)) (hP _ (lM hy))]
   simp only [oS]
   rw [CC (n := ((q - i0 : Nat) : Int) + 1) (by omega) (by omega), show (((q - i0 : Nat) : Int) + 1) = ((q + 1 - i0 : Nat) : Int) by omega]
   have eq1 : q - 1 + 1 = q := by omega
   by_cases e : l[q] = l[q - 1]
   ·rw [(hb _ _).2 e, Bool.not_true, As]
    refine Pm O h0 z hc hb N l hl hP hs i0 h1 h2 J n (q + 1) k a (by omega) (by omega) (by omega) (by omega) ha ?_ ?_
    ·have := Rd (j := q - 1) hg (by omega) (by simp only [eq1]; exact e)
     rw [eq1] at this; exact this
    ·show a.drop q = l.drop q
     rw [← eq1, ← List.drop_drop, ← List.drop_drop, hd]
   ·have hbf : b l[q] l[q - 1] = false := by
     cases hh : b l[q] l[q - 1] with
     | false => rfl
     | true => exact absurd ((hb _ _).1 hh) e
    rw [hbf, Bool.not_false, AK]
    rw [A6, show a[k]? = some a[k] from by simp <;> omega]
    simp only [oS]
    rw [AZ (by omega)]
    refine Pm O h0 z hc hb N l hl hP hs i0 h1 h2 J n (q + 1) (k + 1) (a.set k l[q]) (by omega) (by omega) (by omega) (by omega) (by simp [ha]) ?_ ?_
    ·have := Re O h0 hs (j := q - 1) hg (by omega) (by simp only [eq1]; exact e)
     simp only [eq1] at this
     rw [List.take_succ_eq_append_getElem (by simp; omega), List.take_set_of_le (by omega), List.getElem_set_self]
     exact this
    ·show (a.set k l[q]).drop q = l.drop q
     rw [List.drop_set_of_lt (by omega), ← eq1, ← List.drop_drop, ← List.drop_drop, hd]
  ·rw [AD (by omega)]
   have : q = l.length := by omega
   subst this
   exact ⟨a, k, rfl, ha, by omega, hg⟩
theorem P2 (O : IC c) (h0 : ∀ x y, c x y = 0 → x = y) (z : α) (hc : ∀ x y, P x → P y → eq (x, y) = some (b x y)) (hb : ∀ x y, b x y = true ↔ x = y) (N : Nat) (hN : 1010 ≤ N) (l : List α) (hl : l.length ≤ 1000) (hP : ∀ x, x ∈ l → P x) (hs : l.Pairwise (fun x y => c x y ≤ 0)) :
  ∀ (n i : Nat), l.length - i < n → 1 ≤ i → i ≤ l.length → Gd c l (l.take i) (i - 1) →
  ∃ (k : Nat) (r : List α), Gs.compact_L2 z N l eq (fun _ => some (l.length, l)) n (i : Int) = some (k, r) ∧ k ≤ r.length ∧ Gd c l (r.take k) (l.length - 1)
 | 0, i, h, _, _, _ => by omega
 | n + 1, i, h, h1, h2, hg => by
  rw [Gs.compact_L2]
  by_cases h3 : i < l.length
  ·have hx : l[i]? = some l[i] := by simp [h3]
   have hy : l[i - 1]? = some l[i - 1] := by simp <;> omega
   have eq1 : i - 1 + 1 = i := by omega
   rw [AG (by omega), CC (n := (i : Int) - 1) (by omega) (by omega), show ((i : Int) - 1) = ((i - 1 : Nat) : Int) by omega]
   simp only [A6, hx, hy, oS]
   rw [hc _ _ (hP _ (lM hx)) (hP _ (lM hy))]
   simp only [oS, Int.toNat_natCast]
   by_cases e : l[i] = l[i - 1]
   ·rw [(hb _ _).2 e, AK, AA (by omega)]
    have hg2 : Gd c l (l.take i) i := by
     have := Rd (j := i - 1) hg (by omega) (by simp only [eq1]; exact e)
     rw [eq1] at this; exact this
    obtain ⟨a', k', e1, e2, e3, e4⟩ := Pm O h0 z hc hb N l hl hP hs i h1 h3 (fun (v12 : (List α) × Int) =>
     (DE ((0 : Int) ≤ v12.2 ∧ (v12.2).toNat ≤ v12.1.length ∧ v12.1.length ≤ v12.1.length)).bind fun _ =>
     (DE ((0 : Int) ≤ v12.2 ∧ 0 ≤ (v12.2).toNat ∧ (v12.2).toNat ≤ (HP v12.1 ((v12.2).toNat) (List.replicate ((v12.1.length - (v12.2).toNat)) (z))).length)).bind fun _ =>
     some ((v12.2).toNat, HP v12.1 ((v12.2).toNat) (List.replicate ((v12.1.length - (v12.2).toNat)) (z)))) N (i + 1) i l (by omega) (by omega) (by omega) (by omega) rfl hg2 rfl
    rw [show ((i + 1 - i : Nat) : Int) = 1 by omega] at e1
    rw [e1]
    simp only [Int.toNat_natCast]
    have hsp : (HP a' k' (List.replicate (a'.length - k') z)).take k' = a'.take k' ∧ k' ≤ (HP a' k' (List.replicate (a'.length - k') z)).length := by
     unfold HP
     constructor
     ·simp only [List.append_assoc]
      rw [List.take_append_of_le_length (by simp; omega), List.take_take, Nat.min_self]
     ·simp; omega
    rw [AA (by omega), AA (by omega)]
    exact ⟨k', _, rfl, hsp.2, by rw [hsp.1]; exact e4⟩
   ·have hbf : b l[i] l[i - 1] = false := by
     cases hh : b l[i] l[i - 1] with
     | false => rfl
     | true => exact absurd ((hb _ _).1 hh) e
    rw [hbf, As, AZ (by omega)]
    refine P2 O h0 z hc hb N hN l hl hP hs n (i + 1) (by omega) (by omega) (by omega) ?_
    have := Re O h0 hs (j := i - 1) hg (by omega) (by simp only [eq1]; exact e)
    simp only [eq1] at this
    rw [List.take_succ_eq_append_getElem h3]
    exact this
  ·rw [AD (by omega)]
   have : i = l.length := by omega
   subst this
   exact ⟨_, _, rfl, Nat.le_refl _, hg⟩
theorem RY (O : IC c) (h0 : ∀ x y, c x y = 0 → x = y) (z : α) (hc : ∀ x y, P x → P y → eq (x, y) = some (b x y)) (hb : ∀ x y, b x y = true ↔ x = y) {N : Nat} (hN : 1010 ≤ N) (l : List α) (hl : l.length ≤ 1000) (hP : ∀ x, x ∈ l → P x) (hs : l.Pairwise (fun x y => c x y ≤ 0)) :
  ∃ (k : Nat) (r : List α), Gs.compact z N l eq = some (k, r) ∧ k ≤ r.length ∧ Iq c (r.take k) ∧ ∀ x, x ∈ r.take k ↔ x ∈ l := by
 unfold Gs.compact
 match l, hl, hP, hs with
 | [], _, _, _ => exact ⟨0, [], rfl, Nat.le_refl _, by simp, by simp⟩
 | [x], _, _, _ => exact ⟨1, [x], rfl, Nat.le_refl _, by simp, by simp⟩
 | x :: y :: l, hl, hP, hs =>
  rw [AD (by simp; omega)]
  obtain ⟨k, r, e1, e2, e3, e4⟩ := P2 O h0 z hc hb N hN (x :: y :: l) hl hP hs N 1 (by omega) (by omega) (by simp) ⟨by simp, by simp⟩
  refine ⟨k, r, e1, e2, e3, fun w => ?_⟩
  rw [e4 w, List.take_of_length_le (by simp)]
end
end Go.Lift
namespace Go.Lift
open Go
instance : Inhabited Av := ⟨⟨0, 0, 0⟩⟩
def X4 (a b : Av) : Bool := (a.fTable == b.fTable) && ((a.fWriter == b.fWriter) && ((a.fReader == b.fReader) && true))
theorem RA (a b : Av) : X4 a b = true ↔ a = b := by
 cases a; cases b
 simp [X4]
instance Xz : DecidableEq Av := fun a b => if h : X4 a b = true then isTrue ((RA a b).1 h) else isFalse fun e => h ((RA a b).2 e)
end Go.Lift
namespace Go.Lift
open Option renaming bind_some → oS
open List renaming mem_of_getElem? → lM
open Go
def FC (p : Ah) : Nat → Ae → List Ae → List Au → List Ae × Int × Int
 | i, _, acc, [] => (acc, (i : Int), 0)
 | i, m, acc, s :: ss => if (E6 p m s).2 ≠ 0 then ([], (i : Int), (E6 p m s).2) else FC p (i + 1) (E6 p m s).1 (acc ++ [(E6 p m s).1]) ss
theorem Pr (N : Nat) (hN : N ≤ 1000000) (h20 : 100 ≤ N) {p : Ah} (hv : Cx p = 0) (l : List Au) (hl : l.length ≤ 1000) : ∀ (n i : Nat) (m : Ae) (acc : List Ae), i ≤ l.length → l.length - i < n → Cp p m → acc.length = i + 1 → acc[i]? = some m →
  E9 N p l (fun v5 => some (v5, (l.length : Int), 0)) n (acc, (i : Int)) = some (FC p i m acc (l.drop i))
 | 0, i, _, _, _, h, _, _, _ => by omega
 | n + 1, i, m, acc, hi, h, hm, ha, hg => by
  obtain ⟨hp, _⟩ := DB hv
  rw [E9]
  by_cases h1 : i < l.length
  ·have hx : l[i]? = some l[i] := by simp [h1]
   rw [AG (by first | omega | (simp only; omega)), Cu hx, FC]
   simp only [A6, hx, hg, oS]
   rw [NS N hN h20 hp hm]
   simp only [oS]
   by_cases h2 : (E6 p m l[i]).2 = 0
   ·rw [h2, if_neg (by simp), bne_self_eq_false, As, AA (by simp [Dw]; omega), AZ (by omega)]
    exact Pr N hN h20 hv l hl n (i + 1) (E6 p m l[i]).1 (acc ++ [(E6 p m l[i]).1]) (by omega) (by omega) (Lo hp hm h2) (by simp [ha]) (by rw [← ha]; simp)
   ·rw [if_pos h2, bne_iff_ne.2 h2, AK]
  ·rw [AD (by first | omega | (simp only; omega)), List.drop_eq_nil_of_le (by omega), FC, show i = l.length by omega]
theorem NZ (N : Nat) (hN : N ≤ 1000000) (h20 : 100 ≤ N) {p : Ah} (hv : Cx p = 0) (l : List Au) (hl : l.length ≤ 1000) : ∀ (n i : Nat) (m : Ae) (acc : List Ae), i ≤ l.length → l.length - i < n → Cp p m → acc.length = i + 1 → acc[i]? = some m →
  Da N p l (fun v5 => some (v5, (l.length : Int), 0)) n (acc, (i : Int)) = some (FC p i m acc (l.drop i))
 | 0, i, _, _, _, h, _, _, _ => by omega
 | n + 1, i, m, acc, hi, h, hm, ha, hg => by
  obtain ⟨hp, _⟩ := DB hv
  rw [Da]
  by_cases h1 : i < l.length
  ·have hx : l[i]? = some l[i] := by simp [h1]
   rw [AG (by first | omega | (simp only; omega)), Cu hx, FC]
   simp only [A6, hx, hg, oS]
   rw [OF N hN h20 (L4 hm), JA hv hm, if_pos rfl]
   simp only [oS]
   by_cases h2 : (E6 p m l[i]).2 = 0
   ·rw [h2, if_neg (by simp), bne_self_eq_false, As, AA (by simp [Dw]; omega), AZ (by omega)]
    exact NZ N hN h20 hv l hl n (i + 1) (E6 p m l[i]).1 (acc ++ [(E6 p m l[i]).1]) (by omega) (by omega) (Lo hp hm h2) (by simp [ha]) (by rw [← ha]; simp)
   ·rw [if_pos h2, bne_iff_ne.2 h2, AK]
  ·rw [AD (by first | omega | (simp only; omega)), List.drop_eq_nil_of_le (by omega), FC, show i = l.length by omega]
theorem O8 (N : Nat) (hN : N ≤ 1000000) (h20 : 100 ≤ N) {p : Ah} {m : Ae} (hv : Cx p = 0) (hm : Cp p m) (l : List Au) (hl : l.length ≤ 60) :
  Ht N p m l = some (FC p 0 m [m] l) := by
 obtain ⟨hp, _⟩ := DB hv
 unfold Ht
 rw [K4 N p m hN (by omega) (L4 hm), JA hv hm]
 simp only [oS, bne_self_eq_false, As]
 rw [Of N hp hm]
 exact Pr N hN h20 hv l (by omega) N 0 m [m] (Nat.zero_le _) (by omega) hm rfl rfl
theorem L9 (N : Nat) (hN : N ≤ 1000000) (h20 : 100 ≤ N) {p : Ah} {m : Ae} (hv : Cx p = 0) (hm : Cp p m) (l : List Au) (hl : l.length ≤ 60) :
  EC N p m l = some (FC p 0 m [m] l) := by
 unfold EC
 rw [K6 N p m hN (by omega), JA hv hm]
 simp only [oS, bne_self_eq_false, As]
 exact NZ N hN h20 hv l (by omega) N 0 m [m] (Nat.zero_le _) (by omega) hm rfl rfl
theorem Kw {p : Ah} (hp : Ca p) : ∀ (ss : List Au) (i : Nat) (m : Ae) (acc : List Ae), Cp p m → (∀ x, x ∈ acc → Cp p x) → acc.length = i + 1 →
  (FC p i m acc ss).2.2 ≠ 0 ∨ ((FC p i m acc ss).2.2 = 0 ∧ (FC p i m acc ss).2.1 = ((i + ss.length : Nat) : Int) ∧ (FC p i m acc ss).1.length = i + ss.length + 1 ∧ ∀ x, x ∈ (FC p i m acc ss).1 → Cp p x)
 | [], i, m, acc, hm, ha, hl => .inr ⟨rfl, rfl, by simpa [FC] using hl, ha⟩
 | s :: ss, i, m, acc, hm, ha, hl => by
  rw [FC]
  by_cases h : (E6 p m s).2 = 0
  ·rw [if_neg (by simp [h])]
   have hk := Lo hp hm h
   have := Kw hp ss (i + 1) _ (acc ++ [(E6 p m s).1]) hk (fun x hx => by
    rcases List.mem_append.1 hx with hx | hx
    ·exact ha x hx
    ·rw [List.mem_singleton.1 hx]; exact hk) (by simp [hl])
   rw [show i + (s :: ss).length = i + 1 + ss.length from by simp; omega]
   exact this
  ·rw [if_pos h]; exact .inl h
theorem HK (N : Nat) (hN : N ≤ 1000000) (h20 : 100 ≤ N) {p : Ah} (hv : Cx p = 0) (l : List Au) (hl : l.length ≤ 60) : FI N p l = some (FC p 0 (Bz p) [Bz p] l) := by
 unfold FI
 rw [OL N p hN h20, if_pos hv, hv]
 simp only [oS, bne_self_eq_false, As]
 rw [O8 N hN h20 hv (JH hv) l hl]; rfl
theorem N0 (N : Nat) (hN : N ≤ 1000000) (h20 : 100 ≤ N) {p : Ah} (hv : Cx p = 0) (l : List Ae) (hl : l.length ≤ 100) (hm : ∀ x, x ∈ l → Cp p x) (e : Int × Int) : ∀ (n i : Nat), i ≤ l.length → l.length - i < n →
  Et N p (l, e) (fun _ => some (true, 0)) n (i : Int) = some ((l.drop i).all (HH p), 0)
 | 0, i, _, h => by omega
 | n + 1, i, hi, h => by
  obtain ⟨hp, _⟩ := DB hv
  rw [Et]
  by_cases h1 : i < l.length
  ·have hx : l[i]? = some l[i] := by simp [h1]
   have hk := hm _ (lM hx)
   rw [AG (by first | omega | (simp only; omega)), Cu hx]
   simp only [A7, A6, hx, oS]
   rw [NJ N p _ hN h20 (L4 hk) (JA hv hk)]
   simp only [oS, bne_self_eq_false, As, List.all_cons]
   cases hr : HH p l[i]
   ·rfl
   ·rw [Bool.not_true, As, AZ (by omega), N0 N hN h20 hv l hl hm e n (i + 1) (by omega) (by omega)]; rfl
  ·rw [AD (by first | omega | (simp only; omega)), List.drop_eq_nil_of_le (by omega)]; rfl
theorem Ur (N : Nat) (hN : N ≤ 1000000) (h20 : 100 ≤ N) {p : Ah} (hv : Cx p = 0) (l : List Au) (hl : l.length ≤ 60) (h0 : (FC p 0 (Bz p) [Bz p] l).2.2 = 0) : Er N p l = some ((FC p 0 (Bz p) [Bz p] l).1.all (HH p), 0) := by
 obtain ⟨hp, _⟩ := DB hv
 unfold Er
 rw [HK N hN h20 hv l hl]
 have hs := JH hv
 have hR := Kw hp l 0 (Bz p) [Bz p] hs (fun x hx => by rw [List.mem_singleton.1 hx]; exact hs) rfl
 obtain ⟨_, _, h2, h3⟩ := hR.resolve_left (by simp [h0])
 simp only [oS]
 rw [h0, bne_self_eq_false, As]
 generalize FC p 0 (Bz p) [Bz p] l = r at h2 h3
 have := N0 N hN h20 hv r.1 (by omega) h3 r.2 N 0 (Nat.zero_le _) (by omega)
 simpa using this
def JC (x : Ae) : List Ae → List Ae
 | [] => [x]
 | y :: ys => if GZ y x = 0 then y :: ys else if 0 < GZ y x then x :: y :: ys else y :: JC x ys
theorem K5 {x : Ae} : ∀ {l : List Ae} {z : Ae}, z ∈ JC x l ↔ z = x ∨ z ∈ l
 | [], z => by simp [JC]
 | y :: ys, z => by
  simp only [JC]
  split
  ·rename_i h
   have h := JL h
   constructor
   ·exact fun hz => .inr hz
   ·rintro (rfl | hz)
    ·rw [h]; simp
    ·exact hz
  ·split
   ·simp
   ·rw [List.mem_cons, K5, List.mem_cons]
    constructor
    ·rintro (h | h | h)
     ·exact .inr (.inl h)
     ·exact .inl h
     ·exact .inr (.inr h)
    ·rintro (h | h | h)
     ·exact .inr (.inl h)
     ·exact .inl h
     ·exact .inr (.inr h)
theorem M9 (x : Ae) : ∀ (l : List Ae), (JC x l).length ≤ l.length + 1 ∧ l.length ≤ (JC x l).length
 | [] => by simp [JC]
 | y :: ys => by
  have := M9 x ys
  simp only [JC]
  split
  ·simp
  ·split
   ·simp
   ·simp only [List.length_cons]; omega
theorem LJ {x : Ae} : ∀ {l : List Ae}, Iq GZ l → Iq GZ (JC x l)
 | [], _ => by simp [JC, Iq]
 | y :: ys, h => by
  obtain ⟨h1, h2⟩ := List.pairwise_cons.1 h
  simp only [JC]
  split
  ·exact h
  ·split
   ·rename_i h0 hx
    have hxy : GZ x y < 0 := by rw [RP y x]; omega
    refine List.pairwise_cons.2 ⟨fun z hz => ?_, h⟩
    rcases List.mem_cons.1 hz with rfl | hz
    ·exact hxy
    ·have := h1 z hz
     exact ON.lt1 hxy (by omega)
   ·rename_i h0 hx
    refine List.pairwise_cons.2 ⟨fun z hz => ?_, LJ h2⟩
    rcases K5.1 hz with rfl | hz
    ·omega
    ·exact h1 z hz
theorem QZ {N : Nat} {p : Ah} {a b : Ae} (hN : N ≤ 1000000) (h20 : 100 ≤ N) (hp : Ca p) (ha : Cp p a) (hb : Cp p b) : Cw N a b = some (GZ a b) := by
 have hnv := hp.nv
 have hnt := hp.nt
 exact Mc hN (by rw [ha.base]; omega) (by rw [ha.next]; omega) (by rw [ha.held]; omega) (by rw [hb.held]; omega) (L4 ha) (L4 hb)
theorem PM (N : Nat) (hN : N ≤ 1000000) (h20 : 100 ≤ N) {p : Ah} (hp : Ca p) {l : List Ae} (hl : l.length ≤ 100000) (hA : ∀ x, x ∈ l → Cp p x) {x : Ae} (hx : Cp p x) : ∀ (n i : Nat), l.length - i < n → i ≤ l.length →
  C7 N l x (fun (_ : Unit) => (DE (l.length + (([x] : List Ae)).length ≤ Dw)).bind fun _ => some (l ++ (([x] : List Ae)))) n (i : Int) = some (l.take i ++ JC x (l.drop i))
 | 0, i, h, _ => by omega
 | n + 1, i, h, hi => by
  rw [C7]
  by_cases h1 : i < l.length
  ·have hy : l[i]? = some l[i] := by simp [h1]
   have hyo := hA _ (lM hy)
   rw [AG (by omega), Cu hy]
   simp only [A6, hy, oS]
   rw [QZ hN h20 hp hyo hx]
   simp only [oS, JC]
   by_cases e : GZ l[i] x = 0
   ·rw [e, if_pos rfl, show ((0:Int) == 0) = true from rfl, AK, ← Cu hy, List.take_append_drop]
   ·rw [show (GZ l[i] x == 0) = false from by simpa using e, As, if_neg e]
    by_cases e2 : 0 < GZ l[i] x
    ·rw [AG e2, if_pos e2]
     simp only [Int.toNat_natCast, Nat.zero_le, Nat.zero_add, List.drop_zero, List.nil_append, List.length_nil, Int.natCast_nonneg, Nat.le_refl, and_true, true_and]
     rw [AA (by omega), AA (by simp [Dw]; omega), AA (by simp [Dw]; omega), AA (by omega), AA (by simp [Dw]; omega)]
     have ht : (l.drop i).take (l.length - i) = l.drop i := List.take_of_length_le (by rw [List.length_drop]; omega)
     rw [← Cu hy, ht, List.append_assoc]
     rfl
    ·rw [AD e2, if_neg e2, AZ (by omega), PM N hN h20 hp hl hA hx n (i + 1) (by omega) (by omega)]
     rw [List.take_add_one, hy, List.append_assoc]; rfl
  ·have : i = l.length := by omega
   subst this
   rw [AD (by omega), AA (by simp [Dw]; omega), List.drop_length, List.take_length]
   rfl
theorem V1 (N : Nat) (hN : N ≤ 1000000) (h20 : 100 ≤ N) {p : Ah} (hp : Ca p) {l : List Ae} (hl : l.length ≤ 100000) (hl2 : l.length < N) (hA : ∀ x, x ∈ l → Cp p x) {x : Ae} (hx : Cp p x) : EA N l x = some (JC x l) := by
 unfold EA
 have := PM N hN h20 hp hl hA hx N 0 (by omega) (Nat.zero_le _)
 rw [List.take_zero, List.drop_zero, List.nil_append] at this
 exact this
def FU (a : List Ae) : List Ae → List Ae
 | [] => a
 | x :: xs => FU (JC x a) xs
theorem Kn {z : Ae} : ∀ {xs a : List Ae}, z ∈ FU a xs ↔ z ∈ a ∨ z ∈ xs
 | [], a => by simp [FU]
 | x :: xs, a => by
  simp only [FU]
  rw [Kn, K5, List.mem_cons]
  constructor
  ·rintro ((h | h) | h)
   ·exact .inr (.inl h)
   ·exact .inl h
   ·exact .inr (.inr h)
  ·rintro (h | h | h)
   ·exact .inl (.inr h)
   ·exact .inl (.inl h)
   ·exact .inr h
theorem J7 : ∀ {xs a : List Ae}, Iq GZ a → Iq GZ (FU a xs)
 | [], _, h => h
 | _ :: xs, _, h => J7 (xs := xs) (LJ h)
theorem Kb : ∀ (xs a : List Ae), (FU a xs).length ≤ a.length + xs.length
 | [], a => by simp [FU]
 | x :: xs, a => by
  have h1 := Kb xs (JC x a)
  have h2 := M9 x a
  simp only [FU, List.length_cons]; omega
instance Xs : Inhabited Ae := ⟨GE⟩
theorem TV : Gs.pdqsort = @Gs.pdqsort Ae := by kernel_rfl
theorem Qb : BH = @Gs.compact Ae (Ae.mk [] [] []) := by kernel_rfl
theorem LO {N : Nat} (hN : N ≤ 1000000) {a b : Ae} (h1 : a.fBase.length < N) (h2 : a.fNext.length < N) (h3 : a.fHeld.length < N) (h4 : 3 < N) : Cl N a b = some (GZ a b) := by
 unfold Cl
 rw [Nj h1 hN, Nj h2 hN, Qh h3 hN]
 simp only [oS]
 rw [VG (by simp; omega) hN]
 rfl
theorem Se {N : Nat} (hN : N ≤ 1000000) (h20 : 1010 ≤ N) {p : Ah} (hp : Ca p) (l : List Ae) (hl : l.length ≤ 1000) (hm : ∀ x, x ∈ l → Cp p x) :
  ∃ r : List Ae, Bk N l (fun (x : Ae × Ae) => Cl N x.1 x.2) = some r ∧ r.Perm l ∧ r.Pairwise (fun x y => GZ x y ≤ 0) := by
 have hcmp : ∀ x y : Ae, Cp p x → Cp p y → (fun (x : Ae × Ae) => Cl N x.1 x.2) (x, y) = some (GZ x y) := fun x y hx _ => by
  have := hp.nv
  have := hp.nt
  exact LO hN (by rw [hx.base]; omega) (by rw [hx.next]; omega) (by rw [hx.held]; omega) (by omega)
 obtain ⟨r1, s1, s2, s3⟩ := R5 (cmp := fun (x : Ae × Ae) => Cl N x.1 x.2) ON hcmp (N := N) h20 l hl hm
 unfold Bk
 rw [IX (by omega), S7 N hl, TV]
 simp only [oS]
 rw [s1]
 exact ⟨r1, rfl, s2, s3⟩
theorem Ms (N : Nat) (hN : N ≤ 1000000) (h20 : 100 ≤ N) {p : Ah} (hv : Cx p = 0) (l : List Ae) (hl : l.length ≤ 100) (hm : ∀ x, x ∈ l → Cp p x) (e : Int × Int) (J : List Ae → Option (List Ae × Int)) : ∀ (n i : Nat) (a : List Ae), i ≤ l.length → l.length - i < n → a.length ≤ 64 * i →
  Eg N p (l, e) J n (a, (i : Int)) = J (a ++ (l.drop i).flatMap DC)
 | 0, i, _, _, h, _ => by omega
 | n + 1, i, a, hi, h, ha => by
  obtain ⟨hp, _⟩ := DB hv
  rw [Eg]
  by_cases h1 : i < l.length
  ·have hx : l[i]? = some l[i] := by simp [h1]
   have hk := hm _ (lM hx)
   have hal := Jc (m := l[i]) (by rw [hk.next]; exact hp.nv)
   rw [AG (by first | omega | (simp only; omega)), Cu hx]
   simp only [A6, hx, oS]
   rw [JX N p _ hN h20 (L4 hk) (JA hv hk)]
   simp only [oS, bne_self_eq_false, As]
   rw [AA (by simp only [Dw]; omega), AZ (by omega), Ms N hN h20 hv l hl hm e J n (i + 1) _ (by omega) (by omega) (by simp; omega)]
   rw [List.flatMap_cons, List.append_assoc]
  ·rw [AD (by first | omega | (simp only; omega)), List.drop_eq_nil_of_le (by omega)]
   simp
theorem Np {p : Ah} (hp : Ca p) : ∀ (l : List Ae), (∀ x, x ∈ l → Cp p x) → (l.flatMap DC).length ≤ 64 * l.length
 | [], _ => by simp
 | m :: l, h => by
  have h1 := Jc (m := m) (by rw [(h m (by simp)).next]; exact hp.nv)
  have h2 := Np hp l fun x hx => h x (by simp [hx])
  rw [List.flatMap_cons, List.length_append, List.length_cons]
  omega
theorem SM (N : Nat) (hN : N ≤ 1000000) (h20 : 1010 ≤ N) {p : Ah} (hv : Cx p = 0) (l : List Au) (hl : l.length ≤ 14) (h0 : (FC p 0 (Bz p) [Bz p] l).2.2 = 0) :
  ∃ A : List Ae, Ee N p l = some (A, 0) ∧ Iq GZ A ∧ ∀ x, x ∈ A ↔ ∃ m, m ∈ (FC p 0 (Bz p) [Bz p] l).1 ∧ Mh m x := by
 obtain ⟨hp, _⟩ := DB hv
 unfold Ee
 rw [HK N hN (by omega) hv l (by omega)]
 have hs := JH hv
 have hR := Kw hp l 0 (Bz p) [Bz p] hs (fun x hx => by rw [List.mem_singleton.1 hx]; exact hs) rfl
 obtain ⟨_, _, h2, h3⟩ := hR.resolve_left (by simp [h0])
 simp only [oS]
 rw [h0, bne_self_eq_false, As]
 generalize FC p 0 (Bz p) [Bz p] l = r at h2 h3
 have e := Ms N hN (by omega) hv r.1 (by omega) h3 r.2 (fun (v4 : (List Ae)) =>
   (Bk N v4 ((fun (x : Ae × Ae) => Cl N x.1 x.2))).bind fun v10 =>
   (BH N v10 ((fun (x : Ae × Ae) => CY N x.1 x.2))).bind fun v11 =>
   (DE (v11.1 ≤ v11.2.length)).bind fun _ =>
   some (v11.2.take v11.1, 0)) N 0 [] (Nat.zero_le _) (by omega) (Nat.zero_le _)
 have hfl := Np hp r.1 h3
 have hok : ∀ x, x ∈ r.1.flatMap DC → Cp p x := fun x hx => by
  obtain ⟨m, hm, hx⟩ := List.mem_flatMap.1 hx
  exact Rg hp (h3 m hm) (D1.1 hx)
 obtain ⟨r1, s1, s2, s3⟩ := Se hN h20 hp (r.1.flatMap DC) (by omega) hok
 have heq : ∀ x y : Ae, Cp p x → Cp p y → (fun (x : Ae × Ae) => CY N x.1 x.2) (x, y) = some (decide (x = y)) := fun x y hx _ => by
  have := hp.nv
  have := hp.nt
  show CY N x y = _
  unfold CY
  rw [LO hN (by rw [hx.base]; omega) (by rw [hx.next]; omega) (by rw [hx.held]; omega) (by omega)]
  simp only [oS]
  rw [PY]
 obtain ⟨k, t, t1, t2, t3, t4⟩ := RY (eq := fun (x : Ae × Ae) => CY N x.1 x.2) ON (fun _ _ h => JL h) (Ae.mk [] [] []) heq (fun x y => by simp) (N := N) h20 r1 (by rw [s2.length_eq]; omega) (fun x hx => hok x (s2.mem_iff.1 hx)) s3
 refine ⟨t.take k, ?_, t3, fun x => ?_⟩
 ·refine Eq.trans e ?_
  rw [List.drop_zero, List.nil_append, s1]
  simp only [oS]
  rw [Qb, t1]
  simp only [oS]
  rw [AA t2]
 ·rw [t4 x, s2.mem_iff, List.mem_flatMap]
  constructor
  ·rintro ⟨m, hm, hx⟩; exact ⟨m, hm, D1.1 hx⟩
  ·rintro ⟨m, hm, hx⟩; exact ⟨m, hm, D1.2 hx⟩
theorem OJ : Dn 2000 = some true := by kernel_rfl
end Go.Lift
