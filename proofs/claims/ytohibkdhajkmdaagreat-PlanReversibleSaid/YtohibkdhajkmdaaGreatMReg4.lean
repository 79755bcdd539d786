/- Lemmas for PlanReversibleSaid, which YtohibkdhajkmdaaGreatFinP11 proves. -/
import Derived.Test.YtohibkdhajkmdaaGreatDec
import Derived.KernelRfl
open Bool renaming and_eq_true → zA6, and_eq_true_iff → zH2, and_true → zK2, false_and → zI5, false_or → zH1, not_false → zD6, not_true → zB7, or_eq_false_iff → zI4, or_eq_true → zF7, or_true → zK9, true_and → zE8
open Int renaming eq_ofNat_of_zero_le → zA7, ofNat_inj → zK6, tmod → zB5, toNat_natCast → zB2
open List renaming all_eq_true → zA3, any_eq_false → zJ3, any_eq_true → zD3, append_assoc → zD7, cons_append → zG7, drop_eq_nil_of_le → zB0, drop_zero → zB9, eq_nil_of_length_eq_zero → zD1, filter_append → zF3, flatMap_append → zI9, flatMap_eq_nil_iff → zK7, getD_cons_succ → zI8, getD_cons_zero → zJ6, getElem?_append_left → zC1, getElem?_append_right → zC9, getElem?_drop → zF1, getElem?_eq_getElem → zC3, getElem?_eq_none → zD5, getElem?_map → zA1, getElem?_set → zI1, getElem?_take_of_lt → zC7, getElem_mem → zF6, length → zF4, length_append → zB8, length_cons → zC8, length_map → zB1, length_range → zG9, length_set → zI3, length_singleton → zE3, map_append → zF0, map_cons → zD0, mem_append → zC2, mem_append_left → zE7, mem_cons → zC6, mem_cons_of_mem → zE4, mem_iff_getElem? → zA8, mem_map → zB6, mem_range → zE0, mem_singleton → zD2, nil_append → zH3, pairwise_append → zH9, pairwise_lt_range → zJ0, pairwise_map → zJ4, range → zB3, range_succ → zG5, replicate → zA5, take_add_one → zD9, take_length → zH4, take_of_length_le → zK8
open Nat renaming add_assoc → zF5, add_zero → zF9, eq_zero_or_pos → zJ2, le_refl → zB4, le_trans → zH5, mul_le_mul_right → zA2, succ_mul → zC0, zero_add → zA4, zero_le → zA9
open Option renaming getD_some → zC5, map_some → zF2
namespace Go.Lift
open IntKind renaming wrap → wI
open Option renaming bind_some → oS
open List renaming getElem?_eq_some_iff → lI
theorem AS {α : Type} (xs : List α) (i : Nat) : BC xs (i : Int) = xs[i]? := by
 unfold BC; simp
theorem Dw {n : Int} (h0 : -9223372036854775808 ≤ n) (h1 : n ≤ 9223372036854775807) : wI .i64 n = n := by
 simp [wI, IntKind.signed, IntKind.bits]; omega
theorem AE {i : Nat} (h : i < 1000000) : wI .i64 ((i : Int) + 1) = ((i + 1 : Nat) : Int) := by
 rw [Dw (by omega) (by omega)]; simp
@[simp] theorem AG {α : Type} {a b : Option α} : AN true a b = a := rfl
@[simp] theorem Am {α : Type} {a b : Option α} : AN false a b = b := rfl
theorem AD {α : Type} {p : Prop} [Decidable p] {a b : Option α} (h : p) : AN (decide p) a b = a := by simp [h]
theorem AB {α : Type} {p : Prop} [Decidable p] {a b : Option α} (h : ¬ p) : AN (decide p) a b = b := by simp [h]
def YA (a b : Int) : Int := if a < b then -1 else if b < a then 1 else 0
def EK : List Int → List Int → Int
 | [], [] => 0
 | [], _ :: _ => -1
 | _ :: _, [] => 1
 | a :: as1, b :: bs => if a < b then -1 else if b < a then 1 else EK as1 bs
theorem WE (N : Nat) (a b : Int) : Fb N a b = some (YA a b) := by
 unfold Fb FC YA
 by_cases h1 : a < b <;> by_cases h2 : b < a <;> simp [h1, h2]
theorem Wv (N : Nat) (a b : Int) : D6 N a b = some (YA a b) := by
 unfold D6 EI YA
 by_cases h1 : a < b <;> by_cases h2 : b < a <;> simp [h1, h2]
theorem CW {α : Type} {xs : List α} {i : Nat} {x : α} (h : xs[i]? = some x) : xs.drop i = x :: xs.drop (i + 1) := by
 obtain ⟨hi, rfl⟩ := lI.1 h
 exact List.drop_eq_getElem_cons hi
theorem RY (N : Nat) (a b : List Int) (hb : a.length < 1000000) : ∀ (n i : Nat), i ≤ a.length → i ≤ b.length → a.length - i < n →
  Cj N a b (fun _ => AN (decide ((a.length : Int) < (b.length : Int))) (some (-1)) (some 0)) n (i : Int) = some (EK (a.drop i) (b.drop i))
 | 0, i, _, _, h => by omega
 | n + 1, i, hi, hj, h => by
  unfold Cj
  by_cases h1 : i < a.length
  ·rw [AD (by omega), AS]
   have ha : a[i]? = some a[i] := by simp [h1]
   rw [ha, CW ha]
   simp only [oS]
   by_cases h2 : i < b.length
   ·rw [AB (by omega), AS]
    have hbb : b[i]? = some b[i] := by simp [h2]
    rw [hbb, CW hbb]
    simp only [oS, WE, EK, YA]
    rw [AE (by omega), RY N a b hb n (i + 1) (by omega) (by omega) (by omega)]
    by_cases h3 : a[i] < b[i]
    ·simp [h3]
    ·by_cases h4 : b[i] < a[i]
     ·simp [h3, h4]
     ·simp [h3, h4]
   ·rw [AD (by omega), zB0 (by omega : b.length ≤ i)]
    simp [EK]
  ·rw [AB (by omega), zB0 (by omega : a.length ≤ i)]
   by_cases h2 : a.length < b.length
   ·rw [AD (by omega)]
    have hbb : b[i]? = some b[i] := by simp [show i < b.length from by omega]
    rw [CW hbb]; simp [EK]
   ·rw [AB (by omega), zB0 (by omega : b.length ≤ i)]
    simp [EK]
theorem P7 (N : Nat) (a b : List Int) (hb : a.length < 1000000) : ∀ (n i : Nat), i ≤ a.length → i ≤ b.length → a.length - i < n →
  Bq N a b (fun _ => AN (decide ((a.length : Int) < (b.length : Int))) (some (-1)) (some 0)) n (i : Int) = some (EK (a.drop i) (b.drop i))
 | 0, i, _, _, h => by omega
 | n + 1, i, hi, hj, h => by
  unfold Bq
  by_cases h1 : i < a.length
  ·rw [AD (by omega), AS]
   have ha : a[i]? = some a[i] := by simp [h1]
   rw [ha, CW ha]
   simp only [oS]
   by_cases h2 : i < b.length
   ·rw [AB (by omega), AS]
    have hbb : b[i]? = some b[i] := by simp [h2]
    rw [hbb, CW hbb]
    simp only [oS, Wv, EK, YA]
    rw [AE (by omega), P7 N a b hb n (i + 1) (by omega) (by omega) (by omega)]
    by_cases h3 : a[i] < b[i]
    ·simp [h3]
    ·by_cases h4 : b[i] < a[i]
     ·simp [h3, h4]
     ·simp [h3, h4]
   ·rw [AD (by omega), zB0 (by omega : b.length ≤ i)]
    simp [EK]
  ·rw [AB (by omega), zB0 (by omega : a.length ≤ i)]
   by_cases h2 : a.length < b.length
   ·rw [AD (by omega)]
    have hbb : b[i]? = some b[i] := by simp [show i < b.length from by omega]
    rw [CW hbb]; simp [EK]
   ·rw [AB (by omega), zB0 (by omega : b.length ≤ i)]
    simp [EK]
theorem S7 (N : Nat) (a b : List Int) (hb : a.length < 1000000) : ∀ (n i : Nat), i ≤ a.length → i ≤ b.length → a.length - i < n →
  Dq N a b (fun _ => AN (decide ((a.length : Int) < (b.length : Int))) (some (-1)) (AN (decide ((b.length : Int) < (a.length : Int))) (some 1) (some 0))) n (i : Int) = some (EK (a.drop i) (b.drop i))
 | 0, i, _, _, h => by omega
 | n + 1, i, hi, hj, h => by
  unfold Dq
  simp only [Bi]
  by_cases h1 : i < a.length
  ·rw [AD (p := (i : Int) < (a.length : Int)) (by omega)]
   have ha : a[i]? = some a[i] := by simp [h1]
   rw [CW ha]
   by_cases h2 : i < b.length
   ·have hbb : b[i]? = some b[i] := by simp [h2]
    rw [show decide ((i : Int) < (b.length : Int)) = true from decide_eq_true (by omega), AG, AS, AS, ha, hbb, CW hbb]
    simp only [oS, EK]
    rw [AE (by omega), S7 N a b hb n (i + 1) (by omega) (by omega) (by omega)]
    by_cases h3 : a[i] < b[i]
    ·simp [h3]
    ·by_cases h4 : b[i] < a[i]
     ·simp [h3, h4]
     ·simp [h3, h4]
   ·rw [show decide ((i : Int) < (b.length : Int)) = false from decide_eq_false (by omega), Am, AB (by omega), AD (by omega), zB0 (by omega : b.length ≤ i)]
    simp [EK]
  ·rw [AB (p := (i : Int) < (a.length : Int)) (by omega), Am, zB0 (by omega : a.length ≤ i)]
   by_cases h2 : a.length < b.length
   ·rw [AD (by omega)]
    have hbb : b[i]? = some b[i] := by simp [show i < b.length from by omega]
    rw [CW hbb]; simp [EK]
   ·rw [AB (by omega), AB (by omega), zB0 (by omega : b.length ≤ i)]
    simp [EK]
theorem OL {N : Nat} {a b : List Int} (h : a.length < N) (hN : N ≤ 1000000) : CS N a b = some (EK a b) := by
 have := RY N a b (by omega) N 0 (by omega) (by omega) (by omega)
 simpa [CS] using this
theorem Rl {N : Nat} {a b : List Int} (h : a.length < N) (hN : N ≤ 1000000) : Cf N a b = some (EK a b) := by
 have := P7 N a b (by omega) N 0 (by omega) (by omega) (by omega)
 simpa [Cf] using this
theorem OI {N : Nat} {a b : List Int} (h : a.length < N) (hN : N ≤ 1000000) : Dz N a b = some (EK a b) := by
 have := S7 N a b (by omega) N 0 (by omega) (by omega) (by omega)
 simpa [Dz] using this
theorem PW : ∀ a : List Int, EK a a = 0
 | [] => rfl
 | a :: as1 => by simp [EK, PW as1]
theorem Ob : ∀ a b : List Int, EK a b = 0 → a = b
 | [], [], _ => rfl
 | [], _ :: _, h => by simp [EK] at h
 | _ :: _, [], h => by simp [EK] at h
 | a :: as1, b :: bs, h => by
  unfold EK at h
  split at h
  ·omega
  ·split at h
   ·omega
   ·rw [Ob as1 bs h, show a = b from by omega]
theorem PA : ∀ a b : List Int, EK b a = - EK a b
 | [], [] => rfl
 | [], _ :: _ => rfl
 | _ :: _, [] => rfl
 | a :: as1, b :: bs => by
  have := PA as1 bs
  unfold EK
  by_cases h1 : a < b
  ·simp [h1, show ¬ b < a from by omega]
  ·by_cases h2 : b < a
   ·simp [h1, h2]
   ·simp [h1, h2, this]
theorem Tw : ∀ a b c : List Int, EK a b ≤ 0 → EK b c ≤ 0 → EK a c ≤ 0
 | [], _, [], _, _ => by simp [EK]
 | [], _, _ :: _, _, _ => by simp [EK]
 | _ :: _, [], _, h, _ => by simp [EK] at h
 | _ :: _, _ :: _, [], _, h => by simp [EK] at h
 | a :: as1, b :: bs, c :: cs, h1, h2 => by
  have ih := Tw as1 bs cs
  unfold EK at h1 h2 ⊢
  split at h1 <;> split at h2 <;> (try split at h1) <;> (try split at h2) <;> split <;> (try split) <;> omega
def SO : List Int → Int
 | [] => 0
 | x :: xs => if x = 0 then SO xs else x
theorem bh (N : Nat) (a : List Int) (hb : a.length < 1000000) : ∀ (n i : Nat), i ≤ a.length → a.length - i < n →
  E2 N a (fun _ => some 0) n (i : Int) = some (SO (a.drop i))
 | 0, i, _, h => by omega
 | n + 1, i, hi, h => by
  unfold E2
  by_cases h1 : i < a.length
  ·have ha : a[i]? = some a[i] := by simp [h1]
   rw [AD (by omega), AS, ha, CW ha]
   simp only [oS, SO]
   rw [AE (by omega), bh N a hb n (i + 1) (by omega) (by omega)]
   by_cases h3 : a[i] = 0
   ·simp [h3]
   ·have : (a[i] != 0) = true := by simpa using h3
    simp [h3, this]
  ·rw [AB (by omega), zB0 (by omega : a.length ≤ i)]
   simp [SO]
theorem Yr {N : Nat} {a : List Int} (h : a.length < N) (hN : N ≤ 1000000) : G1 N a = some (SO a) := by
 have := bh N a (by omega) N 0 (by omega) (by omega)
 simpa [G1] using this
theorem Zf (N : Nat) (a : List Int) (hb : a.length < 1000000) (hw : Nf Ln a) : ∀ (n i : Nat), i ≤ a.length → a.length - i < n →
  CT N a (fun v => some v) n (a.take i, (i : Int)) = some a
 | 0, i, _, h => by omega
 | n + 1, i, hi, h => by
  unfold CT
  by_cases h1 : i < a.length
  ·have ha : a[i]? = some a[i] := by simp [h1]
   rw [AD (by simpa using h1)]
   simp only
   rw [AS, ha]
   have hr : wI .i64 a[i] = a[i] := by
    have := hw a[i] (zF6 h1)
    unfold Ln at this
    have h2 : 0 ≤ a[i] ∧ a[i] ≤ 255 := by simpa [Lit.wf, IntKind.min, IntKind.max, IntKind.signed, IntKind.bits] using this
    exact Dw (by omega) (by omega)
   simp only [oS, hr]
   have hlen : (a.take i).length + ([a[i]] : List Int).length ≤ Dv := by
    simp [Dv]; omega
   rw [show Es ((a.take i).length + ([a[i]] : List Int).length ≤ Dv) = some () from by unfold Es; rw [if_pos hlen]]
   simp only [oS]
   rw [AE (by omega), show a.take i ++ [a[i]] = a.take (i + 1) from by rw [zD9, ha]; rfl]
   exact Zf N a hb hw n (i + 1) (by omega) (by omega)
  ·rw [AB (by simpa using h1)]
   simp only
   rw [zK8 (by omega)]
theorem NU {N : Nat} {a : List Int} (h : a.length < N) (hN : N ≤ 1000000) (hw : Nf Ln a) : Dp N a = some a := by
 have := Zf N a (by omega) hw N 0 (by omega) (by omega)
 simpa [Dp] using this
def bm (a : Ab) : Prop := a.fc.length ≤ 8 ∧ a.fa.length ≤ 8 ∧ a.fd.length ≤ 14
def MT (a b : Ab) : Int := SO [EK a.fc b.fc, EK a.fa b.fa, EK a.fd b.fd]
theorem PY (a : Ab) : MT a a = 0 := by unfold MT; simp [PW, SO]
def DP {α R : Type} (f : Nat → α → Option R) : Nat → List α → Option R
 | _, [] => none
 | i, x :: xs => match f i x with
  | some r => some r
  | none => DP f (i + 1) xs
theorem Hm {α R : Type} (f : Nat → α → Option R) (i : Nat) (x : α) (xs : List α) : DP f i (x :: xs) = match f i x with
  | some r => some r
  | none => DP f (i + 1) xs := rfl
def BO {R : Type} (a : Option R) (b : Option R) : Option R := match a with
 | some r => some r
 | none => b
theorem CU {α R : Type} (L : Nat → Int → Option R) (xs : List α) (j : Option R) (f : Nat → α → Option R)
  (hs : ∀ (n i : Nat) (x : α), xs[i]? = some x → L (n + 1) (i : Int) = BO (f i x) (L n ((i + 1 : Nat) : Int))) (he : ∀ n : Nat, L (n + 1) (xs.length : Int) = j) :
  ∀ n i : Nat, i ≤ xs.length → xs.length - i < n → L n (i : Int) = BO (DP f i (xs.drop i)) j
 | 0, i, _, h => by omega
 | n + 1, i, hi, h => by
  by_cases h1 : i < xs.length
  ·have hx : xs[i]? = some xs[i] := by simp [h1]
   rw [hs n i _ hx, CW hx, CU L xs j f hs he n (i + 1) (by omega) (by omega)]
   rw [Hm]
   cases f i xs[i] <;> rfl
  ·have : i = xs.length := by omega
   subst this
   rw [he n, zB0 (zB4 _)]
   rfl
theorem PI (N : Nat) (k n : Int) : Ef N k n = some (decide (0 ≤ k) && decide (k < n)) := by
 unfold Ef
 simp only [Bi]
 by_cases h : 0 ≤ k
 ·rw [AD h]; simp [h]
 ·rw [AB h]; simp [h]
theorem NF (N : Nat) (t : Av) : A4 N t = some (t.ff == 3 || t.ff == 4) := by
 unfold A4
 simp only [Bi]
 cases h : t.ff == 3 <;> simp
def sq (l : List (List Bool)) (n m : Int) : Bool := decide ((l.length : Int) = n) && l.all fun r => decide ((r.length : Int) = m)
theorem On {α : Type} (p : α → Bool) {R : Type} (r : Nat → R) : ∀ (i : Nat) (xs : List α), (DP (fun i x => if p x then none else some (r i)) i xs).isNone = xs.all p
 | i, [] => rfl
 | i, x :: xs => by
  unfold DP
  cases h : p x <;> simp [h, On p r (i + 1) xs]
theorem P1 (N : Nat) (l : List (List Bool)) (n m : Int) (h : n < (N : Int)) (hN : N ≤ 1000000) : DH N l n m = some (sq l n m) := by
 unfold DH sq
 by_cases h1 : (l.length : Int) = n
 ·subst h1
  simp only [bne_self_eq_false, Am, decide_true, zE8]
  have := CU (Cx N l (l.length : Int) m (fun _ => some true)) l (some true) (fun _ r => if decide ((r.length : Int) = m) then none else some false)
   (fun n i x hx => by
    have hi := (lI.1 hx).1
    rw [Cx, AD (by omega), AS, hx]
    simp only [oS]
    rw [AE (by omega)]
    by_cases h2 : (x.length : Int) = m
    ·simp [h2, BO]
    ·have : ((x.length : Int) != m) = true := by simpa using h2
     simp [h2, this, BO])
   (fun n => by rw [Cx, AB (by omega)]) N 0 (by omega) (by omega)
  simp only [Int.ofNat_zero, zB9] at this
  rw [this]
  have h3 := On (fun r : List Bool => decide ((r.length : Int) = m)) (fun _ => false) 0 l
  cases hsc : DP (fun (_ : Nat) (r : List Bool) => if decide ((r.length : Int) = m) = true then none else some false) 0 l with
  | none => rw [hsc] at h3; rw [← h3]; rfl
  | some b =>
   rw [hsc] at h3
   rw [← h3]
   have : ∀ (i : Nat) (xs : List (List Bool)) b, DP (fun (_ : Nat) (r : List Bool) => if decide ((r.length : Int) = m) = true then none else some false) i xs = some b → b = false := by
    intro i xs
    induction xs generalizing i with
    | nil => intro b hb; cases hb
    | cons x xs ih =>
     intro b hb
     unfold DP at hb
     split at hb
     ·rename_i r hr; cases hb; split at hr <;> simp at hr; exact hr
     ·exact ih _ b hb
   rw [this 0 l b hsc]; rfl
 ·have : ((l.length : Int) != n) = true := by simpa using h1
  simp [this, h1]
theorem PF (N : Nat) (l : List (List Bool)) (n m : Int) (h : n < (N : Int)) (hN : N ≤ 1000000) : Fm N l n m = some (sq l n m) := by
 unfold Fm sq
 simp only [Bi]
 by_cases h1 : (l.length : Int) = n
 ·subst h1
  simp only [beq_self_eq_true, AG, decide_true, zE8]
  have := CU (Bo N l (fun x => D8 N x m) (fun _ => some (-1))) l (some (-1)) (fun i r => if decide ((r.length : Int) = m) then none else some (i : Int))
   (fun n i x hx => by
    have hi := (lI.1 hx).1
    rw [Bo, AD (by omega), AS, hx]
    simp only [oS, D8]
    rw [AE (by omega)]
    by_cases h2 : (x.length : Int) = m
    ·simp [h2, BO]
    ·have : ((x.length : Int) != m) = true := by simpa using h2
     simp [h2, this, BO])
   (fun n => by rw [Bo, AB (by omega)]) N 0 (by omega) (by omega)
  simp only [Int.ofNat_zero, zB9] at this
  unfold C9 DE
  rw [this]
  have h3 := On (fun r : List Bool => decide ((r.length : Int) = m)) (fun i : Nat => (i : Int)) 0 l
  cases hsc : DP (fun (i : Nat) (r : List Bool) => if decide ((r.length : Int) = m) = true then none else some (i : Int)) 0 l with
  | none => rw [hsc] at h3; rw [← h3]; rfl
  | some b =>
   rw [hsc] at h3
   rw [← h3]
   have : ∀ (i : Nat) (xs : List (List Bool)) b, DP (fun (i : Nat) (r : List Bool) => if decide ((r.length : Int) = m) = true then none else some (i : Int)) i xs = some b → 0 ≤ b := by
    intro i xs
    induction xs generalizing i with
    | nil => intro b hb; cases hb
    | cons x xs ih =>
     intro b hb
     rw [Hm] at hb
     split at hb
     ·rename_i r hr
      cases hb
      split at hr
      ·cases hr
      ·cases hr; omega
     ·exact ih _ b hb
   have := this 0 l b hsc
   simp [BO, this]
 ·have : ((l.length : Int) == n) = false := by simpa using h1
  simp [this, h1]
open List renaming mem_of_getElem? → lM
open List renaming getD_eq_getElem?_getD → lD
def I6 (l : List (List Bool)) : Option Int := DP (fun i row => if row.getD i false then none else some 1) 0 l
theorem Rs {row : List Bool} {i : Nat} (h : i < row.length) : BC row (i : Int) = some (row.getD i false) := by
 rw [AS, lD]; simp [h]
theorem V0 (N : Nat) (t : Av) (h : t.fp.length < N) (hN : N ≤ 1000000) (hsq : ∀ row, row ∈ t.fp → row.length = t.fp.length) (j : Option Int) :
  B0 N t (fun _ => j) N 0 = BO (I6 t.fp) j := by
 have := CU (B0 N t (fun _ => j)) t.fp j (fun i row => if row.getD i false then none else some 1)
  (fun n i x hx => by
   have hi := (lI.1 hx).1
   have hl := hsq x (lM hx)
   rw [B0, AD (by omega), AS, hx]
   simp only [oS]
   rw [Rs (by omega), AE (by omega)]
   simp only [oS]
   cases x.getD i false <;> rfl)
  (fun n => by rw [B0, AB (by omega)]) N 0 (by omega) (by omega)
 simpa [I6] using this
theorem PG (N : Nat) (t : Av) (h : t.fp.length < N) (hN : N ≤ 1000000) (hsq : ∀ row, row ∈ t.fp → row.length = t.fp.length) (j : Option Int) :
  Df N t (fun _ => j) N 0 = BO (I6 t.fp) j := by
 have := CU (Df N t (fun _ => j)) t.fp j (fun i row => if row.getD i false then none else some 1)
  (fun n i x hx => by
   have hi := (lI.1 hx).1
   have hl := hsq x (lM hx)
   rw [Df, AD (by omega), AS, hx]
   simp only [oS]
   rw [Rs (by omega), AE (by omega)]
   simp only [oS]
   cases x.getD i false <;> rfl)
  (fun n => by rw [Df, AB (by omega)]) N 0 (by omega) (by omega)
 simpa [I6] using this
theorem Od {l : List (List Bool)} {n m : Int} (h : sq l n m = true) : (l.length : Int) = n ∧ ∀ row, row ∈ l → (row.length : Int) = m := by
 unfold sq at h
 simp only [zA6, decide_eq_true_eq, zA3] at h
 exact h
def Eh (p : Aa) (t : Av) : Int :=
 if t.ff < 1 ∨ 4 < t.ff ∨ (t.fq = true ∧ (t.ff = 3 ∨ t.ff = 4)) then 1
 else if t.fg < 0 ∨ (p.fb.length : Int) ≤ t.fg ∨ t.fo < 0 ∨ (p.fb.length : Int) ≤ t.fo then 4
 else
  let f := p.fb.getD t.fg.toNat 0
  let g := p.fb.getD t.fo.toNat 0
  if sq t.fr f g = false then 6
  else if t.ff = 4 then (if sq t.fp f f = false then 6 else (I6 t.fp).getD 0)
  else if t.fp.length = 0 then 0 else 6
theorem EZ {α : Type} {xs : List α} {i : Int} {d : α} (h0 : 0 ≤ i) (h1 : i < (xs.length : Int)) : BC xs i = some (xs.getD i.toNat d) := by
 obtain ⟨k, rfl⟩ := zA7 h0
 rw [AS, lD, zB2]
 simp [show k < xs.length from by omega]
theorem Uj {t : Av} (A B : Option Int) (hk : ¬ (t.fq = true ∧ (t.ff = 3 ∨ t.ff = 4))) : AN t.fq (AN (t.ff == 3 || t.ff == 4) A B) B = B := by
 cases ha : t.fq
 ·rfl
 ·have : (t.ff == 3 || t.ff == 4) = false := by
   rw [zI4]
   constructor
   ·simp only [beq_eq_false_iff_ne]; intro h; exact hk ⟨ha, .inl h⟩
   ·simp only [beq_eq_false_iff_ne]; intro h; exact hk ⟨ha, .inr h⟩
  rw [this]; rfl
theorem Ka {p : Aa} {i : Int} (hv : ∀ v, v ∈ p.fb → 1 ≤ v ∧ v ≤ 6) (h0 : 0 ≤ i) (h1 : i < (p.fb.length : Int)) : 1 ≤ p.fb.getD i.toNat 0 ∧ p.fb.getD i.toNat 0 ≤ 6 := by
 refine hv _ ?_
 rw [lD, zC3 (by omega)]
 exact zF6 _
theorem Ub (N : Nat) (p : Aa) (t : Av) (hN : N ≤ 1000000) (h6 : 7 ≤ N) (hv : ∀ v, v ∈ p.fb → 1 ≤ v ∧ v ≤ 6) : EJ N p t = some (Eh p t) := by
 unfold EJ Eh
 simp only [Bi, NF, oS]
 by_cases k1 : t.ff < 1
 ·simp [k1]
 by_cases k2 : 4 < t.ff
 ·simp [k1, k2]
 rw [AB k1, AB k2]
 by_cases hk : t.fq = true ∧ (t.ff = 3 ∨ t.ff = 4)
 ·obtain ⟨ha, k | k⟩ := hk <;> simp [ha, k]
 rw [Am, Uj _ _ hk, if_neg (fun h => h.elim k1 fun h => h.elim k2 hk)]
 by_cases f1 : t.fg < 0
 ·simp [f1]
 by_cases f2 : (p.fb.length : Int) ≤ t.fg
 ·simp [f1, f2]
 by_cases f3 : t.fo < 0
 ·simp [f1, f2, f3]
 by_cases f4 : (p.fb.length : Int) ≤ t.fo
 ·simp [f1, f2, f3, f4]
 rw [AB f1, AB f2, AB f3, if_neg (fun h => h.elim f1 fun h => h.elim f2 fun h => h.elim f3 f4)]
 have hf := Ka hv (i := t.fg) (by omega) (by omega)
 rw [decide_eq_false f4, Am, EZ (d := 0) (by omega : 0 ≤ t.fg) (by omega), EZ (d := 0) (by omega : 0 ≤ t.fo) (by omega)]
 simp only [oS]
 generalize p.fb.getD t.fg.toNat 0 = f at *
 generalize p.fb.getD t.fo.toNat 0 = g at *
 rw [P1 N t.fr f g (by omega) hN, P1 N t.fp f f (by omega) hN]
 simp only [oS]
 cases hq : sq t.fr f g
 ·rfl
 simp only [zB7, Am]
 by_cases k4 : t.ff = 4
 ·have : (t.ff != 4) = false := by simp [k4]
  rw [this, Am]
  simp only [k4, if_true]
  cases hr : sq t.fp f f
  ·rfl
  ·have h7 := Od hr
   simp only [zB7, Am]
   rw [V0 N t (by omega) hN (fun row hm => by have := h7.2 row hm; omega)]
   cases I6 t.fp <;> simp [BO]
 ·have : (t.ff != 4) = true := by simpa using k4
  rw [this, AG]
  simp only [k4, if_false]
  by_cases hr : t.fp.length = 0
  ·simp [hr]
  ·have : ((t.fp.length : Int) != 0) = true := bne_iff_ne.2 (by omega)
   rw [this]; simp [hr]
theorem Wg (N : Nat) (k : Int) (a : Bool) : GZ N k a = some (k == 1 || (k == 2 || ((k == 3 || k == 4) && !a))) := by
 unfold GZ
 simp only [Bi]
 cases h1 : k == 1 <;> cases h2 : k == 2 <;> cases h3 : k == 3 <;> cases h4 : k == 4 <;> cases a <;> rfl
theorem Oz (N : Nat) (p : Aa) (t : Av) (hN : N ≤ 1000000) (h6 : 7 ≤ N) (hv : ∀ v, v ∈ p.fb → 1 ≤ v ∧ v ≤ 6) : Gy N p t = some (Eh p t) := by
 unfold Gy Eh
 simp only [Bi, Wg, PI, oS]
 by_cases hb : t.ff < 1 ∨ 4 < t.ff ∨ (t.fq = true ∧ (t.ff = 3 ∨ t.ff = 4))
 ·have : (t.ff == 1 || (t.ff == 2 || ((t.ff == 3 || t.ff == 4) && !t.fq))) = false := by
   rcases hb with h | h | ⟨ha, h | h⟩
   ·rw [beq_eq_false_iff_ne.2 (by omega : t.ff ≠ 1), beq_eq_false_iff_ne.2 (by omega : t.ff ≠ 2), beq_eq_false_iff_ne.2 (by omega : t.ff ≠ 3), beq_eq_false_iff_ne.2 (by omega : t.ff ≠ 4)]; rfl
   ·rw [beq_eq_false_iff_ne.2 (by omega : t.ff ≠ 1), beq_eq_false_iff_ne.2 (by omega : t.ff ≠ 2), beq_eq_false_iff_ne.2 (by omega : t.ff ≠ 3), beq_eq_false_iff_ne.2 (by omega : t.ff ≠ 4)]; rfl
   ·simp [ha, h]
   ·simp [ha, h]
  rw [this, if_pos hb]; rfl
 ·have : (t.ff == 1 || (t.ff == 2 || ((t.ff == 3 || t.ff == 4) && !t.fq))) = true := by
   have hk : t.ff = 1 ∨ t.ff = 2 ∨ t.ff = 3 ∨ t.ff = 4 := by
    have h1 : ¬ t.ff < 1 := fun h => hb (.inl h)
    have h2 : ¬ 4 < t.ff := fun h => hb (.inr (.inl h))
    omega
   rcases hk with h | h | h | h
   ·simp [h]
   ·simp [h]
   ·cases ha : t.fq
    ·simp [h]
    ·exact (hb (.inr (.inr ⟨ha, .inl h⟩))).elim
   ·cases ha : t.fq
    ·simp [h]
    ·exact (hb (.inr (.inr ⟨ha, .inr h⟩))).elim
  rw [this, if_neg hb]
  simp only [zB7, Am]
  by_cases f1 : t.fg < 0
  ·simp [f1, show ¬ (0 ≤ t.fg) from by omega]
  by_cases f2 : (p.fb.length : Int) ≤ t.fg
  ·simp [f2, show ¬ (t.fg < (p.fb.length : Int)) from by omega]
  by_cases f3 : t.fo < 0
  ·simp [f3, show 0 ≤ t.fg from by omega, show t.fg < (p.fb.length : Int) from by omega, show ¬ (0 ≤ t.fo) from by omega]
  by_cases f4 : (p.fb.length : Int) ≤ t.fo
  ·simp [f4, show 0 ≤ t.fg from by omega, show t.fg < (p.fb.length : Int) from by omega, show ¬ (t.fo < (p.fb.length : Int)) from by omega]
  rw [if_neg (fun h => h.elim f1 fun h => h.elim f2 fun h => h.elim f3 f4)]
  have hf := Ka hv (i := t.fg) (by omega) (by omega)
  have hg := Ka hv (i := t.fo) (by omega) (by omega)
  rw [decide_eq_true (by omega : 0 ≤ t.fg), decide_eq_true (by omega : t.fg < (p.fb.length : Int)), decide_eq_true (by omega : 0 ≤ t.fo), decide_eq_true (by omega : t.fo < (p.fb.length : Int)), EZ (d := 0) (by omega : 0 ≤ t.fg) (by omega), EZ (d := 0) (by omega : 0 ≤ t.fo) (by omega)]
  simp only [Bool.and_self, zB7, Am, oS]
  generalize p.fb.getD t.fg.toNat 0 = f at *
  generalize p.fb.getD t.fo.toNat 0 = g at *
  rw [PF N t.fr f g (by omega) hN, PF N t.fp f f (by omega) hN]
  simp only [oS]
  cases hq : sq t.fr f g
  ·rfl
  simp only [zB7, Am]
  by_cases k4 : t.ff = 4
  ·simp only [k4, beq_self_eq_true, AG, if_true]
   cases hr : sq t.fp f f
   ·rfl
   ·have h7 := Od hr
    simp only [zB7, Am]
    rw [PG N t (by omega) hN (fun row hm => by have := h7.2 row hm; omega)]
    cases I6 t.fp <;> simp [BO]
  ·have : (t.ff == 4) = false := beq_eq_false_iff_ne.2 k4
   rw [this, Am]
   simp only [k4, if_false, zD6, AG]
   by_cases hr : t.fp.length = 0
   ·rw [PG N t (by omega) hN (fun row hm => by rw [zD1 hr] at hm; cases hm), zD1 hr]
    simp [I6, DP, BO]
   ·rw [decide_eq_true (by omega : 0 < (t.fp.length : Int))]
    simp [hr]
def Ge (p : Aa) (i : Nat) (v : Int) : Option Int :=
 if v < 1 ∨ 6 < v ∨ p.fj.getD i 0 < 0 ∨ v ≤ p.fj.getD i 0 ∨ p.fm.getD i 0 < 0 ∨ v ≤ p.fm.getD i 0 then some 7 else none
def Mo (p : Aa) (_ : Nat) (t : Av) : Option Int := if Eh p t = 0 then none else some (Eh p t)
def Bx (p : Aa) : Int :=
 if 6 < p.fb.length ∨ 12 < p.fe.length then 3
 else if p.fj.length ≠ p.fb.length ∨ p.fm.length ≠ p.fb.length then 6
 else ((BO (DP (Ge p) 0 p.fb) (DP (Mo p) 0 p.fe)).getD 0)
theorem Fj {α R : Type} {f : Nat → α → Option R} : ∀ {i : Nat} {xs : List α}, DP f i xs = none → ∀ j x, xs[j]? = some x → f (i + j) x = none
 | _, [], _, j, x, hx => by simp at hx
 | i, y :: ys, h, j, x, hx => by
  rw [Hm] at h
  split at h
  ·cases h
  ·rename_i h0
   cases j with
   | zero => simp at hx; subst hx; exact h0
   | succ j =>
    have := Fj h j x (by simpa using hx)
    rwa [show i + 1 + j = i + (j + 1) from by omega] at this
theorem OA {p : Aa} (h : DP (Ge p) 0 p.fb = none) : ∀ v, v ∈ p.fb → 1 ≤ v ∧ v ≤ 6 := by
 intro v hv
 obtain ⟨i, hi⟩ := zA8.1 hv
 have := Fj h i v hi
 unfold Ge at this
 split at this
 ·cases this
 ·rename_i hn
  constructor
  ·exact Int.not_lt.1 fun h => hn (.inl h)
  ·exact Int.not_lt.1 fun h => hn (.inr (.inl h))
theorem C4 {α : Type} {xs : List α} {i : Nat} {d : α} (h : i < xs.length) : BC xs (i : Int) = some (xs.getD i d) := by
 rw [AS, lD]; simp [h]
theorem S5 (N : Nat) (p : Aa) (hN : N ≤ 1000000) (h1 : p.fb.length < N) (h2 : p.fj.length = p.fb.length) (h3 : p.fm.length = p.fb.length) (j : Option Int) :
  Bg N p (fun _ => j) N 0 = BO (DP (Ge p) 0 p.fb) j := by
 have := CU (Bg N p (fun _ => j)) p.fb j (Ge p)
  (fun n i x hx => by
   have hi := (lI.1 hx).1
   rw [Bg, AD (by omega), AS, hx]
   simp only [oS, Bi]
   rw [C4 (d := 0) (by omega), C4 (d := 0) (by omega), AE (by omega)]
   simp only [oS]
   unfold Ge
   generalize p.fj.getD i 0 = a
   generalize p.fm.getD i 0 = b
   by_cases k1 : x < 1 <;> by_cases k2 : 6 < x <;> by_cases k3 : a < 0 <;> by_cases k4 : x ≤ a <;> by_cases k5 : b < 0 <;> by_cases k6 : x ≤ b <;> simp [k1, k2, k3, k4, k5, k6, BO])
  (fun n => by rw [Bg, AB (by omega)]) N 0 (by omega) (by omega)
 simpa using this
theorem Qn (N : Nat) (p : Aa) (hN : N ≤ 1000000) (h1 : p.fb.length < N) (h2 : p.fj.length = p.fb.length) (h3 : p.fm.length = p.fb.length) (j : Option Int) :
  BX N p (fun _ => j) N 0 = BO (DP (Ge p) 0 p.fb) j := by
 have := CU (BX N p (fun _ => j)) p.fb j (Ge p)
  (fun n i x hx => by
   have hi := (lI.1 hx).1
   rw [BX, AD (by omega), AS, hx]
   simp only [oS, Bi, PI]
   rw [C4 (d := 0) (by omega), C4 (d := 0) (by omega), AE (by omega)]
   simp only [oS]
   unfold Ge
   generalize p.fj.getD i 0 = a
   generalize p.fm.getD i 0 = b
   have e1 : decide (0 ≤ a) = !decide (a < 0) := by rw [← decide_not]; congr 1; simp
   have e2 : decide (a < x) = !decide (x ≤ a) := by rw [← decide_not]; congr 1; simp
   have e3 : decide (0 ≤ b) = !decide (b < 0) := by rw [← decide_not]; congr 1; simp
   have e4 : decide (b < x) = !decide (x ≤ b) := by rw [← decide_not]; congr 1; simp
   rw [e1, e2, e3, e4]
   by_cases k1 : x < 1 <;> by_cases k2 : 6 < x <;> by_cases k3 : a < 0 <;> by_cases k4 : x ≤ a <;> by_cases k5 : b < 0 <;> by_cases k6 : x ≤ b <;> simp [k1, k2, k3, k4, k5, k6, BO])
  (fun n => by rw [BX, AB (by omega)]) N 0 (by omega) (by omega)
 simpa using this
theorem UF (N : Nat) (p : Aa) (hN : N ≤ 1000000) (h6 : 7 ≤ N) (h1 : p.fe.length < N) (hv : ∀ v, v ∈ p.fb → 1 ≤ v ∧ v ≤ 6) (j : Option Int) :
  Bb N p (fun _ => j) N 0 = BO (DP (Mo p) 0 p.fe) j := by
 have := CU (Bb N p (fun _ => j)) p.fe j (Mo p)
  (fun n i x hx => by
   have hi := (lI.1 hx).1
   rw [Bb, AD (by omega), AS, hx]
   simp only [oS]
   rw [Ub N p x hN h6 hv, AE (by omega)]
   simp only [oS]
   unfold Mo
   by_cases k : Eh p x = 0
   ·simp [k, BO]
   ·rw [bne_iff_ne.2 k, if_neg k]; rfl)
  (fun n => by rw [Bb, AB (by omega)]) N 0 (by omega) (by omega)
 simpa using this
theorem SD (N : Nat) (p : Aa) (hN : N ≤ 1000000) (h6 : 7 ≤ N) (h1 : p.fe.length < N) (hv : ∀ v, v ∈ p.fb → 1 ≤ v ∧ v ≤ 6) (j : Option Int) :
  BQ N p (fun _ => j) N 0 = BO (DP (Mo p) 0 p.fe) j := by
 have := CU (BQ N p (fun _ => j)) p.fe j (Mo p)
  (fun n i x hx => by
   have hi := (lI.1 hx).1
   rw [BQ, AD (by omega), AS, hx]
   simp only [oS]
   rw [Oz N p x hN h6 hv, AE (by omega)]
   simp only [oS]
   unfold Mo
   by_cases k : Eh p x = 0
   ·simp [k, BO]
   ·rw [bne_iff_ne.2 k, if_neg k]; rfl)
  (fun n => by rw [BQ, AB (by omega)]) N 0 (by omega) (by omega)
 simpa using this
theorem HW (N : Nat) (p : Aa) (hN : N ≤ 1000000) (h : 20 ≤ N) : A8 N p = some (Bx p) := by
 unfold A8 Bx
 simp only [Bi]
 by_cases k1 : 6 < p.fb.length
 ·rw [AD (by omega)]; simp [k1]
 rw [AB (by omega)]
 by_cases k2 : 12 < p.fe.length
 ·rw [decide_eq_true (by omega : (12 : Int) < (p.fe.length : Int))]; simp [k2]
 rw [decide_eq_false (by omega : ¬ (12 : Int) < (p.fe.length : Int)), Am, if_neg (by omega)]
 by_cases k3 : p.fj.length = p.fb.length
 ·by_cases k4 : p.fm.length = p.fb.length
  ·rw [k3, k4]
   simp only [bne_self_eq_false, Am, ne_eq, not_true_eq_false, or_self, if_false]
   rw [S5 N p hN (by omega) k3 k4]
   cases hs : DP (Ge p) 0 p.fb with
   | some r => rfl
   | none =>
    simp only [BO]
    rw [UF N p hN (by omega) (by omega) (OA hs)]
    cases DP (Mo p) 0 p.fe <;> rfl
  ·have : ((p.fm.length : Int) != (p.fb.length : Int)) = true := bne_iff_ne.2 (by omega)
   rw [this, k3]; simp [k4]
 ·have : ((p.fj.length : Int) != (p.fb.length : Int)) = true := bne_iff_ne.2 (by omega)
  rw [this]; simp [k3]
theorem Mi (N : Nat) (p : Aa) (hN : N ≤ 1000000) (h : 20 ≤ N) : DG N p = some (Bx p) := by
 unfold DG Bx
 simp only [Bi]
 by_cases k1 : 6 < p.fb.length
 ·rw [AD (by omega)]; simp [k1]
 rw [AB (by omega)]
 by_cases k2 : 12 < p.fe.length
 ·rw [decide_eq_true (by omega : (12 : Int) < (p.fe.length : Int))]; simp [k2]
 rw [decide_eq_false (by omega : ¬ (12 : Int) < (p.fe.length : Int)), Am, if_neg (by omega)]
 by_cases k3 : p.fj.length = p.fb.length
 ·by_cases k4 : p.fm.length = p.fb.length
  ·rw [k3, k4]
   simp only [bne_self_eq_false, Am, ne_eq, not_true_eq_false, or_self, if_false]
   rw [Qn N p hN (by omega) k3 k4]
   cases hs : DP (Ge p) 0 p.fb with
   | some r => rfl
   | none =>
    simp only [BO]
    rw [SD N p hN (by omega) (by omega) (OA hs)]
    cases DP (Mo p) 0 p.fe <;> rfl
  ·have : ((p.fm.length : Int) != (p.fb.length : Int)) = true := bne_iff_ne.2 (by omega)
   rw [this, k3]; simp [k4]
 ·have : ((p.fj.length : Int) != (p.fb.length : Int)) = true := bne_iff_ne.2 (by omega)
  rw [this]; simp [k3]
theorem I7 {n : Int} (h : Ln n) : 0 ≤ n ∧ n ≤ 255 := by
 unfold Ln at h
 simpa [Lit.wf, IntKind.min, IntKind.max, IntKind.signed, IntKind.bits] using h
theorem Pa : ∀ k : Fin 256, Dn .u8 0 (k.val : Int) = 0 := by decide +kernel
theorem Pu : ∀ k : Fin 256, Dn .u8 (k.val : Int) 0 = (k.val : Int) := by decide +kernel
theorem Uu {n : Int} (h : Ln n) : Dn .u8 0 n = 0 := by
 have := I7 h
 obtain ⟨k, rfl⟩ := zA7 this.1
 exact Pa ⟨k, by omega⟩
theorem Uw {n : Int} (h : Ln n) : Dn .u8 n 0 = n := by
 have := I7 h
 obtain ⟨k, rfl⟩ := zA7 this.1
 exact Pu ⟨k, by omega⟩
theorem EQ {α R : Type} {f : Nat → α → Option R} : ∀ {i : Nat} {xs : List α} {r : R}, DP f i xs = some r → ∃ j x, xs[j]? = some x ∧ f (i + j) x = some r
 | _, [], _, h => by cases h
 | i, y :: ys, r, h => by
  rw [Hm] at h
  split at h
  ·rename_i r' h0
   cases h
   exact ⟨0, y, rfl, h0⟩
  ·obtain ⟨j, x, h1, h2⟩ := EQ h
   exact ⟨j + 1, x, by simpa using h1, by rwa [show i + (j + 1) = i + 1 + j from by omega]⟩
structure A3 (p : Aa) : Prop where
 nv : p.fb.length ≤ 6
 nt : p.fe.length ≤ 12
 now : p.fj.length = p.fb.length
 tgt : p.fm.length = p.fb.length
 ver : ∀ v, v ∈ p.fb → 1 ≤ v ∧ v ≤ 6
 tab : ∀ t, t ∈ p.fe → Eh p t = 0
theorem SN (l : List (List Bool)) : (I6 l).getD 0 = 0 ∨ (I6 l).getD 0 = 1 := by
 cases h : I6 l with
 | none => exact .inl rfl
 | some r =>
  obtain ⟨j, x, _, h⟩ := EQ h
  split at h
  ·cases h
  ·cases h; exact .inr rfl
theorem QK (p : Aa) (t : Av) : Eh p t = 0 ∨ Eh p t = 1 ∨ Eh p t = 4 ∨ Eh p t = 6 := by
 unfold Eh
 split
 ·exact .inr (.inl rfl)
 split
 ·exact .inr (.inr (.inl rfl))
 simp only
 split
 ·exact .inr (.inr (.inr rfl))
 split
 ·split
  ·exact .inr (.inr (.inr rfl))
  ·rcases SN t.fp with h | h
   ·exact .inl h
   ·exact .inr (.inl h)
 ·split
  ·exact .inl rfl
  ·exact .inr (.inr (.inr rfl))
theorem HB (p : Aa) : (Bx p = 0 ∧ A3 p) ∨ (Bx p = 1 ∨ Bx p = 3 ∨ Bx p = 4 ∨ Bx p = 6 ∨ Bx p = 7) := by
 unfold Bx
 split
 ·simp
 rename_i k1
 split
 ·simp
 rename_i k2
 cases hs : DP (Ge p) 0 p.fb with
 | some r =>
  obtain ⟨j, x, _, h⟩ := EQ hs
  unfold Ge at h
  split at h
  ·cases h; simp [BO]
  ·cases h
 | none =>
  cases ht : DP (Mo p) 0 p.fe with
  | some r =>
   obtain ⟨j, t, _, h⟩ := EQ ht
   unfold Mo at h
   split at h
   ·cases h
   ·rename_i hne
    cases h
    simp only [BO, zC5]
    right
    rcases QK p t with h | h | h | h
    ·exact (hne h).elim
    ·exact .inl h
    ·exact .inr (.inr (.inl h))
    ·exact .inr (.inr (.inr (.inl h)))
  | none =>
   left
   refine ⟨rfl, by omega, by omega, by omega, by omega, OA hs, fun t hm => ?_⟩
   obtain ⟨j, hj⟩ := zA8.1 hm
   have := Fj ht j t hj
   unfold Mo at this
   split at this
   ·assumption
   ·cases this
def G6 (m : Ab) (s : Nat) : Int :=
 if 0 ≤ m.fa.getD s 0 then O9 .u8 (D3 .u8 1 (m.fc.getD s 0)) (D3 .u8 1 (m.fa.getD s 0)) else D3 .u8 1 (m.fc.getD s 0)
def LW (m : Ab) (i : Nat) (v : Int) : Option Int :=
 if m.fc.getD i 0 < 0 ∨ v ≤ m.fc.getD i 0 ∨ m.fa.getD i 0 < -1 ∨ v ≤ m.fa.getD i 0 then some 7
 else if m.fc.getD i 0 = m.fa.getD i 0 then some 1 else none
def BU (t : Av) : Bool := t.ff == 3 || t.ff == 4
def VW (p : Aa) (t : Av) : Int := wI .u8 (D3 .u8 1 (p.fb.getD t.fg.toNat 0) - 1)
def Jp (p : Aa) (m : Ab) (i : Nat) (t : Av) : Option Int :=
 if BU t = true then (if Dn .u8 (G6 m t.fg.toNat) (m.fd.getD i 0) ≠ 0 ∨ Dn .u8 (m.fd.getD i 0) (VW p t) ≠ 0 then some 1 else none)
 else if m.fd.getD i 0 ≠ 0 then some 1 else none
def Fi (p : Aa) (m : Ab) : Int :=
 if Bx p ≠ 0 then Bx p
 else if m.fc.length ≠ p.fb.length ∨ m.fa.length ≠ p.fb.length ∨ m.fd.length ≠ p.fe.length then 6
 else (BO (DP (LW m) 0 p.fb) (DP (Jp p m) 0 p.fe)).getD 0
theorem IY {p : Aa} {t : Av} (h : Eh p t = 0) : 0 ≤ t.fg ∧ t.fg < (p.fb.length : Int) ∧ 0 ≤ t.fo ∧ t.fo < (p.fb.length : Int) := by
 unfold Eh at h
 split at h
 ·cases h
 ·split at h
  ·cases h
  ·omega
theorem LV (N : Nat) (m : Ab) (s : Int) (h0 : 0 ≤ s) (h1 : s < (m.fc.length : Int)) (h2 : s < (m.fa.length : Int)) (hb : 0 ≤ m.fc.getD s.toNat 0) : E9 N m s = some (G6 m s.toNat) := by
 unfold E9 G6
 rw [EZ (d := 0) h0 h1, EZ (d := 0) h0 h2]
 simp only [oS, Bi]
 rw [show Es (0 ≤ m.fc.getD s.toNat 0) = some () from by unfold Es; rw [if_pos hb]]
 simp only [oS]
 by_cases h : 0 ≤ m.fa.getD s.toNat 0
 ·rw [AD h, if_pos h, show Es (0 ≤ m.fa.getD s.toNat 0) = some () from by unfold Es; rw [if_pos h]]; rfl
 ·rw [AB h, if_neg h]
theorem Ki (N : Nat) (m : Ab) (s : Int) (h0 : 0 ≤ s) (h1 : s < (m.fc.length : Int)) (h2 : s < (m.fa.length : Int)) (hb : 0 ≤ m.fc.getD s.toNat 0) : BT N m s = some (G6 m s.toNat) := by
 unfold BT G6
 rw [EZ (d := 0) h0 h1, EZ (d := 0) h0 h2]
 simp only [oS, Bi]
 rw [show Es (0 ≤ m.fc.getD s.toNat 0) = some () from by unfold Es; rw [if_pos hb]]
 simp only [oS]
 by_cases h : 0 ≤ m.fa.getD s.toNat 0
 ·rw [AD h, if_pos h, show Es (0 ≤ m.fa.getD s.toNat 0) = some () from by unfold Es; rw [if_pos h]]; rfl
 ·rw [AB h, if_neg h]
theorem QR (N : Nat) (p : Aa) (m : Ab) (hN : N ≤ 1000000) (h1 : p.fb.length < N) (h2 : m.fc.length = p.fb.length) (h3 : m.fa.length = p.fb.length) (j : Option Int) :
  Ee N p m (fun _ => j) N 0 = BO (DP (LW m) 0 p.fb) j := by
 have := CU (Ee N p m (fun _ => j)) p.fb j (LW m)
  (fun n i x hx => by
   have hi := (lI.1 hx).1
   rw [Ee, AD (by omega), AS, hx]
   simp only [oS, Bi]
   rw [C4 (d := 0) (by omega), C4 (d := 0) (by omega), AE (by omega)]
   simp only [oS]
   unfold LW
   generalize m.fc.getD i 0 = a
   generalize m.fa.getD i 0 = b
   by_cases k7 : a = b
   ·subst k7
    by_cases k3 : a < 0 <;> by_cases k4 : x ≤ a <;> by_cases k5 : a < -1 <;> simp [k3, k4, k5, BO]
   ·have k8 : (a == b) = false := beq_eq_false_iff_ne.2 k7
    by_cases k3 : a < 0 <;> by_cases k4 : x ≤ a <;> by_cases k5 : b < -1 <;> by_cases k6 : x ≤ b <;> simp [k3, k4, k5, k6, k7, k8, BO])
  (fun n => by rw [Ee, AB (by omega)]) N 0 (by omega) (by omega)
 simpa using this
theorem QN (N : Nat) (p : Aa) (m : Ab) (hN : N ≤ 1000000) (h1 : p.fb.length < N) (h2 : m.fc.length = p.fb.length) (h3 : m.fa.length = p.fb.length) (j : Option Int) :
  B9 N p m (fun _ => j) N 0 = BO (DP (LW m) 0 p.fb) j := by
 have := CU (B9 N p m (fun _ => j)) p.fb j (LW m)
  (fun n i x hx => by
   have hi := (lI.1 hx).1
   rw [B9, AD (by omega), show BC p.fb (i : Int) = some x from by rw [AS, hx]]
   simp only [oS, Bi]
   rw [C4 (d := 0) (by omega), C4 (d := 0) (by omega), AE (by omega)]
   simp only [oS]
   unfold LW
   generalize m.fc.getD i 0 = a
   generalize m.fa.getD i 0 = b
   by_cases k7 : a = b
   ·subst k7
    by_cases k3 : a < 0 <;> by_cases k4 : x ≤ a <;> by_cases k5 : a < -1 <;> simp [k3, k4, k5, BO]
   ·have k8 : (a == b) = false := beq_eq_false_iff_ne.2 k7
    by_cases k3 : a < 0 <;> by_cases k4 : x ≤ a <;> by_cases k5 : b < -1 <;> by_cases k6 : x ≤ b <;> simp [k3, k4, k5, k6, k7, k8, BO])
  (fun n => by rw [B9, AB (by omega)]) N 0 (by omega) (by omega)
 simpa using this
structure MixServ (p : Aa) (m : Ab) : Prop where
 base : m.fc.length = p.fb.length
 next : m.fa.length = p.fb.length
 held : m.fd.length = p.fe.length
 b0 : ∀ i, i < p.fb.length → 0 ≤ m.fc.getD i 0 ∧ m.fc.getD i 0 < p.fb.getD i 0
 n0 : ∀ i, i < p.fb.length → -1 ≤ m.fa.getD i 0 ∧ m.fa.getD i 0 < p.fb.getD i 0
 ne : ∀ i, i < p.fb.length → m.fc.getD i 0 ≠ m.fa.getD i 0
theorem Qr {p : Aa} {m : Ab} (h2 : m.fc.length = p.fb.length) (h3 : m.fa.length = p.fb.length) (h4 : m.fd.length = p.fe.length) (h : DP (LW m) 0 p.fb = none) : MixServ p m := by
 have key : ∀ i, i < p.fb.length → ¬ (m.fc.getD i 0 < 0 ∨ p.fb.getD i 0 ≤ m.fc.getD i 0 ∨ m.fa.getD i 0 < -1 ∨ p.fb.getD i 0 ≤ m.fa.getD i 0) ∧ ¬ m.fc.getD i 0 = m.fa.getD i 0 := by
  intro i hi
  have hx : p.fb[i]? = some (p.fb.getD i 0) := by rw [lD]; simp [hi]
  have := Fj h i _ hx
  rw [zA4] at this
  unfold LW at this
  split at this
  ·cases this
  ·split at this
   ·cases this
   ·rename_i k1 k2; exact ⟨k1, k2⟩
 exact ⟨h2, h3, h4, fun i hi => by have := (key i hi).1; omega, fun i hi => by have := (key i hi).1; omega, fun i hi => (key i hi).2⟩
theorem RN {m : Ab} (hw : Nf Ln m.fd) {i : Nat} (h : i < m.fd.length) : Ln (m.fd.getD i 0) := by
 refine hw _ ?_
 rw [lD, zC3 h]
 exact zF6 _
theorem JA (N : Nat) (t : Av) : Fv N t = some (BU t) := by
 unfold Fv BU
 simp only [Bi]
 cases h : t.ff == 3 <;> simp
theorem GY (N : Nat) (t : Av) : A4 N t = some (BU t) := NF N t
theorem SE (N : Nat) (p : Aa) (m : Ab) (hN : N ≤ 1000000) (h1 : p.fe.length < N) (hp : A3 p) (hm : MixServ p m) (hw : Nf Ln m.fd) (j : Option Int) :
  DZ N p m (fun _ => j) N 0 = BO (DP (Jp p m) 0 p.fe) j := by
 have := CU (DZ N p m (fun _ => j)) p.fe j (Jp p m)
  (fun n i x hx => by
   have hi := (lI.1 hx).1
   have hin := IY (hp.tab x (lM hx))
   have hheld := RN hw (show i < m.fd.length from by rw [hm.held]; exact hi)
   have hv := Ka hp.ver hin.1 hin.2.1
   rw [DZ, AD (by omega), AS, hx]
   simp only [oS, Bi, JA]
   rw [LV N m x.fg hin.1 (by rw [hm.base]; exact hin.2.1) (by rw [hm.next]; exact hin.2.1) (hm.b0 _ (by omega)).1, EZ (d := 0) hin.1 hin.2.1, C4 (d := 0) (show i < m.fd.length from by rw [hm.held]; exact hi), AE (by omega)]
   simp only [oS]
   rw [show Es (0 ≤ p.fb.getD x.fg.toNat 0) = some () from by unfold Es; rw [if_pos (by omega)]]
   simp only [oS]
   unfold Jp VW
   rw [Uu hheld, Uw hheld]
   generalize Dn .u8 (G6 m x.fg.toNat) (m.fd.getD i 0) = A
   generalize Dn .u8 (m.fd.getD i 0) (wI .u8 (D3 .u8 1 (p.fb.getD x.fg.toNat 0) - 1)) = B
   generalize m.fd.getD i 0 = H
   cases BU x
   ·simp only [Am, bne_self_eq_false]
    by_cases k : H = 0
    ·simp [k, BO]
    ·have : (H != 0) = true := bne_iff_ne.2 k
     simp [k, this, BO]
   ·simp only [AG]
    by_cases k : A = 0
    ·by_cases k2 : B = 0
     ·simp [k, k2, BO]
     ·have : (B != 0) = true := bne_iff_ne.2 k2
      simp [k, k2, this, BO]
    ·have : (A != 0) = true := bne_iff_ne.2 k
     simp [k, this, BO])
  (fun n => by rw [DZ, AB (by omega)]) N 0 (by omega) (by omega)
 simpa using this
theorem Sv (N : Nat) (p : Aa) (m : Ab) (hN : N ≤ 1000000) (h1 : p.fe.length < N) (hp : A3 p) (hm : MixServ p m) (j : Option Int) :
  B1 N p m (fun _ => j) N 0 = BO (DP (Jp p m) 0 p.fe) j := by
 have := CU (B1 N p m (fun _ => j)) p.fe j (Jp p m)
  (fun n i x hx => by
   have hi := (lI.1 hx).1
   have hin := IY (hp.tab x (lM hx))
   have hv := Ka hp.ver hin.1 hin.2.1
   rw [B1, AD (by omega), AS, hx]
   simp only [oS, Bi, GY]
   rw [Ki N m x.fg hin.1 (by rw [hm.base]; exact hin.2.1) (by rw [hm.next]; exact hin.2.1) (hm.b0 _ (by omega)).1, EZ (d := 0) hin.1 hin.2.1, C4 (d := 0) (show i < m.fd.length from by rw [hm.held]; exact hi), AE (by omega)]
   simp only [oS]
   rw [show Es (0 ≤ p.fb.getD x.fg.toNat 0) = some () from by unfold Es; rw [if_pos (by omega)]]
   simp only [oS]
   unfold Jp VW
   generalize Dn .u8 (G6 m x.fg.toNat) (m.fd.getD i 0) = A
   generalize Dn .u8 (m.fd.getD i 0) (wI .u8 (D3 .u8 1 (p.fb.getD x.fg.toNat 0) - 1)) = B
   generalize m.fd.getD i 0 = H
   cases BU x
   ·simp only [zD6, AG, Am]
    by_cases k : H = 0
    ·simp [k, BO]
    ·have : (H != 0) = true := bne_iff_ne.2 k
     simp [k, this, BO]
   ·simp only [zB7, Am, AG]
    by_cases k : A = 0
    ·by_cases k2 : B = 0
     ·simp [k, k2, BO]
     ·have : (B != 0) = true := bne_iff_ne.2 k2
      simp [k, k2, this, BO]
    ·have : (A != 0) = true := bne_iff_ne.2 k
     by_cases k2 : B = 0
     ·simp [k, k2, this, BO]
     ·have h5 : (B != 0) = true := bne_iff_ne.2 k2
      simp [k, h5, BO])
  (fun n => by rw [B1, AB (by omega)]) N 0 (by omega) (by omega)
 simpa using this
theorem Hv (N : Nat) (p : Aa) (m : Ab) (hN : N ≤ 1000000) (h : 20 ≤ N) (hw : Nf Ln m.fd) : EW N p m = some (Fi p m) := by
 unfold EW Fi
 rw [Mi N p hN h]
 simp only [oS, Bi]
 by_cases k0 : Bx p = 0
 ·have hp : A3 p := by
   rcases HB p with h | h
   ·exact h.2
   ·omega
  have hnv := hp.nv
  have hnt := hp.nt
  rw [k0]
  simp only [bne_self_eq_false, Am, ne_eq, not_true_eq_false, if_false]
  by_cases k1 : m.fc.length = p.fb.length
  ·by_cases k2 : m.fa.length = p.fb.length
   ·by_cases k3 : m.fd.length = p.fe.length
    ·rw [k1, k2, k3]
     simp only [bne_self_eq_false, Am, not_true_eq_false, or_self, if_false]
     rw [QR N p m hN (by omega) k1 k2]
     cases hs : DP (LW m) 0 p.fb with
     | some r => rfl
     | none =>
      simp only [BO]
      rw [SE N p m hN (by omega) hp (Qr k1 k2 k3 hs) hw]
      cases DP (Jp p m) 0 p.fe <;> rfl
    ·have : ((m.fd.length : Int) != (p.fe.length : Int)) = true := bne_iff_ne.2 (by omega)
     rw [this, k1, k2]; simp [k3]
   ·have : ((m.fa.length : Int) != (p.fb.length : Int)) = true := bne_iff_ne.2 (by omega)
    rw [this, k1]; simp [k2]
  ·have : ((m.fc.length : Int) != (p.fb.length : Int)) = true := bne_iff_ne.2 (by omega)
   rw [this]; simp [k1]
 ·rw [bne_iff_ne.2 k0]; simp [k0]
theorem J2 (N : Nat) (p : Aa) (m : Ab) (hN : N ≤ 1000000) (h : 20 ≤ N) : Dg N p m = some (Fi p m) := by
 unfold Dg Fi
 rw [HW N p hN h]
 simp only [oS, Bi]
 by_cases k0 : Bx p = 0
 ·have hp : A3 p := by
   rcases HB p with h | h
   ·exact h.2
   ·omega
  have hnv := hp.nv
  have hnt := hp.nt
  rw [k0]
  simp only [bne_self_eq_false, Am, ne_eq, not_true_eq_false, if_false]
  by_cases k1 : m.fc.length = p.fb.length
  ·by_cases k2 : m.fa.length = p.fb.length
   ·by_cases k3 : m.fd.length = p.fe.length
    ·rw [k1, k2, k3]
     simp only [bne_self_eq_false, Am, not_true_eq_false, or_self, if_false]
     rw [QN N p m hN (by omega) k1 k2]
     cases hs : DP (LW m) 0 p.fb with
     | some r => rfl
     | none =>
      simp only [BO]
      rw [Sv N p m hN (by omega) hp (Qr k1 k2 k3 hs)]
      cases DP (Jp p m) 0 p.fe <;> rfl
    ·have : ((m.fd.length : Int) != (p.fe.length : Int)) = true := bne_iff_ne.2 (by omega)
     rw [this, k1, k2]; simp [k3]
   ·have : ((m.fa.length : Int) != (p.fb.length : Int)) = true := bne_iff_ne.2 (by omega)
    rw [this, k1]; simp [k2]
  ·have : ((m.fc.length : Int) != (p.fb.length : Int)) = true := bne_iff_ne.2 (by omega)
   rw [this]; simp [k1]
 ·rw [bne_iff_ne.2 k0]; simp [k0]
@[simp] theorem A7 {α β : Type} (k : α) (f : α → β) : Bi k f = f k := rfl
@[simp] theorem Vz {p : Prop} [Decidable p] (h : p) : Es p = some () := by unfold Es; rw [if_pos h]
theorem As {β : Type} {p : Prop} [Decidable p] (h : p) (f : Unit → Option β) : (Es p).bind f = f () := by rw [Vz h]; rfl
def C1 {α β : Type} (g : Nat → α → List β) : Nat → List α → List β
 | _, [] => []
 | i, x :: xs => g i x ++ C1 g (i + 1) xs
def Ix {α A : Type} (f : Nat → α → A → A) : Nat → List α → A → A
 | _, [], a => a
 | i, x :: xs, a => Ix f (i + 1) xs (f i x a)
theorem MD {α β : Type} (g : Nat → α → List β) : ∀ (i : Nat) (xs ys : List α), C1 g i (xs ++ ys) = C1 g i xs ++ C1 g (i + xs.length) ys
 | i, [], ys => by simp [C1]
 | i, x :: xs, ys => by
  rw [zG7, C1, C1, MD g (i + 1) xs ys, zD7, zC8, zF5, Nat.add_comm 1]
theorem Hk {α β : Type} {g : Nat → α → List β} {y : β} : ∀ {i : Nat} {xs : List α}, y ∈ C1 g i xs ↔ ∃ j x, xs[j]? = some x ∧ y ∈ g (i + j) x
 | _, [] => by simp [C1]
 | i, x :: xs => by
  rw [C1, zC2, Hk]
  constructor
  ·rintro (h | ⟨j, z, hz, h⟩)
   ·exact ⟨0, x, rfl, h⟩
   ·exact ⟨j + 1, z, by simpa using hz, by rwa [show i + (j + 1) = i + 1 + j from by omega]⟩
  ·rintro ⟨j, z, hz, h⟩
   cases j with
   | zero => simp at hz; subst hz; exact .inl h
   | succ j => exact .inr ⟨j, z, by simpa using hz, by rwa [show i + 1 + j = i + (j + 1) from by omega]⟩
theorem Gb {α β : Type} {g : Nat → α → List β} {c : Nat} : ∀ {i : Nat} {xs : List α}, (∀ j x, xs[j]? = some x → (g (i + j) x).length ≤ c) → (C1 g i xs).length ≤ c * xs.length
 | _, [], _ => by simp [C1]
 | i, x :: xs, h => by
  have h1 := h 0 x rfl
  have h2 := Gb (g := g) (c := c) (i := i + 1) (xs := xs) fun j y hy => by
   have := h (j + 1) y (by simpa using hy)
   rwa [show i + (j + 1) = i + 1 + j from by omega] at this
  rw [C1, zB8, zC8, Nat.mul_add]
  simp only [zF9] at h1
  omega
theorem II {α A S R : Type} (L : Nat → S → Option R) (mk : A → Int → S) (xs : List α) (j : A → Option R) (f : Nat → α → A → A) (I : Nat → A → Prop)
  (hs : ∀ (n i : Nat) (x : α) (a : A), xs[i]? = some x → I i a → L (n + 1) (mk a (i : Int)) = L n (mk (f i x a) ((i + 1 : Nat) : Int)) ∧ I (i + 1) (f i x a))
  (he : ∀ (n : Nat) (a : A), I xs.length a → L (n + 1) (mk a (xs.length : Int)) = j a) :
  ∀ (n i : Nat) (a : A), i ≤ xs.length → xs.length - i < n → I i a → L n (mk a (i : Int)) = j (Ix f i (xs.drop i) a) ∧ I xs.length (Ix f i (xs.drop i) a)
 | 0, i, _, _, h, _ => by omega
 | n + 1, i, a, hi, h, ha => by
  by_cases h1 : i < xs.length
  ·have hx : xs[i]? = some xs[i] := by simp [h1]
   obtain ⟨e1, e2⟩ := hs n i _ a hx ha
   rw [e1, CW hx, Ix]
   exact II L mk xs j f I hs he n (i + 1) _ (by omega) (by omega) e2
  ·have : i = xs.length := by omega
   subst this
   rw [zB0 (zB4 _), Ix]
   exact ⟨he n a ha, ha⟩
theorem OS {α β : Type} (g : Nat → α → List β) : ∀ (i : Nat) (xs : List α) (acc : List β), Ix (fun i x a => a ++ g i x) i xs acc = acc ++ C1 g i xs
 | _, [], acc => by simp [Ix, C1]
 | i, x :: xs, acc => by rw [Ix, OS g (i + 1) xs, C1, zD7]
theorem FM {α β S R : Type} (L : Nat → S → Option R) (mk : List β → Int → S) (xs : List α) (j : List β → Option R) (g : Nat → α → List β) (c B : Nat)
  (hg : ∀ i x, xs[i]? = some x → (g i x).length ≤ c)
  (hs : ∀ (n i : Nat) (x : α) (a : List β), xs[i]? = some x → a.length + (g i x).length ≤ B → L (n + 1) (mk a (i : Int)) = L n (mk (a ++ g i x) ((i + 1 : Nat) : Int)))
  (he : ∀ (n : Nat) (a : List β), L (n + 1) (mk a (xs.length : Int)) = j a) (n : Nat) (a : List β) (hn : xs.length < n) (ha : a.length + c * xs.length ≤ B) :
  L n (mk a 0) = j (a ++ C1 g 0 xs) := by
 have := II L mk xs j (fun i x a => a ++ g i x) (fun i b => i ≤ xs.length ∧ b.length ≤ a.length + c * i)
  (fun n i x b hx hb => by
   have h1 := hg i x hx
   have hi := (lI.1 hx).1
   have h2 : c * (i + 1) ≤ c * xs.length := Nat.mul_le_mul_left c hi
   have h3 : c * (i + 1) = c * i + c := Nat.mul_succ c i
   refine ⟨hs n i x b hx (by have := hb.2; omega), hi, ?_⟩
   rw [zB8]
   have := hb.2
   omega)
  (fun n b _ => he n b) n 0 a (zA9 _) (by omega) ⟨zA9 _, by omega⟩
 have h2 := this.1
 rw [zB9, OS] at h2
 exact h2
def DS (s : Int) (v : Nat) : Bool := s.toNat.testBit v
def IB (m : Ab) (s v : Nat) : Bool := decide (m.fc.getD s 0 = (v : Int)) || decide (m.fa.getD s 0 = (v : Int))
theorem Wc : ∀ (s : Fin 256) (v : Fin 8), GE .u8 (FQ .u8 (s.val : Int) (v.val : Int)) 1 = if DS (s.val : Int) v.val then 1 else 0 := by decide +kernel
theorem Qy {s : Int} {v : Nat} (h0 : 0 ≤ s) (h1 : s ≤ 255) (hv : v < 8) : GE .u8 (FQ .u8 s (v : Int)) 1 = if DS s v then 1 else 0 := by
 obtain ⟨k, rfl⟩ := zA7 h0
 exact Wc ⟨k, by omega⟩ ⟨v, hv⟩
theorem Rg {s : Int} {v : Nat} (h0 : 0 ≤ s) (h1 : s ≤ 255) (hv : v < 8) : (GE .u8 (FQ .u8 s (v : Int)) 1 == 0) = !DS s v := by
 rw [Qy h0 h1 hv]; cases DS s v <;> rfl
theorem RE {s : Int} {v : Nat} (h0 : 0 ≤ s) (h1 : s ≤ 255) (hv : v < 8) : (GE .u8 (FQ .u8 s (v : Int)) 1 == 1) = DS s v := by
 rw [Qy h0 h1 hv]; cases DS s v <;> rfl
theorem Kb {s : Int} {v : Nat} (h1 : s ≤ 255) (hv : 8 ≤ v) : DS s v = false := by
 unfold DS
 apply Nat.testBit_lt_two_pow
 have : (2 : Nat) ^ 8 ≤ 2 ^ v := Nat.pow_le_pow_right (by omega) hv
 omega
theorem J6 : ∀ (b : Fin 8) (v : Fin 8), DS (D3 .u8 1 (b.val : Int)) v.val = decide (b.val = v.val) ∧ 0 ≤ D3 .u8 1 (b.val : Int) ∧ D3 .u8 1 (b.val : Int) ≤ 255 := by decide +kernel
theorem VY : ∀ (b n : Fin 8) (v : Fin 8), DS (O9 .u8 (D3 .u8 1 (b.val : Int)) (D3 .u8 1 (n.val : Int))) v.val = (decide (b.val = v.val) || decide (n.val = v.val))
  ∧ 0 ≤ O9 .u8 (D3 .u8 1 (b.val : Int)) (D3 .u8 1 (n.val : Int)) ∧ O9 .u8 (D3 .u8 1 (b.val : Int)) (D3 .u8 1 (n.val : Int)) ≤ 255 := by decide +kernel
theorem Vd {m : Ab} {s : Nat} (hb0 : 0 ≤ m.fc.getD s 0) (hb1 : m.fc.getD s 0 < 8) (hn1 : m.fa.getD s 0 < 8) :
  (∀ v, DS (G6 m s) v = IB m s v) ∧ 0 ≤ G6 m s ∧ G6 m s ≤ 255 := by
 unfold G6 IB
 obtain ⟨b, hb⟩ := zA7 hb0
 rw [hb] at hb1 ⊢
 by_cases h : 0 ≤ m.fa.getD s 0
 ·obtain ⟨n, hn⟩ := zA7 h
  rw [hn] at hn1 ⊢
  rw [if_pos (by omega)]
  have h1 := VY ⟨b, by omega⟩ ⟨n, by omega⟩
  refine ⟨fun v => ?_, (h1 0).2⟩
  by_cases hv : v < 8
  ·rw [(h1 ⟨v, hv⟩).1]
   simp only [zK6]
  ·rw [Kb (h1 0).2.2 (by omega)]
   simp; omega
 ·rw [if_neg h]
  have h1 := J6 ⟨b, by omega⟩
  refine ⟨fun v => ?_, (h1 0).2⟩
  have h3 : decide (m.fa.getD s 0 = (v : Int)) = false := decide_eq_false (by omega)
  rw [h3, Bool.or_false]
  by_cases hv : v < 8
  ·rw [(h1 ⟨v, hv⟩).1]
   simp only [zK6]
  ·rw [Kb (h1 0).2.2 (by omega)]
   simp; omega
theorem UG {a : Nat} (h : a < 256) : (BitVec.ofInt 8 (a : Int)).toNat = a := by
 simp; omega
theorem Ou {a b : Int} (ha : 0 ≤ a ∧ a ≤ 255) (hb : 0 ≤ b ∧ b ≤ 255) : Dn .u8 a b = 0 ↔ ∀ v, DS a v = true → DS b v = true := by
 obtain ⟨a, rfl⟩ := zA7 ha.1
 obtain ⟨b, rfl⟩ := zA7 hb.1
 have hA := UG (a := a) (by omega)
 have hB := UG (a := b) (by omega)
 unfold Dn DS
 simp only [IntKind.bits, zB2]
 have hx : ∀ x : BitVec 8, wI .u8 (x.toNat : Int) = (x.toNat : Int) := by
  intro x
  have := x.isLt
  simp [wI, IntKind.signed, IntKind.bits]
  omega
 rw [hx]
 constructor
 ·intro h v hv
  have h0 : (BitVec.ofInt 8 (a : Int) &&& ~~~BitVec.ofInt 8 (b : Int)) = (BitVec.ofNat 8 0) := by
   apply BitVec.eq_of_toNat_eq
   simp only [BitVec.toNat_ofNat, Nat.zero_mod]
   exact zK6.1 h
  by_cases hv8 : v < 8
  ·have h1 : (BitVec.ofInt 8 (a : Int) &&& ~~~BitVec.ofInt 8 (b : Int)).getLsbD v = false := by rw [h0]; simp
   rw [BitVec.getLsbD_and, BitVec.getLsbD_not] at h1
   have e1 : (BitVec.ofInt 8 (a : Int)).getLsbD v = a.testBit v := by unfold BitVec.getLsbD; rw [hA]
   have e2 : (BitVec.ofInt 8 (b : Int)).getLsbD v = b.testBit v := by unfold BitVec.getLsbD; rw [hB]
   rw [e1, e2, hv] at h1
   simpa [hv8] using h1
  ·have := Kb (s := (a : Int)) (v := v) (by omega) (by omega)
   unfold DS at this
   rw [zB2, hv] at this
   cases this
 ·intro h
  have h0 : (BitVec.ofInt 8 (a : Int) &&& ~~~BitVec.ofInt 8 (b : Int)) = (BitVec.ofNat 8 0) := by
   apply BitVec.eq_of_getLsbD_eq
   intro i hi
   rw [BitVec.getLsbD_and, BitVec.getLsbD_not]
   have e1 : (BitVec.ofInt 8 (a : Int)).getLsbD i = a.testBit i := by unfold BitVec.getLsbD; rw [hA]
   have e2 : (BitVec.ofInt 8 (b : Int)).getLsbD i = b.testBit i := by unfold BitVec.getLsbD; rw [hB]
   rw [e1, e2]
   have := h i
   cases h3 : a.testBit i
   ·simp
   ·rw [this h3]; simp
  have h2 : ∀ x : BitVec 8, x = (BitVec.ofNat 8 0) → (x.toNat : Int) = 0 := fun x hx => by rw [hx]; rfl
  exact h2 _ h0
theorem WB : ∀ n : Fin 9, (∀ v : Fin 8, DS (wI .u8 (D3 .u8 1 (n.val : Int) - 1)) v.val = decide (v.val < n.val)) ∧ 0 ≤ wI .u8 (D3 .u8 1 (n.val : Int) - 1) ∧ wI .u8 (D3 .u8 1 (n.val : Int) - 1) ≤ 255 := by decide +kernel
theorem Wf {n : Int} (h0 : 0 ≤ n) (h1 : n ≤ 8) : (∀ v, DS (wI .u8 (D3 .u8 1 n - 1)) v = decide ((v : Int) < n)) ∧ 0 ≤ wI .u8 (D3 .u8 1 n - 1) ∧ wI .u8 (D3 .u8 1 n - 1) ≤ 255 := by
 obtain ⟨n, rfl⟩ := zA7 h0
 have h := WB ⟨n, by omega⟩
 refine ⟨fun v => ?_, h.2⟩
 by_cases hv : v < 8
 ·rw [h.1 ⟨v, hv⟩]; simp
 ·rw [Kb h.2.2 (by omega)]
  symm; apply decide_eq_false; omega
structure Bm (p : Aa) (m : Ab) : Prop extends MixServ p m where
 range : ∀ i, i < p.fe.length → 0 ≤ m.fd.getD i 0 ∧ m.fd.getD i 0 ≤ 255
 low : ∀ i t, p.fe[i]? = some t → BU t = true → ∀ v, IB m t.fg.toNat v = true → DS (m.fd.getD i 0) v = true
 high : ∀ i t, p.fe[i]? = some t → BU t = true → ∀ v, DS (m.fd.getD i 0) v = true → (v : Int) < p.fb.getD t.fg.toNat 0
 none : ∀ i t, p.fe[i]? = some t → BU t = false → m.fd.getD i 0 = 0
theorem Io {p : Aa} (hp : A3 p) {i : Nat} (hi : i < p.fb.length) : 1 ≤ p.fb.getD i 0 ∧ p.fb.getD i 0 ≤ 6 := by
 have := Ka (i := (i : Int)) hp.ver (by omega) (by omega)
 simpa using this
theorem Il {p : Aa} {m : Ab} (hp : A3 p) (hm : MixServ p m) {s : Nat} (hs : s < p.fb.length) :
  (∀ v, DS (G6 m s) v = IB m s v) ∧ 0 ≤ G6 m s ∧ G6 m s ≤ 255 := by
 have h1 := hm.b0 s hs
 have h2 := hm.n0 s hs
 have h3 := Io hp hs
 exact Vd h1.1 (by omega) (by omega)
theorem Q4 {p : Aa} {m : Ab} (hp : A3 p) (hm : MixServ p m) {i : Nat} {t : Av} (ht : p.fe[i]? = some t) (hr : 0 ≤ m.fd.getD i 0 ∧ m.fd.getD i 0 ≤ 255) :
  Jp p m i t = none ↔ ((BU t = true → (∀ v, IB m t.fg.toNat v = true → DS (m.fd.getD i 0) v = true) ∧ (∀ v, DS (m.fd.getD i 0) v = true → (v : Int) < p.fb.getD t.fg.toNat 0)) ∧ (BU t = false → m.fd.getD i 0 = 0)) := by
 have hin := IY (hp.tab t (lM ht))
 have hrun := Il hp hm (s := t.fg.toNat) (by omega)
 have hver := Io hp (i := t.fg.toNat) (by omega)
 have hall := Wf (n := p.fb.getD t.fg.toNat 0) (by omega) (by omega)
 unfold Jp VW
 have e1 := Ou hrun.2 hr
 have e2 := Ou hr hall.2
 cases hst : BU t
 ·simp
 ·simp only [if_true, true_implies, Bool.true_eq_false, false_implies, and_true, ite_eq_right_iff, reduceCtorEq, imp_false, not_or, Decidable.not_not]
  rw [e1, e2]
  simp only [hrun.1, hall.1, decide_eq_true_eq]
theorem IS {p : Aa} {m : Ab} (hw : Nf Ln m.fd) (h : Fi p m = 0) : A3 p ∧ Bm p m := by
 unfold Fi at h
 split at h
 ·rename_i k; exact (k h).elim
 ·rename_i k0
  have hp : A3 p := by
   rcases HB p with h | h
   ·exact h.2
   ·omega
  split at h
  ·cases h
  ·rename_i k1
   have b1 : m.fc.length = p.fb.length := Decidable.not_not.1 fun h => k1 (.inl h)
   have b2 : m.fa.length = p.fb.length := Decidable.not_not.1 fun h => k1 (.inr (.inl h))
   have b3 : m.fd.length = p.fe.length := Decidable.not_not.1 fun h => k1 (.inr (.inr h))
   cases hs : DP (LW m) 0 p.fb with
   | some r =>
    obtain ⟨j, x, _, he⟩ := EQ hs
    rw [hs] at h
    unfold LW at he
    simp only [BO, zC5] at h
    split at he
    ·cases he; cases h
    ·split at he
     ·cases he; cases h
     ·cases he
   | none =>
    have hm := Qr b1 b2 b3 hs
    rw [hs] at h
    simp only [BO] at h
    cases ht : DP (Jp p m) 0 p.fe with
    | some r =>
     obtain ⟨j, x, _, he⟩ := EQ ht
     rw [ht] at h
     simp only [zC5] at h
     subst h
     unfold Jp at he
     split at he
     ·split at he <;> cases he
     ·split at he <;> cases he
    | none =>
     have hr : ∀ i, i < p.fe.length → 0 ≤ m.fd.getD i 0 ∧ m.fd.getD i 0 ≤ 255 := fun i hi => I7 (RN hw (by omega))
     have key : ∀ i t, p.fe[i]? = some t → _ := fun i t hi => (Q4 hp hm hi (hr i (lI.1 hi).1)).1 (by have := Fj ht i t hi; rwa [zA4] at this)
     exact ⟨hp, hm, hr, fun i t hi hst => ((key i t hi).1 hst).1, fun i t hi hst => ((key i t hi).1 hst).2, fun i t hi hst => (key i t hi).2 hst⟩
theorem FX {α R : Type} {f : Nat → α → Option R} : ∀ {i : Nat} {xs : List α}, (∀ j x, xs[j]? = some x → f (i + j) x = none) → DP f i xs = none
 | _, [], _ => rfl
 | i, y :: ys, h => by
  rw [Hm, show f i y = none from h 0 y rfl]
  exact FX fun j x hx => by
   have := h (j + 1) x (by simpa using hx)
   rwa [show i + (j + 1) = i + 1 + j from by omega] at this
theorem M1 {p : Aa} (hp : A3 p) (hr : ∀ i, i < p.fb.length → 0 ≤ p.fj.getD i 0 ∧ p.fj.getD i 0 < p.fb.getD i 0 ∧ 0 ≤ p.fm.getD i 0 ∧ p.fm.getD i 0 < p.fb.getD i 0) : Bx p = 0 := by
 have := hp.nv
 have := hp.nt
 have := hp.now
 have := hp.tgt
 unfold Bx
 rw [if_neg (by omega), if_neg (by omega)]
 have h1 : DP (Ge p) 0 p.fb = none := FX fun j x hx => by
  have hj := (lI.1 hx).1
  have h1 := hr j hj
  have h2 := Io hp hj
  have e : p.fb.getD j 0 = x := by rw [lD, hx]; rfl
  rw [e] at h1 h2
  unfold Ge
  rw [zA4, if_neg (by omega)]
 have h2 : DP (Mo p) 0 p.fe = none := FX fun j x hx => by
  unfold Mo
  rw [if_pos (hp.tab x (lM hx))]
 rw [h1, h2]; rfl
theorem Cy {p : Aa} (h : Bx p = 0) : A3 p ∧ ∀ i, i < p.fb.length → 0 ≤ p.fj.getD i 0 ∧ p.fj.getD i 0 < p.fb.getD i 0 ∧ 0 ≤ p.fm.getD i 0 ∧ p.fm.getD i 0 < p.fb.getD i 0 := by
 have hp : A3 p := by
  rcases HB p with h | h
  ·exact h.2
  ·omega
 refine ⟨hp, fun i hi => ?_⟩
 have h1 := hp.nv
 have h2 := hp.nt
 have h3 := hp.now
 have h4 := hp.tgt
 unfold Bx at h
 rw [if_neg (by omega), if_neg (by omega)] at h
 cases hs : DP (Ge p) 0 p.fb with
 | some r =>
  obtain ⟨j, x, _, he⟩ := EQ hs
  rw [hs] at h
  unfold Ge at he
  split at he
  ·cases he; cases h
  ·cases he
 | none =>
  have hx : p.fb[i]? = some (p.fb.getD i 0) := by rw [lD]; simp [hi]
  have := Fj hs i _ hx
  rw [zA4] at this
  unfold Ge at this
  split at this
  ·cases this
  ·rename_i hn; omega
theorem Gr {p : Aa} {m : Ab} (hv : Bx p = 0) (hm : Bm p m) : Fi p m = 0 := by
 obtain ⟨hp, _⟩ := Cy hv
 unfold Fi
 rw [hv, if_neg (by simp), if_neg (by have := hm.base; have := hm.next; have := hm.held; omega)]
 have h1 : DP (LW m) 0 p.fb = none := FX fun j x hx => by
  have hj := (lI.1 hx).1
  have e : p.fb.getD j 0 = x := by rw [lD, hx]; rfl
  have h1 := hm.b0 j hj
  have h2 := hm.n0 j hj
  have h3 := hm.ne j hj
  rw [e] at h1 h2
  unfold LW
  rw [zA4, if_neg (by omega), if_neg h3]
 have h2 : DP (Jp p m) 0 p.fe = none := FX fun j x hx => by
  have hj := (lI.1 hx).1
  rw [zA4]
  exact (Q4 hp hm.toMixServ hx (hm.range j hj)).2 ⟨fun hst => ⟨hm.low j x hx hst, hm.high j x hx hst⟩, fun hst => hm.none j x hx hst⟩
 rw [h1, h2]; rfl
def OE {α : Type} (g : Nat → α → Bool) : Nat → List α → Bool
 | _, [] => false
 | i, x :: xs => g i x || OE g (i + 1) xs
theorem L0 {α β : Type} (g : Nat → α → List β) (h : Nat → α → Bool) : ∀ (i : Nat) (xs : List α) (a : List β) (b : Bool),
  Ix (fun i x (s : List β × Bool) => (s.1 ++ g i x, s.2 || h i x)) i xs (a, b) = (a ++ C1 g i xs, b || OE h i xs)
 | _, [], a, b => by simp [Ix, C1, OE]
 | i, x :: xs, a, b => by rw [Ix, L0 g h, C1, OE, zD7, Bool.or_assoc]
def gC (i u : Nat) (m : Ab) (t : Av) (v : Nat) (ok : Bool) : List Ai :=
 if IB m t.fo.toNat v && (!ok && !t.fq) then [⟨(i : Int), (u : Int), (v : Int)⟩] else []
def hC (m : Ab) (t : Av) (v : Nat) (ok : Bool) : Bool := IB m t.fo.toNat v && ok
def JX (i : Nat) (m : Ab) (t : Av) (u : Nat) (row : List Bool) : List Ai :=
 C1 (gC i u m t) 0 row ++ if t.fq && !OE (hC m t) 0 row then [⟨(i : Int), (u : Int), -1⟩] else []
def TW (m : Ab) (i : Nat) (t : Av) (u : Nat) : Bool := if BU t then DS (m.fd.getD i 0) u else IB m t.fg.toNat u
def JY (m : Ab) (i : Nat) (t : Av) : List Ai := C1 (fun u row => if TW m i t u then JX i m t u row else []) 0 t.fr
def Gp (p : Aa) (m : Ab) : List Ai := C1 (JY m) 0 p.fe
structure NZ (p : Aa) (t : Av) : Prop where
 kind : 1 ≤ t.ff ∧ t.ff ≤ 4
 aware : t.fq = true → BU t = false
 from0 : 0 ≤ t.fg ∧ t.fg < (p.fb.length : Int)
 to0 : 0 ≤ t.fo ∧ t.fo < (p.fb.length : Int)
 okL : (t.fr.length : Int) = p.fb.getD t.fg.toNat 0
 okR : ∀ row, row ∈ t.fr → (row.length : Int) = p.fb.getD t.fo.toNat 0
 reL : t.ff = 4 → (t.fp.length : Int) = p.fb.getD t.fg.toNat 0
 reR : ∀ row, row ∈ t.fp → (row.length : Int) = p.fb.getD t.fg.toNat 0
 reD : t.ff = 4 → I6 t.fp = none
 reN : t.ff ≠ 4 → t.fp = []
theorem LS {p : Aa} {t : Av} (h : Eh p t = 0) : NZ p t := by
 unfold Eh at h
 split at h
 ·cases h
 rename_i h1
 split at h
 ·cases h
 rename_i h2
 simp only at h
 split at h
 ·cases h
 rename_i h3
 have h3 : sq t.fr (p.fb.getD t.fg.toNat 0) (p.fb.getD t.fo.toNat 0) = true := by simpa using h3
 have h3 := Od h3
 have ha : t.fq = true → BU t = false := by
  intro ha
  unfold BU
  rw [zI4, beq_eq_false_iff_ne, beq_eq_false_iff_ne]
  exact ⟨fun hk => h1 (.inr (.inr ⟨ha, .inl hk⟩)), fun hk => h1 (.inr (.inr ⟨ha, .inr hk⟩))⟩
 split at h
 ·rename_i h4
  split at h
  ·cases h
  rename_i h5
  have h5 : sq t.fp (p.fb.getD t.fg.toNat 0) (p.fb.getD t.fg.toNat 0) = true := by simpa using h5
  have h5 := Od h5
  refine ⟨by omega, ha, by omega, by omega, h3.1, h3.2, fun _ => h5.1, h5.2, fun _ => ?_, fun h => (h h4).elim⟩
  cases hd : I6 t.fp with
  | none => rfl
  | some r =>
   obtain ⟨j, x, _, hx⟩ := EQ hd
   rw [hd] at h
   split at hx
   ·cases hx
   ·cases hx; cases h
 ·rename_i h4
  split at h
  ·rename_i h5
   have h5 := zD1 h5
   refine ⟨by omega, ha, by omega, by omega, h3.1, h3.2, fun h => (h4 h).elim, fun row hr => ?_, fun h => (h4 h).elim, fun _ => h5⟩
   rw [h5] at hr; cases hr
  ·cases h
theorem Lg {R : Type} (b : Bool) (acc : List Ai) (x : Ai) (j : List Ai → Option R) (h : acc.length + 1 ≤ Dv) :
  AN b ((Es (acc.length + ([x] : List Ai).length ≤ Dv)).bind fun _ => j (acc ++ [x])) (j acc) = j (acc ++ if b then [x] else []) := by
 cases b
 ·simp
 ·rw [AG, As (by simpa using h)]; rfl
theorem QY (N : Nat) (m : Ab) (t : Av) (i u : Nat) (row : List Bool) (R : Int) (b1 b2 acc : List Ai) (j : List Ai × Bool → Option (List Ai))
  (hN : N ≤ 1000000) (h8 : 8 ≤ N) (hrow : row.length ≤ 6) (hacc : acc.length + 6 ≤ Dv) (hR0 : 0 ≤ R) (hR1 : R ≤ 255) (hRb : ∀ v, DS R v = IB m t.fo.toNat v) :
  B3 N (b1, (i : Int)) t R (b2, (u : Int)) row j N (acc, false, 0) = j (acc ++ C1 (gC i u m t) 0 row, OE (hC m t) 0 row) := by
 have := II (A := List Ai × Bool) (B3 N (b1, (i : Int)) t R (b2, (u : Int)) row j) (fun a k => (a.1, a.2, k)) row (fun a => j a) (fun v ok s => (s.1 ++ gC i u m t v ok, s.2 || hC m t v ok))
  (fun v a => v ≤ row.length ∧ a.1.length ≤ acc.length + v)
  (fun n v ok a hx ha => by
   have hv := (lI.1 hx).1
   obtain ⟨c, f⟩ := a
   simp only at ha
   refine ⟨?_, by omega, ?_⟩
   ·rw [B3]
    simp only [A7]
    rw [AD (by omega), AS, hx]
    simp only [oS]
    rw [As (by omega), Rg hR0 hR1 (by omega), hRb, AE (by omega), Lg _ _ _ (fun l => B3 N (b1, (i : Int)) t R (b2, (u : Int)) row j n (l, true, ((v + 1 : Nat) : Int))) (by omega)]
    unfold gC hC
    rw [Lg _ _ _ (fun l => B3 N (b1, (i : Int)) t R (b2, (u : Int)) row j n (l, ok, ((v + 1 : Nat) : Int))) (by omega)]
    cases IB m t.fo.toNat v
    ·simp
    ·cases ok <;> cases f <;> cases t.fq <;> simp
   ·simp only [gC, zB8]
    split <;> simp <;> omega)
  (fun n a _ => by
   rw [B3]
   simp only [A7]
   rw [AB (by omega)]) N 0 (acc, false) (by omega) (by omega) ⟨by omega, by simp⟩
 have h2 := this.1
 rw [zB9, L0, zH1] at h2
 exact h2
theorem Mj {p : Aa} {t : Av} (hp : A3 p) (ht : NZ p t) : t.fr.length ≤ 6 ∧ ∀ row, row ∈ t.fr → row.length ≤ 6 := by
 have h1 := Ka hp.ver ht.from0.1 ht.from0.2
 have h2 := Ka hp.ver ht.to0.1 ht.to0.2
 have h3 := ht.okL
 exact ⟨by omega, fun row hr => by have := ht.okR row hr; omega⟩
theorem SW (i u : Nat) (m : Ab) (t : Av) (v : Nat) (ok : Bool) : (gC i u m t v ok).length ≤ 1 := by
 unfold gC; split <;> simp
theorem S4 (i : Nat) (m : Ab) (t : Av) (u : Nat) (row : List Bool) (h : row.length ≤ 6) : (JX i m t u row).length ≤ 7 := by
 unfold JX
 rw [zB8]
 have := Gb (g := gC i u m t) (c := 1) (i := 0) (xs := row) (fun j x _ => SW _ _ _ _ _ _)
 split <;> simp <;> omega
theorem ST (i : Nat) (m : Ab) (t : Av) (u : Nat) (row : List Bool) (h : row.length ≤ 6) : (if TW m i t u = true then JX i m t u row else []).length ≤ 7 := by
 have := S4 i m t u row h
 split <;> simp <;> omega
theorem N2 {p : Aa} {t : Av} (hp : A3 p) (ht : NZ p t) (i : Nat) (m : Ab) : (JY m i t).length ≤ 42 := by
 have h1 := Mj hp ht
 have := Gb (g := fun u row => if TW m i t u = true then JX i m t u row else []) (c := 7) (i := 0) (xs := t.fr) (fun j x hx => ST i m t _ x (h1.2 x (lM hx)))
 unfold JY
 omega
theorem Mp (N : Nat) (p : Aa) (m : Ab) (t : Av) (i : Nat) (W R : Int) (b1 acc : List Ai) (j : List Ai → Option (List Ai))
  (hN : N ≤ 1000000) (h8 : 8 ≤ N) (hp : A3 p) (ht : NZ p t) (hacc : acc.length + 42 ≤ 10000) (hR0 : 0 ≤ R) (hR1 : R ≤ 255) (hRb : ∀ v, DS R v = IB m t.fo.toNat v) (hW0 : 0 ≤ W) (hW1 : W ≤ 255) (hWb : ∀ v, DS W v = TW m i t v) :
  Ct N (b1, (i : Int)) t R W j N (acc, 0) = j (acc ++ JY m i t) := by
 have hl := Mj hp ht
 exact FM (Ct N (b1, (i : Int)) t R W j) (fun a k => (a, k)) t.fr j (fun u row => if TW m i t u then JX i m t u row else []) 7 10000
  (fun u row hx => ST i m t u row (hl.2 row (lM hx)))
  (fun n u row a hx ha => by
   have hu := (lI.1 hx).1
   have hrow := hl.2 row (lM hx)
   rw [Ct]
   simp only [A7]
   rw [AD (by omega), As (by omega), Rg hW0 hW1 (by omega), hWb, AS, hx]
   simp only [oS]
   rw [QY N m t i u row R b1 a a _ hN h8 hrow (by unfold Dv; omega) hR0 hR1 hRb, AE (by omega)]
   cases hw : TW m i t u
   ·simp
   ·simp only [zB7, Am, if_true, JX]
    have h1 := Gb (g := gC i u m t) (c := 1) (i := 0) (xs := row) (fun j x _ => SW _ _ _ _ _ _)
    have := Lg (R := List Ai) (t.fq && !OE (hC m t) 0 row) (a ++ C1 (gC i u m t) 0 row) ⟨(i : Int), (u : Int), -1⟩ (fun l => Ct N (b1, (i : Int)) t R W j n (l, ((u + 1 : Nat) : Int))) (by rw [zB8]; unfold Dv; rw [hw, if_pos rfl] at ha; omega)
    rw [← zD7, ← this]
    cases t.fq <;> cases OE (hC m t) 0 row <;> rfl)
  (fun n a => by
   rw [Ct]
   simp only [A7]
   rw [AB (by omega)]) N acc (by omega) (by omega)
theorem Re (N : Nat) (p : Aa) (m : Ab) (t : Av) (i u : Nat) (row : List Bool) (b1 b2 acc : List Ai) (j : List Ai × Bool → Option (List Ai))
  (hN : N ≤ 1000000) (h8 : 8 ≤ N) (hp : A3 p) (hm : MixServ p m) (ht : NZ p t) (hu : t.fr[u]? = some row) (hacc : acc.length + 6 ≤ Dv) :
  Bn N p m (b1, (i : Int)) t (b2, (u : Int)) j N (acc, false, 0) = j (acc ++ C1 (gC i u m t) 0 row, OE (hC m t) 0 row) := by
 have hrow := (Mj hp ht).2 row (lM hu)
 have hR := Il hp hm (s := t.fo.toNat) (by have := ht.to0; omega)
 have hlen := ht.okR row (lM hu)
 have hto := ht.to0
 have := II (A := List Ai × Bool) (Bn N p m (b1, (i : Int)) t (b2, (u : Int)) j) (fun a k => (a.1, a.2, k)) row (fun a => j a) (fun v ok s => (s.1 ++ gC i u m t v ok, s.2 || hC m t v ok))
  (fun v a => v ≤ row.length ∧ a.1.length ≤ acc.length + v)
  (fun n v ok a hx ha => by
   have hv := (lI.1 hx).1
   obtain ⟨c, f⟩ := a
   simp only at ha
   refine ⟨?_, by omega, ?_⟩
   ·rw [Bn]
    simp only [A7]
    rw [EZ (d := 0) hto.1 hto.2, Ki N m t.fo hto.1 (by rw [hm.base]; exact hto.2) (by rw [hm.next]; exact hto.2) (hm.b0 _ (by omega)).1, AS, hu]
    simp only [oS]
    unfold CA
    rw [AD (by omega), AS, hx, As (by omega), RE hR.2.1 hR.2.2 (by omega), hR.1]
    simp only [oS]
    rw [AE (by omega), Lg _ _ _ (fun l => Bn N p m (b1, (i : Int)) t (b2, (u : Int)) j n (l, true, ((v + 1 : Nat) : Int))) (by omega)]
    unfold gC hC
    rw [Lg _ _ _ (fun l => Bn N p m (b1, (i : Int)) t (b2, (u : Int)) j n (l, ok, ((v + 1 : Nat) : Int))) (by omega)]
    cases IB m t.fo.toNat v
    ·simp
    ·cases ok <;> cases f <;> cases t.fq <;> simp
   ·simp only [gC, zB8]
    split <;> simp <;> omega)
  (fun n a _ => by
   rw [Bn]
   simp only [A7]
   rw [EZ (d := 0) hto.1 hto.2]
   simp only [oS]
   rw [AB (by omega)]) N 0 (acc, false) (by omega) (by omega) ⟨by omega, by simp⟩
 have h2 := this.1
 rw [zB9, L0, zH1] at h2
 exact h2
theorem M3 (N : Nat) (p : Aa) (m : Ab) (t : Av) (i : Nat) (W : Int) (b1 acc : List Ai) (j : List Ai → Option (List Ai))
  (hN : N ≤ 1000000) (h8 : 8 ≤ N) (hp : A3 p) (hm : MixServ p m) (ht : NZ p t) (hacc : acc.length + 42 ≤ 10000) (hW0 : 0 ≤ W) (hW1 : W ≤ 255) (hWb : ∀ v, DS W v = TW m i t v) :
  BE N p m (b1, (i : Int)) t W j N (acc, 0) = j (acc ++ JY m i t) := by
 have hl := Mj hp ht
 have hfr := ht.from0
 have hok := ht.okL
 exact FM (BE N p m (b1, (i : Int)) t W j) (fun a k => (a, k)) t.fr j (fun u row => if TW m i t u then JX i m t u row else []) 7 10000
  (fun u row hx => ST i m t u row (hl.2 row (lM hx)))
  (fun n u row a hx ha => by
   have hu := (lI.1 hx).1
   have hrow := hl.2 row (lM hx)
   rw [BE]
   simp only [A7]
   rw [EZ (d := 0) hfr.1 hfr.2]
   simp only [oS]
   unfold CA
   rw [AD (by omega), As (by omega), RE hW0 hW1 (by omega), hWb]
   simp only [oS]
   rw [Re N p m t i u row b1 a a _ hN h8 hp hm ht hx (by unfold Dv; omega), AE (by omega)]
   cases hw : TW m i t u
   ·simp
   ·simp only [zB7, Am, if_true, JX]
    have h1 := Gb (g := gC i u m t) (c := 1) (i := 0) (xs := row) (fun j x _ => SW _ _ _ _ _ _)
    have := Lg (R := List Ai) (t.fq && !OE (hC m t) 0 row) (a ++ C1 (gC i u m t) 0 row) ⟨(i : Int), (u : Int), -1⟩ (fun l => BE N p m (b1, (i : Int)) t W j n (l, ((u + 1 : Nat) : Int))) (by rw [zB8]; unfold Dv; rw [hw, if_pos rfl] at ha; omega)
    rw [← zD7, ← this]
    cases t.fq <;> cases OE (hC m t) 0 row <;> rfl)
  (fun n a => by
   rw [BE]
   simp only [A7]
   rw [EZ (d := 0) hfr.1 hfr.2]
   simp only [oS]
   rw [AB (by omega)]) N acc (by omega) (by omega)
theorem Nh (N : Nat) (p : Aa) (m : Ab) (hN : N ≤ 1000000) (h20 : 20 ≤ N) (hp : A3 p) (hm : Bm p m) : FJ N p m = some (Gp p m) := by
 unfold FJ
 have hnt := hp.nt
 rw [FM (Du N p m _) (fun a k => (a, k)) p.fe some (JY m) 42 9000
  (fun i t hx => N2 hp (LS (hp.tab t (lM hx))) i m)
  (fun n i t a hx ha => by
   have hi := (lI.1 hx).1
   have ht := LS (hp.tab t (lM hx))
   have hto := ht.to0
   have hfr := ht.from0
   have hR := Il hp hm.toMixServ (s := t.fo.toNat) (by omega)
   have hF := Il hp hm.toMixServ (s := t.fg.toNat) (by omega)
   have hH := hm.range i hi
   rw [Du]
   simp only [A7]
   rw [AD (by omega), AS, hx]
   simp only [oS, JA]
   rw [LV N m t.fg hfr.1 (by rw [hm.base]; exact hfr.2) (by rw [hm.next]; exact hfr.2) (hm.b0 _ (by omega)).1, LV N m t.fo hto.1 (by rw [hm.base]; exact hto.2) (by rw [hm.next]; exact hto.2) (hm.b0 _ (by omega)).1, C4 (d := 0) (by rw [hm.held]; exact hi), AE (by omega)]
   simp only [oS]
   cases hs : BU t
   ·rw [Am, Mp N p m t i _ _ a a _ hN (by omega) hp ht (by omega) hR.2.1 hR.2.2 hR.1 hF.2.1 hF.2.2 (fun v => by unfold TW; rw [hs, hF.1]; rfl)]
   ·rw [AG, Mp N p m t i _ _ a a _ hN (by omega) hp ht (by omega) hR.2.1 hR.2.2 hR.1 hH.1 hH.2 (fun v => by unfold TW; rw [hs]; rfl)])
  (fun n a => by
   rw [Du]
   simp only [A7]
   rw [AB (by omega)]) N [] (by omega) (by simp; omega)]
 rfl
theorem JH (N : Nat) (p : Aa) (m : Ab) (hN : N ≤ 1000000) (h20 : 20 ≤ N) (hp : A3 p) (hm : Bm p m) : DY N p m = some (Gp p m) := by
 unfold DY
 have hnt := hp.nt
 rw [FM (CJ N p m _) (fun a k => (a, k)) p.fe some (JY m) 42 9000
  (fun i t hx => N2 hp (LS (hp.tab t (lM hx))) i m)
  (fun n i t a hx ha => by
   have hi := (lI.1 hx).1
   have ht := LS (hp.tab t (lM hx))
   have hto := ht.to0
   have hfr := ht.from0
   have hF := Il hp hm.toMixServ (s := t.fg.toNat) (by omega)
   have hH := hm.range i hi
   rw [CJ]
   simp only [A7]
   rw [AD (by omega), AS, hx]
   simp only [oS, GY]
   rw [Ki N m t.fg hfr.1 (by rw [hm.base]; exact hfr.2) (by rw [hm.next]; exact hfr.2) (hm.b0 _ (by omega)).1, C4 (d := 0) (by rw [hm.held]; exact hi), AE (by omega)]
   simp only [oS]
   cases hs : BU t
   ·rw [Am, M3 N p m t i _ a a _ hN (by omega) hp hm.toMixServ ht (by omega) hF.2.1 hF.2.2 (fun v => by unfold TW; rw [hs, hF.1]; rfl)]
   ·rw [AG, M3 N p m t i _ a a _ hN (by omega) hp hm.toMixServ ht (by omega) hH.1 hH.2 (fun v => by unfold TW; rw [hs]; rfl)])
  (fun n a => by
   rw [CJ]
   simp only [A7]
   rw [AB (by omega)]) N [] (by omega) (by simp; omega)]
 rfl
theorem Ff {A S R : Type} (L : Nat → S → Option R) (mk : A → Int → S) (len : Nat) (j : A → Option R) (I : Nat → A → Prop)
  (hs : ∀ (n i : Nat) (a : A), i < len → I i a → ∃ a', L (n + 1) (mk a (i : Int)) = L n (mk a' ((i + 1 : Nat) : Int)) ∧ I (i + 1) a')
  (he : ∀ (n : Nat) (a : A), I len a → L (n + 1) (mk a (len : Int)) = j a) :
  ∀ (n i : Nat) (a : A), i ≤ len → len - i < n → I i a → ∃ a', L n (mk a (i : Int)) = j a' ∧ I len a'
 | 0, i, _, _, h, _ => by omega
 | n + 1, i, a, hi, h, ha => by
  by_cases h1 : i < len
  ·obtain ⟨a', e1, e2⟩ := hs n i a h1 ha
   rw [e1]
   exact Ff L mk len j I hs he n (i + 1) _ (by omega) (by omega) e2
  ·have : i = len := by omega
   subst this
   exact ⟨a, he n a ha, ha⟩
theorem Jf {α : Type} {xs ys : List α} {i : Nat} {d : α} (h : i < xs.length) : (xs ++ ys).getD i d = xs.getD i d := by
 rw [lD, lD, zC1 h]
theorem Jk {α : Type} {xs : List α} {y : α} {i : Nat} {d : α} (h : i = xs.length) : (xs ++ [y]).getD i d = y := by
 subst h; rw [lD, zC9 (zB4 _)]; simp
theorem ON {α : Type} {P : Nat → α → Prop} {xs : List α} {y : α} {d : α} {n : Nat} (hn : xs.length = n) (h : ∀ k, k < n → P k (xs.getD k d)) (hy : P n y) : ∀ k, k < n + 1 → P k ((xs ++ [y]).getD k d) := by
 intro k hk
 by_cases h1 : k < n
 ·rw [Jf (by omega)]; exact h k h1
 ·have : k = n := by omega
  subst this
  rw [Jk hn.symm]; exact hy
theorem Tu {l : List Int} (hw : Nf Ln l) (i : Nat) : 0 ≤ l.getD i 0 ∧ l.getD i 0 ≤ 255 := by
 by_cases h : i < l.length
 ·have : l.getD i 0 ∈ l := by rw [lD, zC3 h]; exact zF6 _
  exact I7 (hw _ this)
 ·rw [lD, zD5 (by omega)]
  exact ⟨by decide, by decide⟩
theorem Px (N : Nat) {l : List Int} (hw : Nf Ln l) (i : Nat) : Eb N l (i : Int) = some (l.getD i 0) := by
 unfold Eb
 have h2 := Tu hw i
 by_cases h : i < l.length
 ·rw [AD (by omega), C4 (d := 0) h]
  simp only [oS]
  rw [Dw (by omega) (by omega)]
 ·rw [AB (by omega), lD, zD5 (by omega)]; rfl
theorem HT {a n : Int} (ha : 0 ≤ a) (hn : 0 < n) : 0 ≤ zB5 a n ∧ zB5 a n < n := ⟨Int.tmod_nonneg n ha, Int.tmod_lt_of_pos a hn⟩
theorem Xd {l : List (List Bool)} {n m : Int} (h1 : (l.length : Int) = n) (h2 : ∀ row, row ∈ l → (row.length : Int) = m) : sq l n m = true := by
 unfold sq
 simp only [zA6, decide_eq_true_eq, zA3]
 exact ⟨h1, h2⟩
theorem XF {p : Aa} {t : Av} (h : NZ p t) : Eh p t = 0 := by
 have hk := h.kind
 have hf := h.from0
 have ht := h.to0
 unfold Eh
 rw [if_neg, if_neg (by omega)]
 ·simp only [Xd h.okL h.okR]
  rw [if_neg (by simp)]
  by_cases h4 : t.ff = 4
  ·rw [if_pos h4, Xd (h.reL h4) h.reR, if_neg (by simp), h.reD h4]; rfl
  ·rw [if_neg h4, h.reN h4]; rfl
 ·rintro (h1 | h1 | ⟨h1, h2⟩)
  ·omega
  ·omega
  ·have := h.aware h1
   unfold BU at this
   rw [zI4, beq_eq_false_iff_ne, beq_eq_false_iff_ne] at this
   omega
theorem U8 (N : Nat) (m bad : Int) (diag : Bool) (i : Nat) (acc : List (List Bool)) {_R : Type} (j : List Bool → Option (List (List Bool))) (hN : N ≤ 1000000) (h20 : 20 ≤ N) (hm : 0 ≤ m ∧ m ≤ 6) (hi : i < 6) :
  ∃ row, Ck N m bad diag (acc, (i : Int)) j N ([], 0) = j row ∧ (row.length : Int) = m ∧ (diag = true → (i : Int) < m → row.getD i false = true) := by
 obtain ⟨M, rfl⟩ := zA7 hm.1
 obtain ⟨row, e, h1, h2⟩ := Ff (A := List Bool) (Ck N (M : Int) bad diag (acc, (i : Int)) j) (fun a k => (a, k)) M j
  (fun k a => a.length = k ∧ ∀ q, q < k → diag = true → q = i → a.getD q false = true)
  (fun n k a hk ha => by
   refine ⟨a ++ [(diag && decide (i = k)) || (zB5 (FQ .u16 bad ((3 * i + k : Nat) : Int)) 2 == 0)], ?_, by simp [ha.1], ON (P := fun q y => diag = true → q = i → y = true) ha.1 ha.2 (fun h1 h2 => by simp [h1, h2])⟩
   rw [Ck]
   simp only [A7]
   rw [AD (by omega), AE (by omega), Dw (n := 3 * (i : Int)) (by omega) (by omega), Dw (n := 3 * (i : Int) + (k : Int)) (by omega) (by omega)]
   have l1 : ∀ y : Bool, a.length + ([y] : List Bool).length ≤ Dv := by intro y; rw [ha.1]; unfold Dv; simp; omega
   simp only [As (l1 _), As (show (0 : Int) ≤ 3 * (i : Int) + (k : Int) by omega)]
   have e1 : ((3 * i + k : Nat) : Int) = 3 * (i : Int) + (k : Int) := by omega
   rw [e1]
   have e2 : (((i : Nat) : Int) == ((k : Nat) : Int)) = decide (i = k) := by
    by_cases h : i = k
    ·simp [h]
    ·rw [decide_eq_false h]; exact beq_eq_false_iff_ne.2 (by omega)
   rw [e2]
   cases diag <;> cases decide (i = k) <;> rfl)
  (fun n a _ => by
   rw [Ck]
   simp only [A7]
   rw [AB (by omega)]) N 0 [] (zA9 _) (by omega) ⟨rfl, fun q hq => by omega⟩
 exact ⟨row, e, by omega, fun hd hlt => h2 i (by omega) hd rfl⟩
theorem Tk (N : Nat) (n m bad : Int) (diag : Bool) (hN : N ≤ 1000000) (h20 : 20 ≤ N) (hn : 0 ≤ n ∧ n ≤ 6) (hm : 0 ≤ m ∧ m ≤ 6) :
  ∃ l, Ea N n m bad diag = some l ∧ (l.length : Int) = n ∧ (∀ row, row ∈ l → (row.length : Int) = m) ∧ (diag = true → n = m → I6 l = none) := by
 obtain ⟨M, rfl⟩ := zA7 hn.1
 unfold Ea
 obtain ⟨l, e, h1, h2⟩ := Ff (A := List (List Bool)) (Cq N (M : Int) m bad diag (fun v => some v)) (fun a k => (a, k)) M some
  (fun k a => a.length = k ∧ ∀ q, q < k → (((a.getD q []).length : Nat) : Int) = m ∧ (diag = true → (q : Int) < m → (a.getD q []).getD q false = true))
  (fun n k a hk ha => by
   obtain ⟨row, e, h1, h2⟩ := U8 (_R := Unit) N m bad diag k a (fun (v5 : List Bool) =>
    (Es (a.length + (([v5] : List (List Bool))).length ≤ Dv)).bind fun _ =>
    Cq N (M : Int) m bad diag (fun v => some v) n (a ++ (([v5] : List (List Bool))), (wI .i64 ((k : Int) + 1)))) hN h20 hm (by omega)
   refine ⟨a ++ [row], ?_, by simp [ha.1], ON (P := fun q y => ((y.length : Nat) : Int) = m ∧ (diag = true → (q : Int) < m → y.getD q false = true)) ha.1 ha.2 ⟨h1, h2⟩⟩
   rw [Cq]
   simp only
   rw [AD (by omega), e, As (by rw [ha.1]; unfold Dv; simp; omega), AE (by omega)])
  (fun n a _ => by
   rw [Cq]
   simp only
   rw [AB (by omega)]) N 0 [] (zA9 _) (by omega) ⟨rfl, fun q hq => by omega⟩
 have key : ∀ q row, l[q]? = some row → l.getD q [] = row := fun q row hq => by rw [lD, hq]; rfl
 refine ⟨l, e, by omega, fun row hr => ?_, fun hd hnm => ?_⟩
 ·obtain ⟨q, hq⟩ := zA8.1 hr
  have := (h2 q (by have := (lI.1 hq).1; omega)).1
  rwa [key q row hq] at this
 ·unfold I6
  refine FX fun q row hq => ?_
  have hlt := (lI.1 hq).1
  have := (h2 q (by omega)).2 hd (by omega)
  rw [key q row hq] at this
  rw [zA4, this]; rfl
structure VO (p : Aa) : Prop where
 valid : Bx p = 0
 nv : p.fb.length ≤ 3
 nt : p.fe.length ≤ 4
 v3 : ∀ v, v ∈ p.fb → v ≤ 3
theorem TV {p q : Aa} (h : p.fb = q.fb) (t : Av) : Eh p t = Eh q t := by
 unfold Eh; rw [h]
theorem bc (N : Nat) (d : BA) (hN : N ≤ 1000000) (h20 : 20 ≤ N) (hw : Fp d) : ∃ p ok, Fn N d = some (p, ok) ∧ (ok = true → VO p) := by
 obtain ⟨w1, w2, w3, w4, _⟩ := hw
 unfold Fn
 simp only [A7]
 by_cases k1 : 3 < d.fb.length
 ·rw [AD (by omega)]; exact ⟨_, false, rfl, fun h => by cases h⟩
 by_cases k2 : 4 < d.fv.length
 ·rw [AB (by omega), decide_eq_true (by omega : (4 : Int) < (d.fv.length : Int))]; exact ⟨_, false, rfl, fun h => by cases h⟩
 rw [AB (by omega), decide_eq_false (by omega : ¬ (4 : Int) < (d.fv.length : Int)), Am]
 obtain ⟨⟨vs, ns, ts⟩, e, h1, h2, h3, h4⟩ := Ff (A := List Int × List Int × List Int) (CQ N d fun v5 => Bz N d v5 (fun v16 => some (Aa.mk v5.1 v5.2.1 v5.2.2 v16, true)) N ([], 0)) (fun a k => (a.1, a.2.1, a.2.2, k)) d.fb.length
  (fun v5 => Bz N d v5 (fun v16 => some (Aa.mk v5.1 v5.2.1 v5.2.2 v16, true)) N ([], 0))
  (fun i a => a.1.length = i ∧ a.2.1.length = i ∧ a.2.2.length = i ∧ (∀ k, k < i → (1 ≤ a.1.getD k 0 ∧ a.1.getD k 0 ≤ 3) ∧ (0 ≤ a.2.1.getD k 0 ∧ a.2.1.getD k 0 < a.1.getD k 0) ∧ (0 ≤ a.2.2.getD k 0 ∧ a.2.2.getD k 0 < a.1.getD k 0)))
  (fun n i a hi ha => by
   obtain ⟨vs, ns, ts⟩ := a
   obtain ⟨h1, h2, h3, h4⟩ := ha
   simp only at h1 h2 h3 h4
   have hv := Tu w1 i
   have hb := Tu w2 i
   have hk := Tu w3 i
   have hm := HT (n := 3) hv.1 (by omega)
   obtain ⟨v, hvd⟩ : ∃ v, v = 1 + zB5 (d.fb.getD i 0) 3 := ⟨_, rfl⟩
   have m1 := HT (n := v) hb.1 (by omega)
   have m2 := HT (n := v) hk.1 (by omega)
   refine ⟨(vs ++ [v], ns ++ [zB5 (d.fj.getD i 0) v], ts ++ [zB5 (d.fm.getD i 0) v]), ?_, by simp [h1], by simp [h2], by simp [h3], ?_⟩
   ·rw [CQ]
    simp only
    rw [AD (by omega), C4 (d := 0) hi, Px N w2, Px N w3]
    simp only [oS]
    rw [Dw (n := zB5 _ _) (by omega) (by omega), Dw (n := 1 + _) (by omega) (by omega), ← hvd, AE (by omega)]
    have l1 : ∀ y : Int, vs.length + ([y] : List Int).length ≤ Dv := by intro y; rw [h1]; unfold Dv; simp; omega
    have l2 : ∀ y : Int, ns.length + ([y] : List Int).length ≤ Dv := by intro y; rw [h2]; unfold Dv; simp; omega
    have l3 : ∀ y : Int, ts.length + ([y] : List Int).length ≤ Dv := by intro y; rw [h3]; unfold Dv; simp; omega
    simp only [As (l1 _), As (l2 _), As (l3 _), As (show v ≠ 0 by omega)]
   ·intro k hk
    simp only
    by_cases hki : k < i
    ·rw [Jf (by omega), Jf (by omega), Jf (by omega)]; exact h4 k hki
    ·have : k = i := by omega
     subst this
     rw [Jk h1.symm, Jk h2.symm, Jk h3.symm]
     omega)
  (fun n a _ => by
   rw [CQ]
   simp only
   rw [AB (by omega)]) N 0 ([], [], []) (zA9 _) (by omega) ⟨rfl, rfl, rfl, fun k hk => by omega⟩
 simp only at h1 h2 h3 h4
 have e' : CQ N d (fun v5 => Bz N d v5 (fun v16 => some (Aa.mk v5.1 v5.2.1 v5.2.2 v16, true)) N ([], 0)) N ([], [], [], 0) = _ := e
 rw [e']
 have hvs : ∀ v, v ∈ vs → 1 ≤ v ∧ v ≤ 3 := by
  intro v hv
  obtain ⟨q, hq⟩ := zA8.1 hv
  have := (h4 q (by have := (lI.1 hq).1; omega)).1
  rwa [lD, hq] at this
 have fin : ∀ Of : List Av, Of.length ≤ 4 → (∀ t, t ∈ Of → Eh ⟨vs, ns, ts, []⟩ t = 0) → VO ⟨vs, ns, ts, Of⟩ := by
  intro Of ht h
  have hp : A3 ⟨vs, ns, ts, Of⟩ := ⟨show vs.length ≤ 6 by omega, show Of.length ≤ 12 by omega, show ns.length = vs.length by omega, show ts.length = vs.length by omega, fun v hv => by have := hvs v hv; omega, fun t ht => by rw [← h t ht]; exact TV rfl t⟩
  exact ⟨M1 hp fun i hi => by have := h4 i (by have : i < vs.length := hi; omega); simp only; omega, show vs.length ≤ 3 by omega, ht, fun v hv => (hvs v hv).2⟩
 by_cases k3 : vs.length = 0
 ·refine ⟨_, true, ?_, fun _ => fin [] (by simp) (fun t ht => by cases ht)⟩
  obtain ⟨M, rfl⟩ : ∃ M, N = M + 1 := ⟨N - 1, by omega⟩
  rw [Bz]
  simp only [A7]
  rw [k3]
  by_cases k4 : (0 : Int) < (d.fv.length : Int)
  ·rw [AD k4]; rfl
  ·rw [AB k4]; rfl
 obtain ⟨Of, e2, g1, g2⟩ := Ff (A := List Av) (Bz N d (vs, ns, ts) (fun v16 => some (Aa.mk vs ns ts v16, true))) (fun a k => (a, k)) d.fv.length (fun v16 => some (Aa.mk vs ns ts v16, true))
  (fun i a => a.length = i ∧ ∀ t, t ∈ a → Eh ⟨vs, ns, ts, []⟩ t = 0)
  (fun n i a hi ha => by
   have hx : d.fv[i]? = some d.fv[i] := by simp [hi]
   generalize d.fv[i] = l at hx
   obtain ⟨u1, u2, u3, _, u5, u6, _⟩ := w4 l (lM hx)
   have u1 := I7 u1
   have u2 := I7 u2
   have u3 := I7 u3
   have mk := HT (n := 4) u1.1 (by omega)
   have hL : (0 : Int) < (vs.length : Int) := by omega
   have mf := HT (n := (vs.length : Int)) u2.1 hL
   have mt := HT (n := (vs.length : Int)) u3.1 hL
   rw [Bz]
   simp only [A7]
   rw [AD (by omega), decide_eq_true hL, AG, AS, hx]
   simp only [oS]
   rw [As (by omega), As (by omega), Dw (n := l.fg) (by omega) (by omega), Dw (n := l.fo) (by omega) (by omega), Dw (n := zB5 l.ff 4) (by omega) (by omega), Dw (n := 1 + _) (by omega) (by omega), AE (by omega)]
   simp only [NF, oS]
   rw [EZ (d := 0) mf.1 mf.2, EZ (d := 0) mt.1 mt.2]
   simp only [oS]
   have hA : ∀ q : Int, 0 ≤ q → q < (vs.length : Int) → 1 ≤ vs.getD q.toNat 0 ∧ vs.getD q.toNat 0 ≤ 3 := fun q h0 h1 => (h4 q.toNat (by omega)).1
   have hf := hA _ mf.1 mf.2
   have ht := hA _ mt.1 mt.2
   obtain ⟨A, eA, a1, a2, _⟩ := Tk N (vs.getD (zB5 l.fg (vs.length : Int)).toNat 0) (vs.getD (zB5 l.fo (vs.length : Int)).toNat 0) l.fw false hN h20 (by omega) (by omega)
   obtain ⟨B, eB, b1, b2, b3⟩ := Tk N (vs.getD (zB5 l.fg (vs.length : Int)).toNat 0) (vs.getD (zB5 l.fg (vs.length : Int)).toNat 0) l.fy true hN h20 (by omega) (by omega)
   rw [eA, eB]
   simp only [oS]
   have l1 : ∀ y : Av, a.length + ([y] : List Av).length ≤ Dv := by intro y; rw [ha.1]; unfold Dv; simp; omega
   simp only [As (l1 _)]
   obtain ⟨kd, hkd⟩ : ∃ kd, kd = 1 + zB5 l.ff 4 := ⟨_, rfl⟩
   rw [← hkd]
   have fin2 : ∀ (aw : Bool) (re : List (List Bool)), (aw = true → (kd == 3 || kd == 4) = false) → ((kd = 4 → re = B) ∧ (kd ≠ 4 → re = [])) →
     Eh ⟨vs, ns, ts, []⟩ (Av.mk kd (zB5 l.fg (vs.length : Int)) (zB5 l.fo (vs.length : Int)) aw A re) = 0 := by
    intro aw re haw hre
    refine XF ⟨show 1 ≤ kd ∧ kd ≤ 4 by omega, haw, mf, mt, a1, a2, fun h => by rw [hre.1 h]; exact b1, fun row hr => ?_, fun h => by rw [hre.1 h]; exact b3 rfl rfl, fun h => hre.2 h⟩
    by_cases h4 : kd = 4
    ·simp only at hr; rw [hre.1 h4] at hr; exact b2 row hr
    ·simp only at hr; rw [hre.2 h4] at hr; cases hr
   have app : ∀ t, Eh ⟨vs, ns, ts, []⟩ t = 0 → (a ++ [t]).length = i + 1 ∧ ∀ t', t' ∈ a ++ [t] → Eh ⟨vs, ns, ts, []⟩ t' = 0 := by
    intro t ht
    refine ⟨by simp [ha.1], fun t' ht' => ?_⟩
    rcases zC2.1 ht' with h | h
    ·exact ha.2 t' h
    ·rw [zD2.1 h]; exact ht
   by_cases h4 : kd = 4
   ·have e4 : (kd == 4) = true := beq_iff_eq.2 h4
    have hre : (kd = 4 → B = B) ∧ (kd ≠ 4 → B = []) := ⟨fun _ => rfl, fun h => (h h4).elim⟩
    rw [e4]
    simp only [AG, zK9, zB7]
    cases l.fq
    ·exact ⟨_, rfl, app _ (fin2 false B (fun h => by cases h) hre)⟩
    ·exact ⟨_, rfl, app _ (fin2 false B (fun h => by cases h) hre)⟩
   ·have e4 : (kd == 4) = false := beq_eq_false_iff_ne.2 h4
    have hre : (kd = 4 → ([] : List (List Bool)) = B) ∧ (kd ≠ 4 → ([] : List (List Bool)) = []) := ⟨fun h => (h4 h).elim, fun _ => rfl⟩
    rw [e4]
    simp only [Am, Bool.or_false]
    cases l.fq
    ·exact ⟨_, rfl, app _ (fin2 false [] (fun h => by cases h) hre)⟩
    ·cases e3 : kd == 3
     ·exact ⟨_, rfl, app _ (fin2 true [] (fun _ => by rw [e3, e4]; rfl) hre)⟩
     ·exact ⟨_, rfl, app _ (fin2 false [] (fun h => by cases h) hre)⟩)
  (fun n a _ => by
   rw [Bz]
   simp only [A7]
   rw [AB (by omega), Am]) N 0 [] (zA9 _) (by omega) ⟨rfl, fun t ht => by cases ht⟩
 exact ⟨_, true, e2, fun _ => fin Of (by omega) g2⟩
def IF : List Int → Nat → Nat
 | [], _ => 0
 | _, 0 => 0
 | n :: ns, q + 1 => (if 0 ≤ n then 1 else 0) + IF ns q
theorem Ja (l : List Int) : IF l 0 = 0 := by cases l <;> rfl
theorem Hw : ∀ (l : List Int) (q : Nat), q < l.length → IF l (q + 1) = IF l q + if 0 ≤ l.getD q 0 then 1 else 0
 | [], q, h => by simp at h
 | n :: ns, 0, _ => by simp [IF, Ja]
 | n :: ns, q + 1, h => by
  rw [IF, Hw ns q (by simpa using h), IF, zI8, zF5]
theorem O2 (l : List Int) {a b : Nat} (h : a ≤ b) (hb : b ≤ l.length) : IF l a ≤ IF l b := by
 induction b with
 | zero => rw [Nat.le_zero.1 h]; exact zB4 _
 | succ b ih =>
  by_cases h1 : a = b + 1
  ·rw [h1]; exact zB4 _
  ·have := ih (by omega) (by omega)
   rw [Hw l b (by omega)]; omega
theorem KQ (l : List Int) : ∀ q, q ≤ l.length → IF l q ≤ q
 | 0, _ => by rw [Ja]; exact zB4 _
 | q + 1, h => by
  have := KQ l q (by omega)
  rw [Hw l q h]
  split <;> omega
def Np (l : List Int) (k q : Nat) : Int := if 0 ≤ l.getD q 0 ∧ k.testBit (IF l q) = true then -1 else l.getD q 0
def VR (l : List Int) (k : Nat) : List Int := (zB3 l.length).map (Np l k)
def X2 (m : Ab) (k : Nat) : Ab := ⟨m.fc, VR m.fa k, m.fd⟩
def Fo (m : Ab) : List Ab := (zB3 (2 ^ IF m.fa m.fa.length)).map (X2 m)
theorem Mh (l : List Int) (k : Nat) : (VR l k).length = l.length := by simp [VR]
theorem Qh (l : List Int) (k q : Nat) (h : q < l.length) : (VR l k).getD q 0 = Np l k q := by
 unfold VR; rw [lD, zA1, List.getElem?_range h]; rfl
theorem Fw {l1 l2 : List Int} (h1 : l1.length = l2.length) (h : ∀ q, q < l1.length → l1.getD q 0 = l2.getD q 0) : l1 = l2 := by
 apply List.ext_getElem h1
 intro q h2 h3
 have := h q h2
 rw [lD, lD, zC3 h2, zC3 h3] at this
 exact this
theorem S9 : ∀ (k : Fin 64) (b : Fin 7), GE .i64 (FQ .i64 (k.val : Int) (b.val : Int)) 1 = (if k.val.testBit b.val then 1 else 0) ∧ zB5 (FQ .i64 (k.val : Int) (b.val : Int)) 2 = (if k.val.testBit b.val then 1 else 0) := by decide +kernel
theorem W2 : ∀ n : Fin 7, D3 .i64 1 (n.val : Int) = ((2 ^ n.val : Nat) : Int) := by decide +kernel
structure Pe (m x : Ab) : Prop where
 base : x.fc = m.fc
 held : x.fd = m.fd
 len : x.fa.length = m.fa.length
 next : ∀ q, q < m.fa.length → x.fa.getD q 0 = m.fa.getD q 0 ∨ (0 ≤ m.fa.getD q 0 ∧ x.fa.getD q 0 = -1)
theorem Pe.refl (m : Ab) : Pe m m := ⟨rfl, rfl, rfl, fun _ _ => .inl rfl⟩
theorem Pe.trans {a b c : Ab} (h1 : Pe a b) (h2 : Pe b c) : Pe a c :=
 ⟨h2.base.trans h1.base, h2.held.trans h1.held, h2.len.trans h1.len, fun q hq => by
  have e1 := h1.next q hq
  have e2 := h2.next q (by rw [h1.len]; exact hq)
  omega⟩
theorem VK (m : Ab) (k : Nat) : Pe m (X2 m k) :=
 ⟨rfl, rfl, Mh _ _, fun q hq => by
  show (VR m.fa k).getD q 0 = _ ∨ _ ∧ (VR m.fa k).getD q 0 = _
  rw [Qh _ _ _ hq]; unfold Np
  split
  ·rename_i h; exact .inr ⟨h.1, rfl⟩
  ·exact .inl rfl⟩
theorem Tr : ∀ (l x : List Int), x.length = l.length → (∀ q, q < l.length → x.getD q 0 = l.getD q 0 ∨ (0 ≤ l.getD q 0 ∧ x.getD q 0 = -1)) → ∃ k, k < 2 ^ IF l l.length ∧ ∀ q, q < l.length → x.getD q 0 = Np l k q
 | [], x, h, _ => ⟨0, by simp [IF], fun q hq => by simp at hq⟩
 | n :: ns, [], h, _ => by simp at h
 | n :: ns, y :: ys, h, hq => by
  obtain ⟨k, hk, hk2⟩ := Tr ns ys (by simpa using h) (fun q hq' => by have := hq (q + 1) (by simpa using hq'); simpa using this)
  have h0 := hq 0 (by simp)
  simp only [zJ6] at h0
  by_cases hn : 0 ≤ n
  ·refine ⟨2 * k + if y = n then 0 else 1, ?_, ?_⟩
   ·rw [zC8, IF, if_pos hn, Nat.pow_add]
    split <;> omega
   ·intro q hq'
    cases q with
    | zero =>
     simp only [zJ6, Np, Ja]
     by_cases hy : y = n
     ·simp [hy]
     ·rw [if_neg hy, if_pos ⟨hn, by simp⟩]; omega
    | succ q =>
     have := hk2 q (by simpa using hq')
     simp only [zI8, Np, IF, if_pos hn] at this ⊢
     rw [this, Nat.add_comm 1, Nat.testBit_succ]
     have : (2 * k + if y = n then 0 else 1) / 2 = k := by split <;> omega
     rw [this]
  ·refine ⟨k, ?_, ?_⟩
   ·rw [zC8, IF, if_neg hn, zA4]; exact hk
   ·intro q hq'
    cases q with
    | zero =>
     simp only [zJ6, Np, Ja]
     rw [if_neg (fun h => hn h.1)]
     omega
    | succ q =>
     have := hk2 q (by simpa using hq')
     simp only [zI8, Np, IF, if_neg hn, zA4] at this ⊢
     exact this
theorem L4 {m x : Ab} : x ∈ Fo m ↔ Pe m x := by
 unfold Fo
 rw [zB6]
 constructor
 ·rintro ⟨k, _, rfl⟩; exact VK m k
 ·intro h
  obtain ⟨k, hk, hq⟩ := Tr m.fa x.fa h.len h.next
  refine ⟨k, zE0.2 hk, ?_⟩
  have : VR m.fa k = x.fa := Fw (by rw [Mh, h.len]) fun q hq' => by
   rw [Mh] at hq'
   rw [Qh _ _ _ hq', hq q hq']
  unfold X2
  rw [this, ← h.base, ← h.held]
theorem X3 {m x : Ab} (h : Pe m x) {s : Nat} (hs : s < m.fa.length) {v : Nat} (hv : IB x s v = true) : IB m s v = true := by
 unfold IB at hv ⊢
 rw [h.base] at hv
 have := h.next s hs
 simp only [zF7, decide_eq_true_eq] at hv ⊢
 omega
theorem UA {p : Aa} {m x : Ab} (hp : A3 p) (hm : Bm p m) (h : Pe m x) : Bm p x := by
 refine ⟨⟨by rw [h.base]; exact hm.base, by rw [h.len]; exact hm.next, by rw [h.held]; exact hm.held, fun i hi => by rw [h.base]; exact hm.b0 i hi, fun i hi => ?_, fun i hi => ?_⟩, fun i hi => by rw [h.held]; exact hm.range i hi, fun i t ht hs v hv => ?_, fun i t ht hs v hv => ?_, fun i t ht hs => by rw [h.held]; exact hm.none i t ht hs⟩
 ·have h1 := hm.n0 i hi
  have h2 := h.next i (by rw [hm.next]; exact hi)
  have h3 := Io hp hi
  omega
 ·have h1 := hm.ne i hi
  have h2 := h.next i (by rw [hm.next]; exact hi)
  have h3 := hm.b0 i hi
  rw [h.base]
  omega
 ·have hin := (LS (hp.tab t (lM ht))).from0
  rw [h.held]
  exact hm.low i t ht hs v (X3 h (by rw [hm.next]; omega) hv)
 ·rw [h.held] at hv
  exact hm.high i t ht hs v hv
theorem JL (N : Nat) (l : List Int) (h : l.length ≤ Dv) : BM N l = some l := by
 unfold BM
 rw [As (by simpa using h)]; rfl
theorem PV (N : Nat) (l : List Int) (h : l.length ≤ Dv) : BR N l = some l := by
 unfold BR
 rw [As (by simpa using h)]; rfl
theorem IV {l : List Int} {i q : Nat} {y : Int} (hi : i < l.length) : (l.set i y).getD q 0 = if q = i then y else l.getD q 0 := by
 rw [lD, lD, zI1]
 by_cases h : i = q
 ·subst h; simp [hi]
 ·rw [if_neg h, if_neg (fun e => h e.symm)]
theorem Wb {l : List Int} {a b : Nat} (ha : a < l.length) (hb : b < l.length) (h1 : 0 ≤ l.getD a 0) (h2 : 0 ≤ l.getD b 0) (h : IF l a = IF l b) : a = b := by
 rcases Nat.lt_trichotomy a b with h3 | h3 | h3
 ·have := O2 l (a := a + 1) (b := b) h3 (by omega)
  rw [Hw l a ha, if_pos h1] at this; omega
 ·exact h3
 ·have := O2 l (a := b + 1) (b := a) h3 (by omega)
  rw [Hw l b hb, if_pos h2] at this; omega
structure VE (l : List Int) (o : List Int) : Prop where
 len : o.length = IF l l.length
 at_ : ∀ b, b < o.length → ∃ i : Nat, o.getD b 0 = (i : Int) ∧ i < l.length ∧ 0 ≤ l.getD i 0 ∧ IF l i = b
theorem Sg (N : Nat) (l o : List Int) (k : Nat) (acc : List Ab) (hN : N ≤ 1000000) (h20 : 20 ≤ N) (hl : l.length ≤ 6) (ho : VE l o) (hk : k < 64) (j : List Int → Option (List Ab × Int)) :
  Da N o (acc, (k : Int)) j N (l, 0) = j (VR l k) := by
 have hol := KQ l l.length (zB4 _)
 have hoL := ho.len
 obtain ⟨x, e, h1, h2⟩ := Ff (A := List Int) (Da N o (acc, (k : Int)) j) (fun a k => (a, k)) o.length j
  (fun b a => a.length = l.length ∧ ∀ q, q < l.length → a.getD q 0 = if 0 ≤ l.getD q 0 ∧ IF l q < b ∧ k.testBit (IF l q) = true then -1 else l.getD q 0)
  (fun n b a hb ha => by
   obtain ⟨i, hi1, hi2, hi3, hi4⟩ := ho.at_ b hb
   have hbit := S9 ⟨k, hk⟩ ⟨b, by omega⟩
   rw [Da]
   simp only [A7]
   rw [AD (by omega), C4 (d := 0) hb]
   simp only [oS]
   rw [As (by omega), hi1, hbit.1, C4 (d := 0) (show i < a.length by rw [ha.1]; exact hi2), AE (by omega)]
   simp only [oS, zB2]
   cases hkb : k.testBit b
   ·refine ⟨a, rfl, ha.1, fun q hq => ?_⟩
    rw [ha.2 q hq]
    by_cases hqb : IF l q = b
    ·rw [hqb, hkb]; simp
    ·by_cases h3 : IF l q < b
     ·have : IF l q < b + 1 := by omega
      simp [h3, this]
     ·have : ¬ IF l q < b + 1 := by omega
      simp [h3, this]
   ·refine ⟨a.set i (-1), rfl, by simp [ha.1], fun q hq => ?_⟩
    rw [IV (by rw [ha.1]; exact hi2), ha.2 q hq]
    by_cases hqi : q = i
    ·subst hqi
     rw [if_pos rfl, if_pos ⟨hi3, by omega, by rw [hi4]; exact hkb⟩]
    ·rw [if_neg hqi]
     by_cases h0 : 0 ≤ l.getD q 0
     ·have hne : IF l q ≠ b := fun h => hqi (Wb hq hi2 h0 hi3 (by omega))
      by_cases h3 : IF l q < b
      ·have : IF l q < b + 1 := by omega
       simp [h3, this]
      ·have : ¬ IF l q < b + 1 := by omega
       simp [h3, this]
     ·rw [if_neg (fun h => h0 h.1), if_neg (fun h => h0 h.1)])
  (fun n a _ => by
   rw [Da]
   simp only [A7]
   rw [AB (by omega)]) N 0 l (zA9 _) (by omega) ⟨rfl, fun q hq => by simp⟩
 have e' : Da N o (acc, (k : Int)) j N (l, 0) = j x := e
 rw [e']
 congr 1
 refine Fw (by rw [Mh, h1]) fun q hq => ?_
 rw [h1] at hq
 rw [h2 q hq, Qh _ _ _ hq, Np]
 by_cases h0 : 0 ≤ l.getD q 0
 ·have h3 := O2 l (a := q + 1) (b := l.length) hq (zB4 _)
  rw [Hw l q hq, if_pos h0] at h3
  have : IF l q < o.length := by omega
  simp [this]
 ·rw [if_neg (fun h => h0 h.1), if_neg (fun h => h0 h.1)]
theorem Sk (N : Nat) (m : Ab) (k : Nat) (acc : List Ab) (hN : N ≤ 1000000) (h20 : 20 ≤ N) (hl : m.fa.length ≤ 6) (hk : k < 64) (j : List Int → Option (List Ab)) :
  BW N m (acc, (k : Int)) j N (m.fa, 0, 0) = j (VR m.fa k) := by
 obtain ⟨⟨x, pl⟩, e, h1, h2, h3⟩ := Ff (A := List Int × Nat) (BW N m (acc, (k : Int)) j) (fun a k => (a.1, (a.2 : Int), k)) m.fa.length (fun a => j a.1)
  (fun i a => a.2 = IF m.fa i ∧ a.1.length = m.fa.length ∧ ∀ q, q < m.fa.length → a.1.getD q 0 = if q < i then Np m.fa k q else m.fa.getD q 0)
  (fun n i a hi ha => by
   obtain ⟨a, pl⟩ := a
   obtain ⟨a1, a2, a3⟩ := ha
   simp only at a1 a2 a3
   have hple := KQ m.fa i (by omega)
   have hbit := S9 ⟨k, hk⟩ ⟨pl, by omega⟩
   have hs := Hw m.fa i hi
   rw [BW]
   simp only [A7]
   rw [AD (by omega), C4 (d := 0) hi]
   simp only [oS]
   rw [AE (by omega)]
   by_cases h0 : m.fa.getD i 0 < 0
   ·rw [AD h0]
    refine ⟨(a, pl), rfl, by simp only; rw [hs, if_neg (by omega), a1]; rfl, a2, fun q hq => ?_⟩
    simp only
    rw [a3 q hq]
    by_cases hqi : q = i
    ·subst hqi
     rw [if_neg (by omega), if_pos (by omega), Np, if_neg (by omega)]
    ·by_cases h4 : q < i
     ·rw [if_pos h4, if_pos (by omega)]
     ·rw [if_neg h4, if_neg (by omega)]
   ·rw [AB h0, As (by omega), C4 (d := 0) (show i < a.length by omega), hbit.2, AE (by omega)]
    simp only [oS, zB2]
    cases hkb : k.testBit pl
    ·refine ⟨(a, pl + 1), rfl, by simp only; rw [hs, if_pos (by omega), a1], a2, fun q hq => ?_⟩
     simp only
     rw [a3 q hq]
     by_cases hqi : q = i
     ·subst hqi
      rw [if_neg (by omega), if_pos (by omega), Np, ← a1, hkb]; simp
     ·by_cases h4 : q < i
      ·rw [if_pos h4, if_pos (by omega)]
      ·rw [if_neg h4, if_neg (by omega)]
    ·refine ⟨(a.set i (-1), pl + 1), rfl, by simp only; rw [hs, if_pos (by omega), a1], by simp [a2], fun q hq => ?_⟩
     simp only
     rw [IV (by omega), a3 q hq]
     by_cases hqi : q = i
     ·subst hqi
      rw [if_pos rfl, if_pos (by omega), Np, ← a1, if_pos ⟨by omega, hkb⟩]
     ·rw [if_neg hqi]
      by_cases h4 : q < i
      ·rw [if_pos h4, if_pos (by omega)]
      ·rw [if_neg h4, if_neg (by omega)])
  (fun n a _ => by
   rw [BW]
   simp only [A7]
   rw [AB (by omega)]) N 0 (m.fa, 0) (zA9 _) (by omega) ⟨(Ja _).symm, rfl, fun q hq => by simp⟩
 have e' : BW N m (acc, (k : Int)) j N (m.fa, 0, 0) = j x := e
 rw [e']
 congr 1
 simp only at h2 h3
 refine Fw (by rw [Mh, h2]) fun q hq => ?_
 rw [h2] at hq
 rw [h3 q hq, if_pos hq, Qh _ _ _ hq]
theorem Uy (N : Nat) (m : Ab) (hN : N ≤ 1000000) (h20 : 20 ≤ N) (hl : m.fa.length ≤ 6) (j : List Int → Option (List Ab × Int)) :
  ∃ o, DT N m j N ([], 0) = j o ∧ VE m.fa o := by
 obtain ⟨o, e, h1, h2⟩ := Ff (A := List Int) (DT N m j) (fun a k => (a, k)) m.fa.length j
  (fun i o => o.length = IF m.fa i ∧ ∀ b, b < o.length → ∃ q : Nat, o.getD b 0 = (q : Int) ∧ q < m.fa.length ∧ 0 ≤ m.fa.getD q 0 ∧ IF m.fa q = b)
  (fun n i o hi ho => by
   have hple := KQ m.fa i (by omega)
   have hs := Hw m.fa i hi
   rw [DT]
   simp only [A7]
   rw [AD (by omega), C4 (d := 0) hi]
   simp only [oS]
   rw [AE (by omega)]
   by_cases h0 : 0 ≤ m.fa.getD i 0
   ·rw [AD h0, As (by rw [ho.1]; unfold Dv; simp; omega)]
    refine ⟨o ++ [(i : Int)], rfl, by rw [hs, if_pos h0, ← ho.1]; simp, ?_⟩
    rw [zB8]
    exact ON (P := fun b y => ∃ q : Nat, y = (q : Int) ∧ q < m.fa.length ∧ 0 ≤ m.fa.getD q 0 ∧ IF m.fa q = b) rfl ho.2 ⟨i, rfl, hi, h0, ho.1.symm⟩
   ·rw [AB h0]
    exact ⟨o, rfl, by rw [hs, if_neg h0, ho.1]; rfl, ho.2⟩)
  (fun n a _ => by
   rw [DT]
   simp only [A7]
   rw [AB (by omega)]) N 0 [] (zA9 _) (by omega) ⟨(Ja _).symm, fun b hb => by simp at hb⟩
 exact ⟨o, e, h1, h2⟩
theorem Mc {n : Nat} (h : n ≤ 6) : 2 ^ n ≤ 64 := Nat.pow_le_pow_right (n := 2) (by omega) h
theorem Oc {n : Nat} (h : n ≤ 6) : D3 .i64 1 (n : Int) = ((2 ^ n : Nat) : Int) := W2 ⟨n, by omega⟩
theorem KT {β : Type} (f : Nat → β) (n : Nat) : (zB3 (n + 1)).map f = (zB3 n).map f ++ [f n] := by
 rw [zG5, zF0]; rfl
theorem Pf (N : Nat) (p : Aa) (m : Ab) (hN : N ≤ 1000000) (h20 : 100 ≤ N) (hw : Nf Ln m.fd) (hv : Fi p m = 0) : G7 N p m = some (Fo m, 0) := by
 obtain ⟨hp, hm⟩ := IS hw hv
 have hnv := hp.nv
 have hnt := hp.nt
 have hl : m.fa.length ≤ 6 := by rw [hm.next]; omega
 unfold G7
 rw [Hv N p m hN (by omega) hw, hv]
 simp only [oS, bne_self_eq_false, Am]
 obtain ⟨o, e, ho⟩ := Uy N m hN (by omega) hl (fun (v4 : (List Int)) =>
   (Es (0 ≤ (v4.length : Int))).bind fun _ =>
   C6 N m v4 (fun (v12 : (List Ab)) =>
    some (v12, 0)) N (([] : List Ab), 0))
 rw [e, As (by omega)]
 have hoL := ho.len
 have hol := KQ m.fa m.fa.length (zB4 _)
 have hpow := Mc (show IF m.fa m.fa.length ≤ 6 by omega)
 obtain ⟨a, e2, h1⟩ := Ff (A := List Ab) (C6 N m o fun v12 => some (v12, 0)) (fun a k => (a, k)) (2 ^ IF m.fa m.fa.length) (fun v12 => some (v12, 0))
  (fun i a => a = (zB3 i).map (X2 m))
  (fun n i a hi ha => by
   refine ⟨a ++ [X2 m i], ?_, by rw [KT, ha]⟩
   have hal : a.length = i := by rw [ha]; simp
   rw [C6]
   rw [hoL, Oc (n := IF m.fa m.fa.length) (by omega), AD (by omega), JL N m.fc (by have := hm.base; unfold Dv; omega), JL N m.fa (by unfold Dv; omega), PV N m.fd (by have := hm.held; unfold Dv; omega)]
   simp only [oS]
   rw [Sg N m.fa o i a hN (by omega) hl ho (by omega), As (by rw [hal]; unfold Dv; simp; omega), AE (by omega)]
   rfl)
  (fun n a _ => by
   rw [C6]
   rw [hoL, Oc (n := IF m.fa m.fa.length) (by omega), AB (by simp)]) N 0 [] (zA9 _) (by omega) rfl
 have e2' : C6 N m o (fun v12 => some (v12, 0)) N ([], 0) = some (a, 0) := e2
 rw [e2', h1]; rfl
theorem So (N : Nat) (m : Ab) (h1 : m.fc.length ≤ Dv) (h2 : m.fa.length ≤ Dv) (h3 : m.fd.length ≤ Dv) : El N m = some m := by
 unfold El
 rw [As (by simpa using h1), As (by simpa using h2), As (by simpa using h3)]; rfl
theorem SJ (N : Nat) (m : Ab) (hN : N ≤ 1000000) (h20 : 100 ≤ N) (h1 : m.fc.length ≤ 100) (hl : m.fa.length ≤ 6) (h3 : m.fd.length ≤ 100) : DO N m = some (Fo m) := by
 unfold DO
 obtain ⟨c, e, hc⟩ := Ff (A := Nat) (CE N m (fun (v2 : Int) =>
  By N m v2 (fun (v8 : (List Ab)) => some v8) N (([] : List Ab), 0))) (fun a k => ((a : Int), k)) m.fa.length (fun a => By N m (a : Int) (fun (v8 : (List Ab)) => some v8) N (([] : List Ab), 0))
  (fun i a => a = IF m.fa i)
  (fun n i a hi ha => by
   have hple := KQ m.fa i (by omega)
   have hs := Hw m.fa i hi
   rw [CE]
   simp only [A7]
   rw [AD (by omega), C4 (d := 0) hi]
   simp only [oS]
   rw [AE (by omega), AE (by omega)]
   by_cases h0 : 0 ≤ m.fa.getD i 0
   ·rw [AD h0]
    exact ⟨a + 1, rfl, by rw [hs, if_pos h0, ha]⟩
   ·rw [AB h0]
    exact ⟨a, rfl, by rw [hs, if_neg h0, ha]; rfl⟩)
  (fun n a _ => by
   rw [CE]
   simp only [A7]
   rw [AB (by omega)]) N 0 0 (zA9 _) (by omega) (Ja _).symm
 have e' : CE N m (fun (v2 : Int) => By N m v2 (fun (v8 : (List Ab)) => some v8) N (([] : List Ab), 0)) N (0, 0) = _ := e
 rw [e', hc]
 have hol := KQ m.fa m.fa.length (zB4 _)
 have hpow := Mc (show IF m.fa m.fa.length ≤ 6 by omega)
 obtain ⟨a, e2, h1⟩ := Ff (A := List Ab) (By N m (IF m.fa m.fa.length : Int) fun v8 => some v8) (fun a k => (a, k)) (2 ^ IF m.fa m.fa.length) some
  (fun i a => a = (zB3 i).map (X2 m))
  (fun n i a hi ha => by
   refine ⟨a ++ [X2 m i], ?_, by rw [KT, ha]⟩
   have hal : a.length = i := by rw [ha]; simp
   rw [By]
   rw [As (by omega), Oc (n := IF m.fa m.fa.length) (by omega), AD (by omega), So N m (by unfold Dv; omega) (by unfold Dv; omega) (by unfold Dv; omega)]
   simp only [oS]
   rw [Sk N m i a hN (by omega) hl (by omega), As (by rw [hal]; unfold Dv; simp; omega), AE (by omega)]
   rfl)
  (fun n a _ => by
   rw [By]
   rw [As (by omega), Oc (n := IF m.fa m.fa.length) (by omega), AB (by simp)]) N 0 [] (zA9 _) (by omega) rfl
 have e2' : By N m (IF m.fa m.fa.length : Int) (fun v8 => some v8) N ([], 0) = some a := e2
 rw [e2', h1]; rfl
theorem Oe (N : Nat) (p : Aa) (m : Ab) (hN : N ≤ 1000000) (h20 : 100 ≤ N) (hp : A3 p) (hm : Bm p m) : DO N m = some (Fo m) := by
 have := hp.nv
 have := hp.nt
 exact SJ N m hN h20 (by rw [hm.base]; omega) (by rw [hm.next]; omega) (by rw [hm.held]; omega)
theorem Ij {p : Aa} {m : Ab} (hm : Bm p m) : Nf Ln m.fd := by
 intro x hx
 obtain ⟨q, hq⟩ := zA8.1 hx
 have h1 := (lI.1 hq).1
 have := hm.range q (by rw [← hm.held]; exact h1)
 rw [lD, hq] at this
 unfold Ln
 simp only [zC5] at this
 simp [Lit.wf, IntKind.min, IntKind.max, IntKind.signed, IntKind.bits]
 omega
def JB (p : Aa) (x : Ab) : Option (Ab × Ai) := match Gp p x with
 | [] => none
 | c :: _ => some (x, c)
def HI (p : Aa) (m : Ab) : Option (Ab × Ai) := DP (fun _ x => JB p x) 0 (Fo m)
def FR : Ab := ⟨[], [], []⟩
def Na : Ai := ⟨0, 0, 0⟩
def J0 (p : Aa) (m : Ab) : Ab × Ai × Int := match HI p m with
 | some (x, c) => (x, c, 0)
 | none => (FR, Na, 15)
def BJ (p : Aa) (m : Ab) : Bool := (HI p m).isNone
theorem L7 {m : Ab} (hl : m.fa.length ≤ 6) : (Fo m).length ≤ 64 := by
 unfold Fo
 have hol := KQ m.fa m.fa.length (zB4 _)
 have hpow := Mc (show IF m.fa m.fa.length ≤ 6 by omega)
 simpa using hpow
theorem MX {α R R' : Type} (f : Nat → α → Option R) (g : R → R') : ∀ (i : Nat) (xs : List α), DP (fun i x => (f i x).map g) i xs = (DP f i xs).map g
 | _, [] => rfl
 | i, x :: xs => by
  rw [Hm, Hm]
  cases f i x
  ·exact MX f g (i + 1) xs
  ·rfl
theorem JT (N : Nat) (p : Aa) (m : Ab) (hN : N ≤ 1000000) (h20 : 100 ≤ N) (hw : Nf Ln m.fd) (hv : Fi p m = 0) : F2 N p m = some (J0 p m) := by
 obtain ⟨hp, hm⟩ := IS hw hv
 have hnv := hp.nv
 unfold F2
 rw [Pf N p m hN h20 hw hv]
 simp only [oS, bne_self_eq_false, Am]
 have hal := L7 (m := m) (by rw [hm.next]; omega)
 have := CU (ER N p (Fo m, 0) fun _ => some (FR, Na, 15)) (Fo m) (some (FR, Na, 15)) (fun _ x => (JB p x).map fun y => (y.1, y.2, 0))
  (fun n i x hx => by
   have hi := (lI.1 hx).1
   have hx2 := UA hp hm (L4.1 (lM hx))
   rw [ER, AD (by simp only; omega)]
   simp only [AS, hx, oS]
   rw [Nh N p x hN (by omega) hp hx2, AE (by omega)]
   simp only [oS, JB]
   cases Gp p x with
   | nil => rfl
   | cons c cs => rw [AD (by simp only [zC8]; omega)]; rfl)
  (fun n => by rw [ER, AB (by simp)]) N 0 (zA9 _) (by omega)
 rw [zB9, MX] at this
 exact this.trans (by
  unfold J0 HI
  cases DP (fun _ x => JB p x) 0 (Fo m) <;> rfl)
theorem MJ (N : Nat) (p : Aa) (m : Ab) (hN : N ≤ 1000000) (h20 : 100 ≤ N) (hw : Nf Ln m.fd) (hv : Fi p m = 0) : EH N p m = some (J0 p m) := by
 obtain ⟨hp, hm⟩ := IS hw hv
 have hnv := hp.nv
 unfold EH Fd
 rw [J2 N p m hN (by omega), hv, Oe N p m hN h20 hp hm]
 simp only [oS, bne_self_eq_false, Am]
 have hal := L7 (m := m) (by rw [hm.next]; omega)
 have := CU (CL N p (Fo m, 0) fun _ => some (FR, Na, 15)) (Fo m) (some (FR, Na, 15)) (fun _ x => (JB p x).map fun y => (y.1, y.2, 0))
  (fun n i x hx => by
   have hi := (lI.1 hx).1
   have hx2 := UA hp hm (L4.1 (lM hx))
   rw [CL, AD (by simp only; omega)]
   simp only [AS, hx, oS]
   rw [JH N p x hN (by omega) hp hx2, AE (by omega)]
   simp only [oS, JB]
   cases Gp p x with
   | nil => rfl
   | cons c cs => rw [AD (by simp only [zC8]; omega)]; rfl)
  (fun n => by rw [CL, AB (by simp)]) N 0 (zA9 _) (by omega)
 rw [zB9, MX] at this
 exact this.trans (by
  unfold J0 HI
  cases DP (fun _ x => JB p x) 0 (Fo m) <;> rfl)
theorem Pd (N : Nat) (p : Aa) (m : Ab) (hN : N ≤ 1000000) (h20 : 100 ≤ N) (hw : Nf Ln m.fd) (hv : Fi p m = 0) : F8 N p m = some (BJ p m, 0) := by
 unfold F8
 rw [JT N p m hN h20 hw hv]
 unfold BJ J0
 cases HI p m <;> rfl
theorem RK (N : Nat) (p : Aa) (m : Ab) (hN : N ≤ 1000000) (h20 : 100 ≤ N) (hp : A3 p) (hm : Bm p m) : Ep N p m = some (Gp p m).isEmpty := by
 unfold Ep
 rw [JH N p m hN (by omega) hp hm]
 simp only [oS]
 cases Gp p m with
 | nil => rfl
 | cons c cs =>
  rw [beq_eq_false_iff_ne.2 (by simp only [zC8]; omega)]; rfl
theorem LM (N : Nat) (p : Aa) (m : Ab) (hN : N ≤ 1000000) (h20 : 100 ≤ N) (hp : A3 p) (hm : Bm p m) : Dc N p m = some (BJ p m) := by
 have hnv := hp.nv
 unfold Dc
 rw [Oe N p m hN h20 hp hm]
 simp only [oS]
 have hal := L7 (m := m) (by rw [hm.next]; omega)
 have := CU (B7 N p (Fo m) fun _ => some true) (Fo m) (some true) (fun _ x => (JB p x).map fun _ => false)
  (fun n i x hx => by
   have hi := (lI.1 hx).1
   have hx2 := UA hp hm (L4.1 (lM hx))
   rw [B7, AD (by omega)]
   simp only [AS, hx, oS]
   rw [RK N p x hN h20 hp hx2, AE (by omega)]
   simp only [oS, JB]
   cases Gp p x with
   | nil => rfl
   | cons c cs => rfl)
  (fun n => by rw [B7, AB (by simp)]) N 0 (zA9 _) (by omega)
 rw [zB9, MX] at this
 refine Eq.trans this ?_
 unfold BJ HI
 cases DP (fun _ x => JB p x) 0 (Fo m) <;> rfl
theorem RQ {N : Nat} {a b : Ab} (hN : N ≤ 1000000) (h1 : a.fc.length < N) (h2 : a.fa.length < N) (h3 : a.fd.length < N) (h4 : b.fd.length < N) (wa : Nf Ln a.fd) (wb : Nf Ln b.fd) : D4 N a b = some (MT a b) := by
 unfold D4
 rw [OI h1 hN, OI h2 hN, NU h3 hN wa, NU h4 hN wb]
 simp only [oS]
 rw [OI h3 hN]
 unfold MT SO
 by_cases h1 : EK a.fc b.fc = 0
 ·simp only [h1, SO]
  by_cases h2 : EK a.fa b.fa = 0
  ·simp only [h2]
   by_cases h3 : EK a.fd b.fd = 0 <;> simp [h3]
  ·have : (EK a.fa b.fa != 0) = true := by simpa using h2
   simp [h2, this]
 ·have : (EK a.fc b.fc != 0) = true := by simpa using h1
  simp [h1, this]
theorem MO (N : Nat) (a b : List Int) (hN : N ≤ 1000000) (h : a.length < N) : Db N a b = some (a == b) := by
 unfold Db
 by_cases hl : a.length = b.length
 ·rw [hl, bne_self_eq_false, Am]
  have := CU (B8 N a b fun _ => some true) a (some true) (fun i x => if x = b.getD i 0 then none else some false)
   (fun n i x hx => by
    have hi := (lI.1 hx).1
    rw [B8, AD (by omega), AS, hx, C4 (d := 0) (by omega)]
    simp only [oS]
    rw [AE (by omega)]
    by_cases h : x = b.getD i 0
    ·rw [if_pos h, h, bne_self_eq_false]; rfl
    ·rw [if_neg h, bne_iff_ne.2 h]; rfl)
   (fun n => by rw [B8, AB (by simp)]) N 0 (zA9 _) (by omega)
  refine this.trans ?_
  rw [zB9]
  cases hs : DP (fun i x => if x = b.getD i 0 then none else some false) 0 a with
  | none =>
   have : a = b := Fw hl fun q hq => by
    have hx : a[q]? = some (a.getD q 0) := by rw [lD]; simp [hq]
    have := Fj hs q _ hx
    rw [zA4] at this
    split at this
    ·assumption
    ·cases this
   rw [this, beq_self_eq_true]; rfl
  | some r =>
   obtain ⟨j, x, hx, hf⟩ := EQ hs
   rw [zA4] at hf
   split at hf
   ·cases hf
   ·rename_i hne
    cases hf
    have : (a == b) = false := beq_eq_false_iff_ne.2 fun e => hne (by rw [← e, lD, hx]; rfl)
    rw [this]; rfl
 ·have h1 : ((a.length : Int) != (b.length : Int)) = true := bne_iff_ne.2 (by omega)
  have h2 : (a == b) = false := beq_eq_false_iff_ne.2 fun e => hl (by rw [e])
  rw [h1, h2]; rfl
theorem Mw (N : Nat) (a : List Int) (f : Int → Option Bool) (g : Int → Bool) (hN : N ≤ 1000000) (h : a.length < N) (hf : ∀ x, x ∈ a → f x = some (g x)) : B5 N a f = some (a.any g) := by
 unfold B5 D2
 have := CU (Bh N a f fun _ => some (-1)) a (some (-1)) (fun i x => if g x then some (i : Int) else none)
  (fun n i x hx => by
   have hi := (lI.1 hx).1
   rw [Bh, AD (by omega), AS, hx]
   simp only [oS]
   rw [hf x (lM hx), AE (by omega)]
   simp only [oS]
   cases g x <;> rfl)
  (fun n => by rw [Bh, AB (by simp)]) N 0 (zA9 _) (by omega)
 have e : Bh N a f (fun _ => some (-1)) N 0 = _ := this
 rw [e, zB9]
 cases hs : DP (fun i x => if g x then some (i : Int) else none) 0 a with
 | none =>
  have : a.any g = false := by
   rw [zJ3]
   intro x hx
   obtain ⟨j, hj⟩ := zA8.1 hx
   have := Fj hs j x hj
   intro hg
   rw [hg] at this; cases this
  rw [this]; rfl
 | some r =>
  obtain ⟨j, x, hx, hf⟩ := EQ hs
  split at hf
  ·rename_i hg
   cases hf
   have : a.any g = true := zD3.2 ⟨x, lM hx, hg⟩
   rw [this]
   simp only [BO, oS]
   rw [decide_eq_true (by omega)]
  ·cases hf
def GI (p : Aa) (m : Ab) : Bool := Fi p m == 0 && (m.fc == p.fm && m.fa.all (fun n => decide (n < 0)))
theorem RJ (N : Nat) (p : Aa) (m : Ab) (hN : N ≤ 1000000) (h20 : 100 ≤ N) (hw : Nf Ln m.fd) : Gu N p m = some (GI p m) := by
 unfold Gu GI
 rw [Hv N p m hN (by omega) hw]
 simp only [A7, oS]
 by_cases hv : Fi p m = 0
 ·obtain ⟨hp, hm⟩ := IS hw hv
  have := hp.nv
  rw [hv, MO N _ _ hN (by rw [hm.base]; omega), Mw N m.fa (fun x => GU N x) (fun n => decide (0 ≤ n)) hN (by rw [hm.next]; omega) (fun x _ => rfl)]
  simp only [oS, beq_self_eq_true, AG, zE8]
  have : m.fa.all (fun n => decide (n < 0)) = !m.fa.any (fun n => decide (0 ≤ n)) := by
   rw [List.not_any_eq_all_not]
   congr 1; funext n
   by_cases h : 0 ≤ n
   ·rw [decide_eq_true h, decide_eq_false (by omega)]; rfl
   ·rw [decide_eq_false h, decide_eq_true (by omega)]; rfl
  rw [this]
  cases m.fc == p.fm <;> simp
 ·rw [beq_eq_false_iff_ne.2 hv]; rfl
theorem KA (N : Nat) (p : Aa) (m : Ab) (hN : N ≤ 1000000) (h20 : 100 ≤ N) (hw : Nf Ln m.fd) : Cd N p m = some (GI p m) := by
 unfold Cd GI
 rw [J2 N p m hN (by omega)]
 simp only [oS]
 by_cases hv : Fi p m = 0
 ·obtain ⟨hp, hm⟩ := IS hw hv
  have h1 := hp.nv
  have h2 := hp.tgt
  have h3 := hm.base
  have h4 := hm.next
  rw [hv]
  simp only [bne_self_eq_false, Am, beq_self_eq_true, zE8]
  have := CU (C0 N p m fun _ => some true) m.fc (some true) (fun i x => if 0 ≤ m.fa.getD i 0 ∨ x ≠ p.fm.getD i 0 then some false else none)
   (fun n i x hx => by
    have hi := (lI.1 hx).1
    rw [C0, AD (by omega)]
    simp only [A7]
    rw [show BC m.fc (i : Int) = some x from by rw [AS, hx], C4 (d := 0) (by omega), C4 (d := 0) (by omega)]
    simp only [oS]
    rw [AE (by omega)]
    by_cases k1 : 0 ≤ m.fa.getD i 0
    ·rw [AD k1, if_pos (.inl k1)]; rfl
    ·rw [AB k1]
     by_cases k2 : x = p.fm.getD i 0
     ·rw [if_neg (fun h => h.elim k1 (fun h => h k2)), k2, bne_self_eq_false]; rfl
     ·rw [if_pos (.inr k2), bne_iff_ne.2 k2]; rfl)
   (fun n => by rw [C0, AB (by simp)]) N 0 (zA9 _) (by omega)
  refine this.trans ?_
  rw [zB9]
  cases hs : DP (fun i x => if 0 ≤ m.fa.getD i 0 ∨ x ≠ p.fm.getD i 0 then some false else none) 0 m.fc with
  | none =>
   have key : ∀ q, q < m.fc.length → m.fc.getD q 0 = p.fm.getD q 0 ∧ ¬ 0 ≤ m.fa.getD q 0 := by
    intro q hq
    have hx : m.fc[q]? = some (m.fc.getD q 0) := by rw [lD]; simp [hq]
    have := Fj hs q _ hx
    rw [zA4] at this
    split at this
    ·cases this
    ·rename_i h; exact ⟨Decidable.not_not.1 fun h' => h (.inr h'), fun h' => h (.inl h')⟩
   have e1 : m.fc = p.fm := Fw (by omega) fun q hq => (key q hq).1
   have e2 : m.fa.all (fun n => decide (n < 0)) = true := by
    rw [zA3]
    intro n hn
    obtain ⟨q, hq⟩ := zA8.1 hn
    have hl := (lI.1 hq).1
    have := (key q (by omega)).2
    rw [lD, hq] at this
    simp only [zC5] at this
    simp only [decide_eq_true_eq]
    omega
   rw [e2, e1]; simp [BO]
  | some r =>
   obtain ⟨j, x, hx, hf⟩ := EQ hs
   rw [zA4] at hf
   have hj := (lI.1 hx).1
   split at hf
   ·rename_i h
    cases hf
    have : (m.fc == p.fm && m.fa.all (fun n => decide (n < 0))) = false := by
     rw [Bool.and_eq_false_iff]
     rcases h with h | h
     ·right
      rw [List.all_eq_false]
      refine ⟨m.fa.getD j 0, ?_, ?_⟩
      ·rw [lD, zC3 (by omega)]; exact zF6 _
      ·simp only [decide_eq_true_eq]; omega
     ·left
      exact beq_eq_false_iff_ne.2 fun e => h (by rw [← e, lD, hx]; rfl)
    rw [this]; rfl
   ·cases hf
 ·rw [bne_iff_ne.2 hv, beq_eq_false_iff_ne.2 hv]; rfl
open Go
structure bj (x y : Av) : Prop where
 k : y.ff = x.ff
 f : y.fg = x.fg
 t : y.fo = x.fo
 a : y.fq = x.fq
 r : y.fp = x.fp
 l : y.fr.length = x.fr.length
 o : ∀ (u : Nat) (row : List Bool), x.fr[u]? = some row → ∃ row', y.fr[u]? = some row' ∧ row'.length = row.length ∧ ∀ v : Nat, row[v]? = some true → row'[v]? = some true
theorem bj.st {x y : Av} (h : bj x y) : BU y = BU x := by unfold BU; rw [h.k]
structure Yv (p : Aa) (m x : Ab) : Prop where
 base : m.fc = x.fc
 next : m.fa = x.fa
 held : ∀ i, i < p.fe.length → ∀ v, DS (m.fd.getD i 0) v = true → DS (x.fd.getD i 0) v = true
theorem Yv.refl (p : Aa) (m : Ab) : Yv p m m := ⟨rfl, rfl, fun _ _ _ h => h⟩
theorem Yv.trans {p : Aa} {a b c : Ab} (h : Yv p a b) (g : Yv p b c) : Yv p a c := ⟨h.base.trans g.base, h.next.trans g.next, fun i hi v hv => g.held i hi v (h.held i hi v hv)⟩
def FT (p : Aa) (t : Av) : Int := if BU t = true then D3 .u8 1 (p.fj.getD t.fg.toNat 0) else 0
def CZ (p : Aa) : Ab := ⟨p.fj, zA5 p.fj.length (-1), p.fe.map (FT p)⟩
theorem T2 (N : Nat) (h : 100 ≤ N) (n : Nat) (hn : n ≤ 6) : Ex N [(-1)] (n : Int) = some (zA5 n (-1)) := by
 obtain ⟨k, rfl⟩ : ∃ k, N = k + 100 := ⟨N - 100, by omega⟩
 have : n = 0 ∨ n = 1 ∨ n = 2 ∨ n = 3 ∨ n = 4 ∨ n = 5 ∨ n = 6 := by omega
 rcases this with rfl | rfl | rfl | rfl | rfl | rfl | rfl
 all_goals (show _ = _; kernel_rfl)
theorem Sj (T : List Int) (i : Nat) (hi : i < T.length) : (T.take i ++ zA5 (T.length - i) 0).set i (T.getD i 0) = T.take (i + 1) ++ zA5 (T.length - (i + 1)) 0 := by
 have hl : (T.take i).length = i := by simp; omega
 rw [List.set_append_right _ _ (by omega), hl, Nat.sub_self, show T.length - i = (T.length - (i + 1)) + 1 from by omega, List.replicate_succ, List.set_cons_zero, zD9, zD7]
 have : T[i]? = some (T.getD i 0) := by rw [lD]; simp [hi]
 rw [this]; rfl
theorem TL (T : List Int) (i : Nat) (hi : i < T.length) (h0 : T.getD i 0 = 0) : T.take i ++ zA5 (T.length - i) 0 = T.take (i + 1) ++ zA5 (T.length - (i + 1)) 0 := by
 rw [← Sj T i hi, h0, List.set_append_right _ _ (by rw [List.length_take]; omega)]
 congr 1
 have hl : (T.take i).length = i := by simp; omega
 rw [hl, Nat.sub_self, show T.length - i = (T.length - (i + 1)) + 1 from by omega, List.replicate_succ, List.set_cons_zero]
theorem SU {p : Aa} (hv : Bx p = 0) {t : Av} (ht : t ∈ p.fe) : 0 ≤ t.fg ∧ t.fg.toNat < p.fj.length ∧ 0 ≤ p.fj.getD t.fg.toNat 0 ∧ p.fj.getD t.fg.toNat 0 < 6 ∧ p.fj.getD t.fg.toNat 0 < p.fb.getD t.fg.toNat 0 ∧ t.fg.toNat < p.fb.length := by
 obtain ⟨hp, hr⟩ := Cy hv
 have h1 := IY (hp.tab t ht)
 have h2 := hr t.fg.toNat (by omega)
 have h3 := Io hp (i := t.fg.toNat) (by omega)
 have := hp.now
 refine ⟨h1.1, by omega, h2.1, by omega, h2.2.1, by omega⟩
theorem JI {p : Aa} {i : Nat} {t : Av} (ht : p.fe[i]? = some t) : (p.fe.map (FT p)).getD i 0 = FT p t := by
 rw [lD, zA1, ht]; rfl
theorem J7 (N : Nat) (p : Aa) (hN : N ≤ 1000000) (h20 : 100 ≤ N) : F1 N p = some (if Bx p = 0 then CZ p else ⟨[], [], []⟩, Bx p) := by
 unfold F1
 rw [Mi N p hN (by omega)]
 simp only [oS]
 by_cases hv : Bx p = 0
 ·rw [if_pos hv, hv]
  obtain ⟨hp, _⟩ := Cy hv
  have hnv := hp.nv
  have hnt := hp.nt
  have hnow := hp.now
  rw [bne_self_eq_false, Am, JL N _ (by simp only [Dv]; omega)]
  simp only [oS]
  rw [T2 N h20 _ (by omega)]
  simp only [oS]
  rw [As (by simp only [Dv]; omega)]
  obtain ⟨a', e, ha⟩ := Ff (Ec N p fun v7 => some (Ab.mk p.fj (zA5 p.fj.length (-1)) v7, 0)) (fun a i => (a, i)) p.fe.length (fun v7 => some (Ab.mk p.fj (zA5 p.fj.length (-1)) v7, 0))
   (fun i a => a = (p.fe.map (FT p)).take i ++ zA5 ((p.fe.map (FT p)).length - i) 0)
   (fun n i a hi ha => by
    have hx : p.fe[i]? = some p.fe[i] := by simp [hi]
    have hm : p.fe[i] ∈ p.fe := zF6 hi
    obtain ⟨n1, n2, n3, n4, _⟩ := SU hv hm
    rw [Ec, AD (by simp only; omega)]
    simp only [A7, AS, hx, oS, JA, AE (show i < 1000000 by omega)]
    have hal : i < (p.fe.map (FT p)).length := by simpa using hi
    cases hs : BU p.fe[i]
    ·rw [Am]
     refine ⟨a, rfl, ?_⟩
     rw [ha]
     exact TL _ _ hal (by rw [JI hx]; unfold FT; rw [hs]; rfl)
    ·rw [AG]
     have e1 : BC p.fj p.fe[i].fg = some (p.fj.getD p.fe[i].fg.toNat 0) := by
      obtain ⟨q, hq⟩ := zA7 n1
      rw [hq]; exact C4 (by rw [hq] at n2; simpa using n2)
     rw [e1]
     simp only [oS]
     rw [As n3]
     have hl : i < a.length := by rw [ha]; simp; omega
     have e2 : a[i]? = some a[i] := by simp [hl]
     rw [e2]
     simp only [oS]
     refine ⟨_, rfl, ?_⟩
     rw [← Sj _ _ hal, JI hx, ha]
     unfold FT; rw [hs]; rfl)
   (fun n a ha => by rw [Ec, AB (by simp)]) N 0 (zA5 p.fe.length 0) (zA9 _) (by omega) (by simp)
  have e' : Ec N p (fun v7 => some (Ab.mk p.fj (zA5 p.fj.length (-1)) v7, 0)) N (zA5 ((p.fe.length : Int)).toNat (0 : Int), 0) = _ := e
  rw [e', ha]
  have e5 : (p.fe.map (FT p)).take p.fe.length = p.fe.map (FT p) := zK8 (by simp)
  simp [CZ, e5]
 ·rw [if_neg hv, bne_iff_ne.2 hv, AG]
theorem Ke (N : Nat) (p : Aa) (hN : N ≤ 1000000) (h20 : 100 ≤ N) : Di N p = some (if Bx p = 0 then CZ p else ⟨[], [], []⟩, Bx p) := by
 unfold Di
 rw [HW N p hN (by omega)]
 simp only [oS]
 by_cases hv : Bx p = 0
 ·rw [if_pos hv, hv]
  obtain ⟨hp, _⟩ := Cy hv
  have hnv := hp.nv
  have hnt := hp.nt
  have hnow := hp.now
  rw [bne_self_eq_false, Am]
  obtain ⟨a', e, ha⟩ := Ff (Ca N p fun v4 => Bf N p (fun v10 => some (Ab.mk v4.1 v4.2 v10, 0)) N (([] : List Int), 0)) (fun a i => (a.1, a.2, i)) p.fb.length (fun v4 => Bf N p (fun v10 => some (Ab.mk v4.1 v4.2 v10, 0)) N (([] : List Int), 0))
   (fun i a => a = (p.fj.take i, zA5 i (-1)))
   (fun n i a hi ha => by
    subst ha
    rw [Ca, AD (by simp only; omega)]
    have hx : p.fj[i]? = some p.fj[i] := by simp [show i < p.fj.length from by omega]
    simp only [AS, hx, oS, AE (show i < 1000000 by omega)]
    rw [As (by simp [Dv]; omega), As (by simp [Dv]; omega)]
    refine ⟨(p.fj.take i ++ [p.fj[i]], zA5 i (-1) ++ [-1]), rfl, ?_⟩
    rw [zD9, hx, List.replicate_succ']; rfl)
   (fun n a ha => by rw [Ca, AB (by simp)]) N 0 ([], []) (zA9 _) (by omega) rfl
  have e' : Ca N p (fun v4 => Bf N p (fun v10 => some (Ab.mk v4.1 v4.2 v10, 0)) N (([] : List Int), 0)) N (([] : List Int), ([] : List Int), 0) = _ := e
  rw [e', ha]
  simp only
  obtain ⟨b', e2, hb⟩ := Ff (Bf N p fun v10 => some (Ab.mk (p.fj.take p.fb.length) (zA5 p.fb.length (-1)) v10, 0)) (fun a i => (a, i)) p.fe.length (fun v10 => some (Ab.mk (p.fj.take p.fb.length) (zA5 p.fb.length (-1)) v10, 0))
   (fun i a => a = (p.fe.map (FT p)).take i)
   (fun n i a hi ha => by
    subst ha
    have hx : p.fe[i]? = some p.fe[i] := by simp [hi]
    have hm : p.fe[i] ∈ p.fe := zF6 hi
    obtain ⟨n1, n2, n3, n4, _⟩ := SU hv hm
    rw [Bf, AD (by simp only; omega)]
    simp only [A7, AS, hx, oS, GY, AE (show i < 1000000 by omega)]
    have hT : (p.fe.map (FT p))[i]? = some (FT p p.fe[i]) := by rw [zA1, hx]; rfl
    have hlen : ((p.fe.map (FT p)).take i).length + 1 ≤ Dv := by simp [Dv]; omega
    cases hs : BU p.fe[i]
    ·rw [Am, As (by simpa using hlen)]
     refine ⟨_, rfl, ?_⟩
     rw [zD9, hT]
     unfold FT; rw [hs]; rfl
    ·rw [AG]
     have e1 : BC p.fj p.fe[i].fg = some (p.fj.getD p.fe[i].fg.toNat 0) := by
      obtain ⟨q, hq⟩ := zA7 n1
      rw [hq]; exact C4 (by rw [hq] at n2; simpa using n2)
     rw [e1]
     simp only [oS]
     rw [As n3, As (by simpa using hlen)]
     refine ⟨_, rfl, ?_⟩
     rw [zD9, hT]
     unfold FT; rw [hs]; rfl)
   (fun n a ha => by rw [Bf, AB (by simp)]) N 0 [] (zA9 _) (by omega) rfl
  have e3 : Bf N p (fun v10 => some (Ab.mk (p.fj.take p.fb.length) (zA5 p.fb.length (-1)) v10, 0)) N (([] : List Int), 0) = _ := e2
  rw [e3, hb]
  simp only [CZ, ← hnow, zH4]
  rw [show p.fe.length = (p.fe.map (FT p)).length from by simp, zH4]
 ·rw [if_neg hv, bne_iff_ne.2 hv, AG]
theorem JO {p : Aa} (hv : Bx p = 0) : Bm p (CZ p) := by
 obtain ⟨hp, hr⟩ := Cy hv
 have hnow := hp.now
 have hnx : ∀ i, i < p.fb.length → (zA5 p.fj.length (-1 : Int)).getD i 0 = -1 := fun i hi => by
  rw [lD, List.getElem?_replicate, if_pos (by omega)]; rfl
 have hone : ∀ (i : Nat) (t : Av), p.fe[i]? = some t → ∃ b : Nat, b < 6 ∧ p.fj.getD t.fg.toNat 0 = (b : Int) ∧ (b : Int) < p.fb.getD t.fg.toNat 0 ∧ t.fg.toNat < p.fb.length := fun i t ht => by
  obtain ⟨n1, n2, n3, n4, n5, n6⟩ := SU hv (lM ht)
  obtain ⟨b, hb⟩ := zA7 n3
  exact ⟨b, by omega, hb, by omega, n6⟩
 have hbit : ∀ b : Nat, b < 8 → ∀ v, DS (D3 .u8 1 (b : Int)) v = decide (b = v) := fun b hb v => by
  by_cases h : v < 8
  ·exact (J6 ⟨b, hb⟩ ⟨v, h⟩).1
  ·rw [Kb (J6 ⟨b, hb⟩ ⟨0, by omega⟩).2.2 (by omega)]
   symm; apply decide_eq_false; omega
 refine { base := hnow, next := by simp [CZ, hnow], held := by simp [CZ], b0 := fun i hi => ⟨(hr i hi).1, (hr i hi).2.1⟩, n0 := fun i hi => ?_, ne := fun i hi => ?_, range := fun i hi => ?_, low := fun i t ht hs v hv' => ?_, high := fun i t ht hs v hb => ?_, none := fun i t ht hs => ?_ }
 ·show -1 ≤ (zA5 p.fj.length (-1 : Int)).getD i 0 ∧ (zA5 p.fj.length (-1 : Int)).getD i 0 < _
  rw [hnx i hi]
  have := Io hp hi
  omega
 ·show p.fj.getD i 0 ≠ (zA5 p.fj.length (-1 : Int)).getD i 0
  rw [hnx i hi]
  have := hr i hi
  omega
 ·have hx : p.fe[i]? = some p.fe[i] := by simp [hi]
  show 0 ≤ (p.fe.map (FT p)).getD i 0 ∧ (p.fe.map (FT p)).getD i 0 ≤ 255
  rw [JI hx]
  unfold FT
  split
  ·obtain ⟨b, h1, h2, _⟩ := hone i _ hx
   rw [h2]
   exact (J6 ⟨b, by omega⟩ ⟨0, by omega⟩).2
  ·omega
 ·show DS ((p.fe.map (FT p)).getD i 0) v = true
  obtain ⟨b, h1, h2, h3, h4⟩ := hone i t ht
  rw [JI ht]
  unfold FT
  rw [if_pos hs, h2, hbit b (by omega)]
  unfold IB at hv'
  have h5 : (CZ p).fc.getD t.fg.toNat 0 = (b : Int) := h2
  have h6 : (CZ p).fa.getD t.fg.toNat 0 = -1 := hnx _ h4
  rw [h5, h6, zF7, decide_eq_true_iff, decide_eq_true_iff] at hv'
  apply decide_eq_true; omega
 ·have hb : DS ((p.fe.map (FT p)).getD i 0) v = true := hb
  obtain ⟨b, h1, h2, h3, h4⟩ := hone i t ht
  rw [JI ht] at hb
  unfold FT at hb
  rw [if_pos hs, h2, hbit b (by omega), decide_eq_true_iff] at hb
  omega
 ·show (p.fe.map (FT p)).getD i 0 = 0
  rw [JI ht]; unfold FT; rw [hs]; rfl
theorem N1 {p : Aa} (hv : Bx p = 0) : Fi p (CZ p) = 0 := Gr hv (JO hv)
theorem NS (x : BitVec 8) : wI .u8 (x.toNat : Int) = (x.toNat : Int) := by
 have := x.isLt
 simp [wI, IntKind.signed, IntKind.bits]
 omega
theorem R7 (x : BitVec 8) : 0 ≤ (x.toNat : Int) ∧ (x.toNat : Int) ≤ 255 := by
 have := x.isLt
 omega
theorem Ui (x : BitVec 8) (v : Nat) : DS (x.toNat : Int) v = x.getLsbD v := by
 unfold DS; rw [zB2]; rfl
theorem Qw {a : Int} (ha : 0 ≤ a ∧ a ≤ 255) (v : Nat) : (BitVec.ofInt 8 a).getLsbD v = DS a v := by
 obtain ⟨a, rfl⟩ := zA7 ha.1
 unfold BitVec.getLsbD DS
 rw [UG (by omega), zB2]
theorem Sp {a b : Int} (ha : 0 ≤ a ∧ a ≤ 255) (hb : 0 ≤ b ∧ b ≤ 255) : (∀ v, DS (Dn .u8 a b) v = (DS a v && !DS b v)) ∧ 0 ≤ Dn .u8 a b ∧ Dn .u8 a b ≤ 255 := by
 have e : Dn .u8 a b = ((BitVec.ofInt 8 a &&& ~~~BitVec.ofInt 8 b).toNat : Int) := NS (BitVec.ofInt 8 a &&& ~~~BitVec.ofInt 8 b)
 rw [e]
 refine ⟨fun v => ?_, R7 _⟩
 rw [Ui, BitVec.getLsbD_and, BitVec.getLsbD_not, Qw ha, Qw hb]
 by_cases h : v < 8
 ·simp [h]
 ·rw [Kb ha.2 (by omega)]; simp
theorem S1 {a b : Int} (ha : 0 ≤ a ∧ a ≤ 255) (hb : 0 ≤ b ∧ b ≤ 255) : (∀ v, DS (O9 .u8 a b) v = (DS a v || DS b v)) ∧ 0 ≤ O9 .u8 a b ∧ O9 .u8 a b ≤ 255 := by
 have e : O9 .u8 a b = ((BitVec.ofInt 8 a ||| BitVec.ofInt 8 b).toNat : Int) := NS (BitVec.ofInt 8 a ||| BitVec.ofInt 8 b)
 rw [e]
 refine ⟨fun v => ?_, R7 _⟩
 rw [Ui, BitVec.getLsbD_or, Qw ha, Qw hb]
theorem W1 {b : Nat} (hb : b < 8) : (∀ v, DS (D3 .u8 1 (b : Int)) v = decide (b = v)) ∧ 0 ≤ D3 .u8 1 (b : Int) ∧ D3 .u8 1 (b : Int) ≤ 255 := by
 refine ⟨fun v => ?_, (J6 ⟨b, hb⟩ ⟨0, by omega⟩).2⟩
 by_cases h : v < 8
 ·exact (J6 ⟨b, hb⟩ ⟨v, h⟩).1
 ·rw [Kb (J6 ⟨b, hb⟩ ⟨0, by omega⟩).2.2 (by omega)]
  symm; apply decide_eq_false; omega
theorem VL (N : Nat) {s : Int} {v : Nat} (hs : 0 ≤ s ∧ s ≤ 255) (hv : v < 8) : CA N s (v : Int) = some (DS s v) := by
 unfold CA
 rw [As (by omega), Qy hs.1 hs.2 hv]
 cases DS s v <;> rfl
def Xa (v : Nat) : Nat := ((zB3 8).find? fun u => v.testBit u).getD 8
def YR (v : Nat) : Nat := ((zB3 8).filter fun u => v.testBit u).length
theorem Yg : ∀ v : Fin 256, C7 0 (v.val : Int) = some (Xa v.val : Int) := by decide +kernel
theorem Zr (N : Nat) {v : Nat} (h : v < 256) : C7 N (v : Int) = some (Xa v : Int) := Yg ⟨v, h⟩
theorem VZ : ∀ v : Fin 256, v.val ≠ 0 → Xa v.val < 8 ∧ DS (v.val : Int) (Xa v.val) = true ∧ 0 ≤ GE .u8 (v.val : Int) (wI .u8 ((v.val : Int) - 1)) ∧ GE .u8 (v.val : Int) (wI .u8 ((v.val : Int) - 1)) ≤ 255 ∧
  YR (GE .u8 (v.val : Int) (wI .u8 ((v.val : Int) - 1))).toNat + 1 = YR v.val ∧
  ∀ u : Fin 8, DS (GE .u8 (v.val : Int) (wI .u8 ((v.val : Int) - 1))) u.val = (DS (v.val : Int) u.val && decide (u.val ≠ Xa v.val)) := by decide +kernel
theorem YU (v : Nat) : YR v ≤ 8 := by
 have := List.length_filter_le (fun u => v.testBit u) (zB3 8)
 simpa [YR] using this
theorem R6 (N : Nat) (t : Av) (b : Int) (rw_ : Nat → Bool) : ∀ (k n v : Nat), YR v ≤ k → k < n → v < 256 →
  (∀ u, u < 8 → DS (v : Int) u = true → ∃ row, BC t.fp (u : Int) = some row ∧ BC row b = some (rw_ u)) →
  DF N t b (fun _ => some true) n (v : Int) = some ((zB3 8).all fun u => !DS (v : Int) u || rw_ u)
 | k, 0, v, _, h, _, _ => by omega
 | k, n + 1, v, hk, hn, hv, hr => by
  rw [DF]
  by_cases h0 : v = 0
  ·subst h0
   have : (((0 : Nat) : Int) != 0) = false := rfl
   rw [this, Am]
   congr 1
  ·have h1 : ((v : Int) != 0) = true := bne_iff_ne.2 (by omega)
   obtain ⟨l1, l2, l3, l4, l5, l6⟩ := VZ ⟨v, hv⟩ h0
   simp only at l1 l2 l3 l4 l5 l6
   obtain ⟨row, e1, e2⟩ := hr _ l1 l2
   rw [h1, AG, Zr N hv]
   simp only [oS, e1, e2]
   obtain ⟨w, hw⟩ := zA7 l3
   rw [hw] at l4 l5 l6 ⊢
   rw [zB2] at l5
   cases hq : rw_ (Xa v)
   ·rw [zD6, AG]
    congr 1
    symm
    rw [List.all_eq_false]
    exact ⟨Xa v, by simpa using l1, by rw [l2, hq]; simp⟩
   ·rw [zB7, Am]
    match k, hk with
    | 0, hk => exfalso; omega
    | k + 1, hk =>
    rw [R6 N t b rw_ k n w (by omega) (by omega) (by omega) (fun u hu hb => hr u hu (by have := l6 ⟨u, hu⟩; simp only at this; rw [hb] at this; simpa using (zH2.1 this.symm).1))]
    congr 1
    rw [Bool.eq_iff_iff, zA3, zA3]
    refine ⟨fun h u hu => ?_, fun h u hu => ?_⟩
    ·have hu8 : u < 8 := by simpa using hu
     have h3 := h u hu
     have h4 := l6 ⟨u, hu8⟩
     simp only at h4
     rw [h4] at h3
     by_cases e : u = Xa v
     ·rw [e, hq]; simp
     ·simpa [e] using h3
    ·have hu8 : u < 8 := by simpa using hu
     have h3 := h u hu
     have h4 := l6 ⟨u, hu8⟩
     simp only at h4
     rw [h4]
     cases hb : DS (v : Int) u
     ·simp
     ·rw [hb] at h3; simp at h3; simp [h3]
theorem Rd (N : Nat) (m : Ab) (s : Int) (h0 : 0 ≤ s) (h1 : s < (m.fc.length : Int)) (h2 : s < (m.fa.length : Int)) (hb : 0 ≤ m.fc.getD s.toNat 0) : F4 N m s = some (G6 m s.toNat) := by
 unfold F4 G6
 rw [EZ (d := 0) h0 h1, EZ (d := 0) h0 h2]
 simp only [oS, Bi]
 rw [show Es (0 ≤ m.fc.getD s.toNat 0) = some () from by unfold Es; rw [if_pos hb]]
 simp only [oS]
 by_cases h : 0 ≤ m.fa.getD s.toNat 0
 ·rw [AD h, if_pos h, show Es (0 ≤ m.fa.getD s.toNat 0) = some () from by unfold Es; rw [if_pos h]]; rfl
 ·rw [AB h, if_neg h]
theorem KB (N : Nat) (t : Av) : FP N t = some (BU t) := by
 unfold FP BU
 simp only [Bi]
 cases h : t.ff == 3 <;> simp
def Gs (s : Ad) : Bool := decide (1 ≤ s.ff ∧ s.ff ≤ 4 ∧ 0 ≤ s.fi ∧ 0 ≤ s.fk) && (s.ff == 1 || s.fk == 0)
def FH (p : Aa) (s : Ad) : Bool :=
 if s.ff = 3 then decide (s.fi < (p.fe.length : Int)) else decide (s.fi < (p.fb.length : Int)) && (s.ff != 1 || decide (s.fk < p.fb.getD s.fi.toNat 0))
theorem Pq (N : Nat) (s : Ad) : G8 N s = some (Gs s) := by
 unfold G8 Gs Ve
 simp only [Bi]
 by_cases h1 : (if s.fk < s.fi then s.fk else s.fi) < 0
 ·rw [AD h1, AG, decide_eq_false (by split at h1 <;> omega)]; rfl
 ·rw [AB h1]
  by_cases h2 : s.ff < 1
  ·rw [AD h2, AG, decide_eq_false (by omega)]; rfl
  ·rw [AB h2]
   by_cases h3 : 4 < s.ff
   ·rw [decide_eq_true h3, AG, decide_eq_false (by omega)]; rfl
   ·rw [decide_eq_false h3, Am, decide_eq_true (by split at h1 <;> omega), zE8]
    cases h4 : s.ff == 1 <;> simp
theorem Qv (N : Nat) (s : Ad) : EC N s = some (Gs s) := by
 unfold EC Gs
 simp only [Bi]
 by_cases h1 : 1 ≤ s.ff
 ·rw [AD h1]
  by_cases h2 : s.ff ≤ 4
  ·rw [AD h2]
   by_cases h3 : 0 ≤ s.fi
   ·rw [AD h3]
    by_cases h4 : 0 ≤ s.fk
    ·rw [AD h4, decide_eq_true (by omega), zE8]
     cases h5 : s.ff == 1 <;> simp
    ·rw [AB h4, decide_eq_false (by omega)]; rfl
   ·rw [AB h3, decide_eq_false (by omega)]; rfl
  ·rw [AB h2, decide_eq_false (by omega)]; rfl
 ·rw [AB h1, decide_eq_false (by omega)]; rfl
theorem OR (N : Nat) (p : Aa) (s : Ad) (hv : Gs s = true) : Gz N p s = some (FH p s) := by
 have h0 : 0 ≤ s.fi := by
  unfold Gs at hv
  rw [zA6, decide_eq_true_iff] at hv
  exact hv.1.2.2.1
 unfold Gz FH
 simp only [Bi]
 by_cases h1 : s.ff = 3
 ·rw [if_pos h1, beq_iff_eq.2 h1, AG]
 ·rw [if_neg h1, beq_eq_false_iff_ne.2 h1, Am]
  by_cases h2 : s.fi < (p.fb.length : Int)
  ·rw [AD h2, decide_eq_true h2, zE8]
   cases h3 : s.ff != 1
   ·rw [Am, EZ (d := 0) h0 h2, zH1]; rfl
   ·rw [AG]; rfl
  ·rw [AB h2, decide_eq_false h2]; rfl
def Tq (s : Ad) (t : Av) : Bool := t.fg == s.fi && BU t
def Ud (s : Ad) (i : Nat) (t : Av) (a : List Int) : List Int := if Tq s t = true then a.set i (O9 .u8 (a.getD i 0) (D3 .u8 1 s.fk)) else a
def I8 (p : Aa) (s : Ad) (held : List Int) : List Int := Ix (Ud s) 0 p.fe held
theorem N8 {_R : Type} (N : Nat) (p : Aa) (s : Ad) (held : List Int) (hv : 0 ≤ s.fk) (hl : held.length = p.fe.length) (h12 : p.fe.length < N) (hN : N ≤ 1000000) (j : List Int → Option (Bool × List Int × List Int)) :
  DU N p s j N (held, 0) = j (I8 p s held) ∧ (I8 p s held).length = p.fe.length := by
 have := II (DU N p s j) (fun a i => (a, i)) p.fe j (Ud s) (fun i a => a.length = p.fe.length)
  (fun n i x a hx ha => by
   have hi := (lI.1 hx).1
   rw [DU, AD (by simp only; omega)]
   simp only [A7, AS, hx, oS, KB, AE (show i < 1000000 by omega)]
   have e2 : a[i]? = some (a.getD i 0) := by rw [lD]; simp [show i < a.length from by omega]
   unfold Ud Tq
   cases h1 : x.fg == s.fi
   ·rw [Am, Am, zI5, if_neg (by simp)]; exact ⟨rfl, ha⟩
   ·rw [AG, zE8]
    cases h2 : BU x
    ·rw [Am, if_neg (by simp)]; exact ⟨rfl, ha⟩
    ·rw [AG, e2, if_pos rfl]
     simp only [oS]
     rw [As hv]
     exact ⟨rfl, by simpa using ha⟩)
  (fun n a ha => by rw [DU, AB (by simp)]) N 0 held (zA9 _) (by omega) hl
 rw [zB9] at this
 exact this
theorem O0 (N : Nat) (p : Aa) (s : Ad) (held : List Int) (hv : 0 ≤ s.fk) (hl : held.length = p.fe.length) (h12 : p.fe.length < N) (hN : N ≤ 1000000) (j : List Int → Option (Ab × Bool)) :
  BY N p s j N (held, 0) = j (I8 p s held) := by
 have := II (BY N p s j) (fun a i => (a, i)) p.fe j (Ud s) (fun i a => a.length = p.fe.length)
  (fun n i x a hx ha => by
   have hi := (lI.1 hx).1
   rw [BY, AD (by simp only; omega)]
   simp only [A7, AS, hx, oS, GY, AE (show i < 1000000 by omega)]
   have e2 : a[i]? = some (a.getD i 0) := by rw [lD]; simp [show i < a.length from by omega]
   unfold Ud Tq
   cases h1 : x.fg == s.fi
   ·rw [Am, Am, zI5, if_neg (by simp)]; exact ⟨rfl, ha⟩
   ·rw [AG, zE8]
    cases h2 : BU x
    ·rw [Am, if_neg (by simp)]; exact ⟨rfl, ha⟩
    ·rw [AG, e2, if_pos rfl]
     simp only [oS]
     rw [As hv]
     exact ⟨rfl, by simpa using ha⟩)
  (fun n a ha => by rw [BY, AB (by simp)]) N 0 held (zA9 _) (by omega) hl
 rw [zB9] at this
 exact this.1
def LD (m : Ab) (t : Av) (u : Nat) : Bool := (t.fp.getD u []).getD (m.fc.getD t.fg.toNat 0).toNat false
def OM (m : Ab) (i : Nat) (t : Av) (u : Nat) : Bool := DS (m.fd.getD i 0) u && !IB m t.fg.toNat u
def Ip (_p : Aa) (m : Ab) (i : Nat) (t : Av) : Bool := t.ff == 4 && (zB3 8).any fun u => OM m i t u && !LD m t u
def FF (p : Aa) (m : Ab) (s : Ad) : Option Ab :=
 let i := s.fi.toNat
 if s.ff = 1 then (if 0 ≤ m.fa.getD i 0 ∨ m.fc.getD i 0 = s.fk then none else some ⟨m.fc, m.fa.set i s.fk, I8 p s m.fd⟩)
 else if s.ff = 3 then match p.fe[i]? with
  | none => none
  | some t => if BU t = false ∨ m.fd.getD i 0 = G6 m t.fg.toNat ∨ Ip p m i t = true then none else some ⟨m.fc, m.fa, m.fd.set i (G6 m t.fg.toNat)⟩
 else if m.fa.getD i 0 < 0 then none
 else some ⟨if s.ff = 2 then m.fc.set i (m.fa.getD i 0) else m.fc, m.fa.set i (-1), m.fd⟩
def AT (p : Aa) (m : Ab) (s : Ad) : Ab × Int :=
 if Gs s = false then (FR, 1) else if FH p s = false then (FR, 4) else match FF p m s with
  | none => (FR, 11)
  | some x => (x, 0)
end Go.Lift
namespace Go.Lift
open Option renaming bind_some → oS
open List renaming mem_of_getElem? → lM
open List renaming getElem?_eq_some_iff → lI
open List renaming getD_eq_getElem?_getD → lD
open Go
section clear
variable {p : Aa} {m : Ab} {i : Nat} {t : Av}
theorem Vb (hp : A3 p) (hm : Bm p m) (ht : p.fe[i]? = some t) (hs : BU t = true) {u : Nat} (h : DS (m.fd.getD i 0) u = true) : (u : Int) < p.fb.getD t.fg.toNat 0 ∧ u < 6 ∧ t.fg.toNat < p.fb.length := by
 have h1 := hm.high i t ht hs u h
 have hin := IY (hp.tab t (lM ht))
 have h2 := Io hp (i := t.fg.toNat) (by omega)
 exact ⟨h1, by omega, by omega⟩
theorem VB (hp : A3 p) (hm : Bm p m) (ht : p.fe[i]? = some t) (hs : BU t = true) (h4 : t.ff = 4) {u : Nat} (h : DS (m.fd.getD i 0) u = true) :
  BC t.fp (u : Int) = some (t.fp.getD u []) ∧ BC (t.fp.getD u []) (m.fc.getD t.fg.toNat 0) = some (LD m t u) := by
 have hT := LS (hp.tab t (lM ht))
 obtain ⟨h1, h2, h3⟩ := Vb hp hm ht hs h
 have hl := hT.reL h4
 have e : t.fp[u]? = some (t.fp.getD u []) := by rw [lD]; simp [show u < t.fp.length from by omega]
 have hr := hT.reR _ (lM e)
 have hb := hm.b0 t.fg.toNat h3
 refine ⟨by rw [AS, e], ?_⟩
 unfold LD
 obtain ⟨b, hb'⟩ := zA7 hb.1
 rw [hb'] at hb ⊢
 rw [zB2]
 exact C4 (by omega)
theorem Pi (N : Nat) (hN : N ≤ 1000000) (h20 : 100 ≤ N) (hp : A3 p) (hm : Bm p m) (ht : p.fe[i]? = some t) :
  GX N p m (i : Int) = some (if BU t = false ∨ m.fd.getD i 0 = G6 m t.fg.toNat ∨ Ip p m i t = true then (false, m.fd) else (true, m.fd.set i (G6 m t.fg.toNat))) := by
 have hi := (lI.1 ht).1
 have hin := IY (hp.tab t (lM ht))
 have hb := hm.base
 have hnx := hm.next
 have hh := hm.held
 have hr := Il hp hm.toMixServ (s := t.fg.toNat) (by omega)
 have hrg := hm.range i hi
 have eh : BC m.fd (i : Int) = some (m.fd.getD i 0) := C4 (by omega)
 unfold GX
 simp only [A7, AS, ht, oS, KB]
 have eh' : m.fd[i]? = some (m.fd.getD i 0) := by rw [← AS, eh]
 cases hs : BU t
 ·rw [zD6, AG, if_pos (.inl rfl)]
 ·rw [zB7, Am, Rd N m _ hin.1 (by omega) (by omega) (hm.b0 _ (by omega)).1]
  simp only [oS, eh']
  by_cases h1 : m.fd.getD i 0 = G6 m t.fg.toNat
  ·rw [beq_iff_eq.2 h1, AG, AG, if_pos (.inr (.inl h1))]
  ·rw [beq_eq_false_iff_ne.2 h1, Am]
   by_cases h4 : t.ff = 4
   ·rw [beq_iff_eq.2 h4, AG, EZ (d := 0) hin.1 (by omega)]
    simp only [oS]
    obtain ⟨a1, a2, a3⟩ := Sp hrg hr.2
    obtain ⟨w, hw⟩ := zA7 a2
    unfold FZ
    rw [hw] at a1 a3 ⊢
    rw [R6 N t _ (LD m t) 8 N w (YU _) (by omega) (by omega) (fun u hu hbu => by
     have := a1 u; rw [hbu] at this
     exact ⟨_, VB hp hm ht hs h4 (zH2.1 this.symm).1⟩)]
    simp only [oS]
    have e : (!(zB3 8).all fun u => !DS (w : Int) u || LD m t u) = Ip p m i t := by
     unfold Ip
     rw [beq_iff_eq.2 h4, zE8, List.not_all_eq_any_not]
     congr 1
     funext u
     rw [a1 u, hr.1 u]
     unfold OM
     cases DS (m.fd.getD i 0) u <;> cases IB m t.fg.toNat u <;> cases LD m t u <;> rfl
    rw [e]
    cases hst : Ip p m i t
    ·rw [Am, if_neg (by rintro (h | h | h); cases h; exact h1 h; cases h)]; rfl
    ·rw [AG, if_pos (.inr (.inr rfl))]
   ·have e : Ip p m i t = false := by unfold Ip; rw [beq_eq_false_iff_ne.2 h4]; rfl
    rw [beq_eq_false_iff_ne.2 h4, Am, Am, e, if_neg (by rintro (h | h | h); cases h; exact h1 h; cases h)]; rfl
theorem Oy (N : Nat) (hN : N ≤ 1000000) (h20 : 100 ≤ N) (hp : A3 p) (hm : Bm p m) (ht : p.fe[i]? = some t) (hs : BU t = true) (s : Ad) (hsi : s.fi = (i : Int)) (j : Option (Ab × Bool)) :
  BF N p m s t (G6 m t.fg.toNat) (fun _ => j) N 0 = if Ip p m i t = true then some (FR, false) else j := by
 have hi := (lI.1 ht).1
 have hin := IY (hp.tab t (lM ht))
 have hb := hm.base
 have hh := hm.held
 have hr := Il hp hm.toMixServ (s := t.fg.toNat) (by omega)
 have hrg := hm.range i hi
 have hver := Io hp (i := t.fg.toNat) (by omega)
 obtain ⟨nv, hnv⟩ := zA7 (show 0 ≤ p.fb.getD t.fg.toNat 0 by omega)
 have eh' : m.fd[i]? = some (m.fd.getD i 0) := by rw [lD]; simp [show i < m.fd.length from by omega]
 have := CU (BF N p m s t (G6 m t.fg.toNat) fun _ => j) (zB3 nv) j (fun u _ => if (OM m i t u && (t.ff == 4 && !LD m t u)) = true then some (FR, false) else none)
  (fun n u x hx => by
   have hu : u < nv := by
    have := (lI.1 hx).1
    simpa using this
   rw [BF, EZ (d := 0) hin.1 (by omega), hnv]
   simp only [oS]
   rw [AD (by omega)]
   simp only [A7, hsi, AS, eh', oS]
   rw [VL N hrg (by omega), AE (by omega)]
   simp only [oS]
   cases h1 : DS (m.fd.getD i 0) u
   ·have e : OM m i t u = false := by unfold OM; rw [h1]; rfl
    rw [Am, Am, Am, e]; rfl
   ·rw [AG, VL N hr.2 (by omega), hr.1 u]
    simp only [oS]
    have e : OM m i t u = !IB m t.fg.toNat u := by unfold OM; rw [h1]; rfl
    rw [← e]
    cases h2 : OM m i t u
    ·rw [Am, Am]; rfl
    ·rw [AG]
     by_cases h4 : t.ff = 4
     ·obtain ⟨e1, e2⟩ := VB hp hm ht hs h4 h1
      rw [AS] at e1
      rw [beq_iff_eq.2 h4, AG, e1, EZ (d := 0) hin.1 (by omega)]
      simp only [oS]
      rw [e2]
      simp only [oS]
      cases LD m t u <;> rfl
     ·rw [beq_eq_false_iff_ne.2 h4, Am, Am]; rfl)
  (fun n => by
   rw [BF, EZ (d := 0) hin.1 (by omega), hnv]
   simp only [oS, zG9]
   rw [AB (by omega)]) N 0 (zA9 _) (by simp; omega)
 have e0 : BF N p m s t (G6 m t.fg.toNat) (fun _ => j) N 0 = _ := this
 rw [e0, zB9]
 by_cases hst : Ip p m i t = true
 ·rw [if_pos hst]
  unfold Ip at hst
  rw [zA6, zD3] at hst
  obtain ⟨h4, u, hu, h5⟩ := hst
  rw [zA6] at h5
  have h6 : DS (m.fd.getD i 0) u = true := by have := h5.1; unfold OM at this; exact (zH2.1 this).1
  have h7 := Vb hp hm ht hs h6
  cases hsc : DP (fun u (_ : Nat) => if (OM m i t u && (t.ff == 4 && !LD m t u)) = true then some (FR, false) else none) 0 (zB3 nv) with
  | some r =>
   obtain ⟨q, x, hx, hf⟩ := EQ hsc
   split at hf
   ·cases hf; rfl
   ·cases hf
  | none =>
   exfalso
   have hx : (zB3 nv)[u]? = some u := List.getElem?_range (by omega)
   have := Fj hsc u u hx
   rw [zA4, h5.1, h4, h5.2] at this
   cases this
 ·rw [if_neg hst]
  have : DP (fun u (_ : Nat) => if (OM m i t u && (t.ff == 4 && !LD m t u)) = true then some (FR, false) else none) 0 (zB3 nv) = none := FX fun q x hx => by
   rw [zA4]
   split
   ·rename_i h5
    exfalso; apply hst
    rw [zA6, zA6] at h5
    unfold Ip
    rw [h5.2.1, zE8, zD3]
    have hq : q < nv := by
     have := (lI.1 hx).1
     simpa using this
    exact ⟨q, zE0.2 (by omega), by rw [h5.1, h5.2.2]; rfl⟩
   ·rfl
  rw [this]; rfl
end clear
end Go.Lift
namespace Go.Lift
open Option renaming bind_some → oS
open List renaming mem_of_getElem? → lM
open Go
theorem HV {s : Ad} (h : Gs s = true) : 1 ≤ s.ff ∧ s.ff ≤ 4 ∧ 0 ≤ s.fi ∧ 0 ≤ s.fk ∧ (s.ff ≠ 1 → s.fk = 0) := by
 unfold Gs at h
 rw [zA6, decide_eq_true_iff, zF7, beq_iff_eq, beq_iff_eq] at h
 exact ⟨h.1.1, h.1.2.1, h.1.2.2.1, h.1.2.2.2, fun hk => h.2.elim (fun e => (hk e).elim) id⟩
theorem IK {p : Aa} {s : Ad} (h : FH p s = true) : (s.ff = 3 → s.fi < (p.fe.length : Int)) ∧ (s.ff ≠ 3 → s.fi < (p.fb.length : Int)) ∧ (s.ff = 1 → s.fk < p.fb.getD s.fi.toNat 0) := by
 unfold FH at h
 split at h
 ·rename_i hk
  rw [decide_eq_true_iff] at h
  exact ⟨fun _ => h, fun hn => (hn hk).elim, fun h1 => by omega⟩
 ·rename_i hk
  rw [zA6, decide_eq_true_iff, zF7, decide_eq_true_iff, bne_iff_ne] at h
  exact ⟨fun h3 => (hk h3).elim, fun _ => h.1, fun h1 => h.2.elim (fun hn => (hn h1).elim) id⟩
theorem P0 (N : Nat) {p : Aa} {m : Ab} (hp : A3 p) (hm : Bm p m) : FE N m = some m := by
 have hnv := hp.nv
 have hnt := hp.nt
 have h1 := hm.base
 have h2 := hm.next
 have h3 := hm.held
 unfold FE
 rw [JL N _ (by simp only [Dv]; omega), JL N _ (by simp only [Dv]; omega), PV N _ (by simp only [Dv]; omega)]
 rfl
theorem LL (N : Nat) (hN : N ≤ 1000000) (h20 : 100 ≤ N) {p : Aa} {m : Ab} (hp : A3 p) (hm : Bm p m) {s : Ad} (hv : Gs s = true) (hx : FH p s = true) :
  ∃ o, Fu N p m s = some (o, (FF p m s).isSome) ∧ ∀ x, FF p m s = some x → o = x := by
 obtain ⟨k1, k4, i0, v0, vk⟩ := HV hv
 obtain ⟨x3, xn, x1⟩ := IK hx
 have hnv := hp.nv
 have hnt := hp.nt
 have hb := hm.base
 have hn := hm.next
 have hh := hm.held
 obtain ⟨i, hi⟩ := zA7 i0
 unfold Fu FF
 rw [P0 N hp hm]
 simp only [oS, A7]
 by_cases hk1 : s.ff = 1
 ·have hi1 : (i : Int) < p.fb.length := by have := xn (by omega); omega
  rw [beq_iff_eq.2 hk1, AG, if_pos hk1]
  unfold H4
  simp only [A7, hi, zB2]
  rw [C4 (d := 0) (show i < m.fa.length by omega)]
  simp only [oS]
  by_cases c1 : 0 ≤ m.fa.getD i 0
  ·rw [AD c1, AG, if_pos (.inl c1)]
   exact ⟨_, rfl, fun x hx => by cases hx⟩
  ·rw [AB c1, C4 (d := 0) (show i < m.fc.length by omega)]
   simp only [oS]
   by_cases c2 : m.fc.getD i 0 = s.fk
   ·rw [beq_iff_eq.2 c2, AG, if_pos (.inr c2)]
    exact ⟨_, rfl, fun x hx => by cases hx⟩
   ·rw [beq_eq_false_iff_ne.2 c2, Am, (N8 (_R := Unit) N p s m.fd v0 hh (by omega) hN _).1, if_neg (by rintro (h | h); exact c1 h; exact c2 h)]
    exact ⟨_, rfl, fun x hx => by cases hx; rfl⟩
 ·rw [beq_eq_false_iff_ne.2 hk1, Am, if_neg hk1]
  by_cases hk3 : s.ff = 3
  ·have hi3 : i < p.fe.length := by have := x3 hk3; omega
   have ht : p.fe[i]? = some p.fe[i] := by simp [hi3]
   rw [beq_iff_eq.2 hk3, AG, if_pos hk3, hi, Pi N hN h20 hp hm ht]
   simp only [oS, zB2, ht]
   split
   ·exact ⟨_, rfl, fun x hx => by cases hx⟩
   ·exact ⟨_, rfl, fun x hx => by cases hx; rfl⟩
  ·have hi1 : (i : Int) < p.fb.length := by have := xn hk3; omega
   rw [beq_eq_false_iff_ne.2 hk3, Am, if_neg hk3, hi, C4 (d := 0) (show i < m.fa.length by omega)]
   simp only [oS, zB2]
   by_cases c1 : m.fa.getD i 0 < 0
   ·rw [AD c1, if_pos c1]
    exact ⟨_, rfl, fun x hx => by cases hx⟩
   ·rw [AB c1, if_neg c1]
    by_cases hk2 : s.ff = 2
    ·rw [beq_iff_eq.2 hk2, AG, C4 (d := 0) (show i < m.fc.length by omega), if_pos hk2]
     exact ⟨_, rfl, fun x hx => by cases hx; rfl⟩
    ·rw [beq_eq_false_iff_ne.2 hk2, Am, if_neg hk2]
     exact ⟨_, rfl, fun x hx => by cases hx; rfl⟩
theorem LJ (N : Nat) (hN : N ≤ 1000000) (h20 : 100 ≤ N) {p : Aa} {m : Ab} (hp : A3 p) (hm : Bm p m) (s : Ad) : Ga N p m s = some (AT p m s) := by
 unfold Ga AT
 rw [Pq]
 simp only [oS]
 cases hv : Gs s
 ·rw [zD6, AG, if_pos rfl]; rfl
 ·rw [zB7, Am, if_neg (by simp), OR N p s hv]
  simp only [oS]
  cases hx : FH p s
  ·rw [zD6, AG, if_pos rfl]; rfl
  ·rw [zB7, Am, if_neg (by simp)]
   obtain ⟨o, e, ho⟩ := LL N hN h20 hp hm hv hx
   rw [e]
   simp only [oS]
   cases ha : FF p m s with
   | none => rfl
   | some x => rw [ho x ha]; rfl
theorem MH (N : Nat) (hN : N ≤ 1000000) (h20 : 100 ≤ N) {p : Aa} {m : Ab} (hp : A3 p) (hm : Bm p m) {s : Ad} (hv : Gs s = true) (hx : FH p s = true) :
  Cv N p m s = some (match FF p m s with | none => (FR, false) | some x => (x, true)) := by
 obtain ⟨k1, k4, i0, v0, vk⟩ := HV hv
 obtain ⟨x3, xn, x1⟩ := IK hx
 have hnv := hp.nv
 have hnt := hp.nt
 have hb := hm.base
 have hn := hm.next
 have hh := hm.held
 obtain ⟨i, hi⟩ := zA7 i0
 unfold Cv FF
 rw [As (by simp [Dv]; omega), As (by simp [Dv]; omega), As (by simp [Dv]; omega)]
 simp only [A7, zH3]
 by_cases hk1 : s.ff = 1
 ·have hi1 : (i : Int) < p.fb.length := by have := xn (by omega); omega
  rw [beq_iff_eq.2 hk1, AG, if_pos hk1]
  simp only [hi, zB2]
  rw [C4 (d := 0) (show i < m.fa.length by omega)]
  simp only [oS]
  by_cases c1 : 0 ≤ m.fa.getD i 0
  ·rw [AD c1, AG, if_pos (.inl c1)]; rfl
  ·rw [AB c1, C4 (d := 0) (show i < m.fc.length by omega)]
   simp only [oS]
   by_cases c2 : m.fc.getD i 0 = s.fk
   ·rw [beq_iff_eq.2 c2.symm, AG, if_pos (.inr c2)]; rfl
   ·rw [beq_eq_false_iff_ne.2 (fun h => c2 h.symm), Am, O0 N p s m.fd v0 hh (by omega) hN _, if_neg (by rintro (h | h); exact c1 h; exact c2 h)]
 ·rw [beq_eq_false_iff_ne.2 hk1, Am, if_neg hk1]
  by_cases hk3 : s.ff = 3
  ·have hi3 : i < p.fe.length := by have := x3 hk3; omega
   have ht : p.fe[i]? = some p.fe[i] := by simp [hi3]
   have hin := IY (hp.tab _ (lM ht))
   have eh' : BC m.fd (i : Int) = some (m.fd.getD i 0) := C4 (by omega)
   rw [beq_eq_false_iff_ne.2 (show s.ff ≠ 2 by omega), Am, beq_iff_eq.2 hk3, AG, if_pos hk3, hi, AS, ht]
   simp only [oS, GY, zB2, ht]
   cases hs : BU p.fe[i]
   ·rw [zD6, AG, if_pos (.inl rfl)]; rfl
   ·rw [zB7, Am, Ki N m _ hin.1 (by omega) (by omega) (hm.b0 _ (by omega)).1, eh']
    simp only [oS]
    by_cases h1 : m.fd.getD i 0 = G6 m (p.fe[i]).fg.toNat
    ·rw [beq_iff_eq.2 h1, AG, if_pos (.inr (.inl h1))]; rfl
    ·rw [beq_eq_false_iff_ne.2 h1, Am]
     rw [Oy N hN h20 hp hm ht hs s hi]
     cases hst : Ip p m i p.fe[i]
     ·rw [if_neg (by simp), if_neg (by rintro (h | h | h); cases h; exact h1 h; cases h)]
     ·rw [if_pos rfl, if_pos (.inr (.inr rfl))]
  ·have hi1 : (i : Int) < p.fb.length := by have := xn hk3; omega
   rw [if_neg hk3, hi, C4 (d := 0) (show i < m.fa.length by omega)]
   simp only [oS, zB2]
   by_cases hk2 : s.ff = 2
   ·rw [beq_iff_eq.2 hk2, AG, if_pos hk2]
    by_cases c1 : m.fa.getD i 0 < 0
    ·rw [AD c1, if_pos c1]; rfl
    ·rw [AB c1, if_neg c1, C4 (d := 0) (show i < m.fc.length by omega)]; rfl
   ·rw [beq_eq_false_iff_ne.2 hk2, Am, beq_eq_false_iff_ne.2 hk3, Am, if_neg hk2]
    by_cases c1 : m.fa.getD i 0 < 0
    ·rw [AD c1, if_pos c1]; rfl
    ·rw [AB c1, if_neg c1]
end Go.Lift
namespace Go.Lift
open Option renaming bind_some → oS
open List renaming mem_of_getElem? → lM
open List renaming getElem?_eq_some_iff → lI
open Go
theorem Sb (s : Ad) : ∀ (xs : List Av) (i : Nat) (a : List Int), i + xs.length ≤ a.length → (Ix (Ud s) i xs a).length = a.length ∧ ∀ q, (Ix (Ud s) i xs a).getD q 0 = match (if i ≤ q then xs[q - i]? else none) with
  | some t => if Tq s t = true then O9 .u8 (a.getD q 0) (D3 .u8 1 s.fk) else a.getD q 0
  | none => a.getD q 0
 | [], i, a, _ => by
  refine ⟨rfl, fun q => ?_⟩
  split
  ·rename_i h; split at h
   ·simp at h
   ·cases h
  ·rfl
 | x :: xs, i, a, hl => by
  have hl' : i + (xs.length + 1) ≤ a.length := by simpa using hl
  have ha : (Ud s i x a).length = a.length := by unfold Ud; split <;> simp
  obtain ⟨ih1, ih2⟩ := Sb s xs (i + 1) (Ud s i x a) (by omega)
  refine ⟨by rw [Ix, ih1, ha], fun q => ?_⟩
  rw [Ix, ih2 q]
  have hu : (Ud s i x a).getD q 0 = if q = i ∧ Tq s x = true then O9 .u8 (a.getD q 0) (D3 .u8 1 s.fk) else a.getD q 0 := by
   unfold Ud
   by_cases hc : Tq s x = true
   ·rw [if_pos hc, IV (by omega)]
    by_cases hq : q = i
    ·subst hq; rw [if_pos rfl, if_pos ⟨rfl, hc⟩]
    ·rw [if_neg hq, if_neg (fun h => hq h.1)]
   ·rw [if_neg hc, if_neg (fun h => hc h.2)]
  by_cases h1 : i + 1 ≤ q
  ·rw [if_pos h1, if_pos (show i ≤ q by omega), hu, if_neg (by omega)]
   rw [show (x :: xs)[q - i]? = xs[q - (i + 1)]? from by rw [show q - i = (q - (i + 1)) + 1 from by omega, List.getElem?_cons_succ]]
  ·rw [if_neg h1]
   by_cases h2 : q = i
   ·subst h2
    rw [if_pos (zB4 _), Nat.sub_self, hu]
    simp
   ·rw [if_neg (show ¬ i ≤ q by omega), hu, if_neg (by omega)]
theorem T3 {p : Aa} {s : Ad} {held : List Int} (hl : held.length = p.fe.length) : (I8 p s held).length = p.fe.length ∧ ∀ q t, p.fe[q]? = some t → (I8 p s held).getD q 0 = if Tq s t = true then O9 .u8 (held.getD q 0) (D3 .u8 1 s.fk) else held.getD q 0 := by
 obtain ⟨h1, h2⟩ := Sb s p.fe 0 held (by omega)
 refine ⟨h1.trans hl, fun q t ht => ?_⟩
 have := h2 q
 rw [if_pos (zA9 _), Nat.sub_zero, ht] at this
 exact this
theorem OZ {m : Ab} {s v : Nat} : IB m s v = true ↔ m.fc.getD s 0 = (v : Int) ∨ m.fa.getD s 0 = (v : Int) := by
 unfold IB; rw [zF7, decide_eq_true_iff, decide_eq_true_iff]
theorem Ro {p : Aa} {m x : Ab} (hp : A3 p) (hm : Bm p m) {s : Ad} (hv : Gs s = true) (hx : FH p s = true) (h : FF p m s = some x) : Bm p x := by
 obtain ⟨k1, k4, i0, v0, vk⟩ := HV hv
 obtain ⟨x3, xn, x1⟩ := IK hx
 obtain ⟨i, hi⟩ := zA7 i0
 have hb := hm.base
 have hn := hm.next
 have hh := hm.held
 unfold FF at h
 simp only [hi, zB2] at h
 rw [hi, zB2] at x1
 split at h
 ·rename_i hk1
  have hi1 : i < p.fb.length := by have := xn (by omega); omega
  have hx1 := x1 hk1
  have hvi := Io hp hi1
  split at h
  ·cases h
  rename_i hc
  cases h
  obtain ⟨u1, u2⟩ := T3 (s := s) hh
  obtain ⟨b, hbv⟩ := zA7 v0
  have hob := W1 (b := b) (by omega)
  have hN : ∀ q, (m.fa.set i s.fk).getD q 0 = if q = i then s.fk else m.fa.getD q 0 := fun q => IV (by omega)
  refine { base := hb, next := by simpa using hn, held := u1, b0 := hm.b0, n0 := fun q hq => ?_, ne := fun q hq => ?_, range := fun q hq => ?_, low := fun q t ht hs v hr => ?_, high := fun q t ht hs v hbit => ?_, none := fun q t ht hs => ?_ }
  ·show -1 ≤ (m.fa.set i s.fk).getD q 0 ∧ (m.fa.set i s.fk).getD q 0 < _
   rw [hN q]
   split
   ·rename_i e; subst e; omega
   ·exact hm.n0 q hq
  ·show m.fc.getD q 0 ≠ (m.fa.set i s.fk).getD q 0
   rw [hN q]
   split
   ·rename_i e; subst e; exact fun h => hc (.inr h)
   ·exact hm.ne q hq
  ·have ht : p.fe[q]? = some p.fe[q] := by simp [hq]
   show 0 ≤ (I8 p s m.fd).getD q 0 ∧ (I8 p s m.fd).getD q 0 ≤ 255
   rw [u2 q _ ht, hbv]
   split
   ·exact (S1 (hm.range q hq) hob.2).2
   ·exact hm.range q hq
  ·have hq := (lI.1 ht).1
   show DS ((I8 p s m.fd).getD q 0) v = true
   have hin := IY (hp.tab t (lM ht))
   rw [OZ] at hr
   have hr : m.fc.getD t.fg.toNat 0 = (v : Int) ∨ (m.fa.set i s.fk).getD t.fg.toNat 0 = (v : Int) := hr
   rw [hN] at hr
   rw [u2 q t ht, hbv]
   have hlow := hm.low q t ht hs v
   rw [OZ] at hlow
   by_cases hf : t.fg.toNat = i
   ·have hup : Tq s t = true := by unfold Tq; rw [hs, zK2, beq_iff_eq, hi]; omega
    rw [if_pos hup, (S1 (hm.range q hq) hob.2).1, hob.1 v, zF7, decide_eq_true_iff]
    rw [if_pos hf] at hr
    rcases hr with h | h
    ·exact .inl (hlow (.inl h))
    ·right; omega
   ·rw [if_neg hf] at hr
    have hup : Tq s t = false := by unfold Tq; rw [hs, zK2, beq_eq_false_iff_ne, hi]; omega
    rw [hup, if_neg (by simp)]
    exact hlow hr
  ·have hq := (lI.1 ht).1
   have hbit : DS ((I8 p s m.fd).getD q 0) v = true := hbit
   have hin := IY (hp.tab t (lM ht))
   rw [u2 q t ht, hbv] at hbit
   split at hbit
   ·rename_i hup
    rw [(S1 (hm.range q hq) hob.2).1, hob.1 v, zF7, decide_eq_true_iff] at hbit
    rcases hbit with h | h
    ·exact hm.high q t ht hs v h
    ·unfold Tq at hup
     rw [hs, zK2, beq_iff_eq, hi] at hup
     rw [hup, zB2]; omega
   ·exact hm.high q t ht hs v hbit
  ·show (I8 p s m.fd).getD q 0 = 0
   have hup : Tq s t = false := by unfold Tq; rw [hs, Bool.and_false]
   rw [u2 q t ht, hup, if_neg (by simp)]
   exact hm.none q t ht hs
 ·rename_i hk1
  split at h
  ·rename_i hk3
   have hi3 : i < p.fe.length := by have := x3 hk3; omega
   have ht0 : p.fe[i]? = some p.fe[i] := by simp [hi3]
   rw [ht0] at h
   simp only at h
   split at h
   ·cases h
   rename_i hc
   cases h
   have hin0 := IY (hp.tab _ (lM ht0))
   have hr0 := Il hp hm.toMixServ (s := (p.fe[i]).fg.toNat) (by omega)
   have hs0 : BU p.fe[i] = true := by
    cases hs : BU p.fe[i]
    ·exact (hc (.inl hs)).elim
    ·rfl
   have hH : ∀ q, (m.fd.set i (G6 m (p.fe[i]).fg.toNat)).getD q 0 = if q = i then G6 m (p.fe[i]).fg.toNat else m.fd.getD q 0 := fun q => IV (by omega)
   refine { base := hb, next := hn, held := by simpa using hh, b0 := hm.b0, n0 := hm.n0, ne := hm.ne, range := fun q hq => ?_, low := fun q t ht hs v hr => ?_, high := fun q t ht hs v hbit => ?_, none := fun q t ht hs => ?_ }
   ·show 0 ≤ (m.fd.set i (G6 m (p.fe[i]).fg.toNat)).getD q 0 ∧ (m.fd.set i (G6 m (p.fe[i]).fg.toNat)).getD q 0 ≤ 255
    rw [hH q]
    split
    ·exact hr0.2
    ·exact hm.range q hq
   ·show DS ((m.fd.set i (G6 m (p.fe[i]).fg.toNat)).getD q 0) v = true
    have hr : IB m t.fg.toNat v = true := hr
    rw [hH q]
    split
    ·rename_i e; subst e
     rw [ht0] at ht; cases ht
     rw [hr0.1]; exact hr
    ·exact hm.low q t ht hs v hr
   ·have hbit : DS ((m.fd.set i (G6 m (p.fe[i]).fg.toNat)).getD q 0) v = true := hbit
    rw [hH q] at hbit
    split at hbit
    ·rename_i e; subst e
     rw [ht0] at ht; cases ht
     rw [hr0.1] at hbit
     exact hm.high q _ ht0 hs0 v (hm.low q _ ht0 hs0 v hbit)
    ·exact hm.high q t ht hs v hbit
   ·show (m.fd.set i (G6 m (p.fe[i]).fg.toNat)).getD q 0 = 0
    rw [hH q, if_neg (fun e => by subst e; rw [ht0] at ht; cases ht; rw [hs0] at hs; cases hs)]
    exact hm.none q t ht hs
  ·rename_i hk3
   have hi1 : i < p.fb.length := by have := xn hk3; omega
   have hvi := Io hp hi1
   split at h
   ·cases h
   rename_i hc
   cases h
   have hN : ∀ q, (m.fa.set i (-1)).getD q 0 = if q = i then -1 else m.fa.getD q 0 := fun q => IV (by omega)
   have hB : ∀ q, (if s.ff = 2 then m.fc.set i (m.fa.getD i 0) else m.fc).getD q 0 = if s.ff = 2 ∧ q = i then m.fa.getD i 0 else m.fc.getD q 0 := fun q => by
    by_cases hk2 : s.ff = 2
    ·rw [if_pos hk2, IV (by omega)]
     by_cases e : q = i
     ·rw [if_pos e, if_pos ⟨hk2, e⟩]
     ·rw [if_neg e, if_neg (fun h => e h.2)]
    ·rw [if_neg hk2, if_neg (fun h => hk2 h.1)]
   have hrun : ∀ q v, IB ⟨if s.ff = 2 then m.fc.set i (m.fa.getD i 0) else m.fc, m.fa.set i (-1), m.fd⟩ q v = true → IB m q v = true := fun q v hr => by
    rw [OZ] at hr ⊢
    simp only [hN q, hB q] at hr
    by_cases e : q = i
    ·subst e
     rw [if_pos rfl] at hr
     by_cases hk2 : s.ff = 2
     ·rw [if_pos ⟨hk2, rfl⟩] at hr; omega
     ·rw [if_neg (fun h => hk2 h.1)] at hr; omega
    ·rw [if_neg e, if_neg (fun h => e h.2)] at hr; exact hr
   refine { base := by simp only; split <;> simp [hb], next := by simpa using hn, held := hh, b0 := fun q hq => ?_, n0 := fun q hq => ?_, ne := fun q hq => ?_, range := hm.range, low := fun q t ht hs v hr => hm.low q t ht hs v (hrun _ _ hr), high := hm.high, none := hm.none }
   ·simp only [hB q]
    split
    ·rename_i e; obtain ⟨_, e⟩ := e; subst e
     have := hm.n0 q hq
     omega
    ·exact hm.b0 q hq
   ·simp only [hN q]
    split
    ·rename_i e; subst e; omega
    ·exact hm.n0 q hq
   ·simp only [hB q, hN q]
    have h1 := hm.b0 q hq
    by_cases e : q = i
    ·rw [if_pos e]
     split
     ·rename_i e2; obtain ⟨_, e2⟩ := e2; subst e2; omega
     ·omega
    ·rw [if_neg e, if_neg (fun h => e h.2)]; exact hm.ne q hq
theorem MQ (N : Nat) (hN : N ≤ 1000000) (h20 : 100 ≤ N) {p : Aa} {m : Ab} (hw : Nf Ln m.fd) (s : Ad) : DX N p m s = some (if Fi p m = 0 then AT p m s else (FR, Fi p m)) := by
 unfold DX AT
 rw [J2 N p m hN (by omega)]
 simp only [oS, A7]
 by_cases hval : Fi p m = 0
 ·obtain ⟨hp, hm⟩ := IS hw hval
  rw [if_pos hval, hval, bne_self_eq_false, Am, Qv]
  simp only [oS]
  cases hv : Gs s
  ·rw [zD6, AG, if_pos rfl]; rfl
  ·rw [zB7, Am, if_neg (by simp)]
   obtain ⟨k1, k4, i0, v0, vk⟩ := HV hv
   have key : ∀ b : Bool, FH p s = b → (if b = false then (FR, (4 : Int)) else match FF p m s with | none => (FR, 11) | some x => (x, 0)) = (if b = false then (FR, (4 : Int)) else match FF p m s with | none => (FR, 11) | some x => (x, 0)) := fun _ _ => rfl
   have tail : FH p s = true → ((Cv N p m s).bind fun v15 => AN (!v15.2) (some (Ab.mk [] [] [], (11 : Int))) (some (v15.1, 0))) = some (match FF p m s with | none => (FR, 11) | some x => (x, 0)) := fun hx => by
    rw [MH N hN h20 hp hm hv hx]
    cases FF p m s <;> rfl
   have zz : (Ab.mk [] [] [], (4 : Int)) = (FR, 4) := rfl
   by_cases hk3 : s.ff = 3
   ·rw [beq_iff_eq.2 hk3, AG, show (s.ff != 3) = false from by rw [hk3]; rfl]
    have hX : FH p s = decide (s.fi < (p.fe.length : Int)) := by unfold FH; rw [if_pos hk3]
    by_cases c : (p.fe.length : Int) ≤ s.fi
    ·rw [AD c, AG, hX, decide_eq_false (by omega), if_pos rfl]; rfl
    ·have hx : FH p s = true := by rw [hX, decide_eq_true (by omega)]
     rw [AB c, Am, Am, beq_eq_false_iff_ne.2 (show s.ff ≠ 1 by omega), Am, Am, hx, if_neg (by simp)]
     exact tail hx
   ·rw [beq_eq_false_iff_ne.2 hk3, Am, bne_iff_ne.2 hk3, AG]
    have hX : FH p s = (decide (s.fi < (p.fb.length : Int)) && (s.ff != 1 || decide (s.fk < p.fb.getD s.fi.toNat 0))) := by unfold FH; rw [if_neg hk3]
    by_cases c : (p.fb.length : Int) ≤ s.fi
    ·rw [decide_eq_true c, AG, hX, decide_eq_false (show ¬ s.fi < (p.fb.length : Int) by omega), zI5, if_pos rfl]; rfl
    ·rw [decide_eq_false c, Am]
     by_cases hk1 : s.ff = 1
     ·rw [beq_iff_eq.2 hk1, AG, EZ (d := 0) i0 (by omega)]
      simp only [oS]
      by_cases c2 : p.fb.getD s.fi.toNat 0 ≤ s.fk
      ·rw [decide_eq_true c2, AG, hX, decide_eq_false (show ¬ s.fk < p.fb.getD s.fi.toNat 0 by omega), show (s.ff != 1) = false from by rw [hk1]; rfl, zH1, Bool.and_false, if_pos rfl]; rfl
      ·have hx : FH p s = true := by rw [hX, decide_eq_true (by omega), decide_eq_true (by omega), zK9]; rfl
       rw [decide_eq_false c2, Am, hx, if_neg (by simp)]
       exact tail hx
     ·have hx : FH p s = true := by rw [hX, decide_eq_true (by omega), bne_iff_ne.2 hk1]; rfl
      rw [beq_eq_false_iff_ne.2 hk1, Am, Am, hx, if_neg (by simp)]
      exact tail hx
 ·rw [if_neg hval, bne_iff_ne.2 hval, AG]; rfl
theorem LH (N : Nat) (hN : N ≤ 1000000) (h20 : 100 ≤ N) {p : Aa} {m : Ab} (hw : Nf Ln m.fd) (s : Ad) : F7 N p m s = some (if Fi p m = 0 then AT p m s else (FR, Fi p m)) := by
 unfold F7
 rw [Hv N p m hN (by omega) hw]
 simp only [oS]
 by_cases hval : Fi p m = 0
 ·obtain ⟨hp, hm⟩ := IS hw hval
  rw [if_pos hval, hval, bne_self_eq_false, Am, LJ N hN h20 hp hm s]; rfl
 ·rw [if_neg hval, bne_iff_ne.2 hval, AG]; rfl
theorem HY {p : Aa} {m : Ab} (hp : A3 p) (hm : Bm p m) {s : Ad} (h : (AT p m s).2 = 0) : Bm p (AT p m s).1 := by
 unfold AT at h ⊢
 split at h
 ·cases h
 rename_i h1
 rw [if_neg h1]
 split at h
 ·cases h
 rename_i h2
 rw [if_neg h2]
 cases ha : FF p m s with
 | none => rw [ha] at h; cases h
 | some x => exact Ro hp hm (by simpa using h1) (by simpa using h2) ha
end Go.Lift
namespace Go.Lift
open IntKind renaming wrap → wI
open Option renaming bind_some → oS
open Go
def Jb (p : Aa) (total : Nat) : List Ad → Nat → Ab → Int × Ab × Ai × Int
 | [], _, m => if GI p m = true then (0, FR, Na, 15) else ((total : Int), FR, Na, 14)
 | s :: l, i, m => if (AT p m s).2 ≠ 0 ∨ s.ff = 4 then ((i : Int), FR, Na, 0) else match HI p (AT p m s).1 with
  | some (x, c) => ((i : Int), x, c, 0)
  | none => Jb p total l (i + 1) (AT p m s).1
def Qa (p : Aa) (l : List Ad) : Int × Ab × Ai × Int :=
 if Bx p ≠ 0 then (0, FR, Na, Bx p) else match HI p (CZ p) with
  | some (x, c) => (-1, x, c, 0)
  | none => Jb p l.length l 0 (CZ p)
section
variable {N : Nat} {p : Aa} {l : List Ad}
theorem K8 (hN : N ≤ 1000000) (h20 : 100 ≤ N) (hv : Bx p = 0) (hl : l.length ≤ 1000) : ∀ (n i : Nat) (m : Ab), i ≤ l.length → l.length - i < n → Bm p m →
  Et N p l (fun v6 => (Gu N p v6).bind fun v15 => AN (!v15) (some ((l.length : Int), (Ab.mk ([] : List Int) ([] : List Int) ([] : List Int)), (Ai.mk 0 0 0), 14)) (some (0, (Ab.mk ([] : List Int) ([] : List Int) ([] : List Int)), (Ai.mk 0 0 0), 15))) n (m, (i : Int)) = some (Jb p l.length (l.drop i) i m)
 | 0, i, m, _, h, _ => by omega
 | n + 1, i, m, hi, h, hm => by
  obtain ⟨hp, _⟩ := Cy hv
  have hval := Gr hv hm
  rw [Et]
  by_cases hlt : i < l.length
  ·have hx : l[i]? = some l[i] := by simp [hlt]
   rw [AD (by simp only; omega), CW hx, Jb]
   simp only [A7, AS, hx, oS, AE (show i < 1000000 by omega)]
   rw [LH N hN h20 (Ij hm), if_pos hval]
   simp only [oS]
   by_cases h1 : (AT p m l[i]).2 = 0
   ·rw [h1, bne_self_eq_false, Am]
    by_cases h2 : l[i].ff = 4
    ·rw [beq_iff_eq.2 h2, AG, if_pos (.inr h2)]; rfl
    ·have hm' := HY hp hm h1
     rw [beq_eq_false_iff_ne.2 h2, Am, if_neg (by rintro (h | h); exact h rfl; exact h2 h), JT N p _ hN h20 (Ij hm') (Gr hv hm')]
     unfold J0
     simp only [oS]
     cases hb : HI p (AT p m l[i]).1 with
     | some y => rfl
     | none =>
      have e : ((15 : Int) == 0) = false := rfl
      simp only
      rw [e, Am]
      exact K8 hN h20 hv hl n (i + 1) _ (by omega) (by omega) hm'
   ·rw [bne_iff_ne.2 h1, AG, AG, if_pos (.inl h1)]; rfl
  ·have hd : l.drop i = [] := zB0 (by omega)
   rw [AB (by simp only; omega), hd, Jb, RJ N p m hN h20 (Ij hm)]
   simp only [oS]
   cases GI p m <;> rfl
theorem LE (hN : N ≤ 1000000) (h20 : 100 ≤ N) (hv : Bx p = 0) (hl : l.length ≤ 1000) : ∀ (n i : Nat) (m : Ab), i ≤ l.length → l.length - i < n → Bm p m →
  Ch N p l (fun v4 => (Cd N p v4).bind fun v16 => AN (!v16) (some ((l.length : Int), (Ab.mk ([] : List Int) ([] : List Int) ([] : List Int)), (Ai.mk 0 0 0), 14)) (some (0, (Ab.mk ([] : List Int) ([] : List Int) ([] : List Int)), (Ai.mk 0 0 0), 15))) n (m.fc, m.fa, m.fd, (i : Int)) = some (Jb p l.length (l.drop i) i m)
 | 0, i, m, _, h, _ => by omega
 | n + 1, i, m, hi, h, hm => by
  obtain ⟨hp, _⟩ := Cy hv
  have hval := Gr hv hm
  rw [Ch]
  by_cases hlt : i < l.length
  ·have hx : l[i]? = some l[i] := by simp [hlt]
   rw [AD (by simp only; omega), CW hx, Jb]
   simp only [A7, AS, hx, oS, AE (show i < 1000000 by omega)]
   rw [AD (by omega), MQ N hN h20 (Ij hm), if_pos hval]
   simp only [oS]
   by_cases h1 : (AT p m l[i]).2 = 0
   ·rw [h1, bne_self_eq_false, Am]
    by_cases h2 : l[i].ff = 4
    ·rw [beq_iff_eq.2 h2, AG, if_pos (.inr h2)]; rfl
    ·have hm' := HY hp hm h1
     rw [beq_eq_false_iff_ne.2 h2, Am, if_neg (by rintro (h | h); exact h rfl; exact h2 h), MJ N p _ hN h20 (Ij hm') (Gr hv hm')]
     unfold J0
     simp only [oS]
     cases hb : HI p (AT p m l[i]).1 with
     | some y => rfl
     | none =>
      have e : ((15 : Int) == 0) = false := rfl
      simp only
      rw [e, Am]
      exact LE hN h20 hv hl n (i + 1) _ (by omega) (by omega) hm'
   ·rw [bne_iff_ne.2 h1, AG, AG, if_pos (.inl h1)]; rfl
  ·have hd : l.drop i = [] := zB0 (by omega)
   rw [AB (by simp only; omega), hd, Jb, KA N p _ hN h20 (Ij hm)]
   simp only [oS]
   cases GI p m <;> rfl
theorem QA (hN : N ≤ 1000000) (h20 : 100 ≤ N) (hl : l.length ≤ 1000) (hln : l.length < N) : Fl N p l = some (Qa p l) := by
 unfold Fl Qa
 rw [J7 N p hN h20]
 simp only [oS]
 by_cases hv : Bx p = 0
 ·have hm := JO hv
  rw [if_pos hv, hv, bne_self_eq_false, Am, if_neg (by simp), JT N p _ hN h20 (Ij hm) (N1 hv)]
  unfold J0
  simp only [oS]
  cases hb : HI p (CZ p) with
  | some y => rfl
  | none =>
   have e : ((15 : Int) == 0) = false := rfl
   simp only
   rw [e, Am]
   have := K8 (N := N) (p := p) (l := l) hN h20 hv hl N 0 (CZ p) (zA9 _) (by omega) hm
   rw [zB9] at this
   exact this
 ·rw [if_neg hv, bne_iff_ne.2 hv, AG, if_pos hv]; rfl
theorem Ra (hN : N ≤ 1000000) (h20 : 100 ≤ N) (hl : l.length ≤ 1000) (hln : l.length + 1 < N) : D5 N p l = some (Qa p l) := by
 unfold D5 Qa
 rw [Ke N p hN h20]
 simp only [oS]
 by_cases hv : Bx p = 0
 ·have hm := JO hv
  rw [if_pos hv, hv, bne_self_eq_false, Am, if_neg (by simp)]
  obtain ⟨k, rfl⟩ : ∃ k, N = k + 1 := ⟨N - 1, by omega⟩
  rw [Ch, AD (by simp only; omega)]
  simp only [A7]
  rw [AB (by omega), MJ (k + 1) p _ hN h20 (Ij hm) (N1 hv)]
  unfold J0
  simp only [oS]
  cases hb : HI p (CZ p) with
  | some y => rfl
  | none =>
   have e : ((15 : Int) == 0) = false := rfl
   simp only
   rw [e, Am, show wI .i64 ((-1 : Int) + 1) = ((0 : Nat) : Int) from by decide +kernel]
   have := LE (N := k + 1) (p := p) (l := l) hN h20 hv hl k 0 (CZ p) (zA9 _) (by omega) hm
   rw [zB9] at this
   exact this
 ·rw [if_neg hv, bne_iff_ne.2 hv, AG, if_pos hv]; rfl
def Nt (p : Aa) (l : List Ad) : Bool := (Qa p l).2.2.2 == 15
theorem LQ (hN : N ≤ 1000000) (h20 : 100 ≤ N) (hl : l.length ≤ 1000) (hln : l.length < N) : F9 N p l = some (Nt p l) := by
 unfold F9
 rw [QA hN h20 hl hln]; rfl
theorem Mr (hN : N ≤ 1000000) (h20 : 100 ≤ N) (hl : l.length ≤ 1000) (hln : l.length + 1 < N) : EG N p l = some (Nt p l) := by
 unfold EG
 rw [Ra hN h20 hl hln]; rfl
end
theorem Qe : EA 1000 = some true := by show _ = _; kernel_rfl
end Go.Lift
namespace Go.Lift
open Go
def Ii (p : Aa) (m : Ab) (s : Ad) : Option Ab := if (AT p m s).2 = 0 ∧ s.ff ≠ 4 ∧ BJ p (AT p m s).1 = true then some (AT p m s).1 else none
def GN (p : Aa) : Ab → List Ad → Option Ab
 | m, [] => some m
 | m, s :: l => (Ii p m s).bind fun x => GN p x l
def Sc (p : Aa) (m : Ab) (l : List Ad) : Bool := match GN p m l with
 | some x => GI p x
 | none => false
theorem N0 (p : Aa) (total : Nat) : ∀ (l : List Ad) (i : Nat) (m : Ab), ((Jb p total l i m).2.2.2 == 15) = Sc p m l
 | [], i, m => by
  rw [Jb]
  unfold Sc
  rw [GN]
  cases h : GI p m
  ·rw [if_neg (by simp)]; exact h.symm
  ·rw [if_pos rfl]; exact h.symm
 | s :: l, i, m => by
  rw [Jb]
  unfold Sc GN Ii BJ
  by_cases h1 : (AT p m s).2 ≠ 0 ∨ s.ff = 4
  ·rw [if_pos h1, if_neg (fun h => h1.elim (fun a => a h.1) (fun a => h.2.1 a))]; rfl
  ·rw [if_neg h1]
   have h2 : (AT p m s).2 = 0 := Decidable.byContradiction fun h => h1 (.inl h)
   have h3 : s.ff ≠ 4 := fun h => h1 (.inr h)
   cases hb : HI p (AT p m s).1 with
   | some y => rw [if_neg (fun h => by have := h.2.2; cases this)]; rfl
   | none =>
    rw [if_pos ⟨h2, h3, rfl⟩]
    exact N0 p total l (i + 1) _
theorem TY (p : Aa) (l : List Ad) : Nt p l = (decide (Bx p = 0) && (BJ p (CZ p) && Sc p (CZ p) l)) := by
 unfold Nt Qa BJ
 by_cases hv : Bx p = 0
 ·rw [if_neg (fun h => h hv), decide_eq_true hv, zE8]
  cases hb : HI p (CZ p) with
  | some y => rfl
  | none => exact N0 p l.length l 0 _
 ·rw [if_pos hv, decide_eq_false hv, zI5, beq_eq_false_iff_ne]
  rcases HB p with h | h <;> (simp only; omega)
theorem NC {p : Aa} {m x : Ab} {s : Ad} : Ii p m s = some x ↔ Gs s = true ∧ FH p s = true ∧ FF p m s = some x ∧ s.ff ≠ 4 ∧ BJ p x = true := by
 unfold Ii AT
 cases h1 : Gs s
 ·simp
 cases h2 : FH p s
 ·simp
 cases h3 : FF p m s with
 | none => simp
 | some y =>
  simp only [Bool.true_eq_false, if_false, true_and, Option.some.injEq]
  constructor
  ·intro h
   split at h
   ·rename_i hc; cases h; exact ⟨rfl, hc.1, hc.2⟩
   ·cases h
  ·rintro ⟨rfl, h4, h5⟩
   rw [if_pos ⟨h4, h5⟩]
theorem UN {p : Aa} {m x : Ab} {s : Ad} (hp : A3 p) (hm : Bm p m) (h : Ii p m s = some x) : Bm p x := by
 obtain ⟨h1, h2, h3, _⟩ := NC.1 h
 exact Ro hp hm h1 h2 h3
theorem NJ (p : Aa) : ∀ (A B : List Ad) (m : Ab), GN p m (A ++ B) = (GN p m A).bind fun x => GN p x B
 | [], B, m => rfl
 | s :: A, B, m => by
  rw [zG7, GN, GN]
  cases Ii p m s with
  | none => rfl
  | some x => exact NJ p A B x
end Go.Lift
namespace Go.Lift
open IntKind renaming wrap → wI
open Option renaming bind_some → oS
open List renaming getElem?_eq_some_iff → lI
open List renaming getD_eq_getElem?_getD → lD
open Go
def Gi (m : Ab) (i : Nat) (b : Int) : List Int := [wI .u8 b, wI .u8 (wI .i64 (m.fa.getD i 0 + 1))]
def K2 (m : Ab) : List Int := C1 (Gi m) 0 m.fc ++ m.fd
theorem U6 (N : Nat) (hN : N ≤ 1000000) (h20 : 100 ≤ N) {p : Aa} {m : Ab} (hp : A3 p) (hm : Bm p m) : Ho N m = some (CF (K2 m)) := by
 have hnv := hp.nv
 have hnt := hp.nt
 have hb := hm.base
 have hn := hm.next
 have hh := hm.held
 unfold Ho
 have e1 : wI .i64 (2 * (m.fc.length : Int)) = 2 * (m.fc.length : Int) := Dw (by omega) (by omega)
 rw [e1, Dw (n := 2 * (m.fc.length : Int) + (m.fd.length : Int)) (by omega) (by omega), As ⟨Int.le_refl 0, by omega, by simp only [Dv]; omega⟩]
 have l1 := FM (ED N m fun v3 => DL N m (fun v9 => some (CF v9)) N (v3, 0)) (fun a i => (a, i)) m.fc (fun v3 => DL N m (fun v9 => some (CF v9)) N (v3, 0)) (Gi m) 2 100
  (fun i x hx => by simp [Gi])
  (fun n i x a hx hl => by
   have hi := (lI.1 hx).1
   rw [ED, AD (by simp only; omega)]
   simp only [AS, hx, oS, AE (show i < 1000000 by omega)]
   have e2 : m.fa[i]? = some (m.fa.getD i 0) := by rw [lD]; simp [show i < m.fa.length by omega]
   rw [e2]
   simp only [oS]
   rw [As (by simp [Dv]; simp [Gi] at hl; omega)]
   rfl)
  (fun n a => by rw [ED, AB (by simp)]) N [] (by omega) (by simp; omega)
 have l1' : ED N m (fun v3 => DL N m (fun v9 => some (CF v9)) N (v3, 0)) N (zA5 (0 : Int).toNat (0 : Int), 0) = _ := l1
 rw [l1', zH3]
 have hfl : (C1 (Gi m) 0 m.fc).length ≤ 2 * m.fc.length := Gb fun j x hx => by simp [Gi]
 have l2 := FM (DL N m fun v9 => some (CF v9)) (fun a i => (a, i)) m.fd (fun v9 => some (CF v9)) (fun _ x => [x]) 1 100
  (fun i x hx => by simp)
  (fun n i x a hx hl => by
   have hi := (lI.1 hx).1
   rw [DL, AD (by simp only; omega)]
   simp only [AS, hx, oS, AE (show i < 1000000 by omega)]
   rw [As (by simp [Dv]; simp at hl; omega)])
  (fun n a => by rw [DL, AB (by simp)]) N (C1 (Gi m) 0 m.fc) (by omega) (by omega)
 have e3 : ∀ (i : Nat) (l : List Int), C1 (fun _ (x : Int) => [x]) i l = l := by
  intro i l
  induction l generalizing i with
  | nil => rfl
  | cons x l ih => rw [C1, ih]; rfl
 refine l2.trans ?_
 rw [e3]; rfl
theorem SX (xs : List Int) : ∀ b : ByteArray, (xs.foldl (fun s n => s.push (UInt8.ofNat n.toNat)) b).data.toList = b.data.toList ++ xs.map fun n => UInt8.ofNat n.toNat := by
 induction xs with
 | nil => intro b; simp
 | cons x xs ih => intro b; rw [List.foldl_cons, ih]; simp [ByteArray.push]
theorem MC (xs : List Int) : (CF xs).data.toList = xs.map fun n => UInt8.ofNat n.toNat := by
 unfold CF
 rw [SX]; rfl
theorem Yl {a b : Int} (ha : 0 ≤ a ∧ a ≤ 255) (hb : 0 ≤ b ∧ b ≤ 255) (h : UInt8.ofNat a.toNat = UInt8.ofNat b.toNat) : a = b := by
 have := congrArg UInt8.toNat h
 simp at this
 omega
theorem OW : ∀ {xs ys : List Int}, (∀ x, x ∈ xs → 0 ≤ x ∧ x ≤ 255) → (∀ x, x ∈ ys → 0 ≤ x ∧ x ≤ 255) → (xs.map fun n => UInt8.ofNat n.toNat) = (ys.map fun n => UInt8.ofNat n.toNat) → xs = ys
 | [], [], _, _, _ => rfl
 | [], _ :: _, _, _, h => by cases h
 | _ :: _, [], _, _, h => by cases h
 | x :: xs, y :: ys, hx, hy, h => by
  rw [zD0, zD0, List.cons.injEq] at h
  rw [Yl (hx x (by simp)) (hy y (by simp)) h.1, OW (fun z hz => hx z (zE4 _ hz)) (fun z hz => hy z (zE4 _ hz)) h.2]
theorem RA {xs ys : List Int} (hx : ∀ x, x ∈ xs → 0 ≤ x ∧ x ≤ 255) (hy : ∀ x, x ∈ ys → 0 ≤ x ∧ x ≤ 255) (h : (CF xs == CF ys) = true) : xs = ys := by
 rw [Jy, beq_iff_eq] at h
 have h := congrArg Array.toList h
 rw [MC, MC] at h
 exact OW hx hy h
theorem QU (xs : List Int) : (CF xs == CF xs) = true := by rw [Jy]; simp
theorem PD {α β : Type} {g h : Nat → α → List β} {c : Nat} : ∀ {i : Nat} {xs ys : List α}, xs.length = ys.length → (∀ i x, (g i x).length = c) → (∀ i x, (h i x).length = c) → C1 g i xs = C1 h i ys → ∀ j x y, xs[j]? = some x → ys[j]? = some y → g (i + j) x = h (i + j) y
 | i, [], ys, _, _, _, _, j, x, y, hx, _ => by simp at hx
 | i, x :: xs, [], hl, _, _, _, _, _, _, _, _ => by simp at hl
 | i, x :: xs, y :: ys, hl, hg, hh, e, j, x', y', hx, hy => by
  rw [C1, C1] at e
  have e1 := List.append_inj e ((hg i x).trans (hh i y).symm)
  cases j with
  | zero => simp at hx hy; subst hx; subst hy; exact e1.1
  | succ j =>
   have := PD (i := i + 1) (by simpa using hl) hg hh e1.2 j x' y' (by simpa using hx) (by simpa using hy)
   rwa [show i + 1 + j = i + (j + 1) from by omega] at this
theorem P5 {p : Aa} {m : Ab} (_hp : A3 p) (hm : Bm p m) : ∀ x, x ∈ K2 m → 0 ≤ x ∧ x ≤ 255 := by
 intro x hx
 unfold K2 at hx
 rcases zC2.1 hx with h | h
 ·obtain ⟨j, b, hb, hk⟩ := Hk.1 h
  have hw : ∀ n : Int, 0 ≤ wI .u8 n ∧ wI .u8 n ≤ 255 := fun n => by
   simp [wI, IntKind.signed, IntKind.bits]; omega
  unfold Gi at hk
  rcases zC6.1 hk with e | e
  ·subst e; exact hw _
  ·rcases zC6.1 e with e | e
   ·subst e; exact hw _
   ·cases e
 ·obtain ⟨j, hj⟩ := zA8.1 h
  have hl := (lI.1 hj).1
  have := hm.range j (by rw [← hm.held]; exact hl)
  rw [lD, hj] at this
  exact this
theorem H8 {n : Int} (h : 0 ≤ n ∧ n ≤ 255) : wI .u8 n = n := by
 simp [wI, IntKind.signed, IntKind.bits]; omega
theorem V9 {p : Aa} {m x : Ab} (hp : A3 p) (hm : Bm p m) (hx : Bm p x) (h : (CF (K2 m) == CF (K2 x)) = true) : m = x := by
 have e := RA (P5 hp hm) (P5 hp hx) h
 unfold K2 at e
 have hbl : m.fc.length = x.fc.length := hm.base.trans hx.base.symm
 have hfl : ∀ y : Ab, (C1 (Gi y) 0 y.fc).length = 2 * y.fc.length := fun y => by
  have : ∀ (i : Nat) (l : List Int), (C1 (Gi y) i l).length = 2 * l.length := by
   intro i l
   induction l generalizing i with
   | nil => rfl
   | cons b l ih => rw [C1, zB8, ih, zC8]; simp [Gi]; omega
  exact this 0 _
 obtain ⟨e1, e2⟩ := List.append_inj e (by rw [hfl, hfl, hbl])
 have key : ∀ j, j < p.fb.length → m.fc.getD j 0 = x.fc.getD j 0 ∧ m.fa.getD j 0 = x.fa.getD j 0 := fun j hj => by
  have h1 : m.fc[j]? = some (m.fc.getD j 0) := by rw [lD]; simp [hm.base, hj]
  have h2 : x.fc[j]? = some (x.fc.getD j 0) := by rw [lD]; simp [hx.base, hj]
  have h3 := PD (c := 2) hbl (fun _ _ => by simp [Gi]) (fun _ _ => by simp [Gi]) e1 j _ _ h1 h2
  rw [zA4] at h3
  have v := Io hp hj
  have b1 := hm.b0 j hj
  have b2 := hx.b0 j hj
  have n1 := hm.n0 j hj
  have n2 := hx.n0 j hj
  unfold Gi at h3
  rw [Dw (n := m.fa.getD j 0 + 1) (by omega) (by omega), Dw (n := x.fa.getD j 0 + 1) (by omega) (by omega), H8 (n := m.fc.getD j 0) (by omega), H8 (n := x.fc.getD j 0) (by omega), H8 (n := m.fa.getD j 0 + 1) (by omega), H8 (n := x.fa.getD j 0 + 1) (by omega), List.cons.injEq, List.cons.injEq] at h3
  exact ⟨h3.1, by omega⟩
 have hB : m.fc = x.fc := Fw hbl fun q hq => (key q (by rw [← hm.base]; exact hq)).1
 have hN : m.fa = x.fa := Fw (hm.next.trans hx.next.symm) fun q hq => (key q (by rw [← hm.next]; exact hq)).2
 cases m; cases x
 simp only at hB hN e2
 rw [hB, hN, e2]
end Go.Lift
namespace Go.Lift
open Option renaming bind_some → oS
open List renaming mem_of_getElem? → lM
open List renaming getElem?_eq_some_iff → lI
open Go
def Jc (i : Nat) (n : Int) : List Ad := (zB3 n.toNat).map fun v => ⟨1, (i : Int), ((v : Nat) : Int), ⟩
def EU (p : Aa) : List Ad := C1 Jc 0 p.fb ++ ((zB3 p.fb.length).map fun i => (⟨2, ((i : Nat) : Int), 0⟩ : Ad)) ++ ((zB3 p.fe.length).map fun i => (⟨3, ((i : Nat) : Int), 0⟩ : Ad))
def FI (p : Aa) (m : Ab) : List Ad := (EU p).filter fun s => (AT p m s).2 == 0
theorem Tg {p : Aa} (hp : A3 p) : (EU p).length ≤ 54 := by
 have h1 : (C1 Jc 0 p.fb).length ≤ 6 * p.fb.length := Gb fun j x hx => by
  have := hp.ver x (lM hx)
  simp [Jc]; omega
 have := hp.nv
 have := hp.nt
 unfold EU
 simp only [zB8, zB1, zG9]
 omega
theorem RH (N : Nat) (hN : N ≤ 1000000) (h20 : 100 ≤ N) {p : Aa} (hp : A3 p) : Ig N p = some (EU p) := by
 have hnv := hp.nv
 have hnt := hp.nt
 unfold Ig
 have l1 := FM (Dh N p fun v2 => Cs N p (fun v10 => Bu N p (fun v14 => some v14) N (v10, 0)) N (v2, 0)) (fun a i => (a, i)) p.fb (fun v2 => Cs N p (fun v10 => Bu N p (fun v14 => some v14) N (v10, 0)) N (v2, 0)) Jc 6 100
  (fun i x hx => by have := hp.ver x (lM hx); simp [Jc]; omega)
  (fun n i x a hx hl => by
   have hi := (lI.1 hx).1
   have hx6 := hp.ver x (lM hx)
   obtain ⟨k, hk⟩ := zA7 (show 0 ≤ x by omega)
   rw [Dh, AD (by simp only; omega)]
   simp only [AS, hx, oS, AE (show i < 1000000 by omega)]
   subst hk
   obtain ⟨a', e, ha⟩ := Ff (Ey N (a, (i : Int)) (k : Int) fun v6 => Dh N p (fun v2 => Cs N p (fun v10 => Bu N p (fun v14 => some v14) N (v10, 0)) N (v2, 0)) n (v6, ((i + 1 : Nat) : Int))) (fun b v => (b, v)) k (fun v6 => Dh N p (fun v2 => Cs N p (fun v10 => Bu N p (fun v14 => some v14) N (v10, 0)) N (v2, 0)) n (v6, ((i + 1 : Nat) : Int)))
    (fun v b => b = a ++ (zB3 v).map fun v => (⟨1, (i : Int), ((v : Nat) : Int)⟩ : Ad))
    (fun n v b hv hb => by
     subst hb
     rw [Ey, AD (by simp only; omega), As (by simp [Dv]; simp [Jc] at hl; omega), AE (by omega)]
     exact ⟨_, rfl, by rw [zG5, zF0, zD7]; rfl⟩)
    (fun n b hb => by rw [Ey, AB (by simp)]) N 0 a (zA9 _) (by omega) (by simp)
   have e' : Ey N (a, (i : Int)) (k : Int) (fun v6 => Dh N p (fun v2 => Cs N p (fun v10 => Bu N p (fun v14 => some v14) N (v10, 0)) N (v2, 0)) n (v6, ((i + 1 : Nat) : Int))) N (a, 0) = _ := e
   rw [e', ha]; rfl)
  (fun n a => by rw [Dh, AB (by simp)]) N [] (by omega) (by simp; omega)
 have l1' : Dh N p (fun v2 => Cs N p (fun v10 => Bu N p (fun v14 => some v14) N (v10, 0)) N (v2, 0)) N (([] : List Ad), 0) = _ := l1
 rw [l1', zH3]
 have hA : (C1 Jc 0 p.fb).length ≤ 6 * p.fb.length := Gb fun j x hx => by
  have := hp.ver x (lM hx)
  simp [Jc]; omega
 generalize hAe : C1 Jc 0 p.fb = A at hA
 obtain ⟨b', e2, hb⟩ := Ff (Cs N p fun v10 => Bu N p (fun v14 => some v14) N (v10, 0)) (fun b v => (b, v)) p.fb.length (fun v10 => Bu N p (fun v14 => some v14) N (v10, 0))
  (fun v b => b = A ++ (zB3 v).map fun i => (⟨2, ((i : Nat) : Int), 0⟩ : Ad))
  (fun n v b hv hb => by
   subst hb
   rw [Cs, AD (by simp only; omega), As (by simp [Dv]; omega), AE (by omega)]
   exact ⟨_, rfl, by rw [zG5, zF0, zD7]; rfl⟩)
  (fun n b hb => by rw [Cs, AB (by simp)]) N 0 A (zA9 _) (by omega) (by simp)
 have e2' : Cs N p (fun v10 => Bu N p (fun v14 => some v14) N (v10, 0)) N (A, 0) = _ := e2
 rw [e2', hb]
 generalize hBe : A ++ (zB3 p.fb.length).map (fun i => (⟨2, ((i : Nat) : Int), 0⟩ : Ad)) = B
 have hB : B.length ≤ 50 := by rw [← hBe]; simp; omega
 obtain ⟨c', e3, hc⟩ := Ff (Bu N p fun v14 => some v14) (fun b v => (b, v)) p.fe.length (fun v14 => some v14)
  (fun v b => b = B ++ (zB3 v).map fun i => (⟨3, ((i : Nat) : Int), 0⟩ : Ad))
  (fun n v b hv hb => by
   subst hb
   rw [Bu, AD (by simp only; omega), As (by simp [Dv]; omega), AE (by omega)]
   exact ⟨_, rfl, by rw [zG5, zF0, zD7]; rfl⟩)
  (fun n b hb => by rw [Bu, AB (by simp)]) N 0 B (zA9 _) (by omega) (by simp)
 have e3' : Bu N p (fun v14 => some v14) N (B, 0) = _ := e3
 rw [e3', hc, ← hBe, ← hAe]; rfl
end Go.Lift
namespace Go.Lift
open Option renaming bind_some → oS
open List renaming mem_of_getElem? → lM
open List renaming getElem?_eq_some_iff → lI
open List renaming getD_eq_getElem?_getD → lD
open Go
theorem Ns {p : Aa} (hp : A3 p) {s : Ad} (h : s ∈ EU p) : Gs s = true ∧ FH p s = true := by
 have hnv := hp.nv
 unfold EU at h
 rcases zC2.1 h with h | h
 ·rcases zC2.1 h with h | h
  ·obtain ⟨j, x, hx, hk⟩ := Hk.1 h
   rw [zA4] at hk
   unfold Jc at hk
   obtain ⟨v, hv, rfl⟩ := zB6.1 hk
   have hx6 := hp.ver x (lM hx)
   have hv := zE0.1 hv
   have hj := (lI.1 hx).1
   refine ⟨by unfold Gs; simp, ?_⟩
   unfold FH
   have e : p.fb.getD j 0 = x := by rw [lD, hx]; rfl
   simp only
   rw [if_neg (by omega), decide_eq_true (by omega), zB2, e, decide_eq_true (by omega), zK9]; rfl
  ·obtain ⟨v, hv, rfl⟩ := zB6.1 h
   have hv := zE0.1 hv
   refine ⟨by unfold Gs; simp, ?_⟩
   unfold FH
   simp only
   rw [if_neg (by omega), decide_eq_true (by omega)]; rfl
 ·obtain ⟨v, hv, rfl⟩ := zB6.1 h
  have hv := zE0.1 hv
  refine ⟨by unfold Gs; simp, ?_⟩
  unfold FH
  simp only
  rw [if_pos trivial, decide_eq_true (by omega)]
theorem Vk {p : Aa} {m : Ab} {s : Ad} (hv : Gs s = true) (hx : FH p s = true) : ((AT p m s).2 == 0) = (FF p m s).isSome := by
 unfold AT
 rw [hv, hx, if_neg (by simp), if_neg (by simp)]
 cases FF p m s <;> rfl
theorem R1 (N : Nat) (hN : N ≤ 1000000) (h20 : 100 ≤ N) {p : Aa} {m : Ab} (hp : A3 p) (hm : Bm p m) {s : Ad} (h : s ∈ EU p) :
  DC N s p.fb p.fj p.fm p.fe m.fc m.fa m.fd = some (!((AT p m s).2 == 0)) := by
 obtain ⟨hv, hx⟩ := Ns hp h
 unfold DC
 obtain ⟨o, e, _⟩ := LL N hN h20 hp hm hv hx
 have e' : Fu N ⟨p.fb, p.fj, p.fm, p.fe⟩ ⟨m.fc, m.fa, m.fd⟩ s = some (o, (FF p m s).isSome) := e
 rw [e', Vk hv hx]; rfl
theorem SB (N : Nat) (hN : N ≤ 1000000) (a : List Ad) (f : Ad → Option Bool) (g : Ad → Bool) (h : a.length < N) (hf : ∀ x, x ∈ a → f x = some (g x)) :
  BI N a f = some ((DP (fun i x => if g x = true then some (i : Int) else none) 0 a).getD (-1)) := by
 unfold BI
 have := CU (A1 N a f fun _ => some (-1)) a (some (-1)) (fun i x => if g x = true then some (i : Int) else none)
  (fun n i x hx => by
   have hi := (lI.1 hx).1
   rw [A1, AD (by omega), AS, hx]
   simp only [oS]
   rw [hf x (lM hx), AE (by omega)]
   simp only [oS]
   cases g x <;> rfl)
  (fun n => by rw [A1, AB (by simp)]) N 0 (zA9 _) (by omega)
 refine this.trans ?_
 rw [zB9]
 cases DP (fun i x => if g x = true then some (i : Int) else none) 0 a <;> rfl
theorem Pm {α : Type} {l : List α} {i : Nat} {v : α} (h : i < l.length) : (l.set i v).take (i + 1) = l.take i ++ [v] := by
 rw [zD9, List.take_set_of_le (zB4 i)]
 congr 1
 simp [h]
theorem Ri (N : Nat) (hN : N ≤ 1000000) (a : List Ad) (f : Ad → Option Bool) (g : Ad → Bool) (h : a.length < N) (h9 : a.length ≤ 1000) (hf : ∀ x, x ∈ a → f x = some (g x)) :
  ∃ X n, BG N a f = some (n, X) ∧ n ≤ X.length ∧ X.take n = a.filter fun x => !g x := by
 unfold BG
 rw [SB N hN a f g h hf]
 simp only [oS]
 cases hs : DP (fun i x => if g x = true then some (i : Int) else none) 0 a with
 | none =>
  refine ⟨a, a.length, rfl, zB4 _, ?_⟩
  rw [zH4]
  symm
  rw [List.filter_eq_self]
  intro x hx
  obtain ⟨j, hj⟩ := zA8.1 hx
  have := Fj hs j x hj
  cases hg : g x
  ·rfl
  ·rw [hg] at this; cases this
 | some r =>
  obtain ⟨j, x, hx, hr⟩ := EQ hs
  rw [zA4] at hr
  split at hr
  ·rename_i hg
   cases hr
   have hj := (lI.1 hx).1
   have e0 : ((some (j : Int)).getD (-1) == (-1 : Int)) = false := beq_eq_false_iff_ne.2 (by simp only [zC5]; omega)
   rw [e0, Am]
   simp only [zC5]
   rw [AE (by omega)]
   -- what lies before the first that goes is kept
   have hpre : (a.take (j + 1)).filter (fun x => !g x) = a.take j := by
    rw [zD9, hx, zF3]
    have h1 : (a.take j).filter (fun x => !g x) = a.take j := by
     rw [List.filter_eq_self]
     intro y hy
     obtain ⟨q, hq⟩ := zA8.1 hy
     have hql := (lI.1 hq).1
     simp at hql
     rw [zC7 (by omega)] at hq
     cases hgy : g y
     ·rfl
     ·exfalso
      have : ∀ (xs : List Ad) (i j q : Nat) (y : Ad), DP (fun i x => if g x = true then some (i : Int) else none) i xs = some ((i + j : Nat) : Int) → q < j → xs[q]? = some y → g y = true → False := by
       intro xs
       induction xs with
       | nil => intro i j q y _ _ hq; simp at hq
       | cons z zs ih =>
        intro i j q y hs hqj hq hgy
        rw [Hm] at hs
        cases hz : g z
        ·rw [hz] at hs
         cases q with
         | zero => simp at hq; subst hq; rw [hz] at hgy; cases hgy
         | succ q =>
          cases j with
          | zero => omega
          | succ j => exact ih (i + 1) j q y (by rw [show i + 1 + j = i + (j + 1) from by omega]; exact hs) (by omega) (by simpa using hq) hgy
        ·rw [hz] at hs
         have hs : (some (i : Int)) = some ((i + j : Nat) : Int) := hs
         have := Option.some.inj hs
         omega
      exact this a 0 j q y (by rw [zA4]; exact hs) (by omega) hq hgy
    rw [h1]
    simp [hg]
   obtain ⟨b, e, hb⟩ := Ff (AW N f fun v4 => (Es ((0 : Int) ≤ v4.2 ∧ (v4.2).toNat ≤ v4.1.length ∧ v4.1.length ≤ v4.1.length)).bind fun _ =>
     (Es ((0 : Int) ≤ v4.2 ∧ 0 ≤ (v4.2).toNat ∧ (v4.2).toNat ≤ (JC v4.1 ((v4.2).toNat) (zA5 ((v4.1.length - (v4.2).toNat)) ((Ad.mk 0 0 0)))).length)).bind fun _ =>
     some ((v4.2).toNat, JC v4.1 ((v4.2).toNat) (zA5 ((v4.1.length - (v4.2).toNat)) ((Ad.mk 0 0 0)))))
    (fun (b : List Ad × Nat) i => (b.1, ((b.2 : Nat) : Int), i)) a.length (fun b => (Es ((0 : Int) ≤ ((b.2 : Nat) : Int) ∧ (((b.2 : Nat) : Int)).toNat ≤ b.1.length ∧ b.1.length ≤ b.1.length)).bind fun _ =>
     (Es ((0 : Int) ≤ ((b.2 : Nat) : Int) ∧ 0 ≤ (((b.2 : Nat) : Int)).toNat ∧ (((b.2 : Nat) : Int)).toNat ≤ (JC b.1 ((((b.2 : Nat) : Int)).toNat) (zA5 ((b.1.length - (((b.2 : Nat) : Int)).toNat)) ((Ad.mk 0 0 0)))).length)).bind fun _ =>
     some ((((b.2 : Nat) : Int)).toNat, JC b.1 ((((b.2 : Nat) : Int)).toNat) (zA5 ((b.1.length - (((b.2 : Nat) : Int)).toNat)) ((Ad.mk 0 0 0)))))
    (fun i b => b.1.length = a.length ∧ b.2 ≤ i ∧ b.1.drop i = a.drop i ∧ b.1.take b.2 = (a.take i).filter fun x => !g x)
    (fun n i b hi hb => by
     obtain ⟨b1, b2, b3, b4⟩ := hb
     rw [AW, AD (by simp only; omega)]
     have hai : a[i]? = some a[i] := by simp [hi]
     have hbi : b.1[i]? = some a[i] := by
      have := congrArg (fun l => l[0]?) b3
      simp only [zF1, zF9] at this
      rw [this, hai]
     simp only [A7, AS, hbi, oS]
     rw [hf a[i] (zF6 hi), AE (i := i) (by omega)]
     simp only [oS]
     have hnext : b.1.drop (i + 1) = a.drop (i + 1) := by
      have := congrArg (List.drop 1) b3
      rwa [List.drop_drop, List.drop_drop] at this
     cases hgi : g a[i]
     ·rw [zD6, AG]
      have hbj : b.1[b.2]? = some b.1[b.2] := by simp [show b.2 < b.1.length from by omega]
      rw [hbj, AE (i := b.2) (by omega)]
      refine ⟨(b.1.set b.2 a[i], b.2 + 1), rfl, by simpa using b1, by simp only; omega, ?_, ?_⟩
      ·simp only
       rw [List.drop_set_of_lt (by omega), hnext]
      ·simp only
       rw [Pm (by omega), b4, zD9, hai, zF3]
       simp [hgi]
     ·rw [zB7, Am]
      refine ⟨b, rfl, b1, by omega, hnext, ?_⟩
      rw [b4, zD9, hai, zF3]
      simp [hgi])
    (fun n b hb => by rw [AW, AB (by simp [hb.1])]) N (j + 1) (a, j) (by omega) (by omega) ⟨rfl, by simp only; omega, rfl, hpre.symm⟩
   obtain ⟨b1, b2, b3, b4⟩ := hb
   have e' : AW N f (fun v4 => (Es ((0 : Int) ≤ v4.2 ∧ (v4.2).toNat ≤ v4.1.length ∧ v4.1.length ≤ v4.1.length)).bind fun _ =>
     (Es ((0 : Int) ≤ v4.2 ∧ 0 ≤ (v4.2).toNat ∧ (v4.2).toNat ≤ (JC v4.1 ((v4.2).toNat) (zA5 ((v4.1.length - (v4.2).toNat)) ((Ad.mk 0 0 0)))).length)).bind fun _ =>
     some ((v4.2).toNat, JC v4.1 ((v4.2).toNat) (zA5 ((v4.1.length - (v4.2).toNat)) ((Ad.mk 0 0 0))))) N (a, (j : Int), ((j + 1 : Nat) : Int)) = _ := e
   rw [e']
   have hsl : (JC b.1 b.2 (zA5 (b.1.length - b.2) (Ad.mk 0 0 0))).length = b.1.length := J3 (by rw [List.length_replicate]; omega)
   simp only [zB2]
   rw [As ⟨by omega, by omega, zB4 _⟩, As ⟨by omega, by omega, by rw [hsl]; omega⟩]
   refine ⟨_, _, rfl, by rw [hsl]; omega, ?_⟩
   unfold JC
   rw [zD7, List.take_append_of_le_length (by simp; omega), List.take_take, Nat.min_self, b4, zH4]
  ·cases hr
theorem SM (N : Nat) (hN : N ≤ 1000000) (h20 : 100 ≤ N) {p : Aa} {m : Ab} (hv : Bx p = 0) (hm : Bm p m) : F5 N p m = some (FI p m, 0) := by
 obtain ⟨hp, _⟩ := Cy hv
 unfold F5
 rw [Hv N p m hN (by omega) (Ij hm), Gr hv hm]
 simp only [oS, bne_self_eq_false, Am]
 rw [RH N hN h20 hp]
 simp only [oS]
 have hl := Tg hp
 obtain ⟨X, n, e, h1, h2⟩ := Ri N hN (EU p) (fun x => DC N x p.fb p.fj p.fm p.fe m.fc m.fa m.fd) (fun s => !((AT p m s).2 == 0)) (by omega) (by omega) (fun x hx => R1 N hN h20 hp hm hx)
 rw [e]
 simp only [oS]
 rw [As h1, h2]
 unfold FI
 simp
theorem Ib {β : Type} (g : Nat → List β) : ∀ n : Nat, C1 (fun i (_ : Nat) => g i) 0 (zB3 n) = (zB3 n).flatMap g
 | 0 => rfl
 | n + 1 => by rw [zG5, MD, Ib g n, zI9]; simp [C1]
def VP (p : Aa) (m : Ab) (s : Ad) : Bool := (AT p m s).2 == 0
def gS (p : Aa) (m : Ab) (k : Int) (i v : Nat) : List Ad := if VP p m ⟨k, (i : Int), (v : Int)⟩ = true then [⟨k, (i : Int), (v : Int)⟩] else []
def bS (p : Aa) (m : Ab) (k : Int) (i : Nat) : List Ad := (zB3 6).flatMap (gS p m k i)
def Sm (p : Aa) : Nat := max p.fb.length p.fe.length
def kS (p : Aa) (m : Ab) (k : Int) : List Ad := (zB3 (Sm p)).flatMap (bS p m k)
theorem KK {β : Type} (f : Nat → β) (q : β → Bool) : ∀ n : Nat, ((zB3 n).flatMap fun v => if q (f v) = true then [f v] else []) = ((zB3 n).map f).filter q
 | 0 => rfl
 | n + 1 => by
  rw [zG5, zI9, KK f q n, zF0, zF3]
  cases h : q (f n) <;> simp [h]
theorem Lc {β : Type} (g : Nat → List β) (a : Nat) (h : ∀ v, a ≤ v → g v = []) : ∀ n, a ≤ n → (zB3 n).flatMap g = (zB3 a).flatMap g
 | 0, hn => by rw [Nat.le_zero.1 hn]
 | n + 1, hn => by
  by_cases h1 : a = n + 1
  ·rw [h1]
  ·rw [zG5, zI9, Lc g a h n (by omega)]
   simp [h n (by omega)]
theorem UM (p : Aa) (m : Ab) (k : Int) (i v : Nat) : (gS p m k i v).length ≤ 1 := by unfold gS; split <;> simp
theorem Us (p : Aa) (m : Ab) (k : Int) (i : Nat) : (bS p m k i).length ≤ 6 := by
 unfold bS
 rw [← Ib]
 have := Gb (g := fun i' (_ : Nat) => gS p m k i i') (c := 1) (i := 0) (xs := zB3 6) fun j x _ => UM p m k i _
 simpa using this
theorem XL {p : Aa} (hp : A3 p) (m : Ab) (k : Int) : (kS p m k).length ≤ 72 := by
 have h1 := hp.nv
 have h2 := hp.nt
 unfold kS
 rw [← Ib]
 have := Gb (g := fun i' (_ : Nat) => bS p m k i') (c := 6) (i := 0) (xs := zB3 (Sm p)) fun j x _ => Us p m k _
 simp only [zG9] at this
 have h3 : Sm p ≤ 12 := by unfold Sm; omega
 omega
theorem XD {p : Aa} {m : Ab} {s : Ad} (h : VP p m s = true) : Gs s = true ∧ FH p s = true := by
 unfold VP AT at h
 split at h
 ·cases h
 ·rename_i h1
  split at h
  ·cases h
  ·rename_i h2
   exact ⟨by simpa using h1, by simpa using h2⟩
theorem M9 {p : Aa} {m : Ab} {k : Int} {i v : Nat} (h : VP p m ⟨k, (i : Int), (v : Int)⟩ = true) : (k = 3 → i < p.fe.length) ∧ (k ≠ 3 → i < p.fb.length) ∧ (k = 1 → (v : Int) < p.fb.getD i 0) ∧ (k ≠ 1 → v = 0) := by
 obtain ⟨h1, h2⟩ := XD h
 obtain ⟨a1, a2, a3, a4, a5⟩ := HV h1
 obtain ⟨b1, b2, b3⟩ := IK h2
 simp only [zB2] at *
 exact ⟨fun e => by have := b1 e; omega, fun e => by have := b2 e; omega, b3, fun e => by have := a5 e; omega⟩
theorem VJ {p : Aa} (hp : A3 p) (m : Ab) : kS p m 1 ++ kS p m 2 ++ kS p m 3 = FI p m := by
 have hnv := hp.nv
 have hnt := hp.nt
 unfold FI EU
 rw [zF3, zF3]
 have e1 : kS p m 1 = (C1 Jc 0 p.fb).filter fun s => (AT p m s).2 == 0 := by
  unfold kS
  rw [Lc (bS p m 1) p.fb.length (fun i hi => by
   unfold bS
   rw [zK7]
   intro v _
   unfold gS
   rw [if_neg]
   intro h
   have := (M9 h).2.1 (by decide)
   omega) (Sm p) (by unfold Sm; omega)]
  have e : ∀ (xs : List Int) (i : Nat), (∀ j x, xs[j]? = some x → 1 ≤ x ∧ x ≤ 6 ∧ p.fb.getD (i + j) 0 = x) → ((zB3 xs.length).flatMap fun j => bS p m 1 (i + j)) = (C1 Jc i xs).filter fun s => (AT p m s).2 == 0 := by
   intro xs
   induction xs with
   | nil => intro i _; rfl
   | cons x xs ih =>
    intro i hx
    rw [zC8, List.range_succ_eq_map, List.flatMap_cons, List.flatMap_map, C1, zF3]
    have ih' := ih (i + 1) (fun j y hy => by
     have := hx (j + 1) y (by simpa using hy)
     rw [show i + 1 + j = i + (j + 1) from by omega]; exact this)
    have hx0 := hx 0 x rfl
    rw [zF9] at hx0
    congr 1
    ·rw [zF9]
     unfold bS Jc
     rw [Lc (gS p m 1 i) x.toNat (fun v hv => by
      unfold gS
      rw [if_neg]
      intro h
      have := (M9 h).2.2.1 rfl
      rw [hx0.2.2] at this
      omega) 6 (by omega)]
     exact KK (fun v => (⟨1, (i : Int), ((v : Nat) : Int)⟩ : Ad)) (VP p m) x.toNat
    ·rw [← ih']
     congr 1
     funext j
     rw [show i + (j + 1) = i + 1 + j from by omega]
  have := e p.fb 0 (fun j x hx => by
   have h1 := hp.ver x (lM hx)
   refine ⟨h1.1, h1.2, ?_⟩
   rw [zA4, lD, hx]; rfl)
  simp only [zA4] at this
  exact this
 have e23 : ∀ (k : Int) (n : Nat), k ≠ 1 → n ≤ Sm p → (∀ i v, VP p m ⟨k, ((i : Nat) : Int), ((v : Nat) : Int)⟩ = true → i < n) → kS p m k = (((zB3 n).map fun i => (⟨k, ((i : Nat) : Int), 0⟩ : Ad)).filter fun s => (AT p m s).2 == 0) := by
  intro k n hk hn hi
  unfold kS
  rw [Lc (bS p m k) n (fun i hi' => by
   unfold bS
   rw [zK7]
   intro v _
   unfold gS
   rw [if_neg]
   intro h
   have := hi i v h
   omega) (Sm p) hn]
  show _ = List.filter (VP p m) _
  rw [← KK (fun i => (⟨k, ((i : Nat) : Int), 0⟩ : Ad)) (VP p m) n]
  congr 1
  funext i
  unfold bS
  rw [Lc (gS p m k i) 1 (fun v hv => by
   unfold gS
   rw [if_neg]
   intro h
   have := (M9 h).2.2.2 hk
   omega) 6 (by omega)]
  simp [gS]
 rw [e1, e23 2 p.fb.length (by decide) (by unfold Sm; omega) (fun i v h => (M9 h).2.1 (by decide)), e23 3 p.fe.length (by decide) (by unfold Sm; omega) (fun i v h => (M9 h).1 rfl)]
theorem Sf (a b : Nat) : Ua (a : Int) (b : Int) = ((max a b : Nat) : Int) := by
 unfold Ua
 omega
theorem Qq (N : Nat) (hN : N ≤ 1000000) (h20 : 100 ≤ N) {p : Aa} {m : Ab} (hv : Bx p = 0) (hm : Bm p m) : EF N p m = some (FI p m) := by
 obtain ⟨hp, _⟩ := Cy hv
 have hnv := hp.nv
 have hnt := hp.nt
 have hmx : Sm p ≤ 12 := by unfold Sm; omega
 unfold EF
 have hmix := Gr hv hm
 -- one number
 have inn : ∀ (k : Int) (c0 a : List Ad) (i : Nat) (d0 : List Ad) (j : List Ad → Option (List Ad)), a.length ≤ 1000 →
   Cc N p m (c0, k) (d0, (i : Int)) j N (a, 0) = j (a ++ bS p m k i) := by
  intro k c0 a i d0 j ha
  have := FM (Cc N p m (c0, k) (d0, (i : Int)) j) (fun a i => (a, i)) (zB3 6) j (fun v _ => gS p m k i v) 1 2000
   (fun v x _ => UM _ _ _ _ _)
   (fun n v x a hx hl => by
    have hi := (lI.1 hx).1
    simp only [zG9] at hi
    rw [Cc, AD (by simp only; omega)]
    simp only [A7]
    rw [MQ N hN h20 (Ij hm), if_pos hmix]
    simp only [oS, AE (show v < 1000000 by omega)]
    unfold gS VP
    cases hq : (AT p m ⟨k, (i : Int), (v : Int)⟩).2 == 0
    ·rw [Am, if_neg (by simp), List.append_nil]
    ·rw [AG, if_pos rfl, As (by simp [Dv]; unfold gS VP at hl; rw [hq] at hl; simp at hl; omega)])
   (fun n a => by rw [Cc, AB (by simp)]) N a (by simp; omega) (by simp; omega)
  rw [Ib] at this
  exact this
 have mid : ∀ (k : Int) (c0 a : List Ad) (j : List Ad → Option (List Ad)), a.length ≤ 500 →
   Cb N p m (c0, k) j N (a, 0) = j (a ++ kS p m k) := by
  intro k c0 a j ha
  have := FM (Cb N p m (c0, k) j) (fun a i => (a, i)) (zB3 (Sm p)) j (fun i _ => bS p m k i) 6 900
   (fun v x _ => Us _ _ _ _)
   (fun n i x a hx hl => by
    have hi := (lI.1 hx).1
    simp only [zG9] at hi
    rw [Cb, AD (by simp only; rw [Sf]; unfold Sm at hi; omega)]
    rw [inn k c0 a i a _ (by omega)]
    simp only [AE (show i < 1000000 by omega)])
   (fun n a => by rw [Cb, AB (by simp [Sf, Sm])]) N a (by simp; omega) (by simp; omega)
  rw [Ib] at this
  exact this
 have hk := XL hp m
 have go : ∀ (k : Int) (n : Nat) (a : List Ad), k ≤ 3 → 1 ≤ k → a.length ≤ 300 → Bw N p m (fun v2 => some v2) (n + 1) (a, k) = Bw N p m (fun v2 => some v2) n (a ++ kS p m k, k + 1) := by
  intro k n a h1 h2 ha
  rw [Bw, AD h1]
  rw [mid k a a _ (by omega), Dw (by omega) (by omega)]
 obtain ⟨N', hN'⟩ : ∃ q, N = q + 4 := ⟨N - 4, by omega⟩
 have e0 : Bw N p m (fun v2 => some v2) N ([], 1) = Bw N p m (fun v2 => some v2) (N' + 4) ([], 1) := by rw [hN']
 rw [e0, go 1 (N' + 3) [] (by decide) (by decide) (by simp), zH3]
 rw [show (1 : Int) + 1 = 2 from rfl, go 2 (N' + 2) _ (by decide) (by decide) (by have := hk 1; omega)]
 rw [show (2 : Int) + 1 = 3 from rfl, go 3 (N' + 1) _ (by decide) (by decide) (by have h1 := hk 1; have h2 := hk 2; rw [zB8]; omega)]
 rw [Bw, AB (by simp), VJ hp]
end Go.Lift
namespace Go.Lift
open List renaming mem_of_getElem? → lM
open List renaming getElem?_eq_some_iff → lI
namespace Bfs
section
variable {α σ : Type}
def code (rk : σ → Nat) (K : Nat) (w : List σ) : Nat := w.foldl (fun c s => c * K + rk s) 0
theorem IL (rk : σ → Nat) (K : Nat) (w : List σ) (s : σ) : code rk K (w ++ [s]) = code rk K w * K + rk s := by
 simp [code]
theorem Rh (rk : σ → Nat) (K : Nat) : code rk K ([] : List σ) = 0 := rfl
def ZV (rk : σ → Nat) (K : Nat) (w : List σ) : Prop := ∀ s, s ∈ w → 1 ≤ rk s ∧ rk s ≤ K
theorem ZV.snoc {rk : σ → Nat} {K : Nat} {w : List σ} {s : σ} (h : ZV rk K w) (hs : 1 ≤ rk s ∧ rk s ≤ K) : ZV rk K (w ++ [s]) := by
 intro x hx; rcases zC2.1 hx with h1 | h1
 ·exact h x h1
 ·rw [zD2.1 h1]; exact hs
theorem TA {c d K a b : Nat} (h : c < d) (_ : 1 ≤ b) (ha : a ≤ K) : c * K + a < d * K + b := by
 have : c * K + K ≤ d * K := by rw [← zC0]; exact zA2 K h
 omega
theorem Wx {c d K a : Nat} (h : c ≤ d) : c * K + a ≤ d * K + a := Nat.add_le_add_right (zA2 K h) a
theorem TU {β : Type} (l : List β) : l = [] ∨ ∃ u s, l = u ++ [s] := by
 cases h : l.reverse with
 | nil => exact .inl (List.reverse_eq_nil_iff.1 h)
 | cons s r => exact .inr ⟨r.reverse, s, by rw [← List.reverse_cons, ← h, List.reverse_reverse]⟩
abbrev Nd (α σ : Type) := α × Int × σ
def put [DecidableEq α] (i : Nat) (l : List (Nd α σ)) (q : σ × α) : List (Nd α σ) := if (l.any fun n => decide (n.1 = q.2)) = true then l else l ++ [(q.2, (i : Int), q.1)]
def inner [DecidableEq α] (most i : Nat) : List (σ × α) → List (Nd α σ) → Option (List (Nd α σ))
 | [], l => some l
 | q :: qs, l => if most < (put i l q).length then none else inner most i qs (put i l q)
def go [DecidableEq α] (nxt : α → List (σ × α)) (most : Nat) : Nat → Nat → List (Nd α σ) → Option (List (Nd α σ))
 | 0, _, _ => none
 | n + 1, i, l => match l[i]? with
  | none => some l
  | some nd => (inner most i (nxt nd.1) l).bind fun l' => go nxt most n (i + 1) l'
structure Inv (nxt : α → List (σ × α)) (rk : σ → Nat) (K : Nat) (root : α) (i : Nat) (done : List (σ × α)) (l : List (Nd α σ)) (ws : List (List σ)) : Prop where
 len : ws.length = l.length
 root : ∃ s, l[0]? = some (root, -1, s)
 root' : ws[0]? = some []
 par : ∀ (k : Nat) x f s, 0 < k → l[k]? = some (x, f, s) → ∃ (j : Nat) (y : α) (g : Int) (t : σ) (w : List σ), f = (j : Int) ∧ j < k ∧ l[j]? = some (y, g, t) ∧ (s, x) ∈ nxt y ∧ ws[j]? = some w ∧ ws[k]? = some (w ++ [s]) ∧ (j < i ∨ (j = i ∧ (s, x) ∈ done))
 nodup : ∀ (a b : Nat) x f s g t, l[a]? = some (x, f, s) → l[b]? = some (x, g, t) → a = b
 inc : ∀ (a b : Nat) u w, ws[a]? = some u → ws[b]? = some w → a < b → code rk K u < code rk K w
 dig : ∀ (k : Nat) w, ws[k]? = some w → ZV rk K w
 closed : ∀ (j : Nat) x f s w, l[j]? = some (x, f, s) → ws[j]? = some w → ∀ q, (j < i ∧ q ∈ nxt x) ∨ (j = i ∧ q ∈ done) → ∃ (k : Nat) (f' : Int) (s' : σ) (w' : List σ), l[k]? = some (q.2, f', s') ∧ ws[k]? = some w' ∧ code rk K w' ≤ code rk K (w ++ [q.1])
theorem get_app {β : Type} {l : List β} {y x : β} {k : Nat} (h : (l ++ [y])[k]? = some x) : l[k]? = some x ∨ (k = l.length ∧ x = y) := by
 rcases Nat.lt_trichotomy k l.length with h1 | h1 | h1
 ·rw [zC1 h1] at h; exact .inl h
 ·subst h1; simp at h; exact .inr ⟨rfl, h.symm⟩
 ·rw [zD5 (by simp; omega)] at h; cases h
theorem get_app_of {β : Type} {l : List β} {y x : β} {k : Nat} (h : l[k]? = some x) : (l ++ [y])[k]? = some x := by
 rw [zC1 ((lI.1 h).1)]; exact h
theorem get_app_new {β : Type} {l : List β} {y : β} : (l ++ [y])[l.length]? = some y := by simp
theorem lt_get {β : Type} {l : List β} {k : Nat} {x : β} (h : l[k]? = some x) : k < l.length := (lI.1 h).1
theorem get_ex {β : Type} {l : List β} {k : Nat} (h : k < l.length) : ∃ x, l[k]? = some x := ⟨l[k], zC3 h⟩
theorem WF [DecidableEq α] {nxt : α → List (σ × α)} {rk : σ → Nat} {K : Nat} {root : α} {i : Nat} {done : List (σ × α)} {l : List (Nd α σ)} {ws : List (List σ)} {x : α} {f : Int} {s : σ} {q : σ × α}
  (hI : Inv nxt rk K root i done l ws) (hx : l[i]? = some (x, f, s)) (hq : q ∈ nxt x) (hd : ∀ r, r ∈ done → rk r.1 < rk q.1) (hr : 1 ≤ rk q.1 ∧ rk q.1 ≤ K) :
  ∃ ws', Inv nxt rk K root i (done ++ [q]) (put i l q) ws' ∧ (∀ (k : Nat) w, ws[k]? = some w → ws'[k]? = some w) ∧ (∀ (k : Nat) n, l[k]? = some n → (put i l q)[k]? = some n) := by
 obtain ⟨w0, hw0⟩ := get_ex (l := ws) (k := i) (by rw [hI.len]; exact lt_get hx)
 unfold put
 by_cases hin : (l.any fun n => decide (n.1 = q.2)) = true
 ·rw [if_pos hin]
  refine ⟨ws, ⟨hI.len, hI.root, hI.root', ?_, hI.nodup, hI.inc, hI.dig, ?_⟩, fun _ _ h => h, fun _ _ h => h⟩
  ·intro k y g t hk hy
   obtain ⟨j, y', g', t', w, h1, h2, h3, h4, h5, h6, h7⟩ := hI.par k y g t hk hy
   exact ⟨j, y', g', t', w, h1, h2, h3, h4, h5, h6, h7.imp id fun h => ⟨h.1, zE7 _ h.2⟩⟩
  ·intro j y g t w hy hw r hr'
   by_cases hold : (j < i ∧ r ∈ nxt y) ∨ (j = i ∧ r ∈ done)
   ·exact hI.closed j y g t w hy hw r hold
   ·have hjr : j = i ∧ r = q := by
     rcases hr' with h | ⟨h1, h2⟩
     ·exact absurd (.inl h) hold
     ·rcases zC2.1 h2 with h3 | h3
      ·exact absurd (.inr ⟨h1, h3⟩) hold
      ·exact ⟨h1, zD2.1 h3⟩
    obtain ⟨rfl, rfl⟩ := hjr
    rw [hw0] at hw; cases hw
    obtain ⟨n, hn1, hn2⟩ := zD3.1 hin
    obtain ⟨k, hk⟩ := zA8.1 hn1
    obtain ⟨nx, nf, ns⟩ := n
    have hn2 : nx = r.2 := of_decide_eq_true hn2
    subst hn2
    obtain ⟨wk, hwk⟩ := get_ex (l := ws) (k := k) (by rw [hI.len]; exact lt_get hk)
    refine ⟨k, nf, ns, wk, hk, hwk, ?_⟩
    rw [IL]
    rcases zJ2 k with rfl | hk0
    ·rw [hI.root'] at hwk; cases hwk; rw [Rh]; omega
    ·obtain ⟨j', y', g', t', w, h1, h2, h3, h4, h5, h6, h7⟩ := hI.par k _ _ _ hk0 hk
     rw [h6] at hwk; cases hwk
     rw [IL]
     have hdg : 1 ≤ rk ns ∧ rk ns ≤ K := hI.dig k _ h6 ns (by simp)
     rcases h7 with h7 | ⟨h7, h8⟩
     ·exact Nat.le_of_lt (TA (hI.inc _ _ _ _ h5 hw0 h7) hr.1 hdg.2)
     ·subst h7; rw [hw0] at h5; cases h5
      have := hd _ h8
      simp only at this; omega
 ·rw [if_neg hin]
  have hnew : ∀ (k : Nat) y g t, l[k]? = some (y, g, t) → y ≠ q.2 := fun k y g t hy e => hin (zD3.2 ⟨_, lM hy, decide_eq_true e⟩)
  have hbig : ∀ (k : Nat) u, ws[k]? = some u → code rk K u < code rk K (w0 ++ [q.1]) := by
   intro k u hu
   rw [IL]
   obtain ⟨⟨nx, nf, ns⟩, hk⟩ := get_ex (l := l) (k := k) (by rw [← hI.len]; exact lt_get hu)
   rcases zJ2 k with rfl | hk0
   ·rw [hI.root'] at hu; cases hu; rw [Rh]; omega
   ·obtain ⟨j', y', g', t', w, h1, h2, h3, h4, h5, h6, h7⟩ := hI.par k _ _ _ hk0 hk
    rw [h6] at hu; cases hu
    rw [IL]
    have hdg : 1 ≤ rk ns ∧ rk ns ≤ K := hI.dig k _ h6 ns (by simp)
    rcases h7 with h7 | ⟨h7, h8⟩
    ·exact TA (hI.inc _ _ _ _ h5 hw0 h7) hr.1 hdg.2
    ·subst h7; rw [hw0] at h5; cases h5
     have := hd _ h8
     simp only at this; omega
  refine ⟨ws ++ [w0 ++ [q.1]], ⟨by simp [hI.len], ?_, get_app_of hI.root', ?_, ?_, ?_, ?_, ?_⟩, fun _ _ h => get_app_of h, fun _ _ h => get_app_of h⟩
  ·obtain ⟨s0, hs0⟩ := hI.root; exact ⟨s0, get_app_of hs0⟩
  ·intro k y g t hk hy
   rcases get_app hy with hy | ⟨hk1, hy⟩
   ·obtain ⟨j, y', g', t', w, h1, h2, h3, h4, h5, h6, h7⟩ := hI.par k y g t hk hy
    exact ⟨j, y', g', t', w, h1, h2, get_app_of h3, h4, get_app_of h5, get_app_of h6, h7.imp id fun h => ⟨h.1, zE7 _ h.2⟩⟩
   ·cases hy
    refine ⟨i, x, f, s, w0, rfl, by rw [hk1]; exact lt_get hx, get_app_of hx, hq, get_app_of hw0, by rw [hk1, ← hI.len]; exact get_app_new, .inr ⟨rfl, by simp⟩⟩
  ·intro a b y g t g' t' ha hb
   rcases get_app ha with ha | ⟨ha1, ha⟩ <;> rcases get_app hb with hb | ⟨hb1, hb⟩
   ·exact hI.nodup a b y g t g' t' ha hb
   ·cases hb; exact absurd rfl (hnew _ _ _ _ ha)
   ·cases ha; exact absurd rfl (hnew _ _ _ _ hb)
   ·omega
  ·intro a b u w ha hb hab
   rcases get_app ha with ha | ⟨ha1, ha⟩ <;> rcases get_app hb with hb | ⟨hb1, hb⟩
   ·exact hI.inc a b u w ha hb hab
   ·rw [hb]; exact hbig _ _ ha
   ·have := lt_get hb; omega
   ·omega
  ·intro k w hw
   rcases get_app hw with hw | ⟨hw1, hw⟩
   ·exact hI.dig k w hw
   ·rw [hw]; exact (hI.dig _ _ hw0).snoc hr
  ·intro j y g t w hy hw r hr'
   rcases get_app hy with hy1 | ⟨hy1, hy2⟩
   ·have hw1 : ws[j]? = some w := by
     rcases get_app hw with h | ⟨h, _⟩
     ·exact h
     ·have := lt_get hy1; rw [← hI.len] at this; omega
    by_cases hold : (j < i ∧ r ∈ nxt y) ∨ (j = i ∧ r ∈ done)
    ·obtain ⟨k, f', s', w', h1, h2, h3⟩ := hI.closed j y g t w hy1 hw1 r hold
     exact ⟨k, f', s', w', get_app_of h1, get_app_of h2, h3⟩
    ·have hjr : j = i ∧ r = q := by
      rcases hr' with h | ⟨h1, h2⟩
      ·exact absurd (.inl h) hold
      ·rcases zC2.1 h2 with h3 | h3
       ·exact absurd (.inr ⟨h1, h3⟩) hold
       ·exact ⟨h1, zD2.1 h3⟩
     obtain ⟨rfl, rfl⟩ := hjr
     rw [hw0] at hw1; cases hw1
     exact ⟨l.length, _, _, _, get_app_new, by rw [← hI.len]; exact get_app_new, zB4 _⟩
   ·have := lt_get hx
    rcases hr' with h | h <;> omega
theorem PB [DecidableEq α] {nxt : α → List (σ × α)} {rk : σ → Nat} {K : Nat} {root : α} {i most : Nat} {x : α} {f : Int} {s : σ} (hP : (nxt x).Pairwise fun a b => rk a.1 < rk b.1) (hD : ∀ q, q ∈ nxt x → 1 ≤ rk q.1 ∧ rk q.1 ≤ K) :
  ∀ (qs done : List (σ × α)) (l l' : List (Nd α σ)) (ws : List (List σ)), done ++ qs = nxt x → Inv nxt rk K root i done l ws → l[i]? = some (x, f, s) → inner most i qs l = some l' →
   ∃ ws', Inv nxt rk K root i (nxt x) l' ws' ∧ (∀ (k : Nat) w, ws[k]? = some w → ws'[k]? = some w) ∧ (∀ (k : Nat) n, l[k]? = some n → l'[k]? = some n)
 | [], done, l, l', ws, he, hI, hx, h => by
  cases h; rw [List.append_nil] at he; subst he; exact ⟨ws, hI, fun _ _ h => h, fun _ _ h => h⟩
 | q :: qs, done, l, l', ws, he, hI, hx, h => by
  have hqm : q ∈ nxt x := by rw [← he]; simp
  have hlt : ∀ r, r ∈ done → rk r.1 < rk q.1 := fun r hr => by
   rw [← he] at hP
   exact (zH9.1 hP).2.2 r hr q (by simp)
  obtain ⟨ws1, h1, h2, h3⟩ := WF hI hx hqm hlt (hD q hqm)
  simp only [inner] at h
  split at h
  ·cases h
  ·obtain ⟨ws2, g1, g2, g3⟩ := PB hP hD qs (done ++ [q]) _ l' ws1 (by rw [zD7]; exact he) h1 (h3 _ _ hx) h
   exact ⟨ws2, g1, fun k w hw => g2 k w (h2 k w hw), fun k n hn => g3 k n (h3 k n hn)⟩
theorem Vh {nxt : α → List (σ × α)} {rk : σ → Nat} {K : Nat} {root : α} {i : Nat} {x : α} {f : Int} {s : σ} {l : List (Nd α σ)} {ws : List (List σ)} (h : Inv nxt rk K root i (nxt x) l ws) (hx : l[i]? = some (x, f, s)) : Inv nxt rk K root (i + 1) [] l ws := by
 refine ⟨h.len, h.root, h.root', ?_, h.nodup, h.inc, h.dig, ?_⟩
 ·intro k y g t hk hy
  obtain ⟨j, y', g', t', w, h1, h2, h3, h4, h5, h6, h7⟩ := h.par k y g t hk hy
  exact ⟨j, y', g', t', w, h1, h2, h3, h4, h5, h6, .inl (by rcases h7 with h7 | h7 <;> omega)⟩
 ·intro j y g t w hy hw r hr
  rcases hr with ⟨h1, h2⟩ | ⟨_, h2⟩
  ·refine h.closed j y g t w hy hw r ?_
   by_cases hj : j < i
   ·exact .inl ⟨hj, h2⟩
   ·have : j = i := by omega
    subst this; rw [hx] at hy; cases hy; exact .inr ⟨rfl, h2⟩
  ·cases h2
theorem inv_go [DecidableEq α] {nxt : α → List (σ × α)} {rk : σ → Nat} {K : Nat} {root : α} {most : Nat} (P : α → Prop) (hP : ∀ x, P x → (nxt x).Pairwise fun a b => rk a.1 < rk b.1) (hD : ∀ x, P x → ∀ q, q ∈ nxt x → (1 ≤ rk q.1 ∧ rk q.1 ≤ K) ∧ P q.2) (hroot : P root) :
  ∀ (n i : Nat) (l l' : List (Nd α σ)) (ws : List (List σ)), i ≤ l.length → Inv nxt rk K root i [] l ws → (∀ (k : Nat) x f s, l[k]? = some (x, f, s) → P x) → go nxt most n i l = some l' → ∃ ws', Inv nxt rk K root l'.length [] l' ws' ∧ (∀ (k : Nat) x f s, l'[k]? = some (x, f, s) → P x)
 | 0, i, l, l', ws, _, _, _, h => by cases h
 | n + 1, i, l, l', ws, hi, hI, hA, h => by
  simp only [go] at h
  split at h
  ·rename_i hn
   cases h
   have : i = l.length := by
    have := List.getElem?_eq_none_iff.1 hn; omega
   subst this
   exact ⟨ws, hI, hA⟩
  ·rename_i nd hn
   obtain ⟨x, f, s⟩ := nd
   cases hin : inner most i (nxt x) l with
   | none => rw [hin] at h; cases h
   | some l1 =>
    rw [hin] at h
    have hx := hA _ _ _ _ hn
    obtain ⟨ws1, h1, h2, h3⟩ := PB (hP x hx) (fun q hq => (hD x hx q hq).1) (nxt x) [] l l1 ws rfl hI hn hin
    have hA1 : ∀ (k : Nat) y g t, l1[k]? = some (y, g, t) → P y := fun k y g t hy => by
     rcases zJ2 k with rfl | hk
     ·obtain ⟨s0, hs0⟩ := h1.root; rw [hs0] at hy; cases hy; exact hroot
     ·obtain ⟨j, y', g', t', w, e1, e2, e3, e4, e5, e6, e7⟩ := h1.par k y g t hk hy
      have hj : P y' := by
       have hjl : j < l.length := by rcases e7 with h | h <;> have := lt_get hn <;> omega
       obtain ⟨⟨z, zf, zs⟩, hz⟩ := get_ex hjl
       have := h3 _ _ hz
       rw [e3] at this; cases this
       exact hA _ _ _ _ hz
      exact (hD y' hj _ e4).2
    exact inv_go P hP hD hroot n (i + 1) l1 l' ws1 (by have := lt_get (h3 _ _ hn); omega) (Vh h1 (h3 _ _ hn)) hA1 h
theorem inv_start {nxt : α → List (σ × α)} {rk : σ → Nat} {K : Nat} {root : α} {s : σ} : Inv nxt rk K root 0 [] [(root, -1, s)] [[]] := by
 refine ⟨rfl, ⟨s, rfl⟩, rfl, ?_, ?_, ?_, ?_, ?_⟩
 ·intro k x f s hk h; rw [zD5 (by simp; omega)] at h; cases h
 ·intro a b x f s g t ha hb; have := lt_get ha; have := lt_get hb; simp at *; omega
 ·intro a b u w ha hb hab; have := lt_get hb; simp at this; omega
 ·intro k w hw
  have := lt_get hw; simp at this; subst this; simp at hw; subst hw
  intro s hs; cases hs
 ·intro j x f s w _ _ q h
  rcases h with h | h
  ·omega
  ·cases h.2
def run (nxt : α → List (σ × α)) (x : α) : List σ → α → Prop
 | [], y => y = x
 | s :: w, y => ∃ z, (s, z) ∈ nxt x ∧ run nxt z w y
theorem FU {nxt : α → List (σ × α)} : ∀ {u w : List σ} {x y : α}, run nxt x (u ++ w) y ↔ ∃ z, run nxt x u z ∧ run nxt z w y
 | [], w, x, y => by simp [run]
 | s :: u, w, x, y => by
  simp only [zG7, run]
  constructor
  ·rintro ⟨z, h1, h2⟩
   obtain ⟨z', h3, h4⟩ := FU.1 h2
   exact ⟨z', ⟨z, h1, h3⟩, h4⟩
  ·rintro ⟨z', ⟨z, h1, h3⟩, h4⟩
   exact ⟨z, h1, FU.2 ⟨z', h3, h4⟩⟩
theorem way_run {nxt : α → List (σ × α)} {rk : σ → Nat} {K : Nat} {root : α} {i : Nat} {l : List (Nd α σ)} {ws : List (List σ)} (h : Inv nxt rk K root i [] l ws) : ∀ (n k : Nat) {x : α} {f : Int} {s : σ} {w : List σ}, k < n → l[k]? = some (x, f, s) → ws[k]? = some w → run nxt root w x
 | 0, k, _, _, _, _, hk, _, _ => by omega
 | n + 1, k, x, f, s, w, hk, hx, hw => by
  rcases zJ2 k with rfl | hk0
  ·obtain ⟨s0, hs0⟩ := h.root; rw [hs0] at hx; cases hx
   rw [h.root'] at hw; cases hw; rfl
  ·obtain ⟨j, y', g', t', w', e1, e2, e3, e4, e5, e6, e7⟩ := h.par k _ _ _ hk0 hx
   rw [e6] at hw; cases hw
   exact FU.2 ⟨y', way_run h n j (by omega) e3 e5, x, e4, rfl⟩
theorem reach_node {nxt : α → List (σ × α)} {rk : σ → Nat} {K : Nat} {root : α} {l : List (Nd α σ)} {ws : List (List σ)} (h : Inv nxt rk K root l.length [] l ws) : ∀ (n : Nat) {w : List σ} {y : α}, w.length = n → run nxt root w y → ∃ (k : Nat) (f : Int) (s : σ) (u : List σ), l[k]? = some (y, f, s) ∧ ws[k]? = some u ∧ code rk K u ≤ code rk K w
 | 0, w, y, hn, hr => by
  rw [List.length_eq_zero_iff.1 hn] at hr ⊢
  simp only [run] at hr; subst hr
  obtain ⟨s, hs⟩ := h.root
  exact ⟨0, _, _, _, hs, h.root', zB4 _⟩
 | n + 1, w, y, hn, hr => by
  rcases TU w with rfl | ⟨w', s, rfl⟩
  ·simp at hn
  obtain ⟨z, h1, h2⟩ := FU.1 hr
  simp only [run] at h2
  obtain ⟨z', h2, rfl⟩ := h2
  simp only [zB8, zE3] at hn
  obtain ⟨k, f, t, u, g1, g2, g3⟩ := reach_node h n (by omega) h1
  obtain ⟨k', f', s', u', e1, e2, e3⟩ := h.closed k z f t u g1 g2 (s, y) (.inl ⟨lt_get g1, h2⟩)
  refine ⟨k', f', s', u', e1, e2, zH5 e3 ?_⟩
  rw [IL, IL]
  exact Wx g3
theorem OO [DecidableEq α] {most more i : Nat} (hm : most ≤ more) : ∀ (qs : List (σ × α)) (l l' : List (Nd α σ)), inner most i qs l = some l' → inner more i qs l = some l'
 | [], l, l', h => h
 | q :: qs, l, l', h => by
  simp only [inner] at h ⊢
  split at h
  ·cases h
  ·rw [if_neg (by omega)]; exact OO hm qs _ _ h
theorem go_more [DecidableEq α] {nxt : α → List (σ × α)} {most more : Nat} (hm : most ≤ more) : ∀ (n m i : Nat) (l l' : List (Nd α σ)), n ≤ m → go nxt most n i l = some l' → go nxt more m i l = some l'
 | 0, m, i, l, l', _, h => by cases h
 | n + 1, m, i, l, l', hnm, h => by
  obtain ⟨m, rfl⟩ : ∃ k, m = k + 1 := ⟨m - 1, by omega⟩
  simp only [go] at h ⊢
  cases hl : l[i]? with
  | none => rw [hl] at h; exact h
  | some nd =>
   rw [hl] at h
   simp only at h ⊢
   cases hin : inner most i (nxt nd.1) l with
   | none => rw [hin] at h; cases h
   | some l1 =>
    rw [hin] at h
    rw [OO hm _ _ _ hin]
    exact go_more hm n m (i + 1) l1 l' (by omega) h
theorem inner_len [DecidableEq α] {most i : Nat} : ∀ (qs : List (σ × α)) (l l' : List (Nd α σ)), l.length ≤ most → inner most i qs l = some l' → l'.length ≤ most
 | [], l, l', h0, h => by cases h; exact h0
 | q :: qs, l, l', h0, h => by
  simp only [inner] at h
  split at h
  ·cases h
  ·exact inner_len qs _ _ (by omega) h
theorem go_len [DecidableEq α] {nxt : α → List (σ × α)} {most : Nat} : ∀ (n i : Nat) (l l' : List (Nd α σ)), l.length ≤ most → go nxt most n i l = some l' → l'.length ≤ most
 | 0, i, l, l', _, h => by cases h
 | n + 1, i, l, l', h0, h => by
  simp only [go] at h
  split at h
  ·cases h; exact h0
  ·rename_i nd hn
   cases hin : inner most i (nxt nd.1) l with
   | none => rw [hin] at h; cases h
   | some l1 => rw [hin] at h; exact go_len n (i + 1) l1 l' (inner_len _ _ _ h0 hin) h
end
end Bfs
end Go.Lift
namespace Go.Lift
open IntKind renaming wrap → wI
open Option renaming bind_some → oS
open List renaming mem_of_getElem? → lM
open List renaming getElem?_eq_some_iff → lI
open List renaming getD_eq_getElem?_getD → lD
open Go
theorem Sd : ∀ {l : List Int}, SO l = 0 → ∀ x, x ∈ l → x = 0
 | [], _, x, hx => by cases hx
 | y :: ys, h, x, hx => by
  unfold SO at h
  split at h
  ·rename_i hy
   rcases zC6.1 hx with rfl | hx
   ·exact hy
   ·exact Sd h x hx
  ·rename_i hy; exact absurd h hy
theorem Ny {a b : Ab} (h : MT a b = 0) : a = b := by
 have := Sd h
 have h1 := Ob _ _ (this (EK a.fc b.fc) (by simp))
 have h2 := Ob _ _ (this (EK a.fa b.fa) (by simp))
 have h3 := Ob _ _ (this (EK a.fd b.fd) (by simp))
 cases a; cases b; simp only at h1 h2 h3; subst h1; subst h2; subst h3; rfl
instance aU : DecidableEq Ab := fun a b => if h : MT a b = 0 then isTrue (Ny h) else isFalse (fun e => h (by rw [e]; exact PY b))
theorem VI (a b : Ab) : (MT a b == 0) = decide (a = b) := by
 by_cases h : a = b
 ·rw [decide_eq_true h, h, PY]; rfl
 ·rw [decide_eq_false h]
  exact beq_eq_false_iff_ne.2 fun e => h (Ny e)
def PK (p : Aa) (m : Ab) (ss : List Ad) : List (Ad × Ab) := ss.filterMap fun s => if BJ p (AT p m s).1 = true then some (s, (AT p m s).1) else none
def H0 (p : Aa) (m : Ab) : List (Ad × Ab) := PK p m (FI p m)
def NI (s : Ad) : Nat := if s.ff = 1 then 1 + 8 * s.fi.toNat + s.fk.toNat else if s.ff = 2 then 60 + s.fi.toNat else 70 + s.fi.toNat
theorem I5 {p : Aa} {m : Ab} {s : Ad} (h : s ∈ FI p m) : s ∈ EU p ∧ (AT p m s).2 = 0 := by
 unfold FI at h
 have := List.mem_filter.1 h
 exact ⟨this.1, by simpa using this.2⟩
theorem TD {p : Aa} {m : Ab} {ss : List Ad} {q : Ad × Ab} : q ∈ PK p m ss ↔ q.1 ∈ ss ∧ q.2 = (AT p m q.1).1 ∧ BJ p q.2 = true := by
 unfold PK
 rw [List.mem_filterMap]
 constructor
 ·rintro ⟨s, h1, h2⟩
  split at h2
  ·rename_i h3; cases h2; exact ⟨h1, rfl, h3⟩
  ·cases h2
 ·rintro ⟨h1, h2, h3⟩
  refine ⟨q.1, h1, ?_⟩
  rw [← h2, if_pos h3]
theorem Ms {p : Aa} {m : Ab} {q : Ad × Ab} : q ∈ H0 p m ↔ q.1 ∈ FI p m ∧ q.2 = (AT p m q.1).1 ∧ BJ p q.2 = true := TD
theorem SR {p : Aa} {m : Ab} (hp : A3 p) (hm : Bm p m) {q : Ad × Ab} (h : q ∈ H0 p m) : Bm p q.2 ∧ BJ p q.2 = true := by
 obtain ⟨h1, h2, h3⟩ := Ms.1 h
 exact ⟨by rw [h2]; exact HY hp hm (I5 h1).2, h3⟩
theorem R5 {p : Aa} (hp : A3 p) {s : Ad} (h : s ∈ EU p) : s.ff ≤ 3 ∧ 1 ≤ NI s ∧ NI s ≤ 100 := by
 obtain ⟨h1, h2⟩ := Ns hp h
 obtain ⟨a1, a2, a3, a4, a5⟩ := HV h1
 obtain ⟨b1, b2, b3⟩ := IK h2
 have hnv := hp.nv
 have hnt := hp.nt
 have hk : s.ff ≤ 3 := by
  unfold EU at h
  rcases zC2.1 h with h | h
  ·rcases zC2.1 h with h | h
   ·obtain ⟨j, x, hx, hk⟩ := Hk.1 h
    unfold Jc at hk
    obtain ⟨v, hv, rfl⟩ := zB6.1 hk
    exact (by decide : (1 : Int) ≤ 3)
   ·obtain ⟨v, hv, rfl⟩ := zB6.1 h
    exact (by decide : (2 : Int) ≤ 3)
  ·obtain ⟨v, hv, rfl⟩ := zB6.1 h
   exact (by decide : (3 : Int) ≤ 3)
 refine ⟨hk, ?_⟩
 unfold NI
 by_cases h1 : s.ff = 1
 ·rw [if_pos h1]
  have := b2 (by omega)
  have h3 := b3 h1
  have h4 := (Io hp (i := s.fi.toNat) (by omega)).2
  omega
 ·rw [if_neg h1]
  by_cases h2 : s.ff = 2
  ·rw [if_pos h2]
   have := b2 (by omega)
   omega
  ·rw [if_neg h2]
   have := b1 (by omega)
   omega
theorem Wo (i : Nat) (n : Int) : (Jc i n).Pairwise fun a b => NI a < NI b := by
 unfold Jc
 rw [zJ4]
 refine List.Pairwise.imp ?_ zJ0
 intro a b h
 simp [NI]; omega
theorem Wi {p : Aa} (hp : A3 p) : (EU p).Pairwise fun a b => NI a < NI b := by
 have hnv := hp.nv
 have hnt := hp.nt
 have e1 : ∀ (xs : List Int) (i : Nat), (∀ x, x ∈ xs → x ≤ 6) → (C1 Jc i xs).Pairwise fun a b => NI a < NI b := by
  intro xs
  induction xs with
  | nil => intro i _; exact List.Pairwise.nil
  | cons x xs ih =>
   intro i hx
   rw [C1, zH9]
   refine ⟨Wo i x, ih (i + 1) fun y hy => hx y (zE4 _ hy), ?_⟩
   intro a ha b hb
   unfold Jc at ha
   obtain ⟨v, hv, rfl⟩ := zB6.1 ha
   obtain ⟨j, y, hy, hb⟩ := Hk.1 hb
   unfold Jc at hb
   obtain ⟨w, hw, rfl⟩ := zB6.1 hb
   have := hx x (by simp)
   have := zE0.1 hv
   simp [NI]; omega
 unfold EU
 rw [zH9, zH9]
 refine ⟨⟨e1 _ 0 fun x hx => (hp.ver x hx).2, ?_, ?_⟩, ?_, ?_⟩
 ·rw [zJ4]
  refine List.Pairwise.imp ?_ zJ0
  intro a b h
  simp [NI]; omega
 ·intro a ha b hb
  obtain ⟨w, hw, rfl⟩ := zB6.1 hb
  obtain ⟨j, y, hy, ha⟩ := Hk.1 ha
  unfold Jc at ha
  obtain ⟨v, hv, rfl⟩ := zB6.1 ha
  have := zE0.1 hv
  have := (hp.ver y (lM hy)).2
  have := (lI.1 hy).1
  simp [NI]; omega
 ·rw [zJ4]
  refine List.Pairwise.imp ?_ zJ0
  intro a b h
  simp [NI]; omega
 ·intro a ha b hb
  obtain ⟨w, hw, rfl⟩ := zB6.1 hb
  have hw := zE0.1 hw
  rcases zC2.1 ha with ha | ha
  ·obtain ⟨j, y, hy, ha⟩ := Hk.1 ha
   unfold Jc at ha
   obtain ⟨v, hv, rfl⟩ := zB6.1 ha
   have := zE0.1 hv
   have := (hp.ver y (lM hy)).2
   have := (lI.1 hy).1
   simp [NI]; omega
  ·obtain ⟨v, hv, rfl⟩ := zB6.1 ha
   have := zE0.1 hv
   simp [NI]; omega
theorem X5 {p : Aa} {m : Ab} {ss : List Ad} (h : ss.Pairwise fun a b => NI a < NI b) : (PK p m ss).Pairwise fun a b => NI a.1 < NI b.1 := by
 unfold PK
 rw [List.pairwise_filterMap]
 refine List.Pairwise.imp ?_ h
 intro a b hab x hx y hy
 split at hx
 ·cases hx
  split at hy
  ·cases hy; exact hab
  ·cases hy
 ·cases hx
theorem X0 {p : Aa} (hp : A3 p) (m : Ab) : (H0 p m).Pairwise fun a b => NI a.1 < NI b.1 := X5 ((Wi hp).filter _)
theorem V3 {p : Aa} {s : Ad} (hv : Gs s = true) (hx : FH p s = true) (hk : s.ff ≠ 4) : s ∈ EU p := by
 obtain ⟨a1, a2, a3, a4, a5⟩ := HV hv
 obtain ⟨b1, b2, b3⟩ := IK hx
 obtain ⟨k, i, v⟩ := s
 simp only at *
 unfold EU
 obtain ⟨i, rfl⟩ := zA7 a3
 by_cases h1 : k = 1
 ·subst h1
  have h2 := b2 (by decide)
  have h3 := b3 rfl
  obtain ⟨v, rfl⟩ := zA7 a4
  refine zE7 _ (zE7 _ (Hk.2 ⟨i, p.fb.getD i 0, ?_, ?_⟩))
  ·rw [lD]
   have hi : i < p.fb.length := by omega
   simp [hi]
  ·unfold Jc
   refine zB6.2 ⟨v, zE0.2 ?_, by simp⟩
   simp only [zB2] at h3
   omega
 ·have hv0 := a5 h1
  subst hv0
  by_cases h2 : k = 2
  ·subst h2
   have := b2 (by decide)
   exact zE7 _ (List.mem_append_right _ (zB6.2 ⟨i, zE0.2 (by omega), rfl⟩))
  ·have h3 : k = 3 := by omega
   subst h3
   have := b1 rfl
   exact List.mem_append_right _ (zB6.2 ⟨i, zE0.2 (by omega), rfl⟩)
theorem Nu {p : Aa} {m x : Ab} {s : Ad} : Ii p m s = some x → (s, x) ∈ H0 p m := by
 intro h
 obtain ⟨h1, h2, h3, h4, h5⟩ := NC.1 h
 unfold Ii at h
 split at h
 ·rename_i h6
  cases h
  refine Ms.2 ⟨?_, rfl, h6.2.2⟩
  unfold FI
  exact List.mem_filter.2 ⟨V3 h1 h2 h4, by simpa using h6.1⟩
 ·cases h
theorem Nw {p : Aa} (hp : A3 p) {m x : Ab} {s : Ad} (h : (s, x) ∈ H0 p m) : Ii p m s = some x := by
 obtain ⟨h1, h2, h3⟩ := Ms.1 h
 have h1 : s ∈ FI p m := h1
 obtain ⟨h4, h5⟩ := I5 h1
 have := (R5 hp h4).1
 have h2 : x = (AT p m s).1 := h2
 have h3 : BJ p x = true := h3
 unfold Ii
 rw [if_pos ⟨h5, by omega, by rw [← h2]; exact h3⟩, h2]
theorem Mg {p : Aa} (hp : A3 p) : ∀ {w : List Ad} {m x : Ab}, GN p m w = some x ↔ Bfs.run (H0 p) m w x
 | [], m, x => by simp only [GN, Bfs.run, Option.some.injEq]; exact eq_comm
 | s :: w, m, x => by
  simp only [GN, Bfs.run]
  constructor
  ·intro h
   cases hs : Ii p m s with
   | none => rw [hs] at h; cases h
   | some z => rw [hs] at h; exact ⟨z, Nu hs, (Mg hp).1 h⟩
  ·rintro ⟨z, h1, h2⟩
   rw [Nw hp h1]
   exact (Mg hp).2 h2
abbrev Ku := Bfs.Nd Ab Ad
def Hq (n : Ku) : AC := ⟨n.1, n.2.1, n.2.2⟩
def MS : Ad := ⟨0, 0, 0⟩
theorem VD {N : Nat} {p : Aa} {a b : Ab} (hN : N ≤ 1000000) (h20 : 100 ≤ N) (hp : A3 p) (ha : Bm p a) (hb : Bm p b) : EB N a b = some (decide (a = b)) := by
 have hnv := hp.nv
 have hnt := hp.nt
 unfold EB
 rw [RQ hN (by rw [ha.base]; omega) (by rw [ha.next]; omega) (by rw [ha.held]; omega) (by rw [hb.held]; omega) (Ij ha) (Ij hb)]
 simp only [oS]
 rw [VI]
theorem RU {N : Nat} (hN : N ≤ 1000000) (h20 : 100 ≤ N) {p : Aa} (hp : A3 p) {x : Ab} (hx : Bm p x) {l : List Ku} (hl : l.length < N) (hA : ∀ n, n ∈ l → Bm p n.1) :
  ∃ r, D9 N (l.map Hq) x = some r ∧ decide (r < 0) = !(l.any fun n => decide (n.1 = x)) := by
 unfold D9
 have := CU (Co N (l.map Hq) x fun _ => some (-1)) l (some (-1)) (fun i n => if n.1 = x then some (i : Int) else none)
  (fun n i nd hnd => by
   have hi := (lI.1 hnd).1
   rw [Co, AD (by rw [zB1]; omega), AS, zA1, hnd]
   simp only [zF2, oS, Hq]
   have e := VD hN h20 hp (hA nd (lM hnd)) hx
   rw [show (Ab.mk nd.1.fc nd.1.fa nd.1.fd) = nd.1 from rfl, e, AE (by omega)]
   simp only [oS]
   by_cases h : nd.1 = x
   ·rw [decide_eq_true h, if_pos h]; rfl
   ·rw [decide_eq_false h, if_neg h]; rfl)
  (fun n => by rw [Co, AB (by simp)]) N 0 (zA9 _) (by omega)
 have e' : Co N (l.map Hq) x (fun _ => some (-1)) N 0 = _ := this
 rw [e', zB9]
 cases hs : DP (fun i (n : Ku) => if n.1 = x then some (i : Int) else none) 0 l with
 | none =>
  refine ⟨_, rfl, ?_⟩
  have : (l.any fun n => decide (n.1 = x)) = false := by
   rw [zJ3]
   intro n hn
   obtain ⟨j, hj⟩ := zA8.1 hn
   have := Fj hs j n hj
   split at this
   ·cases this
   ·rename_i h; simpa using h
  rw [this]; rfl
 | some r =>
  refine ⟨_, rfl, ?_⟩
  obtain ⟨j, n, hj, hr⟩ := EQ hs
  split at hr
  ·rename_i h
   cases hr
   have : (l.any fun n => decide (n.1 = x)) = true := zD3.2 ⟨n, lM hj, decide_eq_true h⟩
   rw [this]
   exact decide_eq_false (by omega)
  ·cases hr
theorem RT {i : Nat} {l : List Ku} {q : Ad × Ab} {k : Nat} {n : Ku} (h : l[k]? = some n) : (Bfs.put i l q)[k]? = some n := by
 unfold Bfs.put
 split
 ·exact h
 ·exact Bfs.get_app_of h
theorem Te {i : Nat} {l : List Ku} {q : Ad × Ab} {n : Ku} (h : n ∈ Bfs.put i l q) : n ∈ l ∨ n.1 = q.2 := by
 unfold Bfs.put at h
 split at h
 ·exact .inl h
 ·rcases zC2.1 h with h | h
  ·exact .inl h
  ·rw [zD2.1 h]; exact .inr rfl
theorem Rk {p : Aa} {m : Ab} {s : Ad} {ss : List Ad} : PK p m (s :: ss) = if BJ p (AT p m s).1 = true then (s, (AT p m s).1) :: PK p m ss else PK p m ss := by
 unfold PK
 rw [List.filterMap_cons]
 split <;> rename_i h
 ·split at h
  ·cases h
  ·rename_i h2; rw [if_neg h2]
 ·split at h
  ·rename_i h2; cases h; rw [if_pos h2]
  ·cases h
theorem JS {p : Aa} {most i : Nat} : ∀ {qs : List (Ad × Ab)} {l l' : List Ku}, Bfs.inner most i qs l = some l' → (∀ q, q ∈ qs → Bm p q.2 ∧ BJ p q.2 = true) → (∀ n, n ∈ l → Bm p n.1 ∧ BJ p n.1 = true) → (∀ n, n ∈ l' → Bm p n.1 ∧ BJ p n.1 = true) ∧ (∀ (k : Nat) n, l[k]? = some n → l'[k]? = some n)
 | [], l, l', h, _, hA => by cases h; exact ⟨hA, fun _ _ h => h⟩
 | q :: qs, l, l', h, hq, hA => by
  simp only [Bfs.inner] at h
  split at h
  ·cases h
  ·obtain ⟨h1, h2⟩ := JS h (fun q hq' => hq q (zE4 _ hq')) (fun n hn => by
    rcases Te hn with h | h
    ·exact hA n h
    ·rw [h]; exact hq q (by simp))
   exact ⟨h1, fun k n hn => h2 k n (RT hn)⟩
theorem M0 (N : Nat) (hN : N ≤ 1000000) (h20 : 100 ≤ N) {p : Aa} {m : Ab} (hp : A3 p) (hm : Bm p m) {s : Ad} (hs : s ∈ FI p m) : ∃ b, Cv N p m s = some ((AT p m s).1, b) := by
 obtain ⟨h1, h2⟩ := I5 hs
 obtain ⟨h3, h4⟩ := Ns hp h1
 rw [MH N hN h20 hp hm h3 h4]
 unfold AT at h2 ⊢
 rw [h3, h4, if_neg (by simp), if_neg (by simp)] at h2 ⊢
 cases h : FF p m s with
 | none => rw [h] at h2; cases h2
 | some x => exact ⟨true, rfl⟩
theorem JV {N : Nat} (hN : N ≤ 1000000) (h20 : 100 ≤ N) {p : Aa} (hp : A3 p) {m : Ab} (hm : Bm p m) {f : Int} {t : Ad} {most i : Nat} (hmo : most ≤ 20000) {v1 : List AC × Int} (hv1 : v1.2 = (i : Int)) (ss : List Ad) (hss : ∀ s, s ∈ ss → s ∈ FI p m) (hsl : ss.length ≤ 1000) (j : List AC → Option (List AC × Bool)) :
  ∀ (n k : Nat) (l : List Ku), k ≤ ss.length → ss.length - k < n → l[i]? = some (m, f, t) → (∀ n, n ∈ l → Bm p n.1 ∧ BJ p n.1 = true) → l.length ≤ most → (l.length < N ∧ most < N ∨ ∃ l', Bfs.inner most i (PK p m (ss.drop k)) l = some l' ∧ l'.length < N) →
   BL N p (most : Int) v1 ss j n (l.map Hq, (k : Int)) = match Bfs.inner most i (PK p m (ss.drop k)) l with
    | none => some ([], false)
    | some l' => j (l'.map Hq)
 | 0, k, l, _, h, _, _, _, _ => by omega
 | n + 1, k, l, hk, h, hi, hA, hlm, hfu => by
  by_cases h1 : k < ss.length
  ·have hs : ss[k]? = some ss[k] := by simp [h1]
   have hsm := hss _ (lM hs)
   have hl1 : l.length < N := by
    rcases hfu with h | ⟨l', h, h2⟩
    ·exact h.1
    ·have hk := (JS (p := p) h (fun q hq => by
      obtain ⟨g1, g2, g3⟩ := TD.1 hq
      exact ⟨by rw [g2]; exact HY hp hm (I5 (hss _ (List.mem_of_mem_drop g1))).2, g3⟩) hA).2
     by_cases h0 : l.length = 0
     ·omega
     ·have := hk (l.length - 1) l[l.length - 1] (by simp)
      have := (lI.1 this).1
      omega
   rw [BL, AD (by simp only; omega)]
   simp only [A7, hv1, AS, zA1, hi, hs, zF2, oS, Hq]
   obtain ⟨b, ea⟩ := M0 N hN h20 hp hm hsm
   rw [show (Ab.mk m.fc m.fa m.fd) = m from rfl, ea]
   simp only [oS]
   have hxo := HY hp hm (I5 hsm).2
   rw [LM N p _ hN h20 hp hxo]
   simp only [oS]
   rw [CW hs, Rk] at hfu ⊢
   cases hr : BJ p (AT p m ss[k]).1
   ·rw [hr] at hfu
    rw [Am, Am, if_neg (by simp), AB (by rw [zB1]; omega), AE (by omega)]
    rw [if_neg (by simp)] at hfu
    exact JV hN h20 hp hm hmo hv1 ss hss hsl j n (k + 1) l (by omega) (by omega) hi hA hlm hfu
   ·rw [hr] at hfu
    rw [AG, if_pos rfl]
    rw [if_pos rfl] at hfu
    obtain ⟨r, er, hr2⟩ := RU hN h20 hp hxo hl1 (fun n hn => (hA n hn).1)
    have er' : D9 N (l.map fun n => AC.mk n.1 n.2.1 n.2.2) (AT p m ss[k]).1 = some r := er
    have em : (l.map fun n : Ku => AC.mk n.1 n.2.1 n.2.2) = l.map Hq := rfl
    rw [← em, er']
    simp only [oS]
    rw [hr2]
    have hput : Bfs.put i l (ss[k], (AT p m ss[k]).1) = if (l.any fun n => decide (n.1 = (AT p m ss[k]).1)) = true then l else l ++ [((AT p m ss[k]).1, (i : Int), ss[k])] := rfl
    simp only [Bfs.inner] at hfu ⊢
    have hA2 : ∀ n, n ∈ Bfs.put i l (ss[k], (AT p m ss[k]).1) → Bm p n.1 ∧ BJ p n.1 = true := fun n hn => by
     rcases Te hn with h | h
     ·exact hA n h
     ·rw [h]; exact ⟨hxo, hr⟩
    have hi2 : (Bfs.put i l (ss[k], (AT p m ss[k]).1))[i]? = some (m, f, t) := RT hi
    have main : (AN (decide ((most : Int) < (((Bfs.put i l (ss[k], (AT p m ss[k]).1)).map Hq).length : Int))) (some (([] : List AC), false)) (BL N p (most : Int) v1 ss j n ((Bfs.put i l (ss[k], (AT p m ss[k]).1)).map Hq, (wI .i64 ((k : Int) + 1))))) =
      match (if most < (Bfs.put i l (ss[k], (AT p m ss[k]).1)).length then none else Bfs.inner most i (PK p m (ss.drop (k + 1))) (Bfs.put i l (ss[k], (AT p m ss[k]).1))) with
      | none => some ([], false)
      | some l' => j (l'.map Hq) := by
     by_cases hb : most < (Bfs.put i l (ss[k], (AT p m ss[k]).1)).length
     ·rw [if_pos hb, AD (by rw [zB1]; omega)]
     ·rw [if_neg hb] at hfu
      rw [if_neg hb, AB (by rw [zB1]; omega), AE (by omega)]
      exact JV hN h20 hp hm hmo hv1 ss hss hsl j n (k + 1) _ (by omega) (by omega) hi2 hA2 (by omega) (hfu.imp (fun h => ⟨by omega, h.2⟩) id)
    cases hin : (l.any fun n => decide (n.1 = (AT p m ss[k]).1))
    ·rw [hin] at hput
     rw [zD6, AG, As (by simp [Dv]; omega)]
     rw [if_neg (by simp)] at hput
     rw [hput, zF0] at main
     rw [hput]
     exact main
    ·rw [hin] at hput
     rw [zB7, Am]
     rw [if_pos rfl] at hput
     rw [hput] at main
     rw [hput]
     exact main
  ·have : k = ss.length := by omega
   subst this
   rw [BL, AB (by simp), zB0 (zB4 _)]
   rfl
theorem Th {p : Aa} {m : Ab} (hm : Bm p m) (hr : BJ p m = true) : ∀ n, n ∈ ([(m, -1, MS)] : List Ku) → Bm p n.1 ∧ BJ p n.1 = true := fun n hn => by
 rw [zD2.1 hn]; exact ⟨hm, hr⟩
theorem Pw {p : Aa} (hp : A3 p) (m : Ab) : (FI p m).length ≤ 54 := zH5 (List.length_filter_le _ _) (Tg hp)
theorem K4 {N : Nat} (hN : N ≤ 1000000) (h20 : 100 ≤ N) {p : Aa} (hv : Bx p = 0) {most : Nat} (hmo : most ≤ 20000) (j : List AC → Option (List AC × Bool)) :
  ∀ (n i : Nat) (l : List Ku), i ≤ l.length → (∀ n, n ∈ l → Bm p n.1 ∧ BJ p n.1 = true) → l.length ≤ most → (most < N ∧ most < n + i ∨ ∃ l', Bfs.go (H0 p) most n i l = some l' ∧ l'.length < N) →
   BK N p (most : Int) j n (l.map Hq, (i : Int)) = match Bfs.go (H0 p) most n i l with
    | none => some ([], false)
    | some l' => j (l'.map Hq)
 | 0, i, l, hi, _, hlm, hfu => by
  rcases hfu with h | ⟨l', h, _⟩
  ·omega
  ·cases h
 | n + 1, i, l, hi, hA, hlm, hfu => by
  obtain ⟨hp, _⟩ := Cy hv
  simp only [Bfs.go] at hfu ⊢
  rw [BK]
  by_cases h1 : i < l.length
  ·obtain ⟨⟨m, f, t⟩, hx⟩ := Bfs.get_ex h1
   have hm := (hA _ (lM hx)).1
   rw [hx] at hfu ⊢
   simp only at hfu ⊢
   rw [AD (by rw [zB1]; omega)]
   simp only [AS, zA1, hx, zF2, oS, Hq]
   rw [show (Ab.mk m.fc m.fa m.fd) = m from rfl, Qq N hN h20 hv hm]
   simp only [oS]
   have hgo : PK p m ((FI p m).drop 0) = H0 p m := rfl
   have hsl := Pw hp m
   have e := JV hN h20 hp hm hmo (v1 := (l.map Hq, (i : Int))) rfl (FI p m) (fun s hs => hs) (by omega) (fun (v7 : (List AC)) =>
    BK N p (most : Int) j n (v7, (wI .i64 ((i : Int) + 1)))) N 0 l (zA9 _) (by omega) hx hA hlm (by
     rcases hfu with ⟨g1, g2⟩ | ⟨l', h, hl'⟩
     ·exact .inl ⟨by omega, g1⟩
     ·right
      rw [hgo]
      cases hin : Bfs.inner most i (H0 p m) l with
      | none => rw [hin] at h; cases h
      | some l1 =>
       rw [hin] at h
       refine ⟨l1, rfl, ?_⟩
       have : l1.length ≤ l'.length := by
        have : ∀ (n i : Nat) (l l' : List Ku), Bfs.go (H0 p) most n i l = some l' → l.length ≤ l'.length := by
         intro n
         induction n with
         | zero => intro i l l' h; cases h
         | succ n ih =>
          intro i l l' h
          simp only [Bfs.go] at h
          split at h
          ·cases h; exact zB4 _
          ·rename_i nd _
           cases hin : Bfs.inner most i (H0 p nd.1) l with
           | none => rw [hin] at h; cases h
           | some l1 =>
            rw [hin] at h
            refine zH5 ?_ (ih _ _ _ h)
            have : ∀ (qs : List (Ad × Ab)) (l l1 : List Ku), Bfs.inner most i qs l = some l1 → l.length ≤ l1.length := by
             intro qs
             induction qs with
             | nil => intro l l1 h; cases h; exact zB4 _
             | cons q qs ih =>
              intro l l1 h
              simp only [Bfs.inner] at h
              split at h
              ·cases h
              ·refine zH5 ?_ (ih _ _ h)
               unfold Bfs.put; split
               ·exact zB4 _
               ·simp
            exact this _ _ _ hin
        exact this _ _ _ _ h
       omega)
   have e' : BL N p (most : Int) (l.map Hq, (i : Int)) (FI p m) (fun (v7 : (List AC)) => BK N p (most : Int) j n (v7, (wI .i64 ((i : Int) + 1)))) N (l.map Hq, 0) = _ := e
   rw [e', hgo]
   cases hin : Bfs.inner most i (H0 p m) l with
   | none => rfl
   | some l1 =>
    rw [hin] at hfu
    obtain ⟨k1, k2⟩ := JS hin (fun q hq => SR hp hm hq) hA
    have := (lI.1 (k2 _ _ hx)).1
    simp only [oS] at hfu ⊢
    rw [AE (by omega)]
    exact K4 hN h20 hv hmo j n (i + 1) l1 (by omega) k1 (Bfs.inner_len _ _ _ hlm hin) (hfu.imp (fun h => ⟨h.1, by omega⟩) id)
  ·have hi' : i = l.length := by omega
   subst hi'
   rw [zD5 (zB4 _)]
   rw [AB (by simp)]
def HS (p : Aa) (m : Ab) (most n : Nat) : Option (List Ku) := Bfs.go (H0 p) most n 0 [(m, -1, MS)]
theorem J9 {N : Nat} (hN : N ≤ 1000000) (h20 : 100 ≤ N) {p : Aa} (hv : Bx p = 0) {m : Ab} (hm : Bm p m) (hr : BJ p m = true) {most : Nat} (hmo : most ≤ 20000) (h1 : 1 ≤ most) (hfu : most < N ∨ ∃ l', HS p m most N = some l' ∧ l'.length < N) :
  B2 N p m (most : Int) = some (match HS p m most N with
   | none => ([], false)
   | some l' => (l'.map Hq, true)) := by
 unfold B2
 have e := K4 hN h20 hv hmo (fun (v2 : (List AC)) => some (v2, true)) N 0 [(m, -1, MS)] (zA9 _) (Th hm hr) h1 (hfu.imp (fun h => ⟨h, by omega⟩) id)
 have e' : BK N p (most : Int) (fun (v2 : (List AC)) => some (v2, true)) N (([(AC.mk m ((-1)) ((Ad.mk 0 0 0)))] : List AC), 0) = _ := e
 rw [e']
 unfold HS
 cases Bfs.go (H0 p) most N 0 [(m, -1, MS)] <;> rfl
structure ao (p : Aa) (m : Ab) (l : List Ku) (ws : List (List Ad)) : Prop where
 inv : Bfs.Inv (H0 p) NI 100 m l.length [] l ws
 ok : ∀ (k : Nat) x f s, l[k]? = some (x, f, s) → Bm p x ∧ BJ p x = true
theorem Sq {p : Aa} (hp : A3 p) {m : Ab} (hm : Bm p m) (hr : BJ p m = true) {most n : Nat} {l : List Ku} (h : HS p m most n = some l) : ∃ ws, ao p m l ws := by
 obtain ⟨ws, h1, h2⟩ := Bfs.inv_go (rk := NI) (K := 100) (fun x => Bm p x ∧ BJ p x = true) (fun x _ => X0 hp x) (fun x hx q hq => by
  refine ⟨?_, SR hp hx.1 hq⟩
  exact (R5 hp (I5 (Ms.1 hq).1).1).2) ⟨hm, hr⟩ n 0 [(m, -1, MS)] l [[]] (zA9 _) Bfs.inv_start (fun k x f s hk => by
   have := Bfs.lt_get hk
   simp at this; subst this
   cases hk; exact ⟨hm, hr⟩) h
 exact ⟨ws, h1, h2⟩
theorem Tb {p : Aa} (hp : A3 p) {m : Ab} {l : List Ku} {ws : List (List Ad)} (h : ao p m l ws) {k : Nat} {x : Ab} {f : Int} {s : Ad} {w : List Ad} (hx : l[k]? = some (x, f, s)) (hw : ws[k]? = some w) : GN p m w = some x :=
 (Mg hp).2 (Bfs.way_run h.inv (k + 1) k (Nat.lt_succ_self k) hx hw)
theorem Li {p : Aa} (hp : A3 p) {m x : Ab} {l : List Ku} {ws : List (List Ad)} (h : ao p m l ws) {w : List Ad} (hw : GN p m w = some x) : ∃ (k : Nat) (f : Int) (s : Ad) (u : List Ad), l[k]? = some (x, f, s) ∧ ws[k]? = some u ∧ Bfs.code NI 100 u ≤ Bfs.code NI 100 w :=
 Bfs.reach_node h.inv w.length rfl ((Mg hp).1 hw)
def Ez (n : Ar) : Ku := (n.fh, n.fg, n.ft)
def IP (x : Ab) : List (Ab × Int) → Option Int
 | [] => none
 | e :: r => if x = e.1 then some e.2 else IP x r
def Ls (q : List (Ab × Int)) : List (ByteArray × Int) := q.map fun e => (CF (K2 e.1), e.2)
theorem Wp {p : Aa} (hp : A3 p) {x y : Ab} (hx : Bm p x) (hy : Bm p y) : (CF (K2 x) == CF (K2 y)) = decide (x = y) := by
 by_cases h : x = y
 ·rw [decide_eq_true h, h, QU]
 ·rw [decide_eq_false h]
  cases hb : CF (K2 x) == CF (K2 y)
  ·rfl
  ·exact absurd (V9 hp hx hy hb) h
theorem OV {p : Aa} (hp : A3 p) {x : Ab} (hx : Bm p x) : ∀ {q : List (Ab × Int)}, (∀ e, e ∈ q → Bm p e.1) → Jt (CF (K2 x)) (Ls q) = IP x q
 | [], _ => rfl
 | e :: q, h => by
  have ih := OV hp hx (q := q) fun e he => h e (zE4 _ he)
  show (if (CF (K2 x) == CF (K2 e.1)) = true then some e.2 else Jt (CF (K2 x)) (Ls q)) = if x = e.1 then some e.2 else IP x q
  rw [Wp hp hx (h e (by simp)), ih]
  by_cases h : x = e.1
  ·rw [decide_eq_true h, if_pos rfl, if_pos h]
  ·rw [decide_eq_false h, if_neg (by simp), if_neg h]
theorem K5 (x y : Ab) (r : Int) : ∀ q : List (Ab × Int), IP x (q ++ [(y, r)]) = match IP x q with
  | some v => some v
  | none => if x = y then some r else none
 | [] => rfl
 | e :: q => by
  simp only [zG7, IP]
  by_cases h : x = e.1
  ·rw [if_pos h, if_pos h]
  ·rw [if_neg h, if_neg h, K5 x y r q]
theorem UX (q : List (Ab × Int)) (x : Ab) (r : Int) : Ls (q ++ [(x, r)]) = Ls q ++ [(CF (K2 x), r)] := by simp [Ls]
structure N9 (p : Aa) (q : List (Ab × Int)) (l : List Ku) : Prop where
 ok : ∀ e, e ∈ q → Bm p e.1
 none : ∀ x, Bm p x → IP x q = none → ∀ n, n ∈ l → n.1 ≠ x
 some : ∀ x r, Bm p x → IP x q = some r → (r = -1 ∧ BJ p x = false) ∨ ∃ (j : Nat) (f : Int) (s : Ad), r = (j : Int) ∧ l[j]? = some (x, f, s)
structure H1 (p : Aa) (i : Nat) (done : List (Ad × Ab)) (pl : List Ar) : Prop where
 to : ∀ (b : Nat) nd, pl[b]? = some nd → ∀ r, r ∈ nd.fa → ∃ s y, ((b < i ∧ (s, y) ∈ H0 p nd.fh) ∨ (b = i ∧ (s, y) ∈ done)) ∧ ∃ (a : Nat) (f : Int) (t : Ad), r = (a : Int) ∧ (pl.map Ez)[a]? = some (y, f, t)
 of : ∀ (b : Nat) nd, pl[b]? = some nd → ∀ s y, ((b < i ∧ (s, y) ∈ H0 p nd.fh) ∨ (b = i ∧ (s, y) ∈ done)) → ∃ (a : Nat) (f : Int) (t : Ad), ((a : Nat) : Int) ∈ nd.fa ∧ (pl.map Ez)[a]? = some (y, f, t)
def Lz (pl : List Ar) (i : Nat) (nd : Ar) (r : Int) : List Ar := if 0 ≤ r then pl.set i ⟨nd.fh, nd.fg, nd.ft, nd.fa ++ [r]⟩ else pl
theorem Mm {pl : List Ar} {i : Nat} {nd : Ar} {r : Int} (h : pl[i]? = some nd) : (Lz pl i nd r).map Ez = pl.map Ez := by
 unfold Lz
 split
 ·apply List.ext_getElem?
  intro k
  rw [zA1, zA1, zI1]
  by_cases hk : i = k
  ·subst hk
   rw [if_pos rfl, if_pos (Bfs.lt_get h), h]; rfl
  ·rw [if_neg hk]
 ·rfl
theorem Le {pl : List Ar} {i : Nat} {nd : Ar} {r : Int} (h : pl[i]? = some nd) {b : Nat} {nb : Ar} (hb : (Lz pl i nd r)[b]? = some nb) : (b ≠ i ∧ pl[b]? = some nb) ∨ (b = i ∧ nb.fh = nd.fh ∧ nb.fg = nd.fg ∧ nb.ft = nd.ft ∧ nb.fa = if 0 ≤ r then nd.fa ++ [r] else nd.fa) := by
 unfold Lz at hb
 split at hb
 ·rename_i hr
  rw [zI1] at hb
  by_cases hk : i = b
  ·subst hk
   rw [if_pos rfl, if_pos (Bfs.lt_get h)] at hb
   cases hb
   exact .inr ⟨rfl, rfl, rfl, rfl, by rw [if_pos hr]⟩
  ·rw [if_neg hk] at hb
   exact .inl ⟨fun e => hk e.symm, hb⟩
 ·rename_i hr
  by_cases hk : b = i
  ·subst hk; rw [h] at hb; cases hb
   exact .inr ⟨rfl, rfl, rfl, rfl, by rw [if_neg hr]⟩
  ·exact .inl ⟨hk, hb⟩
theorem Sl {p : Aa} {i : Nat} {done : List (Ad × Ab)} {pl pl2 : List Ar} {nd : Ar} {s : Ad} {x : Ab} {a : Nat} {f : Int} {t : Ad} (h : H1 p i done pl)
  (hkeep : ∀ (b : Nat) nb, pl2[b]? = some nb → pl[b]? = some nb ∨ (i < b ∧ nb.fa = [])) (hk2 : ∀ (b : Nat) n, (pl.map Ez)[b]? = some n → (pl2.map Ez)[b]? = some n) (hi : pl2[i]? = some nd) (ha : (pl2.map Ez)[a]? = some (x, f, t)) : H1 p i (done ++ [(s, x)]) (Lz pl2 i nd (a : Int)) := by
 constructor
 ·intro b nb hb r hr
  rw [Mm hi]
  rcases Le hi hb with ⟨h1, h2⟩ | ⟨h1, h2, h3, h4, h5⟩
  ·rcases hkeep b nb h2 with h3 | ⟨h3, h4⟩
   ·obtain ⟨s', y, g1, a', f', t', g2, g3⟩ := h.to b nb h3 r hr
    refine ⟨s', y, ?_, a', f', t', g2, hk2 _ _ g3⟩
    rcases g1 with g1 | g1
    ·exact .inl g1
    ·exact absurd g1.1 h1
   ·rw [h4] at hr; cases hr
  ·subst h1
   rw [h5, if_pos (Int.natCast_nonneg a)] at hr
   rcases zC2.1 hr with hr | hr
   ·rcases hkeep b nd hi with h6 | ⟨h6, _⟩
    ·obtain ⟨s', y, g1, a', f', t', g2, g3⟩ := h.to b nd h6 r hr
     refine ⟨s', y, ?_, a', f', t', g2, hk2 _ _ g3⟩
     rcases g1 with g1 | g1
     ·exact .inl ⟨g1.1, by rw [h2]; exact g1.2⟩
     ·exact .inr ⟨rfl, zE7 _ g1.2⟩
    ·omega
   ·rw [zD2.1 hr]
    exact ⟨s, x, .inr ⟨rfl, by simp⟩, a, f, t, rfl, ha⟩
 ·intro b nb hb s' y hs
  rw [Mm hi]
  rcases Le hi hb with ⟨h1, h2⟩ | ⟨h1, h2, h3, h4, h5⟩
  ·rcases hkeep b nb h2 with h3 | ⟨h3, h4⟩
   ·obtain ⟨a', f', t', g2, g3⟩ := h.of b nb h3 s' y (by
     rcases hs with hs | hs
     ·exact .inl hs
     ·exact absurd hs.1 h1)
    exact ⟨a', f', t', g2, hk2 _ _ g3⟩
   ·rcases hs with hs | hs <;> omega
  ·subst h1
   rw [h5, if_pos (Int.natCast_nonneg a)]
   rcases hkeep b nd hi with h6 | ⟨h6, _⟩
   ·rcases hs with hs | ⟨_, hs⟩
    ·omega
    ·rcases zC2.1 hs with hs | hs
     ·obtain ⟨a', f', t', g2, g3⟩ := h.of b nd h6 s' y (.inr ⟨rfl, hs⟩)
      exact ⟨a', f', t', zE7 _ g2, hk2 _ _ g3⟩
     ·cases zD2.1 hs
      exact ⟨a, f, t, by simp, ha⟩
   ·omega
theorem GS {N : Nat} (hN : N ≤ 1000000) (h20 : 100 ≤ N) {p : Aa} (hv : Bx p = 0) {m : Ab} (hm : Bm p m) {most i : Nat} (hmo : most ≤ 20000) {v2 : List Ar × List (ByteArray × Int) × Int} (hv2 : v2.2.2 = (i : Int)) (ss : List Ad) (e0 : Int) (hss : ∀ s, s ∈ ss → s ∈ FI p m) (hsl : ss.length ≤ 1000) (j : List Ar × List (ByteArray × Int) → Option (List Ar × Int)) :
  ∀ (n k : Nat) (pl : List Ar) (q : List (Ab × Int)) (l' : List Ku), k ≤ ss.length → ss.length - k < n → (∃ nd, pl[i]? = some nd ∧ nd.fh = m) → (∀ n, n ∈ pl.map Ez → Bm p n.1 ∧ BJ p n.1 = true) → pl.length ≤ most → N9 p q (pl.map Ez) → H1 p i (PK p m (ss.take k)) pl →
   (∃ nd, pl[i]? = some nd ∧ nd.fa.length ≤ k) → Bfs.inner most i (PK p m (ss.drop k)) (pl.map Ez) = some l' →
   ∃ pl' q', Cr N p v2 (ss, e0) j n (pl, Ls q, (k : Int)) = j (pl', Ls q') ∧ pl'.map Ez = l' ∧ N9 p q' l' ∧ H1 p i (PK p m ss) pl' ∧ (∀ (b : Nat) nb, pl'[b]? = some nb → b ≠ i → pl[b]? = some nb ∨ nb.fa = []) ∧ ∀ nb, pl'[i]? = some nb → nb.fa.length ≤ ss.length
 | 0, k, pl, q, l', _, h, _, _, _, _, _, _, _ => by omega
 | n + 1, k, pl, q, l', hk, h, hi, hA, hlm, hpl, hnx, hfl, hin => by
  obtain ⟨hp, _⟩ := Cy hv
  obtain ⟨nd, hnd, hndm⟩ := hi
  obtain ⟨nd', hnd', hfl⟩ := hfl
  rw [hnd] at hnd'; cases hnd'
  by_cases h1 : k < ss.length
  ·have hs : ss[k]? = some ss[k] := by simp [h1]
   have hsm := hss _ (lM hs)
   have hstep := (I5 hsm).2
   have hxo := HY hp hm hstep
   have hil := Bfs.lt_get hnd
   rw [Cr, AD (by simp only; omega)]
   simp only [A7, hv2, AS, hnd, hs, oS]
   rw [show (Ab.mk nd.fh.fc nd.fh.fa nd.fh.fd) = m from hndm, LH N hN h20 (Ij hm), if_pos (Gr hv hm)]
   simp only [oS]
   rw [hstep, bne_self_eq_false, Am, U6 N hN h20 hp hxo]
   simp only [oS]
   rw [OV hp hxo hpl.ok]
   have htk : ss.take (k + 1) = ss.take k ++ [ss[k]] := by rw [zD9, hs]; rfl
   have hgo : PK p m (ss.take (k + 1)) = if BJ p (AT p m ss[k]).1 = true then PK p m (ss.take k) ++ [(ss[k], (AT p m ss[k]).1)] else PK p m (ss.take k) := by
    rw [htk]; unfold PK; rw [List.filterMap_append]
    cases hr : BJ p (AT p m ss[k]).1 <;> simp [hr]
   rw [CW hs, Rk] at hin
   -- what follows when the node's number is known
   have tail : ∀ (pl2 : List Ar) (q2 : List (Ab × Int)) (r : Int) (nd2 : Ar), pl2[i]? = some nd2 → nd2.fh = m → nd2.fa.length ≤ k → pl2.length ≤ most →
     AN (decide (0 ≤ r)) ((BC pl2 (i : Int)).bind fun v26 => (Es (v26.fa.length + (([r] : List Int)).length ≤ Dv)).bind fun _ => (BC pl2 (i : Int)).bind fun v28 =>
      AN (decide ((20000 : Int) < ((pl2.set ((i : Int)).toNat (Ar.mk (Ab.mk v28.fh.fc v28.fh.fa v28.fh.fd) v28.fg (Ad.mk v28.ft.ff v28.ft.fi v28.ft.fk) (v26.fa ++ ([r] : List Int)))).length : Int))) (some (([] : List Ar), 3))
       (Cr N p v2 (ss, e0) j n (pl2.set ((i : Int)).toNat (Ar.mk (Ab.mk v28.fh.fc v28.fh.fa v28.fh.fd) v28.fg (Ad.mk v28.ft.ff v28.ft.fi v28.ft.fk) (v26.fa ++ ([r] : List Int))), Ls q2, (wI .i64 ((k : Int) + 1)))))
      (AN (decide ((20000 : Int) < (pl2.length : Int))) (some (([] : List Ar), 3)) (Cr N p v2 (ss, e0) j n (pl2, Ls q2, (wI .i64 ((k : Int) + 1))))) =
     Cr N p v2 (ss, e0) j n (Lz pl2 i nd2 r, Ls q2, ((k + 1 : Nat) : Int)) := by
    intro pl2 q2 r nd2 h2 h3 h4 h5
    by_cases hr : 0 ≤ r
    ·rw [AD hr]
     simp only [AS, h2, oS, zB2]
     rw [As (by simp [Dv]; omega), AB (by rw [zI3]; omega), AE (by omega)]
     unfold Lz; rw [if_pos hr]
    ·rw [AB hr, AB (by omega), AE (by omega)]
     unfold Lz; rw [if_neg hr]
   cases hlq : IP (AT p m ss[k]).1 q with
   | some r =>
    simp only [Option.isSome_some, zB7, Am, zC5]
    have ht := tail pl q r nd hnd hndm hfl hlm
    simp only [AS, hnd, oS] at ht
    rw [show (Ab.mk nd.fh.fc nd.fh.fa nd.fh.fd) = m from hndm] at ht
    rw [ht]
    rcases hpl.some _ _ hxo hlq with ⟨hr, hnr⟩ | ⟨a, f, t, hr, ha⟩
    ·subst hr
     rw [hnr, if_neg (by simp)] at hin
     rw [hnr, if_neg (by simp)] at hgo
     have hadd : Lz pl i nd (-1) = pl := by unfold Lz; rw [if_neg (by decide)]
     rw [hadd]
     exact GS hN h20 hv hm hmo hv2 ss e0 hss hsl j n (k + 1) pl q l' (by omega) (by omega) ⟨nd, hnd, hndm⟩ hA hlm hpl (by rw [hgo]; exact hnx) ⟨nd, hnd, by omega⟩ hin
    ·subst hr
     have hrob : BJ p (AT p m ss[k]).1 = true := (hA _ (lM ha)).2
     rw [hrob, if_pos rfl] at hin hgo
     have hput : Bfs.put i (pl.map Ez) (ss[k], (AT p m ss[k]).1) = pl.map Ez := by
      unfold Bfs.put
      rw [if_pos]
      exact zD3.2 ⟨_, lM ha, decide_eq_true rfl⟩
     simp only [Bfs.inner] at hin
     rw [hput, if_neg (by rw [zB1]; omega)] at hin
     have hpr := Mm (r := (a : Int)) hnd
     have hnx2 := Sl (s := ss[k]) hnx (pl2 := pl) (fun b nb hb => .inl hb) (fun b n hb => hb) hnd ha
     obtain ⟨nd3, hnd3⟩ := Bfs.get_ex (l := Lz pl i nd (a : Int)) (k := i) (by
      have := congrArg zF4 hpr; simp only [zB1] at this; omega)
     obtain ⟨g1, g2⟩ | ⟨_, g2, g3, g4, g5⟩ := Le hnd hnd3
     ·exact absurd rfl g1
     obtain ⟨pl', q', r1, r2, r3, r4, r5, r6⟩ := GS hN h20 hv hm hmo hv2 ss e0 hss hsl j n (k + 1) (Lz pl i nd (a : Int)) q l' (by omega) (by omega) ⟨nd3, hnd3, by rw [g2]; exact hndm⟩ (by rw [hpr]; exact hA) (by have := congrArg zF4 hpr; simp only [zB1] at this; omega)  (by rw [hpr]; exact hpl) (by rw [hgo]; exact hnx2) ⟨nd3, hnd3, by rw [g5]; split <;> (try simp only [zB8, zE3]) <;> omega⟩ (by rw [hpr]; exact hin)
     refine ⟨pl', q', r1, r2, r3, r4, ?_, r6⟩
     intro b nb hb hbi
     rcases r5 b nb hb hbi with h2 | h2
     ·rcases Le hnd h2 with ⟨_, h3⟩ | ⟨h3, _⟩
      ·exact .inl h3
      ·exact absurd h3 hbi
     ·exact .inr h2
   | none =>
    simp only [Option.isSome_none, zD6, AG]
    rw [Pd N p _ hN h20 (Ij hxo) (Gr hv hxo)]
    simp only [oS, bne_self_eq_false, Am]
    have hms : ∀ r, MI (CF (K2 (AT p m ss[k]).1)) r (Ls q) = Ls (q ++ [((AT p m ss[k]).1, r)]) := fun r => by
     rw [UX]; exact Lj _ _ (by rw [OV hp hxo hpl.ok, hlq])
    have hok2 : ∀ r e, e ∈ q ++ [((AT p m ss[k]).1, r)] → Bm p e.1 := fun r e he => by
     rcases zC2.1 he with he | he
     ·exact hpl.ok e he
     ·rw [zD2.1 he]; exact hxo
    cases hrob : BJ p (AT p m ss[k]).1
    ·rw [zD6, AG]
     rw [hrob, if_neg (by simp)] at hin hgo
     rw [hms]
     have ht := tail pl (q ++ [((AT p m ss[k]).1, -1)]) (-1) nd hnd hndm hfl hlm
     simp only [AS, hnd, oS] at ht
     rw [show (Ab.mk nd.fh.fc nd.fh.fa nd.fh.fd) = m from hndm] at ht
     rw [ht]
     have hadd : Lz pl i nd (-1) = pl := by unfold Lz; rw [if_neg (by decide)]
     rw [hadd]
     refine GS hN h20 hv hm hmo hv2 ss e0 hss hsl j n (k + 1) pl _ l' (by omega) (by omega) ⟨nd, hnd, hndm⟩ hA hlm ⟨hok2 (-1), ?_, ?_⟩ (by rw [hgo]; exact hnx) ⟨nd, hnd, by omega⟩ hin
     ·intro x hx hq
      rw [K5] at hq
      cases hq2 : IP x q with
      | none => exact hpl.none x hx hq2
      | some v => rw [hq2] at hq; cases hq
     ·intro x r hx hq
      rw [K5] at hq
      cases hq2 : IP x q with
      | none =>
       rw [hq2] at hq
       simp only at hq
       split at hq
       ·rename_i he
        cases hq; left; exact ⟨rfl, by rw [he]; exact hrob⟩
       ·cases hq
      | some v => rw [hq2] at hq; cases hq; exact hpl.some x _ hx hq2
    ·rw [zB7, Am]
     rw [hrob, if_pos rfl] at hin hgo
     rw [hms]
     have hnew : ((pl.map Ez).any fun n => decide (n.1 = (AT p m ss[k]).1)) = false := by
      rw [zJ3]
      intro n hn
      simpa using hpl.none _ hxo hlq n hn
     have hput : Bfs.put i (pl.map Ez) (ss[k], (AT p m ss[k]).1) = (pl ++ [Ar.mk (AT p m ss[k]).1 (i : Int) ss[k] []]).map Ez := by
      unfold Bfs.put
      rw [hnew, if_neg (by simp), zF0]; rfl
     simp only [Bfs.inner] at hin
     rw [hput] at hin
     split at hin
     ·cases hin
     rename_i hmm
     rw [zB1, zB8, zE3] at hmm
     rw [As (by simp [Dv]; omega)]
     have hnd2 : (pl ++ [Ar.mk (AT p m ss[k]).1 (i : Int) ss[k] []])[i]? = some nd := Bfs.get_app_of hnd
     have ht := tail (pl ++ [Ar.mk (AT p m ss[k]).1 (i : Int) ss[k] []]) (q ++ [((AT p m ss[k]).1, (pl.length : Int))]) (pl.length : Int) nd hnd2 hndm hfl (by rw [zB8, zE3]; omega)
     simp only [AS] at ht
     rw [ht]
     have hpr := Mm (r := (pl.length : Int)) hnd2
     have hlast : ((pl ++ [Ar.mk (AT p m ss[k]).1 (i : Int) ss[k] []]).map Ez)[pl.length]? = some ((AT p m ss[k]).1, (i : Int), ss[k]) := by
      rw [zA1, Bfs.get_app_new]; rfl
     have hold : ∀ (b : Nat) n, (pl.map Ez)[b]? = some n → ((pl ++ [Ar.mk (AT p m ss[k]).1 (i : Int) ss[k] []]).map Ez)[b]? = some n := fun b n hb => by
      rw [zF0]; exact Bfs.get_app_of hb
     have hkeep : ∀ (b : Nat) nb, (pl ++ [Ar.mk (AT p m ss[k]).1 (i : Int) ss[k] []])[b]? = some nb → pl[b]? = some nb ∨ (i < b ∧ nb.fa = []) := fun b nb hb => by
      rcases Bfs.get_app hb with h2 | ⟨h2, h3⟩
      ·exact .inl h2
      ·exact .inr ⟨by omega, by rw [h3]⟩
     have hnx2 := Sl (s := ss[k]) hnx hkeep hold hnd2 hlast
     have hpl2 : N9 p (q ++ [((AT p m ss[k]).1, (pl.length : Int))]) ((pl ++ [Ar.mk (AT p m ss[k]).1 (i : Int) ss[k] []]).map Ez) := by
      refine ⟨hok2 _, ?_, ?_⟩
      ·intro x hx hq n hn
       rw [K5] at hq
       cases hq2 : IP x q with
       | none =>
        rw [hq2] at hq
        simp only at hq
        split at hq
        ·cases hq
        ·rename_i hne
         rw [zF0] at hn
         rcases zC2.1 hn with hn | hn
         ·exact hpl.none x hx hq2 n hn
         ·simp at hn; subst hn
          exact fun e => hne e.symm
       | some v => rw [hq2] at hq; cases hq
      ·intro x r hx hq
       rw [K5] at hq
       cases hq2 : IP x q with
       | none =>
        rw [hq2] at hq
        simp only at hq
        split at hq
        ·rename_i he
         cases hq
         exact .inr ⟨pl.length, _, _, rfl, by rw [he]; exact hlast⟩
        ·cases hq
       | some v =>
        rw [hq2] at hq; cases hq
        rcases hpl.some x _ hx hq2 with g | ⟨a, f, t, g1, g2⟩
        ·exact .inl g
        ·exact .inr ⟨a, f, t, g1, hold _ _ g2⟩
     obtain ⟨nd3, hnd3⟩ := Bfs.get_ex (l := Lz (pl ++ [Ar.mk (AT p m ss[k]).1 (i : Int) ss[k] []]) i nd (pl.length : Int)) (k := i) (by
      have := congrArg zF4 hpr; simp only [zB1, zB8, zE3] at this; omega)
     obtain ⟨g1, g2⟩ | ⟨_, g2, g3, g4, g5⟩ := Le hnd2 hnd3
     ·exact absurd rfl g1
     obtain ⟨pl', q', r1, r2, r3, r4, r5, r6⟩ := GS hN h20 hv hm hmo hv2 ss e0 hss hsl j n (k + 1) (Lz (pl ++ [Ar.mk (AT p m ss[k]).1 (i : Int) ss[k] []]) i nd (pl.length : Int)) _ l' (by omega) (by omega) ⟨nd3, hnd3, by rw [g2]; exact hndm⟩ (by
       rw [hpr]
       intro n hn
       rw [zF0] at hn
       rcases zC2.1 hn with hn | hn
       ·exact hA n hn
       ·simp at hn; subst hn; exact ⟨hxo, hrob⟩) (by have := congrArg zF4 hpr; simp only [zB1, zB8, zE3] at this; omega)  (by rw [hpr]; exact hpl2) (by rw [hgo]; exact hnx2) ⟨nd3, hnd3, by rw [g5]; split <;> (try simp only [zB8, zE3]) <;> omega⟩ (by rw [hpr]; exact hin)
     refine ⟨pl', q', r1, r2, r3, r4, ?_, r6⟩
     intro b nb hb hbi
     rcases r5 b nb hb hbi with h2 | h2
     ·rcases Le hnd2 h2 with ⟨_, h3⟩ | ⟨h3, _⟩
      ·rcases hkeep b nb h3 with h4 | ⟨_, h4⟩
       ·exact .inl h4
       ·exact .inr h4
      ·exact absurd h3 hbi
     ·exact .inr h2
  ·have : k = ss.length := by omega
   subst this
   rw [zB0 (zB4 _)] at hin
   have hin : some (pl.map Ez) = some l' := hin
   cases hin
   rw [zH4] at hnx
   rw [Cr, AB (by simp)]
   exact ⟨pl, q, rfl, rfl, hpl, hnx, fun b nb hb _ => .inl hb, fun nb hb => by rw [hnd] at hb; cases hb; exact hfl⟩
theorem Km {N : Nat} (hN : N ≤ 1000000) (h20 : 100 ≤ N) {p : Aa} (hv : Bx p = 0) {most : Nat} (hmo : most ≤ 20000) (j : List Ar → Option (List Ar × Int)) :
  ∀ (n i : Nat) (pl : List Ar) (q : List (Ab × Int)) (l' : List Ku), i ≤ pl.length → (∀ n, n ∈ pl.map Ez → Bm p n.1 ∧ BJ p n.1 = true) → pl.length ≤ most → N9 p q (pl.map Ez) → H1 p i [] pl → (∀ (b : Nat) nb, i ≤ b → pl[b]? = some nb → nb.fa = []) → (∀ (b : Nat) nb, pl[b]? = some nb → nb.fa.length ≤ 54) →
   Bfs.go (H0 p) most n i (pl.map Ez) = some l' →
   ∃ pl', DD N p j n (pl, Ls q, (i : Int)) = j pl' ∧ pl'.map Ez = l' ∧ H1 p l'.length [] pl' ∧ ∀ (b : Nat) nb, pl'[b]? = some nb → nb.fa.length ≤ 54
 | 0, i, pl, q, l', _, _, _, _, _, _, _, h => by cases h
 | n + 1, i, pl, q, l', hi, hA, hlm, hpl, hnx, hem, hfn, h => by
  obtain ⟨hp, _⟩ := Cy hv
  simp only [Bfs.go] at h
  rw [DD]
  by_cases h1 : i < pl.length
  ·obtain ⟨nd, hx⟩ := Bfs.get_ex h1
   have hxl : (pl.map Ez)[i]? = some (Ez nd) := by rw [zA1, hx]; rfl
   have hm := (hA _ (lM hxl)).1
   have hm : Bm p nd.fh := hm
   rw [hxl] at h
   simp only at h
   rw [AD (by simp only; omega)]
   simp only [AS, hx, oS]
   rw [show (Ab.mk nd.fh.fc nd.fh.fa nd.fh.fd) = nd.fh from rfl, SM N hN h20 hv hm]
   simp only [oS, bne_self_eq_false, Am]
   have hsl := Pw hp nd.fh
   cases hin : Bfs.inner most i (H0 p nd.fh) (pl.map Ez) with
   | none =>
    have hin' : Bfs.inner most i (H0 p (Ez nd).1) (pl.map Ez) = none := hin
    rw [hin'] at h; cases h
   | some l1 =>
    have hin' : Bfs.inner most i (H0 p (Ez nd).1) (pl.map Ez) = some l1 := hin
    rw [hin'] at h
    simp only [oS] at h
    obtain ⟨pl1, q1, e1, e2, e3, e4, e5, e6⟩ := GS hN h20 hv hm hmo (v2 := (pl, Ls q, (i : Int))) rfl (FI p nd.fh) 0 (fun s hs => hs) (by omega) (fun (v9 : (List Ar) × (List (ByteArray × Int))) =>
     DD N p j n (v9.1, v9.2, (wI .i64 ((i : Int) + 1)))) N 0 pl q l1 (zA9 _) (by omega) ⟨nd, hx, rfl⟩ hA hlm hpl (by
      rw [List.take_zero]; exact hnx) ⟨nd, hx, by rw [hem i nd (zB4 _) hx]; exact zB4 _⟩ hin
    have e1' : Cr N p (pl, Ls q, (i : Int)) (FI p nd.fh, 0) (fun (v9 : (List Ar) × (List (ByteArray × Int))) =>
     DD N p j n (v9.1, v9.2, (wI .i64 ((i : Int) + 1)))) N (pl, Ls q, 0) = _ := e1
    rw [e1']
    simp only
    obtain ⟨k1, k2⟩ := JS hin (fun q hq => SR hp hm hq) hA
    have hl1 : l1.length = pl1.length := by rw [← e2, zB1]
    have hil : i < pl1.length := by rw [← hl1]; exact Bfs.lt_get (k2 _ _ hxl)
    rw [AE (by have := Bfs.inner_len _ _ _ (by rw [zB1]; exact hlm) hin; omega)]
    refine Km hN h20 hv hmo j n (i + 1) pl1 q1 l' (by omega) (by rw [e2]; exact k1) (by rw [← hl1]; exact Bfs.inner_len _ _ _ (by rw [zB1]; exact hlm) hin) (by rw [e2]; exact e3) ?_ ?_ ?_ (by rw [e2]; exact h)
    ·have hmi : ∀ nb, pl1[i]? = some nb → nb.fh = nd.fh := fun nb hb => by
      have := k2 _ _ hxl
      rw [← e2, zA1, hb] at this
      exact congrArg (fun n : Ku => n.1) (Option.some.inj this)
     constructor
     ·intro b nb hb r hr
      obtain ⟨s, y, g1, g2⟩ := e4.to b nb hb r hr
      refine ⟨s, y, .inl ?_, g2⟩
      rcases g1 with g1 | ⟨g1, g3⟩
      ·exact ⟨by omega, g1.2⟩
      ·subst g1; exact ⟨by omega, by rw [hmi nb hb]; exact g3⟩
     ·intro b nb hb s y hs
      refine e4.of b nb hb s y ?_
      rcases hs with ⟨h2, h3⟩ | ⟨_, h3⟩
      ·by_cases hbi : b < i
       ·exact .inl ⟨hbi, h3⟩
       ·have : b = i := by omega
        subst this
        exact .inr ⟨rfl, by rw [hmi nb hb] at h3; exact h3⟩
      ·cases h3
    ·intro b nb hb hb2
     rcases e5 b nb hb2 (by omega) with h2 | h2
     ·exact hem b nb (by omega) h2
     ·exact h2
    ·intro b nb hb2
     by_cases q : b = i
     ·subst q
      have := e6 nb hb2
      omega
     ·rcases e5 b nb hb2 q with h2 | h2
      ·exact hfn b nb h2
      ·rw [h2]; exact zA9 _
  ·have hi' : i = pl.length := by omega
   subst hi'
   rw [zD5 (by rw [zB1]; exact zB4 _)] at h
   have h : some (pl.map Ez) = some l' := h
   cases h
   rw [AB (by simp)]
   exact ⟨pl, rfl, rfl, by rw [zB1]; exact hnx, hfn⟩
theorem Ox {N : Nat} (hN : N ≤ 1000000) (h20 : 100 ≤ N) {p : Aa} (hv : Bx p = 0) {m : Ab} (hm : Bm p m) (hr : BJ p m = true) {most : Nat} (hmo : most ≤ 20000) (h1 : 1 ≤ most) {l : List Ku} (hs : HS p m most N = some l) :
  ∃ pl, FN N p m = some (pl, 0) ∧ pl.map Ez = l ∧ H1 p l.length [] pl ∧ ∀ (b : Nat) nb, pl[b]? = some nb → nb.fa.length ≤ 54 := by
 obtain ⟨hp, _⟩ := Cy hv
 unfold FN
 rw [U6 N hN h20 hp hm]
 simp only [oS]
 obtain ⟨pl, e1, e2, e3, e4⟩ := Km hN h20 hv hmo (fun (v3 : (List Ar)) => some (v3, 0)) N 0 [Ar.mk m (-1) MS []] [(m, 0)] l (zA9 _) (Th hm hr) h1 (by
  refine ⟨fun e he => by rw [zD2.1 he]; exact hm, ?_, ?_⟩
  ·intro x _ hq n hn
   have hn : n = (m, -1, MS) := zD2.1 hn
   simp only [IP] at hq
   split at hq
   ·cases hq
   ·rename_i h; rw [hn]; exact fun e => h e.symm
  ·intro x r _ hq
   simp only [IP] at hq
   split at hq
   ·rename_i h
    cases hq; right; exact ⟨0, -1, MS, rfl, by rw [h]; rfl⟩
   ·cases hq) (by
  constructor
  ·intro b nb hb r hr
   have := Bfs.lt_get hb
   simp at this; subst this
   cases hb; cases hr
  ·intro b nb hb s y hs
   rcases hs with h | h
   ·omega
   ·cases h.2) (fun b nb _ hb => by
    have := Bfs.lt_get hb
    simp at this; subst this
    cases hb; rfl) (fun b nb hb => by
    have := Bfs.lt_get hb
    simp at this; subst this
    cases hb; exact zA9 _) hs
 refine ⟨pl, ?_, e2, e3, e4⟩
 exact e1
end Go.Lift
