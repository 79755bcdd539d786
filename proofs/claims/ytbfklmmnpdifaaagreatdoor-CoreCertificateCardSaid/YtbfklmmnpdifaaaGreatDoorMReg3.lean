/- Lemmas for CoreCertificateCardSaid, which YtbfklmmnpdifaaaGreatDoorFinC8 proves. -/
import Derived.Test.YtbfklmmnpdifaaaGreatDoorDec
import Derived.KernelRfl
open Bool renaming and_eq_true → zA6, and_eq_true_iff → zH6, false_and → zJ9, false_or → zI8, not_false → zE0, not_true → zB9, or_eq_false_iff → zI9, or_eq_true → zG0, or_true → zK9, true_and → zE1
open Int renaming eq_ofNat_of_zero_le → zA7, ofNat_inj → zK7, tmod → zB8, toNat_natCast → zB3
open List renaming all_eq_true → zA4, any_eq_false → zI7, any_eq_true → zE8, append_assoc → zD7, append_nil → zH1, cons_append → zH7, drop_eq_nil_of_le → zB2, drop_zero → zC0, eq_nil_of_length_eq_zero → zD3, filter_append → zF6, flatMap_append → zJ3, flatMap_eq_nil_iff → zK8, getD_cons_succ → zJ2, getD_cons_zero → zK0, getElem?_append_left → zC7, getElem?_append_right → zC6, getElem?_drop → zE6, getElem?_eq_getElem → zD0, getElem?_eq_none → zD8, getElem?_map → zA3, getElem?_set → zF2, getElem?_take_of_lt → zC5, getElem_mem → zG1, length → zF8, length_append → zB7, length_cons → zC1, length_map → zA8, length_range → zH5, length_set → zG8, length_singleton → zC2, map_append → zF5, map_cons → zC8, mem_append → zC4, mem_append_left → zF0, mem_cons → zB1, mem_cons_of_mem → zH0, mem_iff_getElem? → zB5, mem_map → zB6, mem_range → zE3, mem_singleton → zD6, nil_append → zG9, pairwise_append → zI3, pairwise_lt_range → zJ5, pairwise_map → zK2, range → zB4, range_succ → zG7, replicate → zA5, take_add_one → zE2, take_length → zH8
open Nat renaming add_assoc → zF4, add_zero → zG4, eq_zero_or_pos → zI6, le_refl → zB0, le_trans → zG5, mul_le_mul_right → zA2, sub_self → zJ4, succ_mul → zC3, zero_add → zA1, zero_le → zA9
open Option renaming getD_some → zC9, map_some → zE7
namespace Go.Lift
open IntKind renaming wrap → wI
open Option renaming bind_some → oS
open List renaming getElem?_eq_some_iff → lI
theorem AT {α : Type} (xs : List α) (i : Nat) : Br xs (i : Int) = xs[i]? := by
 unfold Br; simp
theorem Ce {n : Int} (h0 : -9223372036854775808 ≤ n) (h1 : n ≤ 9223372036854775807) : wI .i64 n = n := by
 simp [wI, IntKind.signed, IntKind.bits]; omega
theorem AB {i : Nat} (h : i < 1000000) : wI .i64 ((i : Int) + 1) = ((i + 1 : Nat) : Int) := by
 rw [Ce (by omega) (by omega)]; simp
@[simp] theorem AN {α : Type} {a b : Option α} : AR true a b = a := rfl
@[simp] theorem Ao {α : Type} {a b : Option α} : AR false a b = b := rfl
theorem Az {α : Type} {p : Prop} [Decidable p] {a b : Option α} (h : p) : AR (decide p) a b = a := by simp [h]
theorem Ax {α : Type} {p : Prop} [Decidable p] {a b : Option α} (h : ¬ p) : AR (decide p) a b = b := by simp [h]
def bR (a b : Int) : Int := if a < b then -1 else if b < a then 1 else 0
def E4 : List Int → List Int → Int
 | [], [] => 0
 | [], _ :: _ => -1
 | _ :: _, [] => 1
 | a :: as1, b :: bs => if a < b then -1 else if b < a then 1 else E4 as1 bs
theorem ZX (N : Nat) (a b : Int) : Fy N a b = some (bR a b) := by
 unfold Fy Gk bR
 by_cases h1 : a < b <;> by_cases h2 : b < a <;> simp [h1, h2]
theorem ZN (N : Nat) (a b : Int) : Er N a b = some (bR a b) := by
 unfold Er EX bR
 by_cases h1 : a < b <;> by_cases h2 : b < a <;> simp [h1, h2]
theorem C9 {α : Type} {xs : List α} {i : Nat} {x : α} (h : xs[i]? = some x) : xs.drop i = x :: xs.drop (i + 1) := by
 obtain ⟨hi, rfl⟩ := lI.1 h
 exact List.drop_eq_getElem_cons hi
theorem TL (N : Nat) (a b : List Int) (hb : a.length < 1000000) : ∀ (n i : Nat), i ≤ a.length → i ≤ b.length → a.length - i < n →
  Cy N a b (fun _ => AR (decide ((a.length : Int) < (b.length : Int))) (some (-1)) (some 0)) n (i : Int) = some (E4 (a.drop i) (b.drop i))
 | 0, i, _, _, h => by omega
 | n + 1, i, hi, hj, h => by
  unfold Cy
  by_cases h1 : i < a.length
  ·rw [Az (by omega), AT]
   have ha : a[i]? = some a[i] := by simp [h1]
   rw [ha, C9 ha]
   simp only [oS]
   by_cases h2 : i < b.length
   ·rw [Ax (by omega), AT]
    have hbb : b[i]? = some b[i] := by simp [h2]
    rw [hbb, C9 hbb]
    simp only [oS, ZX, E4, bR]
    rw [AB (by omega), TL N a b hb n (i + 1) (by omega) (by omega) (by omega)]
    by_cases h3 : a[i] < b[i]
    ·simp [h3]
    ·by_cases h4 : b[i] < a[i]
     ·simp [h3, h4]
     ·simp [h3, h4]
   ·rw [Az (by omega), zB2 (by omega : b.length ≤ i)]
    simp [E4]
  ·rw [Ax (by omega), zB2 (by omega : a.length ≤ i)]
   by_cases h2 : a.length < b.length
   ·rw [Az (by omega)]
    have hbb : b[i]? = some b[i] := by simp [show i < b.length from by omega]
    rw [C9 hbb]; simp [E4]
   ·rw [Ax (by omega), zB2 (by omega : b.length ≤ i)]
    simp [E4]
theorem Rv (N : Nat) (a b : List Int) (hb : a.length < 1000000) : ∀ (n i : Nat), i ≤ a.length → i ≤ b.length → a.length - i < n →
  By N a b (fun _ => AR (decide ((a.length : Int) < (b.length : Int))) (some (-1)) (some 0)) n (i : Int) = some (E4 (a.drop i) (b.drop i))
 | 0, i, _, _, h => by omega
 | n + 1, i, hi, hj, h => by
  unfold By
  by_cases h1 : i < a.length
  ·rw [Az (by omega), AT]
   have ha : a[i]? = some a[i] := by simp [h1]
   rw [ha, C9 ha]
   simp only [oS]
   by_cases h2 : i < b.length
   ·rw [Ax (by omega), AT]
    have hbb : b[i]? = some b[i] := by simp [h2]
    rw [hbb, C9 hbb]
    simp only [oS, ZN, E4, bR]
    rw [AB (by omega), Rv N a b hb n (i + 1) (by omega) (by omega) (by omega)]
    by_cases h3 : a[i] < b[i]
    ·simp [h3]
    ·by_cases h4 : b[i] < a[i]
     ·simp [h3, h4]
     ·simp [h3, h4]
   ·rw [Az (by omega), zB2 (by omega : b.length ≤ i)]
    simp [E4]
  ·rw [Ax (by omega), zB2 (by omega : a.length ≤ i)]
   by_cases h2 : a.length < b.length
   ·rw [Az (by omega)]
    have hbb : b[i]? = some b[i] := by simp [show i < b.length from by omega]
    rw [C9 hbb]; simp [E4]
   ·rw [Ax (by omega), zB2 (by omega : b.length ≤ i)]
    simp [E4]
theorem VN (N : Nat) (a b : List Int) (hb : a.length < 1000000) : ∀ (n i : Nat), i ≤ a.length → i ≤ b.length → a.length - i < n →
  DK N a b (fun _ => AR (decide ((a.length : Int) < (b.length : Int))) (some (-1)) (AR (decide ((b.length : Int) < (a.length : Int))) (some 1) (some 0))) n (i : Int) = some (E4 (a.drop i) (b.drop i))
 | 0, i, _, _, h => by omega
 | n + 1, i, hi, hj, h => by
  unfold DK
  simp only [Be]
  by_cases h1 : i < a.length
  ·rw [Az (p := (i : Int) < (a.length : Int)) (by omega)]
   have ha : a[i]? = some a[i] := by simp [h1]
   rw [C9 ha]
   by_cases h2 : i < b.length
   ·have hbb : b[i]? = some b[i] := by simp [h2]
    rw [show decide ((i : Int) < (b.length : Int)) = true from decide_eq_true (by omega), AN, AT, AT, ha, hbb, C9 hbb]
    simp only [oS, E4]
    rw [AB (by omega), VN N a b hb n (i + 1) (by omega) (by omega) (by omega)]
    by_cases h3 : a[i] < b[i]
    ·simp [h3]
    ·by_cases h4 : b[i] < a[i]
     ·simp [h3, h4]
     ·simp [h3, h4]
   ·rw [show decide ((i : Int) < (b.length : Int)) = false from decide_eq_false (by omega), Ao, Ax (by omega), Az (by omega), zB2 (by omega : b.length ≤ i)]
    simp [E4]
  ·rw [Ax (p := (i : Int) < (a.length : Int)) (by omega), Ao, zB2 (by omega : a.length ≤ i)]
   by_cases h2 : a.length < b.length
   ·rw [Az (by omega)]
    have hbb : b[i]? = some b[i] := by simp [show i < b.length from by omega]
    rw [C9 hbb]; simp [E4]
   ·rw [Ax (by omega), Ax (by omega), zB2 (by omega : b.length ≤ i)]
    simp [E4]
theorem PD {N : Nat} {a b : List Int} (h : a.length < N) (hN : N ≤ 1000000) : Cv N a b = some (E4 a b) := by
 have := TL N a b (by omega) N 0 (by omega) (by omega) (by omega)
 simpa [Cv] using this
theorem S4 {N : Nat} {a b : List Int} (h : a.length < N) (hN : N ≤ 1000000) : Cs N a b = some (E4 a b) := by
 have := Rv N a b (by omega) N 0 (by omega) (by omega) (by omega)
 simpa [Cs] using this
theorem PA {N : Nat} {a b : List Int} (h : a.length < N) (hN : N ≤ 1000000) : DQ N a b = some (E4 a b) := by
 have := VN N a b (by omega) N 0 (by omega) (by omega) (by omega)
 simpa [DQ] using this
theorem Rg : ∀ a : List Int, E4 a a = 0
 | [] => rfl
 | a :: as1 => by simp [E4, Rg as1]
theorem Pf : ∀ a b : List Int, E4 a b = 0 → a = b
 | [], [], _ => rfl
 | [], _ :: _, h => by simp [E4] at h
 | _ :: _, [], h => by simp [E4] at h
 | a :: as1, b :: bs, h => by
  unfold E4 at h
  split at h
  ·omega
  ·split at h
   ·omega
   ·rw [Pf as1 bs h, show a = b from by omega]
theorem KK : ∀ a b : List Int, E4 b a = - E4 a b
 | [], [] => rfl
 | [], _ :: _ => rfl
 | _ :: _, [] => rfl
 | a :: as1, b :: bs => by
  have := KK as1 bs
  unfold E4
  by_cases h1 : a < b
  ·simp [h1, show ¬ b < a from by omega]
  ·by_cases h2 : b < a
   ·simp [h1, h2]
   ·simp [h1, h2, this]
theorem VM : ∀ a b c : List Int, E4 a b ≤ 0 → E4 b c ≤ 0 → E4 a c ≤ 0
 | [], _, [], _, _ => by simp [E4]
 | [], _, _ :: _, _, _ => by simp [E4]
 | _ :: _, [], _, h, _ => by simp [E4] at h
 | _ :: _, _ :: _, [], _, h => by simp [E4] at h
 | a :: as1, b :: bs, c :: cs, h1, h2 => by
  have ih := VM as1 bs cs
  unfold E4 at h1 h2 ⊢
  split at h1 <;> split at h2 <;> (try split at h1) <;> (try split at h2) <;> split <;> (try split) <;> omega
def Us : List Int → Int
 | [] => 0
 | x :: xs => if x = 0 then Us xs else x
theorem fu (N : Nat) (a : List Int) (hb : a.length < 1000000) : ∀ (n i : Nat), i ≤ a.length → a.length - i < n →
  Ft N a (fun _ => some 0) n (i : Int) = some (Us (a.drop i))
 | 0, i, _, h => by omega
 | n + 1, i, hi, h => by
  unfold Ft
  by_cases h1 : i < a.length
  ·have ha : a[i]? = some a[i] := by simp [h1]
   rw [Az (by omega), AT, ha, C9 ha]
   simp only [oS, Us]
   rw [AB (by omega), fu N a hb n (i + 1) (by omega) (by omega)]
   by_cases h3 : a[i] = 0
   ·simp [h3]
   ·have : (a[i] != 0) = true := by simpa using h3
    simp [h3, this]
  ·rw [Ax (by omega), zB2 (by omega : a.length ≤ i)]
   simp [Us]
theorem aS {N : Nat} {a : List Int} (h : a.length < N) (hN : N ≤ 1000000) : HK N a = some (Us a) := by
 have := fu N a (by omega) N 0 (by omega) (by omega)
 simpa [HK] using this
theorem dp (N : Nat) (a : List Int) (hb : a.length < 1000000) (hw : O8 Mz a) : ∀ (n i : Nat), i ≤ a.length → a.length - i < n →
  Da N a (fun v => some v) n (a.take i, (i : Int)) = some a
 | 0, i, _, h => by omega
 | n + 1, i, hi, h => by
  unfold Da
  by_cases h1 : i < a.length
  ·have ha : a[i]? = some a[i] := by simp [h1]
   rw [Az (by simpa using h1)]
   simp only
   rw [AT, ha]
   have hr : wI .i64 a[i] = a[i] := by
    have := hw a[i] (zG1 h1)
    unfold Mz at this
    have h2 : 0 ≤ a[i] ∧ a[i] ≤ 255 := by simpa [Lit.wf, IntKind.min, IntKind.max, IntKind.signed, IntKind.bits] using this
    exact Ce (by omega) (by omega)
   simp only [oS, hr]
   have hlen : (a.take i).length + ([a[i]] : List Int).length ≤ Db := by
    simp [Db]; omega
   rw [show DN ((a.take i).length + ([a[i]] : List Int).length ≤ Db) = some () from by unfold DN; rw [if_pos hlen]]
   simp only [oS]
   rw [AB (by omega), show a.take i ++ [a[i]] = a.take (i + 1) from by rw [zE2, ha]; rfl]
   exact dp N a hb hw n (i + 1) (by omega) (by omega)
  ·rw [Ax (by simpa using h1)]
   simp only
   rw [List.take_of_length_le (by omega)]
theorem O1 {N : Nat} {a : List Int} (h : a.length < N) (hN : N ≤ 1000000) (hw : O8 Mz a) : DH N a = some a := by
 have := dp N a (by omega) hw N 0 (by omega) (by omega)
 simpa [DH] using this
def fx (a : Ab) : Prop := a.fD.length ≤ 8 ∧ a.fB.length ≤ 8 ∧ a.fE.length ≤ 14
def Fk (a b : Ab) : Int := Us [E4 a.fD b.fD, E4 a.fB b.fB, E4 a.fE b.fE]
theorem Wz (a b : Ab) : Fk b a = - Fk a b := by
 unfold Fk
 rw [KK a.fD b.fD, KK a.fB b.fB, KK a.fE b.fE]
 simp only [Us, Int.neg_eq_zero]
 split
 ·split
  ·split <;> simp_all
  ·rfl
 ·rfl
theorem Ms (a : Ab) : Fk a a = 0 := by unfold Fk; simp [Rg, Us]
def CR {α R : Type} (f : Nat → α → Option R) : Nat → List α → Option R
 | _, [] => none
 | i, x :: xs => match f i x with
  | some r => some r
  | none => CR f (i + 1) xs
theorem FN {α R : Type} (f : Nat → α → Option R) (i : Nat) (x : α) (xs : List α) : CR f i (x :: xs) = match f i x with
  | some r => some r
  | none => CR f (i + 1) xs := rfl
def BI {R : Type} (a : Option R) (b : Option R) : Option R := match a with
 | some r => some r
 | none => b
theorem Cx {α R : Type} (L : Nat → Int → Option R) (xs : List α) (j : Option R) (f : Nat → α → Option R)
  (hs : ∀ (n i : Nat) (x : α), xs[i]? = some x → L (n + 1) (i : Int) = BI (f i x) (L n ((i + 1 : Nat) : Int))) (he : ∀ n : Nat, L (n + 1) (xs.length : Int) = j) :
  ∀ n i : Nat, i ≤ xs.length → xs.length - i < n → L n (i : Int) = BI (CR f i (xs.drop i)) j
 | 0, i, _, h => by omega
 | n + 1, i, hi, h => by
  by_cases h1 : i < xs.length
  ·have hx : xs[i]? = some xs[i] := by simp [h1]
   rw [hs n i _ hx, C9 hx, Cx L xs j f hs he n (i + 1) (by omega) (by omega)]
   rw [FN]
   cases f i xs[i] <;> rfl
  ·have : i = xs.length := by omega
   subst this
   rw [he n, zB2 (zB0 _)]
   rfl
theorem Rq (N : Nat) (k n : Int) : DF N k n = some (decide (0 ≤ k) && decide (k < n)) := by
 unfold DF
 simp only [Be]
 by_cases h : 0 ≤ k
 ·rw [Az h]; simp [h]
 ·rw [Ax h]; simp [h]
theorem Ox (N : Nat) (t : Am) : Bc N t = some (t.fG == 3 || t.fG == 4) := by
 unfold Bc
 simp only [Be]
 cases h : t.fG == 3 <;> simp
def sq (l : List (List Bool)) (n m : Int) : Bool := decide ((l.length : Int) = n) && l.all fun r => decide ((r.length : Int) = m)
theorem PC {α : Type} (p : α → Bool) {R : Type} (r : Nat → R) : ∀ (i : Nat) (xs : List α), (CR (fun i x => if p x then none else some (r i)) i xs).isNone = xs.all p
 | i, [] => rfl
 | i, x :: xs => by
  unfold CR
  cases h : p x <;> simp [h, PC p r (i + 1) xs]
theorem Rb (N : Nat) (l : List (List Bool)) (n m : Int) (h : n < (N : Int)) (hN : N ≤ 1000000) : DY N l n m = some (sq l n m) := by
 unfold DY sq
 by_cases h1 : (l.length : Int) = n
 ·subst h1
  simp only [bne_self_eq_false, Ao, decide_true, zE1]
  have := Cx (CL N l (l.length : Int) m (fun _ => some true)) l (some true) (fun _ r => if decide ((r.length : Int) = m) then none else some false)
   (fun n i x hx => by
    have hi := (lI.1 hx).1
    rw [CL, Az (by omega), AT, hx]
    simp only [oS]
    rw [AB (by omega)]
    by_cases h2 : (x.length : Int) = m
    ·simp [h2, BI]
    ·have : ((x.length : Int) != m) = true := by simpa using h2
     simp [h2, this, BI])
   (fun n => by rw [CL, Ax (by omega)]) N 0 (by omega) (by omega)
  simp only [Int.ofNat_zero, zC0] at this
  rw [this]
  have h3 := PC (fun r : List Bool => decide ((r.length : Int) = m)) (fun _ => false) 0 l
  cases hsc : CR (fun (_ : Nat) (r : List Bool) => if decide ((r.length : Int) = m) = true then none else some false) 0 l with
  | none => rw [hsc] at h3; rw [← h3]; rfl
  | some b =>
   rw [hsc] at h3
   rw [← h3]
   have : ∀ (i : Nat) (xs : List (List Bool)) b, CR (fun (_ : Nat) (r : List Bool) => if decide ((r.length : Int) = m) = true then none else some false) i xs = some b → b = false := by
    intro i xs
    induction xs generalizing i with
    | nil => intro b hb; cases hb
    | cons x xs ih =>
     intro b hb
     unfold CR at hb
     split at hb
     ·rename_i r hr; cases hb; split at hr <;> simp at hr; exact hr
     ·exact ih _ b hb
   rw [this 0 l b hsc]; rfl
 ·have : ((l.length : Int) != n) = true := by simpa using h1
  simp [this, h1]
theorem Rj (N : Nat) (l : List (List Bool)) (n m : Int) (h : n < (N : Int)) (hN : N ≤ 1000000) : FP N l n m = some (sq l n m) := by
 unfold FP sq
 simp only [Be]
 by_cases h1 : (l.length : Int) = n
 ·subst h1
  simp only [beq_self_eq_true, AN, decide_true, zE1]
  have := Cx (Bu N l (fun x => Eu N x m) (fun _ => some (-1))) l (some (-1)) (fun i r => if decide ((r.length : Int) = m) then none else some (i : Int))
   (fun n i x hx => by
    have hi := (lI.1 hx).1
    rw [Bu, Az (by omega), AT, hx]
    simp only [oS, Eu]
    rw [AB (by omega)]
    by_cases h2 : (x.length : Int) = m
    ·simp [h2, BI]
    ·have : ((x.length : Int) != m) = true := by simpa using h2
     simp [h2, this, BI])
   (fun n => by rw [Bu, Ax (by omega)]) N 0 (by omega) (by omega)
  simp only [Int.ofNat_zero, zC0] at this
  unfold Dp DT
  rw [this]
  have h3 := PC (fun r : List Bool => decide ((r.length : Int) = m)) (fun i : Nat => (i : Int)) 0 l
  cases hsc : CR (fun (i : Nat) (r : List Bool) => if decide ((r.length : Int) = m) = true then none else some (i : Int)) 0 l with
  | none => rw [hsc] at h3; rw [← h3]; rfl
  | some b =>
   rw [hsc] at h3
   rw [← h3]
   have : ∀ (i : Nat) (xs : List (List Bool)) b, CR (fun (i : Nat) (r : List Bool) => if decide ((r.length : Int) = m) = true then none else some (i : Int)) i xs = some b → 0 ≤ b := by
    intro i xs
    induction xs generalizing i with
    | nil => intro b hb; cases hb
    | cons x xs ih =>
     intro b hb
     rw [FN] at hb
     split at hb
     ·rename_i r hr
      cases hb
      split at hr
      ·cases hr
      ·cases hr; omega
     ·exact ih _ b hb
   have := this 0 l b hsc
   simp [BI, this]
 ·have : ((l.length : Int) == n) = false := by simpa using h1
  simp [this, h1]
open List renaming mem_of_getElem? → lM
open List renaming getD_eq_getElem?_getD → lD
def Kb (l : List (List Bool)) : Option Int := CR (fun i row => if row.getD i false then none else some 1) 0 l
theorem TW {row : List Bool} {i : Nat} (h : i < row.length) : Br row (i : Int) = some (row.getD i false) := by
 rw [AT, lD]; simp [h]
theorem Y8 (N : Nat) (t : Am) (h : t.fK.length < N) (hN : N ≤ 1000000) (hsq : ∀ row, row ∈ t.fK → row.length = t.fK.length) (j : Option Int) :
  B7 N t (fun _ => j) N 0 = BI (Kb t.fK) j := by
 have := Cx (B7 N t (fun _ => j)) t.fK j (fun i row => if row.getD i false then none else some 1)
  (fun n i x hx => by
   have hi := (lI.1 hx).1
   have hl := hsq x (lM hx)
   rw [B7, Az (by omega), AT, hx]
   simp only [oS]
   rw [TW (by omega), AB (by omega)]
   simp only [oS]
   cases x.getD i false <;> rfl)
  (fun n => by rw [B7, Ax (by omega)]) N 0 (by omega) (by omega)
 simpa [Kb] using this
theorem RD (N : Nat) (t : Am) (h : t.fK.length < N) (hN : N ≤ 1000000) (hsq : ∀ row, row ∈ t.fK → row.length = t.fK.length) (j : Option Int) :
  DE N t (fun _ => j) N 0 = BI (Kb t.fK) j := by
 have := Cx (DE N t (fun _ => j)) t.fK j (fun i row => if row.getD i false then none else some 1)
  (fun n i x hx => by
   have hi := (lI.1 hx).1
   have hl := hsq x (lM hx)
   rw [DE, Az (by omega), AT, hx]
   simp only [oS]
   rw [TW (by omega), AB (by omega)]
   simp only [oS]
   cases x.getD i false <;> rfl)
  (fun n => by rw [DE, Ax (by omega)]) N 0 (by omega) (by omega)
 simpa [Kb] using this
theorem Pc {l : List (List Bool)} {n m : Int} (h : sq l n m = true) : (l.length : Int) = n ∧ ∀ row, row ∈ l → (row.length : Int) = m := by
 unfold sq at h
 simp only [zA6, decide_eq_true_eq, zA4] at h
 exact h
def D8 (p : Aa) (t : Am) : Int :=
 if t.fG < 1 ∨ 4 < t.fG ∨ (t.fQ = true ∧ (t.fG = 3 ∨ t.fG = 4)) then 1
 else if t.fF < 0 ∨ (p.fA.length : Int) ≤ t.fF ∨ t.fJ < 0 ∨ (p.fA.length : Int) ≤ t.fJ then 4
 else
  let f := p.fA.getD t.fF.toNat 0
  let g := p.fA.getD t.fJ.toNat 0
  if sq t.fP f g = false then 6
  else if t.fG = 4 then (if sq t.fK f f = false then 6 else (Kb t.fK).getD 0)
  else if t.fK.length = 0 then 0 else 6
theorem Em {α : Type} {xs : List α} {i : Int} {d : α} (h0 : 0 ≤ i) (h1 : i < (xs.length : Int)) : Br xs i = some (xs.getD i.toNat d) := by
 obtain ⟨k, rfl⟩ := zA7 h0
 rw [AT, lD, zB3]
 simp [show k < xs.length from by omega]
theorem WV {t : Am} (A B : Option Int) (hk : ¬ (t.fQ = true ∧ (t.fG = 3 ∨ t.fG = 4))) : AR t.fQ (AR (t.fG == 3 || t.fG == 4) A B) B = B := by
 cases ha : t.fQ
 ·rfl
 ·have : (t.fG == 3 || t.fG == 4) = false := by
   rw [zI9]
   constructor
   ·simp only [beq_eq_false_iff_ne]; intro h; exact hk ⟨ha, .inl h⟩
   ·simp only [beq_eq_false_iff_ne]; intro h; exact hk ⟨ha, .inr h⟩
  rw [this]; rfl
theorem Kx {p : Aa} {i : Int} (hv : ∀ v, v ∈ p.fA → 1 ≤ v ∧ v ≤ 6) (h0 : 0 ≤ i) (h1 : i < (p.fA.length : Int)) : 1 ≤ p.fA.getD i.toNat 0 ∧ p.fA.getD i.toNat 0 ≤ 6 := by
 refine hv _ ?_
 rw [lD, zD0 (by omega)]
 exact zG1 _
theorem V7 (N : Nat) (p : Aa) (t : Am) (hN : N ≤ 1000000) (h6 : 7 ≤ N) (hv : ∀ v, v ∈ p.fA → 1 ≤ v ∧ v ≤ 6) : E8 N p t = some (D8 p t) := by
 unfold E8 D8
 simp only [Be, Ox, oS]
 by_cases k1 : t.fG < 1
 ·simp [k1]
 by_cases k2 : 4 < t.fG
 ·simp [k1, k2]
 rw [Ax k1, Ax k2]
 by_cases hk : t.fQ = true ∧ (t.fG = 3 ∨ t.fG = 4)
 ·obtain ⟨ha, k | k⟩ := hk <;> simp [ha, k]
 rw [Ao, WV _ _ hk, if_neg (fun h => h.elim k1 fun h => h.elim k2 hk)]
 by_cases f1 : t.fF < 0
 ·simp [f1]
 by_cases f2 : (p.fA.length : Int) ≤ t.fF
 ·simp [f1, f2]
 by_cases f3 : t.fJ < 0
 ·simp [f1, f2, f3]
 by_cases f4 : (p.fA.length : Int) ≤ t.fJ
 ·simp [f1, f2, f3, f4]
 rw [Ax f1, Ax f2, Ax f3, if_neg (fun h => h.elim f1 fun h => h.elim f2 fun h => h.elim f3 f4)]
 have hf := Kx hv (i := t.fF) (by omega) (by omega)
 rw [decide_eq_false f4, Ao, Em (d := 0) (by omega : 0 ≤ t.fF) (by omega), Em (d := 0) (by omega : 0 ≤ t.fJ) (by omega)]
 simp only [oS]
 generalize p.fA.getD t.fF.toNat 0 = f at *
 generalize p.fA.getD t.fJ.toNat 0 = g at *
 rw [Rb N t.fP f g (by omega) hN, Rb N t.fK f f (by omega) hN]
 simp only [oS]
 cases hq : sq t.fP f g
 ·rfl
 simp only [zB9, Ao]
 by_cases k4 : t.fG = 4
 ·have : (t.fG != 4) = false := by simp [k4]
  rw [this, Ao]
  simp only [k4, if_true]
  cases hr : sq t.fK f f
  ·rfl
  ·have h7 := Pc hr
   simp only [zB9, Ao]
   rw [Y8 N t (by omega) hN (fun row hm => by have := h7.2 row hm; omega)]
   cases Kb t.fK <;> simp [BI]
 ·have : (t.fG != 4) = true := by simpa using k4
  rw [this, AN]
  simp only [k4, if_false]
  by_cases hr : t.fK.length = 0
  ·simp [hr]
  ·have : ((t.fK.length : Int) != 0) = true := bne_iff_ne.2 (by omega)
   rw [this]; simp [hr]
theorem Zh (N : Nat) (k : Int) (a : Bool) : HP N k a = some (k == 1 || (k == 2 || ((k == 3 || k == 4) && !a))) := by
 unfold HP
 simp only [Be]
 cases h1 : k == 1 <;> cases h2 : k == 2 <;> cases h3 : k == 3 <;> cases h4 : k == 4 <;> cases a <;> rfl
theorem Pq (N : Nat) (p : Aa) (t : Am) (hN : N ≤ 1000000) (h6 : 7 ≤ N) (hv : ∀ v, v ∈ p.fA → 1 ≤ v ∧ v ≤ 6) : Hc N p t = some (D8 p t) := by
 unfold Hc D8
 simp only [Be, Zh, Rq, oS]
 by_cases hb : t.fG < 1 ∨ 4 < t.fG ∨ (t.fQ = true ∧ (t.fG = 3 ∨ t.fG = 4))
 ·have : (t.fG == 1 || (t.fG == 2 || ((t.fG == 3 || t.fG == 4) && !t.fQ))) = false := by
   rcases hb with h | h | ⟨ha, h | h⟩
   ·rw [beq_eq_false_iff_ne.2 (by omega : t.fG ≠ 1), beq_eq_false_iff_ne.2 (by omega : t.fG ≠ 2), beq_eq_false_iff_ne.2 (by omega : t.fG ≠ 3), beq_eq_false_iff_ne.2 (by omega : t.fG ≠ 4)]; rfl
   ·rw [beq_eq_false_iff_ne.2 (by omega : t.fG ≠ 1), beq_eq_false_iff_ne.2 (by omega : t.fG ≠ 2), beq_eq_false_iff_ne.2 (by omega : t.fG ≠ 3), beq_eq_false_iff_ne.2 (by omega : t.fG ≠ 4)]; rfl
   ·simp [ha, h]
   ·simp [ha, h]
  rw [this, if_pos hb]; rfl
 ·have : (t.fG == 1 || (t.fG == 2 || ((t.fG == 3 || t.fG == 4) && !t.fQ))) = true := by
   have hk : t.fG = 1 ∨ t.fG = 2 ∨ t.fG = 3 ∨ t.fG = 4 := by
    have h1 : ¬ t.fG < 1 := fun h => hb (.inl h)
    have h2 : ¬ 4 < t.fG := fun h => hb (.inr (.inl h))
    omega
   rcases hk with h | h | h | h
   ·simp [h]
   ·simp [h]
   ·cases ha : t.fQ
    ·simp [h]
    ·exact (hb (.inr (.inr ⟨ha, .inl h⟩))).elim
   ·cases ha : t.fQ
    ·simp [h]
    ·exact (hb (.inr (.inr ⟨ha, .inr h⟩))).elim
  rw [this, if_neg hb]
  simp only [zB9, Ao]
  by_cases f1 : t.fF < 0
  ·simp [f1, show ¬ (0 ≤ t.fF) from by omega]
  by_cases f2 : (p.fA.length : Int) ≤ t.fF
  ·simp [f2, show ¬ (t.fF < (p.fA.length : Int)) from by omega]
  by_cases f3 : t.fJ < 0
  ·simp [f3, show 0 ≤ t.fF from by omega, show t.fF < (p.fA.length : Int) from by omega, show ¬ (0 ≤ t.fJ) from by omega]
  by_cases f4 : (p.fA.length : Int) ≤ t.fJ
  ·simp [f4, show 0 ≤ t.fF from by omega, show t.fF < (p.fA.length : Int) from by omega, show ¬ (t.fJ < (p.fA.length : Int)) from by omega]
  rw [if_neg (fun h => h.elim f1 fun h => h.elim f2 fun h => h.elim f3 f4)]
  have hf := Kx hv (i := t.fF) (by omega) (by omega)
  have hg := Kx hv (i := t.fJ) (by omega) (by omega)
  rw [decide_eq_true (by omega : 0 ≤ t.fF), decide_eq_true (by omega : t.fF < (p.fA.length : Int)), decide_eq_true (by omega : 0 ≤ t.fJ), decide_eq_true (by omega : t.fJ < (p.fA.length : Int)), Em (d := 0) (by omega : 0 ≤ t.fF) (by omega), Em (d := 0) (by omega : 0 ≤ t.fJ) (by omega)]
  simp only [Bool.and_self, zB9, Ao, oS]
  generalize p.fA.getD t.fF.toNat 0 = f at *
  generalize p.fA.getD t.fJ.toNat 0 = g at *
  rw [Rj N t.fP f g (by omega) hN, Rj N t.fK f f (by omega) hN]
  simp only [oS]
  cases hq : sq t.fP f g
  ·rfl
  simp only [zB9, Ao]
  by_cases k4 : t.fG = 4
  ·simp only [k4, beq_self_eq_true, AN, if_true]
   cases hr : sq t.fK f f
   ·rfl
   ·have h7 := Pc hr
    simp only [zB9, Ao]
    rw [RD N t (by omega) hN (fun row hm => by have := h7.2 row hm; omega)]
    cases Kb t.fK <;> simp [BI]
  ·have : (t.fG == 4) = false := beq_eq_false_iff_ne.2 k4
   rw [this, Ao]
   simp only [k4, if_false, zE0, AN]
   by_cases hr : t.fK.length = 0
   ·rw [RD N t (by omega) hN (fun row hm => by rw [zD3 hr] at hm; cases hm), zD3 hr]
    simp [Kb, CR, BI]
   ·rw [decide_eq_true (by omega : 0 < (t.fK.length : Int))]
    simp [hr]
def Gp (p : Aa) (i : Nat) (v : Int) : Option Int :=
 if v < 1 ∨ 6 < v ∨ p.fH.getD i 0 < 0 ∨ v ≤ p.fH.getD i 0 ∨ p.fL.getD i 0 < 0 ∨ v ≤ p.fL.getD i 0 then some 7 else none
def MM (p : Aa) (_ : Nat) (t : Am) : Option Int := if D8 p t = 0 then none else some (D8 p t)
def Bx (p : Aa) : Int :=
 if 6 < p.fA.length ∨ 12 < p.fC.length then 3
 else if p.fH.length ≠ p.fA.length ∨ p.fL.length ≠ p.fA.length then 6
 else ((BI (CR (Gp p) 0 p.fA) (CR (MM p) 0 p.fC)).getD 0)
theorem Fu {α R : Type} {f : Nat → α → Option R} : ∀ {i : Nat} {xs : List α}, CR f i xs = none → ∀ j x, xs[j]? = some x → f (i + j) x = none
 | _, [], _, j, x, hx => by simp at hx
 | i, y :: ys, h, j, x, hx => by
  rw [FN] at h
  split at h
  ·cases h
  ·rename_i h0
   cases j with
   | zero => simp at hx; subst hx; exact h0
   | succ j =>
    have := Fu h j x (by simpa using hx)
    rwa [show i + 1 + j = i + (j + 1) from by omega] at this
theorem Pi {p : Aa} (h : CR (Gp p) 0 p.fA = none) : ∀ v, v ∈ p.fA → 1 ≤ v ∧ v ≤ 6 := by
 intro v hv
 obtain ⟨i, hi⟩ := zB5.1 hv
 have := Fu h i v hi
 unfold Gp at this
 split at this
 ·cases this
 ·rename_i hn
  constructor
  ·exact Int.not_lt.1 fun h => hn (.inl h)
  ·exact Int.not_lt.1 fun h => hn (.inr (.inl h))
theorem Dt {α : Type} {xs : List α} {i : Nat} {d : α} (h : i < xs.length) : Br xs (i : Int) = some (xs.getD i d) := by
 rw [AT, lD]; simp [h]
theorem Vg (N : Nat) (p : Aa) (hN : N ≤ 1000000) (h1 : p.fA.length < N) (h2 : p.fH.length = p.fA.length) (h3 : p.fL.length = p.fA.length) (j : Option Int) :
  Bl N p (fun _ => j) N 0 = BI (CR (Gp p) 0 p.fA) j := by
 have := Cx (Bl N p (fun _ => j)) p.fA j (Gp p)
  (fun n i x hx => by
   have hi := (lI.1 hx).1
   rw [Bl, Az (by omega), AT, hx]
   simp only [oS, Be]
   rw [Dt (d := 0) (by omega), Dt (d := 0) (by omega), AB (by omega)]
   simp only [oS]
   unfold Gp
   generalize p.fH.getD i 0 = a
   generalize p.fL.getD i 0 = b
   by_cases k1 : x < 1 <;> by_cases k2 : 6 < x <;> by_cases k3 : a < 0 <;> by_cases k4 : x ≤ a <;> by_cases k5 : b < 0 <;> by_cases k6 : x ≤ b <;> simp [k1, k2, k3, k4, k5, k6, BI])
  (fun n => by rw [Bl, Ax (by omega)]) N 0 (by omega) (by omega)
 simpa using this
theorem Su (N : Nat) (p : Aa) (hN : N ≤ 1000000) (h1 : p.fA.length < N) (h2 : p.fH.length = p.fA.length) (h3 : p.fL.length = p.fA.length) (j : Option Int) :
  Cb N p (fun _ => j) N 0 = BI (CR (Gp p) 0 p.fA) j := by
 have := Cx (Cb N p (fun _ => j)) p.fA j (Gp p)
  (fun n i x hx => by
   have hi := (lI.1 hx).1
   rw [Cb, Az (by omega), AT, hx]
   simp only [oS, Be, Rq]
   rw [Dt (d := 0) (by omega), Dt (d := 0) (by omega), AB (by omega)]
   simp only [oS]
   unfold Gp
   generalize p.fH.getD i 0 = a
   generalize p.fL.getD i 0 = b
   have e1 : decide (0 ≤ a) = !decide (a < 0) := by rw [← decide_not]; congr 1; simp
   have e2 : decide (a < x) = !decide (x ≤ a) := by rw [← decide_not]; congr 1; simp
   have e3 : decide (0 ≤ b) = !decide (b < 0) := by rw [← decide_not]; congr 1; simp
   have e4 : decide (b < x) = !decide (x ≤ b) := by rw [← decide_not]; congr 1; simp
   rw [e1, e2, e3, e4]
   by_cases k1 : x < 1 <;> by_cases k2 : 6 < x <;> by_cases k3 : a < 0 <;> by_cases k4 : x ≤ a <;> by_cases k5 : b < 0 <;> by_cases k6 : x ≤ b <;> simp [k1, k2, k3, k4, k5, k6, BI])
  (fun n => by rw [Cb, Ax (by omega)]) N 0 (by omega) (by omega)
 simpa using this
theorem Yu (N : Nat) (p : Aa) (hN : N ≤ 1000000) (h6 : 7 ≤ N) (h1 : p.fC.length < N) (hv : ∀ v, v ∈ p.fA → 1 ≤ v ∧ v ≤ 6) (j : Option Int) :
  Bi N p (fun _ => j) N 0 = BI (CR (MM p) 0 p.fC) j := by
 have := Cx (Bi N p (fun _ => j)) p.fC j (MM p)
  (fun n i x hx => by
   have hi := (lI.1 hx).1
   rw [Bi, Az (by omega), AT, hx]
   simp only [oS]
   rw [V7 N p x hN h6 hv, AB (by omega)]
   simp only [oS]
   unfold MM
   by_cases k : D8 p x = 0
   ·simp [k, BI]
   ·rw [bne_iff_ne.2 k, if_neg k]; rfl)
  (fun n => by rw [Bi, Ax (by omega)]) N 0 (by omega) (by omega)
 simpa using this
theorem Ve (N : Nat) (p : Aa) (hN : N ≤ 1000000) (h6 : 7 ≤ N) (h1 : p.fC.length < N) (hv : ∀ v, v ∈ p.fA → 1 ≤ v ∧ v ≤ 6) (j : Option Int) :
  BZ N p (fun _ => j) N 0 = BI (CR (MM p) 0 p.fC) j := by
 have := Cx (BZ N p (fun _ => j)) p.fC j (MM p)
  (fun n i x hx => by
   have hi := (lI.1 hx).1
   rw [BZ, Az (by omega), AT, hx]
   simp only [oS]
   rw [Pq N p x hN h6 hv, AB (by omega)]
   simp only [oS]
   unfold MM
   by_cases k : D8 p x = 0
   ·simp [k, BI]
   ·rw [bne_iff_ne.2 k, if_neg k]; rfl)
  (fun n => by rw [BZ, Ax (by omega)]) N 0 (by omega) (by omega)
 simpa using this
theorem K9 (N : Nat) (p : Aa) (hN : N ≤ 1000000) (h : 20 ≤ N) : BM N p = some (Bx p) := by
 unfold BM Bx
 simp only [Be]
 by_cases k1 : 6 < p.fA.length
 ·rw [Az (by omega)]; simp [k1]
 rw [Ax (by omega)]
 by_cases k2 : 12 < p.fC.length
 ·rw [decide_eq_true (by omega : (12 : Int) < (p.fC.length : Int))]; simp [k2]
 rw [decide_eq_false (by omega : ¬ (12 : Int) < (p.fC.length : Int)), Ao, if_neg (by omega)]
 by_cases k3 : p.fH.length = p.fA.length
 ·by_cases k4 : p.fL.length = p.fA.length
  ·rw [k3, k4]
   simp only [bne_self_eq_false, Ao, ne_eq, not_true_eq_false, or_self, if_false]
   rw [Vg N p hN (by omega) k3 k4]
   cases hs : CR (Gp p) 0 p.fA with
   | some r => rfl
   | none =>
    simp only [BI]
    rw [Yu N p hN (by omega) (by omega) (Pi hs)]
    cases CR (MM p) 0 p.fC <;> rfl
  ·have : ((p.fL.length : Int) != (p.fA.length : Int)) = true := bne_iff_ne.2 (by omega)
   rw [this, k3]; simp [k4]
 ·have : ((p.fH.length : Int) != (p.fA.length : Int)) = true := bne_iff_ne.2 (by omega)
  rw [this]; simp [k3]
theorem JN (N : Nat) (p : Aa) (hN : N ≤ 1000000) (h : 20 ≤ N) : Ci N p = some (Bx p) := by
 unfold Ci Bx
 simp only [Be]
 by_cases k1 : 6 < p.fA.length
 ·rw [Az (by omega)]; simp [k1]
 rw [Ax (by omega)]
 by_cases k2 : 12 < p.fC.length
 ·rw [decide_eq_true (by omega : (12 : Int) < (p.fC.length : Int))]; simp [k2]
 rw [decide_eq_false (by omega : ¬ (12 : Int) < (p.fC.length : Int)), Ao, if_neg (by omega)]
 by_cases k3 : p.fH.length = p.fA.length
 ·by_cases k4 : p.fL.length = p.fA.length
  ·rw [k3, k4]
   simp only [bne_self_eq_false, Ao, ne_eq, not_true_eq_false, or_self, if_false]
   rw [Su N p hN (by omega) k3 k4]
   cases hs : CR (Gp p) 0 p.fA with
   | some r => rfl
   | none =>
    simp only [BI]
    rw [Ve N p hN (by omega) (by omega) (Pi hs)]
    cases CR (MM p) 0 p.fC <;> rfl
  ·have : ((p.fL.length : Int) != (p.fA.length : Int)) = true := bne_iff_ne.2 (by omega)
   rw [this, k3]; simp [k4]
 ·have : ((p.fH.length : Int) != (p.fA.length : Int)) = true := bne_iff_ne.2 (by omega)
  rw [this]; simp [k3]
theorem Kg {n : Int} (h : Mz n) : 0 ≤ n ∧ n ≤ 255 := by
 unfold Mz at h
 simpa [Lit.wf, IntKind.min, IntKind.max, IntKind.signed, IntKind.bits] using h
theorem QP : ∀ k : Fin 256, Dk .u8 0 (k.val : Int) = 0 := by decide +kernel
theorem QR : ∀ k : Fin 256, Dk .u8 (k.val : Int) 0 = (k.val : Int) := by decide +kernel
theorem XX {n : Int} (h : Mz n) : Dk .u8 0 n = 0 := by
 have := Kg h
 obtain ⟨k, rfl⟩ := zA7 this.1
 exact QP ⟨k, by omega⟩
theorem Yi {n : Int} (h : Mz n) : Dk .u8 n 0 = n := by
 have := Kg h
 obtain ⟨k, rfl⟩ := zA7 this.1
 exact QR ⟨k, by omega⟩
theorem DI {α R : Type} {f : Nat → α → Option R} : ∀ {i : Nat} {xs : List α} {r : R}, CR f i xs = some r → ∃ j x, xs[j]? = some x ∧ f (i + j) x = some r
 | _, [], _, h => by cases h
 | i, y :: ys, r, h => by
  rw [FN] at h
  split at h
  ·rename_i r' h0
   cases h
   exact ⟨0, y, rfl, h0⟩
  ·obtain ⟨j, x, h1, h2⟩ := DI h
   exact ⟨j + 1, x, by simpa using h1, by rwa [show i + (j + 1) = i + 1 + j from by omega]⟩
structure Bf (p : Aa) : Prop where
 nv : p.fA.length ≤ 6
 nt : p.fC.length ≤ 12
 now : p.fH.length = p.fA.length
 tgt : p.fL.length = p.fA.length
 ver : ∀ v, v ∈ p.fA → 1 ≤ v ∧ v ≤ 6
 tab : ∀ t, t ∈ p.fC → D8 p t = 0
theorem U3 (l : List (List Bool)) : (Kb l).getD 0 = 0 ∨ (Kb l).getD 0 = 1 := by
 cases h : Kb l with
 | none => exact .inl rfl
 | some r =>
  obtain ⟨j, x, _, h⟩ := DI h
  split at h
  ·cases h
  ·cases h; exact .inr rfl
theorem RT (p : Aa) (t : Am) : D8 p t = 0 ∨ D8 p t = 1 ∨ D8 p t = 4 ∨ D8 p t = 6 := by
 unfold D8
 split
 ·exact .inr (.inl rfl)
 split
 ·exact .inr (.inr (.inl rfl))
 simp only
 split
 ·exact .inr (.inr (.inr rfl))
 split
 ·split
  ·exact .inr (.inr (.inr rfl))
  ·rcases U3 t.fK with h | h
   ·exact .inl h
   ·exact .inr (.inl h)
 ·split
  ·exact .inl rfl
  ·exact .inr (.inr (.inr rfl))
theorem Im (p : Aa) : (Bx p = 0 ∧ Bf p) ∨ (Bx p = 1 ∨ Bx p = 3 ∨ Bx p = 4 ∨ Bx p = 6 ∨ Bx p = 7) := by
 unfold Bx
 split
 ·simp
 rename_i k1
 split
 ·simp
 rename_i k2
 cases hs : CR (Gp p) 0 p.fA with
 | some r =>
  obtain ⟨j, x, _, h⟩ := DI hs
  unfold Gp at h
  split at h
  ·cases h; simp [BI]
  ·cases h
 | none =>
  cases ht : CR (MM p) 0 p.fC with
  | some r =>
   obtain ⟨j, t, _, h⟩ := DI ht
   unfold MM at h
   split at h
   ·cases h
   ·rename_i hne
    cases h
    simp only [BI, zC9]
    right
    rcases RT p t with h | h | h | h
    ·exact (hne h).elim
    ·exact .inl h
    ·exact .inr (.inr (.inl h))
    ·exact .inr (.inr (.inr (.inl h)))
  | none =>
   left
   refine ⟨rfl, by omega, by omega, by omega, by omega, Pi hs, fun t hm => ?_⟩
   obtain ⟨j, hj⟩ := zB5.1 hm
   have := Fu ht j t hj
   unfold MM at this
   split at this
   ·assumption
   ·cases this
def HJ (m : Ab) (s : Nat) : Int :=
 if 0 ≤ m.fB.getD s 0 then QC .u8 (D6 .u8 1 (m.fD.getD s 0)) (D6 .u8 1 (m.fB.getD s 0)) else D6 .u8 1 (m.fD.getD s 0)
def LZ (m : Ab) (i : Nat) (v : Int) : Option Int :=
 if m.fD.getD i 0 < 0 ∨ v ≤ m.fD.getD i 0 ∨ m.fB.getD i 0 < -1 ∨ v ≤ m.fB.getD i 0 then some 7
 else if m.fD.getD i 0 = m.fB.getD i 0 then some 1 else none
def B6 (t : Am) : Bool := t.fG == 3 || t.fG == 4
def Zt (p : Aa) (t : Am) : Int := wI .u8 (D6 .u8 1 (p.fA.getD t.fF.toNat 0) - 1)
def Jx (p : Aa) (m : Ab) (i : Nat) (t : Am) : Option Int :=
 if B6 t = true then (if Dk .u8 (HJ m t.fF.toNat) (m.fE.getD i 0) ≠ 0 ∨ Dk .u8 (m.fE.getD i 0) (Zt p t) ≠ 0 then some 1 else none)
 else if m.fE.getD i 0 ≠ 0 then some 1 else none
def B0 (p : Aa) (m : Ab) : Int :=
 if Bx p ≠ 0 then Bx p
 else if m.fD.length ≠ p.fA.length ∨ m.fB.length ≠ p.fA.length ∨ m.fE.length ≠ p.fC.length then 6
 else (BI (CR (LZ m) 0 p.fA) (CR (Jx p m) 0 p.fC)).getD 0
theorem J2 {p : Aa} {t : Am} (h : D8 p t = 0) : 0 ≤ t.fF ∧ t.fF < (p.fA.length : Int) ∧ 0 ≤ t.fJ ∧ t.fJ < (p.fA.length : Int) := by
 unfold D8 at h
 split at h
 ·cases h
 ·split at h
  ·cases h
  ·omega
theorem Nf (N : Nat) (m : Ab) (s : Int) (h0 : 0 ≤ s) (h1 : s < (m.fD.length : Int)) (h2 : s < (m.fB.length : Int)) (hb : 0 ≤ m.fD.getD s.toNat 0) : FB N m s = some (HJ m s.toNat) := by
 unfold FB HJ
 rw [Em (d := 0) h0 h1, Em (d := 0) h0 h2]
 simp only [oS, Be]
 rw [show DN (0 ≤ m.fD.getD s.toNat 0) = some () from by unfold DN; rw [if_pos hb]]
 simp only [oS]
 by_cases h : 0 ≤ m.fB.getD s.toNat 0
 ·rw [Az h, if_pos h, show DN (0 ≤ m.fB.getD s.toNat 0) = some () from by unfold DN; rw [if_pos h]]; rfl
 ·rw [Ax h, if_neg h]
theorem Lp (N : Nat) (m : Ab) (s : Int) (h0 : 0 ≤ s) (h1 : s < (m.fD.length : Int)) (h2 : s < (m.fB.length : Int)) (hb : 0 ≤ m.fD.getD s.toNat 0) : B5 N m s = some (HJ m s.toNat) := by
 unfold B5 HJ
 rw [Em (d := 0) h0 h1, Em (d := 0) h0 h2]
 simp only [oS, Be]
 rw [show DN (0 ≤ m.fD.getD s.toNat 0) = some () from by unfold DN; rw [if_pos hb]]
 simp only [oS]
 by_cases h : 0 ≤ m.fB.getD s.toNat 0
 ·rw [Az h, if_pos h, show DN (0 ≤ m.fB.getD s.toNat 0) = some () from by unfold DN; rw [if_pos h]]; rfl
 ·rw [Ax h, if_neg h]
theorem Si (N : Nat) (p : Aa) (m : Ab) (hN : N ≤ 1000000) (h1 : p.fA.length < N) (h2 : m.fD.length = p.fA.length) (h3 : m.fB.length = p.fA.length) (j : Option Int) :
  ED N p m (fun _ => j) N 0 = BI (CR (LZ m) 0 p.fA) j := by
 have := Cx (ED N p m (fun _ => j)) p.fA j (LZ m)
  (fun n i x hx => by
   have hi := (lI.1 hx).1
   rw [ED, Az (by omega), AT, hx]
   simp only [oS, Be]
   rw [Dt (d := 0) (by omega), Dt (d := 0) (by omega), AB (by omega)]
   simp only [oS]
   unfold LZ
   generalize m.fD.getD i 0 = a
   generalize m.fB.getD i 0 = b
   by_cases k7 : a = b
   ·subst k7
    by_cases k3 : a < 0 <;> by_cases k4 : x ≤ a <;> by_cases k5 : a < -1 <;> simp [k3, k4, k5, BI]
   ·have k8 : (a == b) = false := beq_eq_false_iff_ne.2 k7
    by_cases k3 : a < 0 <;> by_cases k4 : x ≤ a <;> by_cases k5 : b < -1 <;> by_cases k6 : x ≤ b <;> simp [k3, k4, k5, k6, k7, k8, BI])
  (fun n => by rw [ED, Ax (by omega)]) N 0 (by omega) (by omega)
 simpa using this
theorem SG (N : Nat) (p : Aa) (m : Ab) (hN : N ≤ 1000000) (h1 : p.fA.length < N) (h2 : m.fD.length = p.fA.length) (h3 : m.fB.length = p.fA.length) (j : Option Int) :
  Cn N p m (fun _ => j) N 0 = BI (CR (LZ m) 0 p.fA) j := by
 have := Cx (Cn N p m (fun _ => j)) p.fA j (LZ m)
  (fun n i x hx => by
   have hi := (lI.1 hx).1
   rw [Cn, Az (by omega), show Br p.fA (i : Int) = some x from by rw [AT, hx]]
   simp only [oS, Be]
   rw [Dt (d := 0) (by omega), Dt (d := 0) (by omega), AB (by omega)]
   simp only [oS]
   unfold LZ
   generalize m.fD.getD i 0 = a
   generalize m.fB.getD i 0 = b
   by_cases k7 : a = b
   ·subst k7
    by_cases k3 : a < 0 <;> by_cases k4 : x ≤ a <;> by_cases k5 : a < -1 <;> simp [k3, k4, k5, BI]
   ·have k8 : (a == b) = false := beq_eq_false_iff_ne.2 k7
    by_cases k3 : a < 0 <;> by_cases k4 : x ≤ a <;> by_cases k5 : b < -1 <;> by_cases k6 : x ≤ b <;> simp [k3, k4, k5, k6, k7, k8, BI])
  (fun n => by rw [Cn, Ax (by omega)]) N 0 (by omega) (by omega)
 simpa using this
structure MixServ (p : Aa) (m : Ab) : Prop where
 base : m.fD.length = p.fA.length
 next : m.fB.length = p.fA.length
 held : m.fE.length = p.fC.length
 b0 : ∀ i, i < p.fA.length → 0 ≤ m.fD.getD i 0 ∧ m.fD.getD i 0 < p.fA.getD i 0
 n0 : ∀ i, i < p.fA.length → -1 ≤ m.fB.getD i 0 ∧ m.fB.getD i 0 < p.fA.getD i 0
 ne : ∀ i, i < p.fA.length → m.fD.getD i 0 ≠ m.fB.getD i 0
theorem RY {p : Aa} {m : Ab} (h2 : m.fD.length = p.fA.length) (h3 : m.fB.length = p.fA.length) (h4 : m.fE.length = p.fC.length) (h : CR (LZ m) 0 p.fA = none) : MixServ p m := by
 have key : ∀ i, i < p.fA.length → ¬ (m.fD.getD i 0 < 0 ∨ p.fA.getD i 0 ≤ m.fD.getD i 0 ∨ m.fB.getD i 0 < -1 ∨ p.fA.getD i 0 ≤ m.fB.getD i 0) ∧ ¬ m.fD.getD i 0 = m.fB.getD i 0 := by
  intro i hi
  have hx : p.fA[i]? = some (p.fA.getD i 0) := by rw [lD]; simp [hi]
  have := Fu h i _ hx
  rw [zA1] at this
  unfold LZ at this
  split at this
  ·cases this
  ·split at this
   ·cases this
   ·rename_i k1 k2; exact ⟨k1, k2⟩
 exact ⟨h2, h3, h4, fun i hi => by have := (key i hi).1; omega, fun i hi => by have := (key i hi).1; omega, fun i hi => (key i hi).2⟩
theorem Ug {m : Ab} (hw : O8 Mz m.fE) {i : Nat} (h : i < m.fE.length) : Mz (m.fE.getD i 0) := by
 refine hw _ ?_
 rw [lD, zD0 h]
 exact zG1 _
theorem KB (N : Nat) (t : Am) : F8 N t = some (B6 t) := by
 unfold F8 B6
 simp only [Be]
 cases h : t.fG == 3 <;> simp
theorem HH (N : Nat) (t : Am) : Bc N t = some (B6 t) := Ox N t
theorem UJ (N : Nat) (p : Aa) (m : Ab) (hN : N ≤ 1000000) (h1 : p.fC.length < N) (hp : Bf p) (hm : MixServ p m) (hw : O8 Mz m.fE) (j : Option Int) :
  Eb N p m (fun _ => j) N 0 = BI (CR (Jx p m) 0 p.fC) j := by
 have := Cx (Eb N p m (fun _ => j)) p.fC j (Jx p m)
  (fun n i x hx => by
   have hi := (lI.1 hx).1
   have hin := J2 (hp.tab x (lM hx))
   have hheld := Ug hw (show i < m.fE.length from by rw [hm.held]; exact hi)
   have hv := Kx hp.ver hin.1 hin.2.1
   rw [Eb, Az (by omega), AT, hx]
   simp only [oS, Be, KB]
   rw [Nf N m x.fF hin.1 (by rw [hm.base]; exact hin.2.1) (by rw [hm.next]; exact hin.2.1) (hm.b0 _ (by omega)).1, Em (d := 0) hin.1 hin.2.1, Dt (d := 0) (show i < m.fE.length from by rw [hm.held]; exact hi), AB (by omega)]
   simp only [oS]
   rw [show DN (0 ≤ p.fA.getD x.fF.toNat 0) = some () from by unfold DN; rw [if_pos (by omega)]]
   simp only [oS]
   unfold Jx Zt
   rw [XX hheld, Yi hheld]
   generalize Dk .u8 (HJ m x.fF.toNat) (m.fE.getD i 0) = A
   generalize Dk .u8 (m.fE.getD i 0) (wI .u8 (D6 .u8 1 (p.fA.getD x.fF.toNat 0) - 1)) = B
   generalize m.fE.getD i 0 = H
   cases B6 x
   ·simp only [Ao, bne_self_eq_false]
    by_cases k : H = 0
    ·simp [k, BI]
    ·have : (H != 0) = true := bne_iff_ne.2 k
     simp [k, this, BI]
   ·simp only [AN]
    by_cases k : A = 0
    ·by_cases k2 : B = 0
     ·simp [k, k2, BI]
     ·have : (B != 0) = true := bne_iff_ne.2 k2
      simp [k, k2, this, BI]
    ·have : (A != 0) = true := bne_iff_ne.2 k
     simp [k, this, BI])
  (fun n => by rw [Eb, Ax (by omega)]) N 0 (by omega) (by omega)
 simpa using this
theorem Vb (N : Nat) (p : Aa) (m : Ab) (hN : N ≤ 1000000) (h1 : p.fC.length < N) (hp : Bf p) (hm : MixServ p m) (j : Option Int) :
  Ca N p m (fun _ => j) N 0 = BI (CR (Jx p m) 0 p.fC) j := by
 have := Cx (Ca N p m (fun _ => j)) p.fC j (Jx p m)
  (fun n i x hx => by
   have hi := (lI.1 hx).1
   have hin := J2 (hp.tab x (lM hx))
   have hv := Kx hp.ver hin.1 hin.2.1
   rw [Ca, Az (by omega), AT, hx]
   simp only [oS, Be, HH]
   rw [Lp N m x.fF hin.1 (by rw [hm.base]; exact hin.2.1) (by rw [hm.next]; exact hin.2.1) (hm.b0 _ (by omega)).1, Em (d := 0) hin.1 hin.2.1, Dt (d := 0) (show i < m.fE.length from by rw [hm.held]; exact hi), AB (by omega)]
   simp only [oS]
   rw [show DN (0 ≤ p.fA.getD x.fF.toNat 0) = some () from by unfold DN; rw [if_pos (by omega)]]
   simp only [oS]
   unfold Jx Zt
   generalize Dk .u8 (HJ m x.fF.toNat) (m.fE.getD i 0) = A
   generalize Dk .u8 (m.fE.getD i 0) (wI .u8 (D6 .u8 1 (p.fA.getD x.fF.toNat 0) - 1)) = B
   generalize m.fE.getD i 0 = H
   cases B6 x
   ·simp only [zE0, AN, Ao]
    by_cases k : H = 0
    ·simp [k, BI]
    ·have : (H != 0) = true := bne_iff_ne.2 k
     simp [k, this, BI]
   ·simp only [zB9, Ao, AN]
    by_cases k : A = 0
    ·by_cases k2 : B = 0
     ·simp [k, k2, BI]
     ·have : (B != 0) = true := bne_iff_ne.2 k2
      simp [k, k2, this, BI]
    ·have : (A != 0) = true := bne_iff_ne.2 k
     by_cases k2 : B = 0
     ·simp [k, k2, this, BI]
     ·have h5 : (B != 0) = true := bne_iff_ne.2 k2
      simp [k, h5, BI])
  (fun n => by rw [Ca, Ax (by omega)]) N 0 (by omega) (by omega)
 simpa using this
theorem IB (N : Nat) (p : Aa) (m : Ab) (hN : N ≤ 1000000) (h : 20 ≤ N) (hw : O8 Mz m.fE) : FY N p m = some (B0 p m) := by
 unfold FY B0
 rw [JN N p hN h]
 simp only [oS, Be]
 by_cases k0 : Bx p = 0
 ·have hp : Bf p := by
   rcases Im p with h | h
   ·exact h.2
   ·omega
  have hnv := hp.nv
  have hnt := hp.nt
  rw [k0]
  simp only [bne_self_eq_false, Ao, ne_eq, not_true_eq_false, if_false]
  by_cases k1 : m.fD.length = p.fA.length
  ·by_cases k2 : m.fB.length = p.fA.length
   ·by_cases k3 : m.fE.length = p.fC.length
    ·rw [k1, k2, k3]
     simp only [bne_self_eq_false, Ao, not_true_eq_false, or_self, if_false]
     rw [Si N p m hN (by omega) k1 k2]
     cases hs : CR (LZ m) 0 p.fA with
     | some r => rfl
     | none =>
      simp only [BI]
      rw [UJ N p m hN (by omega) hp (RY k1 k2 k3 hs) hw]
      cases CR (Jx p m) 0 p.fC <;> rfl
    ·have : ((m.fE.length : Int) != (p.fC.length : Int)) = true := bne_iff_ne.2 (by omega)
     rw [this, k1, k2]; simp [k3]
   ·have : ((m.fB.length : Int) != (p.fA.length : Int)) = true := bne_iff_ne.2 (by omega)
    rw [this, k1]; simp [k2]
  ·have : ((m.fD.length : Int) != (p.fA.length : Int)) = true := bne_iff_ne.2 (by omega)
   rw [this]; simp [k1]
 ·rw [bne_iff_ne.2 k0]; simp [k0]
theorem SM (N : Nat) (p : Aa) (m : Ab) (hN : N ≤ 1000000) (h : 20 ≤ N) : EZ N p m = some (B0 p m) := by
 unfold EZ B0
 rw [K9 N p hN h]
 simp only [oS, Be]
 by_cases k0 : Bx p = 0
 ·have hp : Bf p := by
   rcases Im p with h | h
   ·exact h.2
   ·omega
  have hnv := hp.nv
  have hnt := hp.nt
  rw [k0]
  simp only [bne_self_eq_false, Ao, ne_eq, not_true_eq_false, if_false]
  by_cases k1 : m.fD.length = p.fA.length
  ·by_cases k2 : m.fB.length = p.fA.length
   ·by_cases k3 : m.fE.length = p.fC.length
    ·rw [k1, k2, k3]
     simp only [bne_self_eq_false, Ao, not_true_eq_false, or_self, if_false]
     rw [SG N p m hN (by omega) k1 k2]
     cases hs : CR (LZ m) 0 p.fA with
     | some r => rfl
     | none =>
      simp only [BI]
      rw [Vb N p m hN (by omega) hp (RY k1 k2 k3 hs)]
      cases CR (Jx p m) 0 p.fC <;> rfl
    ·have : ((m.fE.length : Int) != (p.fC.length : Int)) = true := bne_iff_ne.2 (by omega)
     rw [this, k1, k2]; simp [k3]
   ·have : ((m.fB.length : Int) != (p.fA.length : Int)) = true := bne_iff_ne.2 (by omega)
    rw [this, k1]; simp [k2]
  ·have : ((m.fD.length : Int) != (p.fA.length : Int)) = true := bne_iff_ne.2 (by omega)
   rw [this]; simp [k1]
 ·rw [bne_iff_ne.2 k0]; simp [k0]
theorem Sz (p : Aa) (m : Ab) : B0 p m = 0 ∨ B0 p m = 1 ∨ B0 p m = 3 ∨ B0 p m = 4 ∨ B0 p m = 6 ∨ B0 p m = 7 := by
 unfold B0
 split
 ·rename_i h
  rcases Im p with h1 | h1
  ·exact (h h1.1).elim
  ·exact .inr h1
 split
 ·simp
 cases hs : CR (LZ m) 0 p.fA with
 | some r =>
  obtain ⟨j, x, _, h⟩ := DI hs
  unfold LZ at h
  split at h
  ·cases h; simp [BI]
  ·split at h
   ·cases h; simp [BI]
   ·cases h
 | none =>
  cases ht : CR (Jx p m) 0 p.fC with
  | some r =>
   obtain ⟨j, x, _, h⟩ := DI ht
   unfold Jx at h
   split at h
   ·split at h
    ·cases h; simp [BI]
    ·cases h
   ·split at h
    ·cases h; simp [BI]
    ·cases h
  | none => simp [BI]
@[simp] theorem Bd {α β : Type} (k : α) (f : α → β) : Be k f = f k := rfl
@[simp] theorem Yt {p : Prop} [Decidable p] (h : p) : DN p = some () := by unfold DN; rw [if_pos h]
theorem As {β : Type} {p : Prop} [Decidable p] (h : p) (f : Unit → Option β) : (DN p).bind f = f () := by rw [Yt h]; rfl
def CS {α β : Type} (g : Nat → α → List β) : Nat → List α → List β
 | _, [] => []
 | i, x :: xs => g i x ++ CS g (i + 1) xs
def Jp {α A : Type} (f : Nat → α → A → A) : Nat → List α → A → A
 | _, [], a => a
 | i, x :: xs, a => Jp f (i + 1) xs (f i x a)
theorem NE {α β : Type} (g : Nat → α → List β) : ∀ (i : Nat) (xs ys : List α), CS g i (xs ++ ys) = CS g i xs ++ CS g (i + xs.length) ys
 | i, [], ys => by simp [CS]
 | i, x :: xs, ys => by
  rw [zH7, CS, CS, NE g (i + 1) xs ys, zD7, zC1, zF4, Nat.add_comm 1]
theorem Hv {α β : Type} {g : Nat → α → List β} {y : β} : ∀ {i : Nat} {xs : List α}, y ∈ CS g i xs ↔ ∃ j x, xs[j]? = some x ∧ y ∈ g (i + j) x
 | _, [] => by simp [CS]
 | i, x :: xs => by
  rw [CS, zC4, Hv]
  constructor
  ·rintro (h | ⟨j, z, hz, h⟩)
   ·exact ⟨0, x, rfl, h⟩
   ·exact ⟨j + 1, z, by simpa using hz, by rwa [show i + (j + 1) = i + 1 + j from by omega]⟩
  ·rintro ⟨j, z, hz, h⟩
   cases j with
   | zero => simp at hz; subst hz; exact .inl h
   | succ j => exact .inr ⟨j, z, by simpa using hz, by rwa [show i + 1 + j = i + (j + 1) from by omega]⟩
theorem Gr {α β : Type} {g : Nat → α → List β} {c : Nat} : ∀ {i : Nat} {xs : List α}, (∀ j x, xs[j]? = some x → (g (i + j) x).length ≤ c) → (CS g i xs).length ≤ c * xs.length
 | _, [], _ => by simp [CS]
 | i, x :: xs, h => by
  have h1 := h 0 x rfl
  have h2 := Gr (g := g) (c := c) (i := i + 1) (xs := xs) fun j y hy => by
   have := h (j + 1) y (by simpa using hy)
   rwa [show i + (j + 1) = i + 1 + j from by omega] at this
  rw [CS, zB7, zC1, Nat.mul_add]
  simp only [zG4] at h1
  omega
theorem Ic {α A S R : Type} (L : Nat → S → Option R) (mk : A → Int → S) (xs : List α) (j : A → Option R) (f : Nat → α → A → A) (I : Nat → A → Prop)
  (hs : ∀ (n i : Nat) (x : α) (a : A), xs[i]? = some x → I i a → L (n + 1) (mk a (i : Int)) = L n (mk (f i x a) ((i + 1 : Nat) : Int)) ∧ I (i + 1) (f i x a))
  (he : ∀ (n : Nat) (a : A), I xs.length a → L (n + 1) (mk a (xs.length : Int)) = j a) :
  ∀ (n i : Nat) (a : A), i ≤ xs.length → xs.length - i < n → I i a → L n (mk a (i : Int)) = j (Jp f i (xs.drop i) a) ∧ I xs.length (Jp f i (xs.drop i) a)
 | 0, i, _, _, h, _ => by omega
 | n + 1, i, a, hi, h, ha => by
  by_cases h1 : i < xs.length
  ·have hx : xs[i]? = some xs[i] := by simp [h1]
   obtain ⟨e1, e2⟩ := hs n i _ a hx ha
   rw [e1, C9 hx, Jp]
   exact Ic L mk xs j f I hs he n (i + 1) _ (by omega) (by omega) e2
  ·have : i = xs.length := by omega
   subst this
   rw [zB2 (zB0 _), Jp]
   exact ⟨he n a ha, ha⟩
theorem Qq {α β : Type} (g : Nat → α → List β) : ∀ (i : Nat) (xs : List α) (acc : List β), Jp (fun i x a => a ++ g i x) i xs acc = acc ++ CS g i xs
 | _, [], acc => by simp [Jp, CS]
 | i, x :: xs, acc => by rw [Jp, Qq g (i + 1) xs, CS, zD7]
theorem FQ {α β S R : Type} (L : Nat → S → Option R) (mk : List β → Int → S) (xs : List α) (j : List β → Option R) (g : Nat → α → List β) (c B : Nat)
  (hg : ∀ i x, xs[i]? = some x → (g i x).length ≤ c)
  (hs : ∀ (n i : Nat) (x : α) (a : List β), xs[i]? = some x → a.length + (g i x).length ≤ B → L (n + 1) (mk a (i : Int)) = L n (mk (a ++ g i x) ((i + 1 : Nat) : Int)))
  (he : ∀ (n : Nat) (a : List β), L (n + 1) (mk a (xs.length : Int)) = j a) (n : Nat) (a : List β) (hn : xs.length < n) (ha : a.length + c * xs.length ≤ B) :
  L n (mk a 0) = j (a ++ CS g 0 xs) := by
 have := Ic L mk xs j (fun i x a => a ++ g i x) (fun i b => i ≤ xs.length ∧ b.length ≤ a.length + c * i)
  (fun n i x b hx hb => by
   have h1 := hg i x hx
   have hi := (lI.1 hx).1
   have h2 : c * (i + 1) ≤ c * xs.length := Nat.mul_le_mul_left c hi
   have h3 : c * (i + 1) = c * i + c := Nat.mul_succ c i
   refine ⟨hs n i x b hx (by have := hb.2; omega), hi, ?_⟩
   rw [zB7]
   have := hb.2
   omega)
  (fun n b _ => he n b) n 0 a (zA9 _) (by omega) ⟨zA9 _, by omega⟩
 have h2 := this.1
 rw [zC0, Qq] at h2
 exact h2
def Ee (s : Int) (v : Nat) : Bool := s.toNat.testBit v
def JI (m : Ab) (s v : Nat) : Bool := decide (m.fD.getD s 0 = (v : Int)) || decide (m.fB.getD s 0 = (v : Int))
theorem Zk : ∀ (s : Fin 256) (v : Fin 8), AK .u8 (A2 .u8 (s.val : Int) (v.val : Int)) 1 = if Ee (s.val : Int) v.val then 1 else 0 := by decide +kernel
theorem So {s : Int} {v : Nat} (h0 : 0 ≤ s) (h1 : s ≤ 255) (hv : v < 8) : AK .u8 (A2 .u8 s (v : Int)) 1 = if Ee s v then 1 else 0 := by
 obtain ⟨k, rfl⟩ := zA7 h0
 exact Zk ⟨k, by omega⟩ ⟨v, hv⟩
theorem Tc {s : Int} {v : Nat} (h0 : 0 ≤ s) (h1 : s ≤ 255) (hv : v < 8) : (AK .u8 (A2 .u8 s (v : Int)) 1 == 0) = !Ee s v := by
 rw [So h0 h1 hv]; cases Ee s v <;> rfl
theorem T5 {s : Int} {v : Nat} (h0 : 0 ≤ s) (h1 : s ≤ 255) (hv : v < 8) : (AK .u8 (A2 .u8 s (v : Int)) 1 == 1) = Ee s v := by
 rw [So h0 h1 hv]; cases Ee s v <;> rfl
theorem Lb {s : Int} {v : Nat} (h1 : s ≤ 255) (hv : 8 ≤ v) : Ee s v = false := by
 unfold Ee
 apply Nat.testBit_lt_two_pow
 have : (2 : Nat) ^ 8 ≤ 2 ^ v := Nat.pow_le_pow_right (by omega) hv
 omega
theorem Le : ∀ (b : Fin 8) (v : Fin 8), Ee (D6 .u8 1 (b.val : Int)) v.val = decide (b.val = v.val) ∧ 0 ≤ D6 .u8 1 (b.val : Int) ∧ D6 .u8 1 (b.val : Int) ≤ 255 := by decide +kernel
theorem Zx : ∀ (b n : Fin 8) (v : Fin 8), Ee (QC .u8 (D6 .u8 1 (b.val : Int)) (D6 .u8 1 (n.val : Int))) v.val = (decide (b.val = v.val) || decide (n.val = v.val))
  ∧ 0 ≤ QC .u8 (D6 .u8 1 (b.val : Int)) (D6 .u8 1 (n.val : Int)) ∧ QC .u8 (D6 .u8 1 (b.val : Int)) (D6 .u8 1 (n.val : Int)) ≤ 255 := by decide +kernel
theorem XB {m : Ab} {s : Nat} (hb0 : 0 ≤ m.fD.getD s 0) (hb1 : m.fD.getD s 0 < 8) (hn1 : m.fB.getD s 0 < 8) :
  (∀ v, Ee (HJ m s) v = JI m s v) ∧ 0 ≤ HJ m s ∧ HJ m s ≤ 255 := by
 unfold HJ JI
 obtain ⟨b, hb⟩ := zA7 hb0
 rw [hb] at hb1 ⊢
 by_cases h : 0 ≤ m.fB.getD s 0
 ·obtain ⟨n, hn⟩ := zA7 h
  rw [hn] at hn1 ⊢
  rw [if_pos (by omega)]
  have h1 := Zx ⟨b, by omega⟩ ⟨n, by omega⟩
  refine ⟨fun v => ?_, (h1 0).2⟩
  by_cases hv : v < 8
  ·rw [(h1 ⟨v, hv⟩).1]
   simp only [zK7]
  ·rw [Lb (h1 0).2.2 (by omega)]
   simp; omega
 ·rw [if_neg h]
  have h1 := Le ⟨b, by omega⟩
  refine ⟨fun v => ?_, (h1 0).2⟩
  have h3 : decide (m.fB.getD s 0 = (v : Int)) = false := decide_eq_false (by omega)
  rw [h3, Bool.or_false]
  by_cases hv : v < 8
  ·rw [(h1 ⟨v, hv⟩).1]
   simp only [zK7]
  ·rw [Lb (h1 0).2.2 (by omega)]
   simp; omega
theorem Xn {a : Nat} (h : a < 256) : (BitVec.ofInt 8 (a : Int)).toNat = a := by
 simp; omega
theorem PZ {a b : Int} (ha : 0 ≤ a ∧ a ≤ 255) (hb : 0 ≤ b ∧ b ≤ 255) : Dk .u8 a b = 0 ↔ ∀ v, Ee a v = true → Ee b v = true := by
 obtain ⟨a, rfl⟩ := zA7 ha.1
 obtain ⟨b, rfl⟩ := zA7 hb.1
 have hA := Xn (a := a) (by omega)
 have hB := Xn (a := b) (by omega)
 unfold Dk Ee
 simp only [IntKind.bits, zB3]
 have hx : ∀ x : BitVec 8, wI .u8 (x.toNat : Int) = (x.toNat : Int) := by
  intro x
  have := x.isLt
  simp [wI, IntKind.signed, IntKind.bits]
  omega
 rw [hx]
 constructor
 ·intro h v hv
  have h0 : (BitVec.ofInt 8 (a : Int) &&& ~~~BitVec.ofInt 8 (b : Int)) = (BitVec.ofNat 8 0) := by
   apply BitVec.eq_of_toNat_eq
   simp only [BitVec.toNat_ofNat, Nat.zero_mod]
   exact zK7.1 h
  by_cases hv8 : v < 8
  ·have h1 : (BitVec.ofInt 8 (a : Int) &&& ~~~BitVec.ofInt 8 (b : Int)).getLsbD v = false := by rw [h0]; simp
   rw [BitVec.getLsbD_and, BitVec.getLsbD_not] at h1
   have e1 : (BitVec.ofInt 8 (a : Int)).getLsbD v = a.testBit v := by unfold BitVec.getLsbD; rw [hA]
   have e2 : (BitVec.ofInt 8 (b : Int)).getLsbD v = b.testBit v := by unfold BitVec.getLsbD; rw [hB]
   rw [e1, e2, hv] at h1
   simpa [hv8] using h1
  ·have := Lb (s := (a : Int)) (v := v) (by omega) (by omega)
   unfold Ee at this
   rw [zB3, hv] at this
   cases this
 ·intro h
  have h0 : (BitVec.ofInt 8 (a : Int) &&& ~~~BitVec.ofInt 8 (b : Int)) = (BitVec.ofNat 8 0) := by
   apply BitVec.eq_of_getLsbD_eq
   intro i hi
   rw [BitVec.getLsbD_and, BitVec.getLsbD_not]
   have e1 : (BitVec.ofInt 8 (a : Int)).getLsbD i = a.testBit i := by unfold BitVec.getLsbD; rw [hA]
   have e2 : (BitVec.ofInt 8 (b : Int)).getLsbD i = b.testBit i := by unfold BitVec.getLsbD; rw [hB]
   rw [e1, e2]
   have := h i
   cases h3 : a.testBit i
   ·simp
   ·rw [this h3]; simp
  have h2 : ∀ x : BitVec 8, x = (BitVec.ofNat 8 0) → (x.toNat : Int) = 0 := fun x hx => by rw [hx]; rfl
  exact h2 _ h0
theorem Zl : ∀ n : Fin 9, (∀ v : Fin 8, Ee (wI .u8 (D6 .u8 1 (n.val : Int) - 1)) v.val = decide (v.val < n.val)) ∧ 0 ≤ wI .u8 (D6 .u8 1 (n.val : Int) - 1) ∧ wI .u8 (D6 .u8 1 (n.val : Int) - 1) ≤ 255 := by decide +kernel
theorem Zq {n : Int} (h0 : 0 ≤ n) (h1 : n ≤ 8) : (∀ v, Ee (wI .u8 (D6 .u8 1 n - 1)) v = decide ((v : Int) < n)) ∧ 0 ≤ wI .u8 (D6 .u8 1 n - 1) ∧ wI .u8 (D6 .u8 1 n - 1) ≤ 255 := by
 obtain ⟨n, rfl⟩ := zA7 h0
 have h := Zl ⟨n, by omega⟩
 refine ⟨fun v => ?_, h.2⟩
 by_cases hv : v < 8
 ·rw [h.1 ⟨v, hv⟩]; simp
 ·rw [Lb h.2.2 (by omega)]
  symm; apply decide_eq_false; omega
structure Bz (p : Aa) (m : Ab) : Prop extends MixServ p m where
 range : ∀ i, i < p.fC.length → 0 ≤ m.fE.getD i 0 ∧ m.fE.getD i 0 ≤ 255
 low : ∀ i t, p.fC[i]? = some t → B6 t = true → ∀ v, JI m t.fF.toNat v = true → Ee (m.fE.getD i 0) v = true
 high : ∀ i t, p.fC[i]? = some t → B6 t = true → ∀ v, Ee (m.fE.getD i 0) v = true → (v : Int) < p.fA.getD t.fF.toNat 0
 none : ∀ i t, p.fC[i]? = some t → B6 t = false → m.fE.getD i 0 = 0
theorem Jf {p : Aa} (hp : Bf p) {i : Nat} (hi : i < p.fA.length) : 1 ≤ p.fA.getD i 0 ∧ p.fA.getD i 0 ≤ 6 := by
 have := Kx (i := (i : Int)) hp.ver (by omega) (by omega)
 simpa using this
theorem I7 {p : Aa} {m : Ab} (hp : Bf p) (hm : MixServ p m) {s : Nat} (hs : s < p.fA.length) :
  (∀ v, Ee (HJ m s) v = JI m s v) ∧ 0 ≤ HJ m s ∧ HJ m s ≤ 255 := by
 have h1 := hm.b0 s hs
 have h2 := hm.n0 s hs
 have h3 := Jf hp hs
 exact XB h1.1 (by omega) (by omega)
theorem Ty {p : Aa} {m : Ab} (hp : Bf p) (hm : MixServ p m) {i : Nat} {t : Am} (ht : p.fC[i]? = some t) (hr : 0 ≤ m.fE.getD i 0 ∧ m.fE.getD i 0 ≤ 255) :
  Jx p m i t = none ↔ ((B6 t = true → (∀ v, JI m t.fF.toNat v = true → Ee (m.fE.getD i 0) v = true) ∧ (∀ v, Ee (m.fE.getD i 0) v = true → (v : Int) < p.fA.getD t.fF.toNat 0)) ∧ (B6 t = false → m.fE.getD i 0 = 0)) := by
 have hin := J2 (hp.tab t (lM ht))
 have hrun := I7 hp hm (s := t.fF.toNat) (by omega)
 have hver := Jf hp (i := t.fF.toNat) (by omega)
 have hall := Zq (n := p.fA.getD t.fF.toNat 0) (by omega) (by omega)
 unfold Jx Zt
 have e1 := PZ hrun.2 hr
 have e2 := PZ hr hall.2
 cases hst : B6 t
 ·simp
 ·simp only [if_true, true_implies, Bool.true_eq_false, false_implies, and_true, ite_eq_right_iff, reduceCtorEq, imp_false, not_or, Decidable.not_not]
  rw [e1, e2]
  simp only [hrun.1, hall.1, decide_eq_true_eq]
theorem KS {p : Aa} {m : Ab} (hw : O8 Mz m.fE) (h : B0 p m = 0) : Bf p ∧ Bz p m := by
 unfold B0 at h
 split at h
 ·rename_i k; exact (k h).elim
 ·rename_i k0
  have hp : Bf p := by
   rcases Im p with h | h
   ·exact h.2
   ·omega
  split at h
  ·cases h
  ·rename_i k1
   have b1 : m.fD.length = p.fA.length := Decidable.not_not.1 fun h => k1 (.inl h)
   have b2 : m.fB.length = p.fA.length := Decidable.not_not.1 fun h => k1 (.inr (.inl h))
   have b3 : m.fE.length = p.fC.length := Decidable.not_not.1 fun h => k1 (.inr (.inr h))
   cases hs : CR (LZ m) 0 p.fA with
   | some r =>
    obtain ⟨j, x, _, he⟩ := DI hs
    rw [hs] at h
    unfold LZ at he
    simp only [BI, zC9] at h
    split at he
    ·cases he; cases h
    ·split at he
     ·cases he; cases h
     ·cases he
   | none =>
    have hm := RY b1 b2 b3 hs
    rw [hs] at h
    simp only [BI] at h
    cases ht : CR (Jx p m) 0 p.fC with
    | some r =>
     obtain ⟨j, x, _, he⟩ := DI ht
     rw [ht] at h
     simp only [zC9] at h
     subst h
     unfold Jx at he
     split at he
     ·split at he <;> cases he
     ·split at he <;> cases he
    | none =>
     have hr : ∀ i, i < p.fC.length → 0 ≤ m.fE.getD i 0 ∧ m.fE.getD i 0 ≤ 255 := fun i hi => Kg (Ug hw (by omega))
     have key : ∀ i t, p.fC[i]? = some t → _ := fun i t hi => (Ty hp hm hi (hr i (lI.1 hi).1)).1 (by have := Fu ht i t hi; rwa [zA1] at this)
     exact ⟨hp, hm, hr, fun i t hi hst => ((key i t hi).1 hst).1, fun i t hi hst => ((key i t hi).1 hst).2, fun i t hi hst => (key i t hi).2 hst⟩
theorem GF {α R : Type} {f : Nat → α → Option R} : ∀ {i : Nat} {xs : List α}, (∀ j x, xs[j]? = some x → f (i + j) x = none) → CR f i xs = none
 | _, [], _ => rfl
 | i, y :: ys, h => by
  rw [FN, show f i y = none from h 0 y rfl]
  exact GF fun j x hx => by
   have := h (j + 1) x (by simpa using hx)
   rwa [show i + (j + 1) = i + 1 + j from by omega] at this
theorem RU {p : Aa} (hp : Bf p) (hr : ∀ i, i < p.fA.length → 0 ≤ p.fH.getD i 0 ∧ p.fH.getD i 0 < p.fA.getD i 0 ∧ 0 ≤ p.fL.getD i 0 ∧ p.fL.getD i 0 < p.fA.getD i 0) : Bx p = 0 := by
 have := hp.nv
 have := hp.nt
 have := hp.now
 have := hp.tgt
 unfold Bx
 rw [if_neg (by omega), if_neg (by omega)]
 have h1 : CR (Gp p) 0 p.fA = none := GF fun j x hx => by
  have hj := (lI.1 hx).1
  have h1 := hr j hj
  have h2 := Jf hp hj
  have e : p.fA.getD j 0 = x := by rw [lD, hx]; rfl
  rw [e] at h1 h2
  unfold Gp
  rw [zA1, if_neg (by omega)]
 have h2 : CR (MM p) 0 p.fC = none := GF fun j x hx => by
  unfold MM
  rw [if_pos (hp.tab x (lM hx))]
 rw [h1, h2]; rfl
theorem Ch {p : Aa} (h : Bx p = 0) : Bf p ∧ ∀ i, i < p.fA.length → 0 ≤ p.fH.getD i 0 ∧ p.fH.getD i 0 < p.fA.getD i 0 ∧ 0 ≤ p.fL.getD i 0 ∧ p.fL.getD i 0 < p.fA.getD i 0 := by
 have hp : Bf p := by
  rcases Im p with h | h
  ·exact h.2
  ·omega
 refine ⟨hp, fun i hi => ?_⟩
 have h1 := hp.nv
 have h2 := hp.nt
 have h3 := hp.now
 have h4 := hp.tgt
 unfold Bx at h
 rw [if_neg (by omega), if_neg (by omega)] at h
 cases hs : CR (Gp p) 0 p.fA with
 | some r =>
  obtain ⟨j, x, _, he⟩ := DI hs
  rw [hs] at h
  unfold Gp at he
  split at he
  ·cases he; cases h
  ·cases he
 | none =>
  have hx : p.fA[i]? = some (p.fA.getD i 0) := by rw [lD]; simp [hi]
  have := Fu hs i _ hx
  rw [zA1] at this
  unfold Gp at this
  split at this
  ·cases this
  ·rename_i hn; omega
theorem HN {p : Aa} {m : Ab} (hv : Bx p = 0) (hm : Bz p m) : B0 p m = 0 := by
 obtain ⟨hp, _⟩ := Ch hv
 unfold B0
 rw [hv, if_neg (by simp), if_neg (by have := hm.base; have := hm.next; have := hm.held; omega)]
 have h1 : CR (LZ m) 0 p.fA = none := GF fun j x hx => by
  have hj := (lI.1 hx).1
  have e : p.fA.getD j 0 = x := by rw [lD, hx]; rfl
  have h1 := hm.b0 j hj
  have h2 := hm.n0 j hj
  have h3 := hm.ne j hj
  rw [e] at h1 h2
  unfold LZ
  rw [zA1, if_neg (by omega), if_neg h3]
 have h2 : CR (Jx p m) 0 p.fC = none := GF fun j x hx => by
  have hj := (lI.1 hx).1
  rw [zA1]
  exact (Ty hp hm.toMixServ hx (hm.range j hj)).2 ⟨fun hst => ⟨hm.low j x hx hst, hm.high j x hx hst⟩, fun hst => hm.none j x hx hst⟩
 rw [h1, h2]; rfl
def Pz {α : Type} (g : Nat → α → Bool) : Nat → List α → Bool
 | _, [] => false
 | i, x :: xs => g i x || Pz g (i + 1) xs
theorem Nj {α β : Type} (g : Nat → α → List β) (h : Nat → α → Bool) : ∀ (i : Nat) (xs : List α) (a : List β) (b : Bool),
  Jp (fun i x (s : List β × Bool) => (s.1 ++ g i x, s.2 || h i x)) i xs (a, b) = (a ++ CS g i xs, b || Pz h i xs)
 | _, [], a, b => by simp [Jp, CS, Pz]
 | i, x :: xs, a, b => by rw [Jp, Nj g h, CS, Pz, zD7, Bool.or_assoc]
def gC (i u : Nat) (m : Ab) (t : Am) (v : Nat) (ok : Bool) : List Ap :=
 if JI m t.fJ.toNat v && (!ok && !t.fQ) then [⟨(i : Int), (u : Int), (v : Int)⟩] else []
def hC (m : Ab) (t : Am) (v : Nat) (ok : Bool) : Bool := JI m t.fJ.toNat v && ok
def Ld (i : Nat) (m : Ab) (t : Am) (u : Nat) (row : List Bool) : List Ap :=
 CS (gC i u m t) 0 row ++ if t.fQ && !Pz (hC m t) 0 row then [⟨(i : Int), (u : Int), -1⟩] else []
def Wv (m : Ab) (i : Nat) (t : Am) (u : Nat) : Bool := if B6 t then Ee (m.fE.getD i 0) u else JI m t.fF.toNat u
def Lm (m : Ab) (i : Nat) (t : Am) : List Ap := CS (fun u row => if Wv m i t u then Ld i m t u row else []) 0 t.fP
def H1 (p : Aa) (m : Ab) : List Ap := CS (Lm m) 0 p.fC
structure OU (p : Aa) (t : Am) : Prop where
 kind : 1 ≤ t.fG ∧ t.fG ≤ 4
 aware : t.fQ = true → B6 t = false
 from0 : 0 ≤ t.fF ∧ t.fF < (p.fA.length : Int)
 to0 : 0 ≤ t.fJ ∧ t.fJ < (p.fA.length : Int)
 okL : (t.fP.length : Int) = p.fA.getD t.fF.toNat 0
 okR : ∀ row, row ∈ t.fP → (row.length : Int) = p.fA.getD t.fJ.toNat 0
 reL : t.fG = 4 → (t.fK.length : Int) = p.fA.getD t.fF.toNat 0
 reR : ∀ row, row ∈ t.fK → (row.length : Int) = p.fA.getD t.fF.toNat 0
 reD : t.fG = 4 → Kb t.fK = none
 reN : t.fG ≠ 4 → t.fK = []
theorem LP {p : Aa} {t : Am} (h : D8 p t = 0) : OU p t := by
 unfold D8 at h
 split at h
 ·cases h
 rename_i h1
 split at h
 ·cases h
 rename_i h2
 simp only at h
 split at h
 ·cases h
 rename_i h3
 have h3 : sq t.fP (p.fA.getD t.fF.toNat 0) (p.fA.getD t.fJ.toNat 0) = true := by simpa using h3
 have h3 := Pc h3
 have ha : t.fQ = true → B6 t = false := by
  intro ha
  unfold B6
  rw [zI9, beq_eq_false_iff_ne, beq_eq_false_iff_ne]
  exact ⟨fun hk => h1 (.inr (.inr ⟨ha, .inl hk⟩)), fun hk => h1 (.inr (.inr ⟨ha, .inr hk⟩))⟩
 split at h
 ·rename_i h4
  split at h
  ·cases h
  rename_i h5
  have h5 : sq t.fK (p.fA.getD t.fF.toNat 0) (p.fA.getD t.fF.toNat 0) = true := by simpa using h5
  have h5 := Pc h5
  refine ⟨by omega, ha, by omega, by omega, h3.1, h3.2, fun _ => h5.1, h5.2, fun _ => ?_, fun h => (h h4).elim⟩
  cases hd : Kb t.fK with
  | none => rfl
  | some r =>
   obtain ⟨j, x, _, hx⟩ := DI hd
   rw [hd] at h
   split at hx
   ·cases hx
   ·cases hx; cases h
 ·rename_i h4
  split at h
  ·rename_i h5
   have h5 := zD3 h5
   refine ⟨by omega, ha, by omega, by omega, h3.1, h3.2, fun h => (h4 h).elim, fun row hr => ?_, fun h => (h4 h).elim, fun _ => h5⟩
   rw [h5] at hr; cases hr
  ·cases h
theorem Mq {R : Type} (b : Bool) (acc : List Ap) (x : Ap) (j : List Ap → Option R) (h : acc.length + 1 ≤ Db) :
  AR b ((DN (acc.length + ([x] : List Ap).length ≤ Db)).bind fun _ => j (acc ++ [x])) (j acc) = j (acc ++ if b then [x] else []) := by
 cases b
 ·simp
 ·rw [AN, As (by simpa using h)]; rfl
theorem T4 (N : Nat) (m : Ab) (t : Am) (i u : Nat) (row : List Bool) (R : Int) (b1 b2 acc : List Ap) (j : List Ap × Bool → Option (List Ap))
  (hN : N ≤ 1000000) (h8 : 8 ≤ N) (hrow : row.length ≤ 6) (hacc : acc.length + 6 ≤ Db) (hR0 : 0 ≤ R) (hR1 : R ≤ 255) (hRb : ∀ v, Ee R v = JI m t.fJ.toNat v) :
  B9 N (b1, (i : Int)) t R (b2, (u : Int)) row j N (acc, false, 0) = j (acc ++ CS (gC i u m t) 0 row, Pz (hC m t) 0 row) := by
 have := Ic (A := List Ap × Bool) (B9 N (b1, (i : Int)) t R (b2, (u : Int)) row j) (fun a k => (a.1, a.2, k)) row (fun a => j a) (fun v ok s => (s.1 ++ gC i u m t v ok, s.2 || hC m t v ok))
  (fun v a => v ≤ row.length ∧ a.1.length ≤ acc.length + v)
  (fun n v ok a hx ha => by
   have hv := (lI.1 hx).1
   obtain ⟨c, f⟩ := a
   simp only at ha
   refine ⟨?_, by omega, ?_⟩
   ·rw [B9]
    simp only [Bd]
    rw [Az (by omega), AT, hx]
    simp only [oS]
    rw [As (by omega), Tc hR0 hR1 (by omega), hRb, AB (by omega), Mq _ _ _ (fun l => B9 N (b1, (i : Int)) t R (b2, (u : Int)) row j n (l, true, ((v + 1 : Nat) : Int))) (by omega)]
    unfold gC hC
    rw [Mq _ _ _ (fun l => B9 N (b1, (i : Int)) t R (b2, (u : Int)) row j n (l, ok, ((v + 1 : Nat) : Int))) (by omega)]
    cases JI m t.fJ.toNat v
    ·simp
    ·cases ok <;> cases f <;> cases t.fQ <;> simp
   ·simp only [gC, zB7]
    split <;> simp <;> omega)
  (fun n a _ => by
   rw [B9]
   simp only [Bd]
   rw [Ax (by omega)]) N 0 (acc, false) (by omega) (by omega) ⟨by omega, by simp⟩
 have h2 := this.1
 rw [zC0, Nj, zI8] at h2
 exact h2
theorem N0 {p : Aa} {t : Am} (hp : Bf p) (ht : OU p t) : t.fP.length ≤ 6 ∧ ∀ row, row ∈ t.fP → row.length ≤ 6 := by
 have h1 := Kx hp.ver ht.from0.1 ht.from0.2
 have h2 := Kx hp.ver ht.to0.1 ht.to0.2
 have h3 := ht.okL
 exact ⟨by omega, fun row hr => by have := ht.okR row hr; omega⟩
theorem Uv (i u : Nat) (m : Ab) (t : Am) (v : Nat) (ok : Bool) : (gC i u m t v ok).length ≤ 1 := by
 unfold gC; split <;> simp
theorem UT (i : Nat) (m : Ab) (t : Am) (u : Nat) (row : List Bool) (h : row.length ≤ 6) : (Ld i m t u row).length ≤ 7 := by
 unfold Ld
 rw [zB7]
 have := Gr (g := gC i u m t) (c := 1) (i := 0) (xs := row) (fun j x _ => Uv _ _ _ _ _ _)
 split <;> simp <;> omega
theorem UD (i : Nat) (m : Ab) (t : Am) (u : Nat) (row : List Bool) (h : row.length ≤ 6) : (if Wv m i t u = true then Ld i m t u row else []).length ≤ 7 := by
 have := UT i m t u row h
 split <;> simp <;> omega
theorem OO {p : Aa} {t : Am} (hp : Bf p) (ht : OU p t) (i : Nat) (m : Ab) : (Lm m i t).length ≤ 42 := by
 have h1 := N0 hp ht
 have := Gr (g := fun u row => if Wv m i t u = true then Ld i m t u row else []) (c := 7) (i := 0) (xs := t.fP) (fun j x hx => UD i m t _ x (h1.2 x (lM hx)))
 unfold Lm
 omega
theorem NW (N : Nat) (p : Aa) (m : Ab) (t : Am) (i : Nat) (W R : Int) (b1 acc : List Ap) (j : List Ap → Option (List Ap))
  (hN : N ≤ 1000000) (h8 : 8 ≤ N) (hp : Bf p) (ht : OU p t) (hacc : acc.length + 42 ≤ 10000) (hR0 : 0 ≤ R) (hR1 : R ≤ 255) (hRb : ∀ v, Ee R v = JI m t.fJ.toNat v) (hW0 : 0 ≤ W) (hW1 : W ≤ 255) (hWb : ∀ v, Ee W v = Wv m i t v) :
  CC N (b1, (i : Int)) t R W j N (acc, 0) = j (acc ++ Lm m i t) := by
 have hl := N0 hp ht
 exact FQ (CC N (b1, (i : Int)) t R W j) (fun a k => (a, k)) t.fP j (fun u row => if Wv m i t u then Ld i m t u row else []) 7 10000
  (fun u row hx => UD i m t u row (hl.2 row (lM hx)))
  (fun n u row a hx ha => by
   have hu := (lI.1 hx).1
   have hrow := hl.2 row (lM hx)
   rw [CC]
   simp only [Bd]
   rw [Az (by omega), As (by omega), Tc hW0 hW1 (by omega), hWb, AT, hx]
   simp only [oS]
   rw [T4 N m t i u row R b1 a a _ hN h8 hrow (by unfold Db; omega) hR0 hR1 hRb, AB (by omega)]
   cases hw : Wv m i t u
   ·simp
   ·simp only [zB9, Ao, if_true, Ld]
    have h1 := Gr (g := gC i u m t) (c := 1) (i := 0) (xs := row) (fun j x _ => Uv _ _ _ _ _ _)
    have := Mq (R := List Ap) (t.fQ && !Pz (hC m t) 0 row) (a ++ CS (gC i u m t) 0 row) ⟨(i : Int), (u : Int), -1⟩ (fun l => CC N (b1, (i : Int)) t R W j n (l, ((u + 1 : Nat) : Int))) (by rw [zB7]; unfold Db; rw [hw, if_pos rfl] at ha; omega)
    rw [← zD7, ← this]
    cases t.fQ <;> cases Pz (hC m t) 0 row <;> rfl)
  (fun n a => by
   rw [CC]
   simp only [Bd]
   rw [Ax (by omega)]) N acc (by omega) (by omega)
theorem Um (N : Nat) (p : Aa) (m : Ab) (t : Am) (i u : Nat) (row : List Bool) (b1 b2 acc : List Ap) (j : List Ap × Bool → Option (List Ap))
  (hN : N ≤ 1000000) (h8 : 8 ≤ N) (hp : Bf p) (hm : MixServ p m) (ht : OU p t) (hu : t.fP[u]? = some row) (hacc : acc.length + 6 ≤ Db) :
  Bt N p m (b1, (i : Int)) t (b2, (u : Int)) j N (acc, false, 0) = j (acc ++ CS (gC i u m t) 0 row, Pz (hC m t) 0 row) := by
 have hrow := (N0 hp ht).2 row (lM hu)
 have hR := I7 hp hm (s := t.fJ.toNat) (by have := ht.to0; omega)
 have hlen := ht.okR row (lM hu)
 have hto := ht.to0
 have := Ic (A := List Ap × Bool) (Bt N p m (b1, (i : Int)) t (b2, (u : Int)) j) (fun a k => (a.1, a.2, k)) row (fun a => j a) (fun v ok s => (s.1 ++ gC i u m t v ok, s.2 || hC m t v ok))
  (fun v a => v ≤ row.length ∧ a.1.length ≤ acc.length + v)
  (fun n v ok a hx ha => by
   have hv := (lI.1 hx).1
   obtain ⟨c, f⟩ := a
   simp only at ha
   refine ⟨?_, by omega, ?_⟩
   ·rw [Bt]
    simp only [Bd]
    rw [Em (d := 0) hto.1 hto.2, Lp N m t.fJ hto.1 (by rw [hm.base]; exact hto.2) (by rw [hm.next]; exact hto.2) (hm.b0 _ (by omega)).1, AT, hu]
    simp only [oS]
    unfold CM
    rw [Az (by omega), AT, hx, As (by omega), T5 hR.2.1 hR.2.2 (by omega), hR.1]
    simp only [oS]
    rw [AB (by omega), Mq _ _ _ (fun l => Bt N p m (b1, (i : Int)) t (b2, (u : Int)) j n (l, true, ((v + 1 : Nat) : Int))) (by omega)]
    unfold gC hC
    rw [Mq _ _ _ (fun l => Bt N p m (b1, (i : Int)) t (b2, (u : Int)) j n (l, ok, ((v + 1 : Nat) : Int))) (by omega)]
    cases JI m t.fJ.toNat v
    ·simp
    ·cases ok <;> cases f <;> cases t.fQ <;> simp
   ·simp only [gC, zB7]
    split <;> simp <;> omega)
  (fun n a _ => by
   rw [Bt]
   simp only [Bd]
   rw [Em (d := 0) hto.1 hto.2]
   simp only [oS]
   rw [Ax (by omega)]) N 0 (acc, false) (by omega) (by omega) ⟨by omega, by simp⟩
 have h2 := this.1
 rw [zC0, Nj, zI8] at h2
 exact h2
theorem N6 (N : Nat) (p : Aa) (m : Ab) (t : Am) (i : Nat) (W : Int) (b1 acc : List Ap) (j : List Ap → Option (List Ap))
  (hN : N ≤ 1000000) (h8 : 8 ≤ N) (hp : Bf p) (hm : MixServ p m) (ht : OU p t) (hacc : acc.length + 42 ≤ 10000) (hW0 : 0 ≤ W) (hW1 : W ≤ 255) (hWb : ∀ v, Ee W v = Wv m i t v) :
  BQ N p m (b1, (i : Int)) t W j N (acc, 0) = j (acc ++ Lm m i t) := by
 have hl := N0 hp ht
 have hfr := ht.from0
 have hok := ht.okL
 exact FQ (BQ N p m (b1, (i : Int)) t W j) (fun a k => (a, k)) t.fP j (fun u row => if Wv m i t u then Ld i m t u row else []) 7 10000
  (fun u row hx => UD i m t u row (hl.2 row (lM hx)))
  (fun n u row a hx ha => by
   have hu := (lI.1 hx).1
   have hrow := hl.2 row (lM hx)
   rw [BQ]
   simp only [Bd]
   rw [Em (d := 0) hfr.1 hfr.2]
   simp only [oS]
   unfold CM
   rw [Az (by omega), As (by omega), T5 hW0 hW1 (by omega), hWb]
   simp only [oS]
   rw [Um N p m t i u row b1 a a _ hN h8 hp hm ht hx (by unfold Db; omega), AB (by omega)]
   cases hw : Wv m i t u
   ·simp
   ·simp only [zB9, Ao, if_true, Ld]
    have h1 := Gr (g := gC i u m t) (c := 1) (i := 0) (xs := row) (fun j x _ => Uv _ _ _ _ _ _)
    have := Mq (R := List Ap) (t.fQ && !Pz (hC m t) 0 row) (a ++ CS (gC i u m t) 0 row) ⟨(i : Int), (u : Int), -1⟩ (fun l => BQ N p m (b1, (i : Int)) t W j n (l, ((u + 1 : Nat) : Int))) (by rw [zB7]; unfold Db; rw [hw, if_pos rfl] at ha; omega)
    rw [← zD7, ← this]
    cases t.fQ <;> cases Pz (hC m t) 0 row <;> rfl)
  (fun n a => by
   rw [BQ]
   simp only [Bd]
   rw [Em (d := 0) hfr.1 hfr.2]
   simp only [oS]
   rw [Ax (by omega)]) N acc (by omega) (by omega)
theorem Oj (N : Nat) (p : Aa) (m : Ab) (hN : N ≤ 1000000) (h20 : 20 ≤ N) (hp : Bf p) (hm : Bz p m) : Gt N p m = some (H1 p m) := by
 unfold Gt
 have hnt := hp.nt
 rw [FQ (DP N p m _) (fun a k => (a, k)) p.fC some (Lm m) 42 9000
  (fun i t hx => OO hp (LP (hp.tab t (lM hx))) i m)
  (fun n i t a hx ha => by
   have hi := (lI.1 hx).1
   have ht := LP (hp.tab t (lM hx))
   have hto := ht.to0
   have hfr := ht.from0
   have hR := I7 hp hm.toMixServ (s := t.fJ.toNat) (by omega)
   have hF := I7 hp hm.toMixServ (s := t.fF.toNat) (by omega)
   have hH := hm.range i hi
   rw [DP]
   simp only [Bd]
   rw [Az (by omega), AT, hx]
   simp only [oS, KB]
   rw [Nf N m t.fF hfr.1 (by rw [hm.base]; exact hfr.2) (by rw [hm.next]; exact hfr.2) (hm.b0 _ (by omega)).1, Nf N m t.fJ hto.1 (by rw [hm.base]; exact hto.2) (by rw [hm.next]; exact hto.2) (hm.b0 _ (by omega)).1, Dt (d := 0) (by rw [hm.held]; exact hi), AB (by omega)]
   simp only [oS]
   cases hs : B6 t
   ·rw [Ao, NW N p m t i _ _ a a _ hN (by omega) hp ht (by omega) hR.2.1 hR.2.2 hR.1 hF.2.1 hF.2.2 (fun v => by unfold Wv; rw [hs, hF.1]; rfl)]
   ·rw [AN, NW N p m t i _ _ a a _ hN (by omega) hp ht (by omega) hR.2.1 hR.2.2 hR.1 hH.1 hH.2 (fun v => by unfold Wv; rw [hs]; rfl)])
  (fun n a => by
   rw [DP]
   simp only [Bd]
   rw [Ax (by omega)]) N [] (by omega) (by simp; omega)]
 rfl
theorem Og (N : Nat) (p : Aa) (m : Ab) (hN : N ≤ 1000000) (h20 : 20 ≤ N) (hp : Bf p) (hm : Bz p m) : E2 N p m = some (H1 p m) := by
 unfold E2
 have hnt := hp.nt
 rw [FQ (C1 N p m _) (fun a k => (a, k)) p.fC some (Lm m) 42 9000
  (fun i t hx => OO hp (LP (hp.tab t (lM hx))) i m)
  (fun n i t a hx ha => by
   have hi := (lI.1 hx).1
   have ht := LP (hp.tab t (lM hx))
   have hto := ht.to0
   have hfr := ht.from0
   have hF := I7 hp hm.toMixServ (s := t.fF.toNat) (by omega)
   have hH := hm.range i hi
   rw [C1]
   simp only [Bd]
   rw [Az (by omega), AT, hx]
   simp only [oS, HH]
   rw [Lp N m t.fF hfr.1 (by rw [hm.base]; exact hfr.2) (by rw [hm.next]; exact hfr.2) (hm.b0 _ (by omega)).1, Dt (d := 0) (by rw [hm.held]; exact hi), AB (by omega)]
   simp only [oS]
   cases hs : B6 t
   ·rw [Ao, N6 N p m t i _ a a _ hN (by omega) hp hm.toMixServ ht (by omega) hF.2.1 hF.2.2 (fun v => by unfold Wv; rw [hs, hF.1]; rfl)]
   ·rw [AN, N6 N p m t i _ a a _ hN (by omega) hp hm.toMixServ ht (by omega) hH.1 hH.2 (fun v => by unfold Wv; rw [hs]; rfl)])
  (fun n a => by
   rw [C1]
   simp only [Bd]
   rw [Ax (by omega)]) N [] (by omega) (by simp; omega)]
 rfl
theorem FF {A S R : Type} (L : Nat → S → Option R) (mk : A → Int → S) (len : Nat) (j : A → Option R) (I : Nat → A → Prop)
  (hs : ∀ (n i : Nat) (a : A), i < len → I i a → ∃ a', L (n + 1) (mk a (i : Int)) = L n (mk a' ((i + 1 : Nat) : Int)) ∧ I (i + 1) a')
  (he : ∀ (n : Nat) (a : A), I len a → L (n + 1) (mk a (len : Int)) = j a) :
  ∀ (n i : Nat) (a : A), i ≤ len → len - i < n → I i a → ∃ a', L n (mk a (i : Int)) = j a' ∧ I len a'
 | 0, i, _, _, h, _ => by omega
 | n + 1, i, a, hi, h, ha => by
  by_cases h1 : i < len
  ·obtain ⟨a', e1, e2⟩ := hs n i a h1 ha
   rw [e1]
   exact FF L mk len j I hs he n (i + 1) _ (by omega) (by omega) e2
  ·have : i = len := by omega
   subst this
   exact ⟨a, he n a ha, ha⟩
theorem Kn {α : Type} {xs ys : List α} {i : Nat} {d : α} (h : i < xs.length) : (xs ++ ys).getD i d = xs.getD i d := by
 rw [lD, lD, zC7 h]
theorem Kq {α : Type} {xs : List α} {y : α} {i : Nat} {d : α} (h : i = xs.length) : (xs ++ [y]).getD i d = y := by
 subst h; rw [lD, zC6 (zB0 _)]; simp
theorem Pk {α : Type} {P : Nat → α → Prop} {xs : List α} {y : α} {d : α} {n : Nat} (hn : xs.length = n) (h : ∀ k, k < n → P k (xs.getD k d)) (hy : P n y) : ∀ k, k < n + 1 → P k ((xs ++ [y]).getD k d) := by
 intro k hk
 by_cases h1 : k < n
 ·rw [Kn (by omega)]; exact h k h1
 ·have : k = n := by omega
  subst this
  rw [Kq hn.symm]; exact hy
theorem VK {l : List Int} (hw : O8 Mz l) (i : Nat) : 0 ≤ l.getD i 0 ∧ l.getD i 0 ≤ 255 := by
 by_cases h : i < l.length
 ·have : l.getD i 0 ∈ l := by rw [lD, zD0 h]; exact zG1 _
  exact Kg (hw _ this)
 ·rw [lD, zD8 (by omega)]
  exact ⟨by decide, by decide⟩
theorem Rt (N : Nat) {l : List Int} (hw : O8 Mz l) (i : Nat) : Ex N l (i : Int) = some (l.getD i 0) := by
 unfold Ex
 have h2 := VK hw i
 by_cases h : i < l.length
 ·rw [Az (by omega), Dt (d := 0) h]
  simp only [oS]
  rw [Ce (by omega) (by omega)]
 ·rw [Ax (by omega), lD, zD8 (by omega)]; rfl
theorem IJ {a n : Int} (ha : 0 ≤ a) (hn : 0 < n) : 0 ≤ zB8 a n ∧ zB8 a n < n := ⟨Int.tmod_nonneg n ha, Int.tmod_lt_of_pos a hn⟩
theorem ZY {l : List (List Bool)} {n m : Int} (h1 : (l.length : Int) = n) (h2 : ∀ row, row ∈ l → (row.length : Int) = m) : sq l n m = true := by
 unfold sq
 simp only [zA6, decide_eq_true_eq, zA4]
 exact ⟨h1, h2⟩
theorem bo {p : Aa} {t : Am} (h : OU p t) : D8 p t = 0 := by
 have hk := h.kind
 have hf := h.from0
 have ht := h.to0
 unfold D8
 rw [if_neg, if_neg (by omega)]
 ·simp only [ZY h.okL h.okR]
  rw [if_neg (by simp)]
  by_cases h4 : t.fG = 4
  ·rw [if_pos h4, ZY (h.reL h4) h.reR, if_neg (by simp), h.reD h4]; rfl
  ·rw [if_neg h4, h.reN h4]; rfl
 ·rintro (h1 | h1 | ⟨h1, h2⟩)
  ·omega
  ·omega
  ·have := h.aware h1
   unfold B6 at this
   rw [zI9, beq_eq_false_iff_ne, beq_eq_false_iff_ne] at this
   omega
theorem Xl (N : Nat) (m bad : Int) (diag : Bool) (i : Nat) (acc : List (List Bool)) {_R : Type} (j : List Bool → Option (List (List Bool))) (hN : N ≤ 1000000) (h20 : 20 ≤ N) (hm : 0 ≤ m ∧ m ≤ 6) (hi : i < 6) :
  ∃ row, Cz N m bad diag (acc, (i : Int)) j N ([], 0) = j row ∧ (row.length : Int) = m ∧ (diag = true → (i : Int) < m → row.getD i false = true) := by
 obtain ⟨M, rfl⟩ := zA7 hm.1
 obtain ⟨row, e, h1, h2⟩ := FF (A := List Bool) (Cz N (M : Int) bad diag (acc, (i : Int)) j) (fun a k => (a, k)) M j
  (fun k a => a.length = k ∧ ∀ q, q < k → diag = true → q = i → a.getD q false = true)
  (fun n k a hk ha => by
   refine ⟨a ++ [(diag && decide (i = k)) || (zB8 (A2 .u16 bad ((3 * i + k : Nat) : Int)) 2 == 0)], ?_, by simp [ha.1], Pk (P := fun q y => diag = true → q = i → y = true) ha.1 ha.2 (fun h1 h2 => by simp [h1, h2])⟩
   rw [Cz]
   simp only [Bd]
   rw [Az (by omega), AB (by omega), Ce (n := 3 * (i : Int)) (by omega) (by omega), Ce (n := 3 * (i : Int) + (k : Int)) (by omega) (by omega)]
   have l1 : ∀ y : Bool, a.length + ([y] : List Bool).length ≤ Db := by intro y; rw [ha.1]; unfold Db; simp; omega
   simp only [As (l1 _), As (show (0 : Int) ≤ 3 * (i : Int) + (k : Int) by omega)]
   have e1 : ((3 * i + k : Nat) : Int) = 3 * (i : Int) + (k : Int) := by omega
   rw [e1]
   have e2 : (((i : Nat) : Int) == ((k : Nat) : Int)) = decide (i = k) := by
    by_cases h : i = k
    ·simp [h]
    ·rw [decide_eq_false h]; exact beq_eq_false_iff_ne.2 (by omega)
   rw [e2]
   cases diag <;> cases decide (i = k) <;> rfl)
  (fun n a _ => by
   rw [Cz]
   simp only [Bd]
   rw [Ax (by omega)]) N 0 [] (zA9 _) (by omega) ⟨rfl, fun q hq => by omega⟩
 exact ⟨row, e, by omega, fun hd hlt => h2 i (by omega) hd rfl⟩
theorem Vy (N : Nat) (n m bad : Int) (diag : Bool) (hN : N ≤ 1000000) (h20 : 20 ≤ N) (hn : 0 ≤ n ∧ n ≤ 6) (hm : 0 ≤ m ∧ m ≤ 6) :
  ∃ l, Ez N n m bad diag = some l ∧ (l.length : Int) = n ∧ (∀ row, row ∈ l → (row.length : Int) = m) ∧ (diag = true → n = m → Kb l = none) := by
 obtain ⟨M, rfl⟩ := zA7 hn.1
 unfold Ez
 obtain ⟨l, e, h1, h2⟩ := FF (A := List (List Bool)) (CG N (M : Int) m bad diag (fun v => some v)) (fun a k => (a, k)) M some
  (fun k a => a.length = k ∧ ∀ q, q < k → (((a.getD q []).length : Nat) : Int) = m ∧ (diag = true → (q : Int) < m → (a.getD q []).getD q false = true))
  (fun n k a hk ha => by
   obtain ⟨row, e, h1, h2⟩ := Xl (_R := Unit) N m bad diag k a (fun (v5 : List Bool) =>
    (DN (a.length + (([v5] : List (List Bool))).length ≤ Db)).bind fun _ =>
    CG N (M : Int) m bad diag (fun v => some v) n (a ++ (([v5] : List (List Bool))), (wI .i64 ((k : Int) + 1)))) hN h20 hm (by omega)
   refine ⟨a ++ [row], ?_, by simp [ha.1], Pk (P := fun q y => ((y.length : Nat) : Int) = m ∧ (diag = true → (q : Int) < m → y.getD q false = true)) ha.1 ha.2 ⟨h1, h2⟩⟩
   rw [CG]
   simp only
   rw [Az (by omega), e, As (by rw [ha.1]; unfold Db; simp; omega), AB (by omega)])
  (fun n a _ => by
   rw [CG]
   simp only
   rw [Ax (by omega)]) N 0 [] (zA9 _) (by omega) ⟨rfl, fun q hq => by omega⟩
 have key : ∀ q row, l[q]? = some row → l.getD q [] = row := fun q row hq => by rw [lD, hq]; rfl
 refine ⟨l, e, by omega, fun row hr => ?_, fun hd hnm => ?_⟩
 ·obtain ⟨q, hq⟩ := zB5.1 hr
  have := (h2 q (by have := (lI.1 hq).1; omega)).1
  rwa [key q row hq] at this
 ·unfold Kb
  refine GF fun q row hq => ?_
  have hlt := (lI.1 hq).1
  have := (h2 q (by omega)).2 hd (by omega)
  rw [key q row hq] at this
  rw [zA1, this]; rfl
structure Z8 (p : Aa) : Prop where
 valid : Bx p = 0
 nv : p.fA.length ≤ 3
 nt : p.fC.length ≤ 4
 v3 : ∀ v, v ∈ p.fA → v ≤ 3
theorem Wb {p q : Aa} (h : p.fA = q.fA) (t : Am) : D8 p t = D8 q t := by
 unfold D8; rw [h]
theorem ew (N : Nat) (d : BN) (hN : N ≤ 1000000) (h20 : 20 ≤ N) (hw : F0 d) : ∃ p ok, FT N d = some (p, ok) ∧ (ok = true → Z8 p) := by
 obtain ⟨w1, w2, w3, w4, _⟩ := hw
 unfold FT
 simp only [Bd]
 by_cases k1 : 3 < d.fA.length
 ·rw [Az (by omega)]; exact ⟨_, false, rfl, fun h => by cases h⟩
 by_cases k2 : 4 < d.fT.length
 ·rw [Ax (by omega), decide_eq_true (by omega : (4 : Int) < (d.fT.length : Int))]; exact ⟨_, false, rfl, fun h => by cases h⟩
 rw [Ax (by omega), decide_eq_false (by omega : ¬ (4 : Int) < (d.fT.length : Int)), Ao]
 obtain ⟨⟨vs, ns, ts⟩, e, h1, h2, h3, h4⟩ := FF (A := List Int × List Int × List Int) (C7 N d fun v5 => BH N d v5 (fun v16 => some (Aa.mk v5.1 v5.2.1 v5.2.2 v16, true)) N ([], 0)) (fun a k => (a.1, a.2.1, a.2.2, k)) d.fA.length
  (fun v5 => BH N d v5 (fun v16 => some (Aa.mk v5.1 v5.2.1 v5.2.2 v16, true)) N ([], 0))
  (fun i a => a.1.length = i ∧ a.2.1.length = i ∧ a.2.2.length = i ∧ (∀ k, k < i → (1 ≤ a.1.getD k 0 ∧ a.1.getD k 0 ≤ 3) ∧ (0 ≤ a.2.1.getD k 0 ∧ a.2.1.getD k 0 < a.1.getD k 0) ∧ (0 ≤ a.2.2.getD k 0 ∧ a.2.2.getD k 0 < a.1.getD k 0)))
  (fun n i a hi ha => by
   obtain ⟨vs, ns, ts⟩ := a
   obtain ⟨h1, h2, h3, h4⟩ := ha
   simp only at h1 h2 h3 h4
   have hv := VK w1 i
   have hb := VK w2 i
   have hk := VK w3 i
   have hm := IJ (n := 3) hv.1 (by omega)
   obtain ⟨v, hvd⟩ : ∃ v, v = 1 + zB8 (d.fA.getD i 0) 3 := ⟨_, rfl⟩
   have m1 := IJ (n := v) hb.1 (by omega)
   have m2 := IJ (n := v) hk.1 (by omega)
   refine ⟨(vs ++ [v], ns ++ [zB8 (d.fH.getD i 0) v], ts ++ [zB8 (d.fL.getD i 0) v]), ?_, by simp [h1], by simp [h2], by simp [h3], ?_⟩
   ·rw [C7]
    simp only
    rw [Az (by omega), Dt (d := 0) hi, Rt N w2, Rt N w3]
    simp only [oS]
    rw [Ce (n := zB8 _ _) (by omega) (by omega), Ce (n := 1 + _) (by omega) (by omega), ← hvd, AB (by omega)]
    have l1 : ∀ y : Int, vs.length + ([y] : List Int).length ≤ Db := by intro y; rw [h1]; unfold Db; simp; omega
    have l2 : ∀ y : Int, ns.length + ([y] : List Int).length ≤ Db := by intro y; rw [h2]; unfold Db; simp; omega
    have l3 : ∀ y : Int, ts.length + ([y] : List Int).length ≤ Db := by intro y; rw [h3]; unfold Db; simp; omega
    simp only [As (l1 _), As (l2 _), As (l3 _), As (show v ≠ 0 by omega)]
   ·intro k hk
    simp only
    by_cases hki : k < i
    ·rw [Kn (by omega), Kn (by omega), Kn (by omega)]; exact h4 k hki
    ·have : k = i := by omega
     subst this
     rw [Kq h1.symm, Kq h2.symm, Kq h3.symm]
     omega)
  (fun n a _ => by
   rw [C7]
   simp only
   rw [Ax (by omega)]) N 0 ([], [], []) (zA9 _) (by omega) ⟨rfl, rfl, rfl, fun k hk => by omega⟩
 simp only at h1 h2 h3 h4
 have e' : C7 N d (fun v5 => BH N d v5 (fun v16 => some (Aa.mk v5.1 v5.2.1 v5.2.2 v16, true)) N ([], 0)) N ([], [], [], 0) = _ := e
 rw [e']
 have hvs : ∀ v, v ∈ vs → 1 ≤ v ∧ v ≤ 3 := by
  intro v hv
  obtain ⟨q, hq⟩ := zB5.1 hv
  have := (h4 q (by have := (lI.1 hq).1; omega)).1
  rwa [lD, hq] at this
 have fin : ∀ O6 : List Am, O6.length ≤ 4 → (∀ t, t ∈ O6 → D8 ⟨vs, ns, ts, []⟩ t = 0) → Z8 ⟨vs, ns, ts, O6⟩ := by
  intro O6 ht h
  have hp : Bf ⟨vs, ns, ts, O6⟩ := ⟨show vs.length ≤ 6 by omega, show O6.length ≤ 12 by omega, show ns.length = vs.length by omega, show ts.length = vs.length by omega, fun v hv => by have := hvs v hv; omega, fun t ht => by rw [← h t ht]; exact Wb rfl t⟩
  exact ⟨RU hp fun i hi => by have := h4 i (by have : i < vs.length := hi; omega); simp only; omega, show vs.length ≤ 3 by omega, ht, fun v hv => (hvs v hv).2⟩
 by_cases k3 : vs.length = 0
 ·refine ⟨_, true, ?_, fun _ => fin [] (by simp) (fun t ht => by cases ht)⟩
  obtain ⟨M, rfl⟩ : ∃ M, N = M + 1 := ⟨N - 1, by omega⟩
  rw [BH]
  simp only [Bd]
  rw [k3]
  by_cases k4 : (0 : Int) < (d.fT.length : Int)
  ·rw [Az k4]; rfl
  ·rw [Ax k4]; rfl
 obtain ⟨O6, e2, g1, g2⟩ := FF (A := List Am) (BH N d (vs, ns, ts) (fun v16 => some (Aa.mk vs ns ts v16, true))) (fun a k => (a, k)) d.fT.length (fun v16 => some (Aa.mk vs ns ts v16, true))
  (fun i a => a.length = i ∧ ∀ t, t ∈ a → D8 ⟨vs, ns, ts, []⟩ t = 0)
  (fun n i a hi ha => by
   have hx : d.fT[i]? = some d.fT[i] := by simp [hi]
   generalize d.fT[i] = l at hx
   obtain ⟨u1, u2, u3, _, u5, u6, _⟩ := w4 l (lM hx)
   have u1 := Kg u1
   have u2 := Kg u2
   have u3 := Kg u3
   have mk := IJ (n := 4) u1.1 (by omega)
   have hL : (0 : Int) < (vs.length : Int) := by omega
   have mf := IJ (n := (vs.length : Int)) u2.1 hL
   have mt := IJ (n := (vs.length : Int)) u3.1 hL
   rw [BH]
   simp only [Bd]
   rw [Az (by omega), decide_eq_true hL, AN, AT, hx]
   simp only [oS]
   rw [As (by omega), As (by omega), Ce (n := l.fF) (by omega) (by omega), Ce (n := l.fJ) (by omega) (by omega), Ce (n := zB8 l.fG 4) (by omega) (by omega), Ce (n := 1 + _) (by omega) (by omega), AB (by omega)]
   simp only [Ox, oS]
   rw [Em (d := 0) mf.1 mf.2, Em (d := 0) mt.1 mt.2]
   simp only [oS]
   have hA : ∀ q : Int, 0 ≤ q → q < (vs.length : Int) → 1 ≤ vs.getD q.toNat 0 ∧ vs.getD q.toNat 0 ≤ 3 := fun q h0 h1 => (h4 q.toNat (by omega)).1
   have hf := hA _ mf.1 mf.2
   have ht := hA _ mt.1 mt.2
   obtain ⟨A, eA, a1, a2, _⟩ := Vy N (vs.getD (zB8 l.fF (vs.length : Int)).toNat 0) (vs.getD (zB8 l.fJ (vs.length : Int)).toNat 0) l.fU false hN h20 (by omega) (by omega)
   obtain ⟨B, eB, b1, b2, b3⟩ := Vy N (vs.getD (zB8 l.fF (vs.length : Int)).toNat 0) (vs.getD (zB8 l.fF (vs.length : Int)).toNat 0) l.fV true hN h20 (by omega) (by omega)
   rw [eA, eB]
   simp only [oS]
   have l1 : ∀ y : Am, a.length + ([y] : List Am).length ≤ Db := by intro y; rw [ha.1]; unfold Db; simp; omega
   simp only [As (l1 _)]
   obtain ⟨kd, hkd⟩ : ∃ kd, kd = 1 + zB8 l.fG 4 := ⟨_, rfl⟩
   rw [← hkd]
   have fin2 : ∀ (aw : Bool) (re : List (List Bool)), (aw = true → (kd == 3 || kd == 4) = false) → ((kd = 4 → re = B) ∧ (kd ≠ 4 → re = [])) →
     D8 ⟨vs, ns, ts, []⟩ (Am.mk kd (zB8 l.fF (vs.length : Int)) (zB8 l.fJ (vs.length : Int)) aw A re) = 0 := by
    intro aw re haw hre
    refine bo ⟨show 1 ≤ kd ∧ kd ≤ 4 by omega, haw, mf, mt, a1, a2, fun h => by rw [hre.1 h]; exact b1, fun row hr => ?_, fun h => by rw [hre.1 h]; exact b3 rfl rfl, fun h => hre.2 h⟩
    by_cases h4 : kd = 4
    ·simp only at hr; rw [hre.1 h4] at hr; exact b2 row hr
    ·simp only at hr; rw [hre.2 h4] at hr; cases hr
   have app : ∀ t, D8 ⟨vs, ns, ts, []⟩ t = 0 → (a ++ [t]).length = i + 1 ∧ ∀ t', t' ∈ a ++ [t] → D8 ⟨vs, ns, ts, []⟩ t' = 0 := by
    intro t ht
    refine ⟨by simp [ha.1], fun t' ht' => ?_⟩
    rcases zC4.1 ht' with h | h
    ·exact ha.2 t' h
    ·rw [zD6.1 h]; exact ht
   by_cases h4 : kd = 4
   ·have e4 : (kd == 4) = true := beq_iff_eq.2 h4
    have hre : (kd = 4 → B = B) ∧ (kd ≠ 4 → B = []) := ⟨fun _ => rfl, fun h => (h h4).elim⟩
    rw [e4]
    simp only [AN, zK9, zB9]
    cases l.fQ
    ·exact ⟨_, rfl, app _ (fin2 false B (fun h => by cases h) hre)⟩
    ·exact ⟨_, rfl, app _ (fin2 false B (fun h => by cases h) hre)⟩
   ·have e4 : (kd == 4) = false := beq_eq_false_iff_ne.2 h4
    have hre : (kd = 4 → ([] : List (List Bool)) = B) ∧ (kd ≠ 4 → ([] : List (List Bool)) = []) := ⟨fun h => (h4 h).elim, fun _ => rfl⟩
    rw [e4]
    simp only [Ao, Bool.or_false]
    cases l.fQ
    ·exact ⟨_, rfl, app _ (fin2 false [] (fun h => by cases h) hre)⟩
    ·cases e3 : kd == 3
     ·exact ⟨_, rfl, app _ (fin2 true [] (fun _ => by rw [e3, e4]; rfl) hre)⟩
     ·exact ⟨_, rfl, app _ (fin2 false [] (fun h => by cases h) hre)⟩)
  (fun n a _ => by
   rw [BH]
   simp only [Bd]
   rw [Ax (by omega), Ao]) N 0 [] (zA9 _) (by omega) ⟨rfl, fun t ht => by cases ht⟩
 exact ⟨_, true, e2, fun _ => fin O6 (by omega) g2⟩
def JB : List Int → Nat → Nat
 | [], _ => 0
 | _, 0 => 0
 | n :: ns, q + 1 => (if 0 ≤ n then 1 else 0) + JB ns q
theorem J1 (l : List Int) : JB l 0 = 0 := by cases l <;> rfl
theorem Iv : ∀ (l : List Int) (q : Nat), q < l.length → JB l (q + 1) = JB l q + if 0 ≤ l.getD q 0 then 1 else 0
 | [], q, h => by simp at h
 | n :: ns, 0, _ => by simp [JB, J1]
 | n :: ns, q + 1, h => by
  rw [JB, Iv ns q (by simpa using h), JB, zJ2, zF4]
theorem Qv (l : List Int) {a b : Nat} (h : a ≤ b) (hb : b ≤ l.length) : JB l a ≤ JB l b := by
 induction b with
 | zero => rw [Nat.le_zero.1 h]; exact zB0 _
 | succ b ih =>
  by_cases h1 : a = b + 1
  ·rw [h1]; exact zB0 _
  ·have := ih (by omega) (by omega)
   rw [Iv l b (by omega)]; omega
theorem Mm (l : List Int) : ∀ q, q ≤ l.length → JB l q ≤ q
 | 0, _ => by rw [J1]; exact zB0 _
 | q + 1, h => by
  have := Mm l q (by omega)
  rw [Iv l q h]
  split <;> omega
def OF (l : List Int) (k q : Nat) : Int := if 0 ≤ l.getD q 0 ∧ k.testBit (JB l q) = true then -1 else l.getD q 0
def YK (l : List Int) (k : Nat) : List Int := (zB4 l.length).map (OF l k)
def bv (m : Ab) (k : Nat) : Ab := ⟨m.fD, YK m.fB k, m.fE⟩
def G1 (m : Ab) : List Ab := (zB4 (2 ^ JB m.fB m.fB.length)).map (bv m)
theorem Nw (l : List Int) (k : Nat) : (YK l k).length = l.length := by simp [YK]
theorem R1 (l : List Int) (k q : Nat) (h : q < l.length) : (YK l k).getD q 0 = OF l k q := by
 unfold YK; rw [lD, zA3, List.getElem?_range h]; rfl
theorem GV {l1 l2 : List Int} (h1 : l1.length = l2.length) (h : ∀ q, q < l1.length → l1.getD q 0 = l2.getD q 0) : l1 = l2 := by
 apply List.ext_getElem h1
 intro q h2 h3
 have := h q h2
 rw [lD, lD, zD0 h2, zD0 h3] at this
 exact this
theorem Vu : ∀ (k : Fin 64) (b : Fin 7), AK .i64 (A2 .i64 (k.val : Int) (b.val : Int)) 1 = (if k.val.testBit b.val then 1 else 0) ∧ zB8 (A2 .i64 (k.val : Int) (b.val : Int)) 2 = (if k.val.testBit b.val then 1 else 0) := by decide +kernel
theorem ZR : ∀ n : Fin 7, D6 .i64 1 (n.val : Int) = ((2 ^ n.val : Nat) : Int) := by decide +kernel
structure QX (m x : Ab) : Prop where
 base : x.fD = m.fD
 held : x.fE = m.fE
 len : x.fB.length = m.fB.length
 next : ∀ q, q < m.fB.length → x.fB.getD q 0 = m.fB.getD q 0 ∨ (0 ≤ m.fB.getD q 0 ∧ x.fB.getD q 0 = -1)
theorem QX.refl (m : Ab) : QX m m := ⟨rfl, rfl, rfl, fun _ _ => .inl rfl⟩
theorem QX.trans {a b c : Ab} (h1 : QX a b) (h2 : QX b c) : QX a c :=
 ⟨h2.base.trans h1.base, h2.held.trans h1.held, h2.len.trans h1.len, fun q hq => by
  have e1 := h1.next q hq
  have e2 := h2.next q (by rw [h1.len]; exact hq)
  omega⟩
theorem YC (m : Ab) (k : Nat) : QX m (bv m k) :=
 ⟨rfl, rfl, Nw _ _, fun q hq => by
  show (YK m.fB k).getD q 0 = _ ∨ _ ∧ (YK m.fB k).getD q 0 = _
  rw [R1 _ _ _ hq]; unfold OF
  split
  ·rename_i h; exact .inr ⟨h.1, rfl⟩
  ·exact .inl rfl⟩
theorem Vk : ∀ (l x : List Int), x.length = l.length → (∀ q, q < l.length → x.getD q 0 = l.getD q 0 ∨ (0 ≤ l.getD q 0 ∧ x.getD q 0 = -1)) → ∃ k, k < 2 ^ JB l l.length ∧ ∀ q, q < l.length → x.getD q 0 = OF l k q
 | [], x, h, _ => ⟨0, by simp [JB], fun q hq => by simp at hq⟩
 | n :: ns, [], h, _ => by simp at h
 | n :: ns, y :: ys, h, hq => by
  obtain ⟨k, hk, hk2⟩ := Vk ns ys (by simpa using h) (fun q hq' => by have := hq (q + 1) (by simpa using hq'); simpa using this)
  have h0 := hq 0 (by simp)
  simp only [zK0] at h0
  by_cases hn : 0 ≤ n
  ·refine ⟨2 * k + if y = n then 0 else 1, ?_, ?_⟩
   ·rw [zC1, JB, if_pos hn, Nat.pow_add]
    split <;> omega
   ·intro q hq'
    cases q with
    | zero =>
     simp only [zK0, OF, J1]
     by_cases hy : y = n
     ·simp [hy]
     ·rw [if_neg hy, if_pos ⟨hn, by simp⟩]; omega
    | succ q =>
     have := hk2 q (by simpa using hq')
     simp only [zJ2, OF, JB, if_pos hn] at this ⊢
     rw [this, Nat.add_comm 1, Nat.testBit_succ]
     have : (2 * k + if y = n then 0 else 1) / 2 = k := by split <;> omega
     rw [this]
  ·refine ⟨k, ?_, ?_⟩
   ·rw [zC1, JB, if_neg hn, zA1]; exact hk
   ·intro q hq'
    cases q with
    | zero =>
     simp only [zK0, OF, J1]
     rw [if_neg (fun h => hn h.1)]
     omega
    | succ q =>
     have := hk2 q (by simpa using hq')
     simp only [zJ2, OF, JB, if_neg hn, zA1] at this ⊢
     exact this
theorem PF {m x : Ab} : x ∈ G1 m ↔ QX m x := by
 unfold G1
 rw [zB6]
 constructor
 ·rintro ⟨k, _, rfl⟩; exact YC m k
 ·intro h
  obtain ⟨k, hk, hq⟩ := Vk m.fB x.fB h.len h.next
  refine ⟨k, zE3.2 hk, ?_⟩
  have : YK m.fB k = x.fB := GV (by rw [Nw, h.len]) fun q hq' => by
   rw [Nw] at hq'
   rw [R1 _ _ _ hq', hq q hq']
  unfold bv
  rw [this, ← h.base, ← h.held]
theorem aO {m x : Ab} (h : QX m x) {s : Nat} (hs : s < m.fB.length) {v : Nat} (hv : JI x s v = true) : JI m s v = true := by
 unfold JI at hv ⊢
 rw [h.base] at hv
 have := h.next s hs
 simp only [zG0, decide_eq_true_eq] at hv ⊢
 omega
theorem Z9 {p : Aa} {m x : Ab} (hp : Bf p) (hm : Bz p m) (h : QX m x) : Bz p x := by
 refine ⟨⟨by rw [h.base]; exact hm.base, by rw [h.len]; exact hm.next, by rw [h.held]; exact hm.held, fun i hi => by rw [h.base]; exact hm.b0 i hi, fun i hi => ?_, fun i hi => ?_⟩, fun i hi => by rw [h.held]; exact hm.range i hi, fun i t ht hs v hv => ?_, fun i t ht hs v hv => ?_, fun i t ht hs => by rw [h.held]; exact hm.none i t ht hs⟩
 ·have h1 := hm.n0 i hi
  have h2 := h.next i (by rw [hm.next]; exact hi)
  have h3 := Jf hp hi
  omega
 ·have h1 := hm.ne i hi
  have h2 := h.next i (by rw [hm.next]; exact hi)
  have h3 := hm.b0 i hi
  rw [h.base]
  omega
 ·have hin := (LP (hp.tab t (lM ht))).from0
  rw [h.held]
  exact hm.low i t ht hs v (aO h (by rw [hm.next]; omega) hv)
 ·rw [h.held] at hv
  exact hm.high i t ht hs v hv
theorem K2 (N : Nat) (l : List Int) (h : l.length ≤ Db) : BY N l = some l := by
 unfold BY
 rw [As (by simpa using h)]; rfl
theorem Rh (N : Nat) (l : List Int) (h : l.length ≤ Db) : B2 N l = some l := by
 unfold B2
 rw [As (by simpa using h)]; rfl
theorem JV {l : List Int} {i q : Nat} {y : Int} (hi : i < l.length) : (l.set i y).getD q 0 = if q = i then y else l.getD q 0 := by
 rw [lD, lD, zF2]
 by_cases h : i = q
 ·subst h; simp [hi]
 ·rw [if_neg h, if_neg (fun e => h e.symm)]
theorem Y7 {l : List Int} {a b : Nat} (ha : a < l.length) (hb : b < l.length) (h1 : 0 ≤ l.getD a 0) (h2 : 0 ≤ l.getD b 0) (h : JB l a = JB l b) : a = b := by
 rcases Nat.lt_trichotomy a b with h3 | h3 | h3
 ·have := Qv l (a := a + 1) (b := b) h3 (by omega)
  rw [Iv l a ha, if_pos h1] at this; omega
 ·exact h3
 ·have := Qv l (a := b + 1) (b := a) h3 (by omega)
  rw [Iv l b hb, if_pos h2] at this; omega
structure YE (l : List Int) (o : List Int) : Prop where
 len : o.length = JB l l.length
 at_ : ∀ b, b < o.length → ∃ i : Nat, o.getD b 0 = (i : Int) ∧ i < l.length ∧ 0 ≤ l.getD i 0 ∧ JB l i = b
theorem Tp (N : Nat) (l o : List Int) (k : Nat) (acc : List Ab) (hN : N ≤ 1000000) (h20 : 20 ≤ N) (hl : l.length ≤ 6) (ho : YE l o) (hk : k < 64) (j : List Int → Option (List Ab × Int)) :
  Dm N o (acc, (k : Int)) j N (l, 0) = j (YK l k) := by
 have hol := Mm l l.length (zB0 _)
 have hoL := ho.len
 obtain ⟨x, e, h1, h2⟩ := FF (A := List Int) (Dm N o (acc, (k : Int)) j) (fun a k => (a, k)) o.length j
  (fun b a => a.length = l.length ∧ ∀ q, q < l.length → a.getD q 0 = if 0 ≤ l.getD q 0 ∧ JB l q < b ∧ k.testBit (JB l q) = true then -1 else l.getD q 0)
  (fun n b a hb ha => by
   obtain ⟨i, hi1, hi2, hi3, hi4⟩ := ho.at_ b hb
   have hbit := Vu ⟨k, hk⟩ ⟨b, by omega⟩
   rw [Dm]
   simp only [Bd]
   rw [Az (by omega), Dt (d := 0) hb]
   simp only [oS]
   rw [As (by omega), hi1, hbit.1, Dt (d := 0) (show i < a.length by rw [ha.1]; exact hi2), AB (by omega)]
   simp only [oS, zB3]
   cases hkb : k.testBit b
   ·refine ⟨a, rfl, ha.1, fun q hq => ?_⟩
    rw [ha.2 q hq]
    by_cases hqb : JB l q = b
    ·rw [hqb, hkb]; simp
    ·by_cases h3 : JB l q < b
     ·have : JB l q < b + 1 := by omega
      simp [h3, this]
     ·have : ¬ JB l q < b + 1 := by omega
      simp [h3, this]
   ·refine ⟨a.set i (-1), rfl, by simp [ha.1], fun q hq => ?_⟩
    rw [JV (by rw [ha.1]; exact hi2), ha.2 q hq]
    by_cases hqi : q = i
    ·subst hqi
     rw [if_pos rfl, if_pos ⟨hi3, by omega, by rw [hi4]; exact hkb⟩]
    ·rw [if_neg hqi]
     by_cases h0 : 0 ≤ l.getD q 0
     ·have hne : JB l q ≠ b := fun h => hqi (Y7 hq hi2 h0 hi3 (by omega))
      by_cases h3 : JB l q < b
      ·have : JB l q < b + 1 := by omega
       simp [h3, this]
      ·have : ¬ JB l q < b + 1 := by omega
       simp [h3, this]
     ·rw [if_neg (fun h => h0 h.1), if_neg (fun h => h0 h.1)])
  (fun n a _ => by
   rw [Dm]
   simp only [Bd]
   rw [Ax (by omega)]) N 0 l (zA9 _) (by omega) ⟨rfl, fun q hq => by simp⟩
 have e' : Dm N o (acc, (k : Int)) j N (l, 0) = j x := e
 rw [e']
 congr 1
 refine GV (by rw [Nw, h1]) fun q hq => ?_
 rw [h1] at hq
 rw [h2 q hq, R1 _ _ _ hq, OF]
 by_cases h0 : 0 ≤ l.getD q 0
 ·have h3 := Qv l (a := q + 1) (b := l.length) hq (zB0 _)
  rw [Iv l q hq, if_pos h0] at h3
  have : JB l q < o.length := by omega
  simp [this]
 ·rw [if_neg (fun h => h0 h.1), if_neg (fun h => h0 h.1)]
theorem Tn (N : Nat) (m : Ab) (k : Nat) (acc : List Ab) (hN : N ≤ 1000000) (h20 : 20 ≤ N) (hl : m.fB.length ≤ 6) (hk : k < 64) (j : List Int → Option (List Ab)) :
  B4 N m (acc, (k : Int)) j N (m.fB, 0, 0) = j (YK m.fB k) := by
 obtain ⟨⟨x, pl⟩, e, h1, h2, h3⟩ := FF (A := List Int × Nat) (B4 N m (acc, (k : Int)) j) (fun a k => (a.1, (a.2 : Int), k)) m.fB.length (fun a => j a.1)
  (fun i a => a.2 = JB m.fB i ∧ a.1.length = m.fB.length ∧ ∀ q, q < m.fB.length → a.1.getD q 0 = if q < i then OF m.fB k q else m.fB.getD q 0)
  (fun n i a hi ha => by
   obtain ⟨a, pl⟩ := a
   obtain ⟨a1, a2, a3⟩ := ha
   simp only at a1 a2 a3
   have hple := Mm m.fB i (by omega)
   have hbit := Vu ⟨k, hk⟩ ⟨pl, by omega⟩
   have hs := Iv m.fB i hi
   rw [B4]
   simp only [Bd]
   rw [Az (by omega), Dt (d := 0) hi]
   simp only [oS]
   rw [AB (by omega)]
   by_cases h0 : m.fB.getD i 0 < 0
   ·rw [Az h0]
    refine ⟨(a, pl), rfl, by simp only; rw [hs, if_neg (by omega), a1]; rfl, a2, fun q hq => ?_⟩
    simp only
    rw [a3 q hq]
    by_cases hqi : q = i
    ·subst hqi
     rw [if_neg (by omega), if_pos (by omega), OF, if_neg (by omega)]
    ·by_cases h4 : q < i
     ·rw [if_pos h4, if_pos (by omega)]
     ·rw [if_neg h4, if_neg (by omega)]
   ·rw [Ax h0, As (by omega), Dt (d := 0) (show i < a.length by omega), hbit.2, AB (by omega)]
    simp only [oS, zB3]
    cases hkb : k.testBit pl
    ·refine ⟨(a, pl + 1), rfl, by simp only; rw [hs, if_pos (by omega), a1], a2, fun q hq => ?_⟩
     simp only
     rw [a3 q hq]
     by_cases hqi : q = i
     ·subst hqi
      rw [if_neg (by omega), if_pos (by omega), OF, ← a1, hkb]; simp
     ·by_cases h4 : q < i
      ·rw [if_pos h4, if_pos (by omega)]
      ·rw [if_neg h4, if_neg (by omega)]
    ·refine ⟨(a.set i (-1), pl + 1), rfl, by simp only; rw [hs, if_pos (by omega), a1], by simp [a2], fun q hq => ?_⟩
     simp only
     rw [JV (by omega), a3 q hq]
     by_cases hqi : q = i
     ·subst hqi
      rw [if_pos rfl, if_pos (by omega), OF, ← a1, if_pos ⟨by omega, hkb⟩]
     ·rw [if_neg hqi]
      by_cases h4 : q < i
      ·rw [if_pos h4, if_pos (by omega)]
      ·rw [if_neg h4, if_neg (by omega)])
  (fun n a _ => by
   rw [B4]
   simp only [Bd]
   rw [Ax (by omega)]) N 0 (m.fB, 0) (zA9 _) (by omega) ⟨(J1 _).symm, rfl, fun q hq => by simp⟩
 have e' : B4 N m (acc, (k : Int)) j N (m.fB, 0, 0) = j x := e
 rw [e']
 congr 1
 simp only at h2 h3
 refine GV (by rw [Nw, h2]) fun q hq => ?_
 rw [h2] at hq
 rw [h3 q hq, if_pos hq, R1 _ _ _ hq]
theorem XV (N : Nat) (m : Ab) (hN : N ≤ 1000000) (h20 : 20 ≤ N) (hl : m.fB.length ≤ 6) (j : List Int → Option (List Ab × Int)) :
  ∃ o, Eg N m j N ([], 0) = j o ∧ YE m.fB o := by
 obtain ⟨o, e, h1, h2⟩ := FF (A := List Int) (Eg N m j) (fun a k => (a, k)) m.fB.length j
  (fun i o => o.length = JB m.fB i ∧ ∀ b, b < o.length → ∃ q : Nat, o.getD b 0 = (q : Int) ∧ q < m.fB.length ∧ 0 ≤ m.fB.getD q 0 ∧ JB m.fB q = b)
  (fun n i o hi ho => by
   have hple := Mm m.fB i (by omega)
   have hs := Iv m.fB i hi
   rw [Eg]
   simp only [Bd]
   rw [Az (by omega), Dt (d := 0) hi]
   simp only [oS]
   rw [AB (by omega)]
   by_cases h0 : 0 ≤ m.fB.getD i 0
   ·rw [Az h0, As (by rw [ho.1]; unfold Db; simp; omega)]
    refine ⟨o ++ [(i : Int)], rfl, by rw [hs, if_pos h0, ← ho.1]; simp, ?_⟩
    rw [zB7]
    exact Pk (P := fun b y => ∃ q : Nat, y = (q : Int) ∧ q < m.fB.length ∧ 0 ≤ m.fB.getD q 0 ∧ JB m.fB q = b) rfl ho.2 ⟨i, rfl, hi, h0, ho.1.symm⟩
   ·rw [Ax h0]
    exact ⟨o, rfl, by rw [hs, if_neg h0, ho.1]; rfl, ho.2⟩)
  (fun n a _ => by
   rw [Eg]
   simp only [Bd]
   rw [Ax (by omega)]) N 0 [] (zA9 _) (by omega) ⟨(J1 _).symm, fun b hb => by simp at hb⟩
 exact ⟨o, e, h1, h2⟩
theorem M4 {n : Nat} (h : n ≤ 6) : 2 ^ n ≤ 64 := Nat.pow_le_pow_right (n := 2) (by omega) h
theorem Pe {n : Nat} (h : n ≤ 6) : D6 .i64 1 (n : Int) = ((2 ^ n : Nat) : Int) := ZR ⟨n, by omega⟩
theorem Mh {β : Type} (f : Nat → β) (n : Nat) : (zB4 (n + 1)).map f = (zB4 n).map f ++ [f n] := by
 rw [zG7, zF5]; rfl
theorem QH (N : Nat) (p : Aa) (m : Ab) (hN : N ≤ 1000000) (h20 : 100 ≤ N) (hw : O8 Mz m.fE) (hv : B0 p m = 0) : Ga N p m = some (G1 m, 0) := by
 obtain ⟨hp, hm⟩ := KS hw hv
 have hnv := hp.nv
 have hnt := hp.nt
 have hl : m.fB.length ≤ 6 := by rw [hm.next]; omega
 unfold Ga
 rw [IB N p m hN (by omega) hw, hv]
 simp only [oS, bne_self_eq_false, Ao]
 obtain ⟨o, e, ho⟩ := XV N m hN (by omega) hl (fun (v4 : (List Int)) =>
   (DN (0 ≤ (v4.length : Int))).bind fun _ =>
   Dn N m v4 (fun (v12 : (List Ab)) =>
    some (v12, 0)) N (([] : List Ab), 0))
 rw [e, As (by omega)]
 have hoL := ho.len
 have hol := Mm m.fB m.fB.length (zB0 _)
 have hpow := M4 (show JB m.fB m.fB.length ≤ 6 by omega)
 obtain ⟨a, e2, h1⟩ := FF (A := List Ab) (Dn N m o fun v12 => some (v12, 0)) (fun a k => (a, k)) (2 ^ JB m.fB m.fB.length) (fun v12 => some (v12, 0))
  (fun i a => a = (zB4 i).map (bv m))
  (fun n i a hi ha => by
   refine ⟨a ++ [bv m i], ?_, by rw [Mh, ha]⟩
   have hal : a.length = i := by rw [ha]; simp
   rw [Dn]
   rw [hoL, Pe (n := JB m.fB m.fB.length) (by omega), Az (by omega), K2 N m.fD (by have := hm.base; unfold Db; omega), K2 N m.fB (by unfold Db; omega), Rh N m.fE (by have := hm.held; unfold Db; omega)]
   simp only [oS]
   rw [Tp N m.fB o i a hN (by omega) hl ho (by omega), As (by rw [hal]; unfold Db; simp; omega), AB (by omega)]
   rfl)
  (fun n a _ => by
   rw [Dn]
   rw [hoL, Pe (n := JB m.fB m.fB.length) (by omega), Ax (by simp)]) N 0 [] (zA9 _) (by omega) rfl
 have e2' : Dn N m o (fun v12 => some (v12, 0)) N ([], 0) = some (a, 0) := e2
 rw [e2', h1]; rfl
theorem Va (N : Nat) (m : Ab) (h1 : m.fD.length ≤ Db) (h2 : m.fB.length ≤ Db) (h3 : m.fE.length ≤ Db) : EI N m = some m := by
 unfold EI
 rw [As (by simpa using h1), As (by simpa using h2), As (by simpa using h3)]; rfl
theorem UZ (N : Nat) (m : Ab) (hN : N ≤ 1000000) (h20 : 100 ≤ N) (h1 : m.fD.length ≤ 100) (hl : m.fB.length ≤ 6) (h3 : m.fE.length ≤ 100) : EN N m = some (G1 m) := by
 unfold EN
 obtain ⟨c, e, hc⟩ := FF (A := Nat) (CU N m (fun (v2 : Int) =>
  BG N m v2 (fun (v8 : (List Ab)) => some v8) N (([] : List Ab), 0))) (fun a k => ((a : Int), k)) m.fB.length (fun a => BG N m (a : Int) (fun (v8 : (List Ab)) => some v8) N (([] : List Ab), 0))
  (fun i a => a = JB m.fB i)
  (fun n i a hi ha => by
   have hple := Mm m.fB i (by omega)
   have hs := Iv m.fB i hi
   rw [CU]
   simp only [Bd]
   rw [Az (by omega), Dt (d := 0) hi]
   simp only [oS]
   rw [AB (by omega), AB (by omega)]
   by_cases h0 : 0 ≤ m.fB.getD i 0
   ·rw [Az h0]
    exact ⟨a + 1, rfl, by rw [hs, if_pos h0, ha]⟩
   ·rw [Ax h0]
    exact ⟨a, rfl, by rw [hs, if_neg h0, ha]; rfl⟩)
  (fun n a _ => by
   rw [CU]
   simp only [Bd]
   rw [Ax (by omega)]) N 0 0 (zA9 _) (by omega) (J1 _).symm
 have e' : CU N m (fun (v2 : Int) => BG N m v2 (fun (v8 : (List Ab)) => some v8) N (([] : List Ab), 0)) N (0, 0) = _ := e
 rw [e', hc]
 have hol := Mm m.fB m.fB.length (zB0 _)
 have hpow := M4 (show JB m.fB m.fB.length ≤ 6 by omega)
 obtain ⟨a, e2, h1⟩ := FF (A := List Ab) (BG N m (JB m.fB m.fB.length : Int) fun v8 => some v8) (fun a k => (a, k)) (2 ^ JB m.fB m.fB.length) some
  (fun i a => a = (zB4 i).map (bv m))
  (fun n i a hi ha => by
   refine ⟨a ++ [bv m i], ?_, by rw [Mh, ha]⟩
   have hal : a.length = i := by rw [ha]; simp
   rw [BG]
   rw [As (by omega), Pe (n := JB m.fB m.fB.length) (by omega), Az (by omega), Va N m (by unfold Db; omega) (by unfold Db; omega) (by unfold Db; omega)]
   simp only [oS]
   rw [Tn N m i a hN (by omega) hl (by omega), As (by rw [hal]; unfold Db; simp; omega), AB (by omega)]
   rfl)
  (fun n a _ => by
   rw [BG]
   rw [As (by omega), Pe (n := JB m.fB m.fB.length) (by omega), Ax (by simp)]) N 0 [] (zA9 _) (by omega) rfl
 have e2' : BG N m (JB m.fB m.fB.length : Int) (fun v8 => some v8) N ([], 0) = some a := e2
 rw [e2', h1]; rfl
theorem U1 (N : Nat) (p : Aa) (m : Ab) (hN : N ≤ 1000000) (h20 : 100 ≤ N) (hp : Bf p) (hm : Bz p m) : EN N m = some (G1 m) := by
 have := hp.nv
 have := hp.nt
 exact UZ N m hN h20 (by rw [hm.base]; omega) (by rw [hm.next]; omega) (by rw [hm.held]; omega)
theorem KZ {p : Aa} {m : Ab} (hm : Bz p m) : O8 Mz m.fE := by
 intro x hx
 obtain ⟨q, hq⟩ := zB5.1 hx
 have h1 := (lI.1 hq).1
 have := hm.range q (by rw [← hm.held]; exact h1)
 rw [lD, hq] at this
 unfold Mz
 simp only [zC9] at this
 simp [Lit.wf, IntKind.min, IntKind.max, IntKind.signed, IntKind.bits]
 omega
def M9 (p : Aa) (x : Ab) : Option (Ab × Ap) := match H1 p x with
 | [] => none
 | c :: _ => some (x, c)
def Qf (p : Aa) (m : Ab) : Option (Ab × Ap) := CR (fun _ x => M9 p x) 0 (G1 m)
def HL : Ab := ⟨[], [], []⟩
def Vh : Ap := ⟨0, 0, 0⟩
def U8 (p : Aa) (m : Ab) : Ab × Ap × Int := match Qf p m with
 | some (x, c) => (x, c, 0)
 | none => (HL, Vh, 15)
def AZ (p : Aa) (m : Ab) : Bool := (Qf p m).isNone
theorem P3 {m : Ab} (hl : m.fB.length ≤ 6) : (G1 m).length ≤ 64 := by
 unfold G1
 have hol := Mm m.fB m.fB.length (zB0 _)
 have hpow := M4 (show JB m.fB m.fB.length ≤ 6 by omega)
 simpa using hpow
theorem NX {α R R' : Type} (f : Nat → α → Option R) (g : R → R') : ∀ (i : Nat) (xs : List α), CR (fun i x => (f i x).map g) i xs = (CR f i xs).map g
 | _, [] => rfl
 | i, x :: xs => by
  rw [FN, FN]
  cases f i x
  ·exact NX f g (i + 1) xs
  ·rfl
theorem SS (N : Nat) (p : Aa) (m : Ab) (hN : N ≤ 1000000) (h20 : 100 ≤ N) (hw : O8 Mz m.fE) (hv : B0 p m = 0) : GI N p m = some (U8 p m) := by
 obtain ⟨hp, hm⟩ := KS hw hv
 have hnv := hp.nv
 unfold GI
 rw [QH N p m hN h20 hw hv]
 simp only [oS, bne_self_eq_false, Ao]
 have hal := P3 (m := m) (by rw [hm.next]; omega)
 have := Cx (Fj N p (G1 m, 0) fun _ => some (HL, Vh, 15)) (G1 m) (some (HL, Vh, 15)) (fun _ x => (M9 p x).map fun y => (y.1, y.2, 0))
  (fun n i x hx => by
   have hi := (lI.1 hx).1
   have hx2 := Z9 hp hm (PF.1 (lM hx))
   rw [Fj, Az (by simp only; omega)]
   simp only [AT, hx, oS]
   rw [Oj N p x hN (by omega) hp hx2, AB (by omega)]
   simp only [oS, M9]
   cases H1 p x with
   | nil => rfl
   | cons c cs => rw [Az (by simp only [zC1]; omega)]; rfl)
  (fun n => by rw [Fj, Ax (by simp)]) N 0 (zA9 _) (by omega)
 rw [zC0, NX] at this
 exact this.trans (by
  unfold U8 Qf
  cases CR (fun _ x => M9 p x) 0 (G1 m) <;> rfl)
theorem GT (N : Nat) (p : Aa) (m : Ab) (hN : N ≤ 1000000) (h20 : 100 ≤ N) (hw : O8 Mz m.fE) (hv : B0 p m = 0) : D0 N p m = some (AZ p m, 0) := by
 unfold D0
 rw [SS N p m hN h20 hw hv]
 unfold AZ U8
 cases Qf p m <;> rfl
theorem TS (N : Nat) (p : Aa) (m : Ab) (hN : N ≤ 1000000) (h20 : 100 ≤ N) (hp : Bf p) (hm : Bz p m) : EK N p m = some (H1 p m).isEmpty := by
 unfold EK
 rw [Og N p m hN (by omega) hp hm]
 simp only [oS]
 cases H1 p m with
 | nil => rfl
 | cons c cs =>
  rw [beq_eq_false_iff_ne.2 (by simp only [zC1]; omega)]; rfl
theorem IX (N : Nat) (p : Aa) (m : Ab) (hN : N ≤ 1000000) (h20 : 100 ≤ N) (hp : Bf p) (hm : Bz p m) : Cm N p m = some (AZ p m) := by
 have hnv := hp.nv
 unfold Cm
 rw [U1 N p m hN h20 hp hm]
 simp only [oS]
 have hal := P3 (m := m) (by rw [hm.next]; omega)
 have := Cx (Cg N p (G1 m) fun _ => some true) (G1 m) (some true) (fun _ x => (M9 p x).map fun _ => false)
  (fun n i x hx => by
   have hi := (lI.1 hx).1
   have hx2 := Z9 hp hm (PF.1 (lM hx))
   rw [Cg, Az (by omega)]
   simp only [AT, hx, oS]
   rw [TS N p x hN h20 hp hx2, AB (by omega)]
   simp only [oS, M9]
   cases H1 p x with
   | nil => rfl
   | cons c cs => rfl)
  (fun n => by rw [Cg, Ax (by simp)]) N 0 (zA9 _) (by omega)
 rw [zC0, NX] at this
 refine Eq.trans this ?_
 unfold AZ Qf
 cases CR (fun _ x => M9 p x) 0 (G1 m) <;> rfl
theorem OM {N : Nat} {a b : Ab} (hN : N ≤ 1000000) (h1 : a.fD.length < N) (h2 : a.fB.length < N) (h3 : a.fE.length < N) (h4 : b.fE.length < N) (wa : O8 Mz a.fE) (wb : O8 Mz b.fE) : B3 N a b = some (Fk a b) := by
 unfold B3
 rw [PA h1 hN, PA h2 hN, O1 h3 hN wa, O1 h4 hN wb]
 simp only [oS]
 rw [PA h3 hN]
 unfold Fk Us
 by_cases h1 : E4 a.fD b.fD = 0
 ·simp only [h1, Us]
  by_cases h2 : E4 a.fB b.fB = 0
  ·simp only [h2]
   by_cases h3 : E4 a.fE b.fE = 0 <;> simp [h3]
  ·have : (E4 a.fB b.fB != 0) = true := by simpa using h2
   simp [h2, this]
 ·have : (E4 a.fD b.fD != 0) = true := by simpa using h1
  simp [h1, this]
theorem Sg (N : Nat) (a b : List Int) (hN : N ≤ 1000000) (h : a.length < N) : Ei N a b = some (a == b) := by
 unfold Ei
 by_cases hl : a.length = b.length
 ·rw [hl, bne_self_eq_false, Ao]
  have := Cx (Cd N a b fun _ => some true) a (some true) (fun i x => if x = b.getD i 0 then none else some false)
   (fun n i x hx => by
    have hi := (lI.1 hx).1
    rw [Cd, Az (by omega), AT, hx, Dt (d := 0) (by omega)]
    simp only [oS]
    rw [AB (by omega)]
    by_cases h : x = b.getD i 0
    ·rw [if_pos h, h, bne_self_eq_false]; rfl
    ·rw [if_neg h, bne_iff_ne.2 h]; rfl)
   (fun n => by rw [Cd, Ax (by simp)]) N 0 (zA9 _) (by omega)
  refine this.trans ?_
  rw [zC0]
  cases hs : CR (fun i x => if x = b.getD i 0 then none else some false) 0 a with
  | none =>
   have : a = b := GV hl fun q hq => by
    have hx : a[q]? = some (a.getD q 0) := by rw [lD]; simp [hq]
    have := Fu hs q _ hx
    rw [zA1] at this
    split at this
    ·assumption
    ·cases this
   rw [this, beq_self_eq_true]; rfl
  | some r =>
   obtain ⟨j, x, hx, hf⟩ := DI hs
   rw [zA1] at hf
   split at hf
   ·cases hf
   ·rename_i hne
    cases hf
    have : (a == b) = false := beq_eq_false_iff_ne.2 fun e => hne (by rw [← e, lD, hx]; rfl)
    rw [this]; rfl
 ·have h1 : ((a.length : Int) != (b.length : Int)) = true := bne_iff_ne.2 (by omega)
  have h2 : (a == b) = false := beq_eq_false_iff_ne.2 fun e => hl (by rw [e])
  rw [h1, h2]; rfl
theorem SI (N : Nat) (a : List Int) (f : Int → Option Bool) (g : Int → Bool) (hN : N ≤ 1000000) (h : a.length < N) (hf : ∀ x, x ∈ a → f x = some (g x)) : C3 N a f = some (a.any g) := by
 unfold C3 El
 have := Cx (Bm N a f fun _ => some (-1)) a (some (-1)) (fun i x => if g x then some (i : Int) else none)
  (fun n i x hx => by
   have hi := (lI.1 hx).1
   rw [Bm, Az (by omega), AT, hx]
   simp only [oS]
   rw [hf x (lM hx), AB (by omega)]
   simp only [oS]
   cases g x <;> rfl)
  (fun n => by rw [Bm, Ax (by simp)]) N 0 (zA9 _) (by omega)
 have e : Bm N a f (fun _ => some (-1)) N 0 = _ := this
 rw [e, zC0]
 cases hs : CR (fun i x => if g x then some (i : Int) else none) 0 a with
 | none =>
  have : a.any g = false := by
   rw [zI7]
   intro x hx
   obtain ⟨j, hj⟩ := zB5.1 hx
   have := Fu hs j x hj
   intro hg
   rw [hg] at this; cases this
  rw [this]; rfl
 | some r =>
  obtain ⟨j, x, hx, hf⟩ := DI hs
  split at hf
  ·rename_i hg
   cases hf
   have : a.any g = true := zE8.2 ⟨x, lM hx, hg⟩
   rw [this]
   simp only [BI, oS]
   rw [decide_eq_true (by omega)]
  ·cases hf
def Hb (p : Aa) (m : Ab) : Bool := B0 p m == 0 && (m.fD == p.fL && m.fB.all (fun n => decide (n < 0)))
theorem O0 (N : Nat) (p : Aa) (m : Ab) (hN : N ≤ 1000000) (h20 : 100 ≤ N) (hw : O8 Mz m.fE) : H9 N p m = some (Hb p m) := by
 unfold H9 Hb
 rw [IB N p m hN (by omega) hw]
 simp only [Bd, oS]
 by_cases hv : B0 p m = 0
 ·obtain ⟨hp, hm⟩ := KS hw hv
  have := hp.nv
  rw [hv, Sg N _ _ hN (by rw [hm.base]; omega), SI N m.fB (fun x => HF N x) (fun n => decide (0 ≤ n)) hN (by rw [hm.next]; omega) (fun x _ => rfl)]
  simp only [oS, beq_self_eq_true, AN, zE1]
  have : m.fB.all (fun n => decide (n < 0)) = !m.fB.any (fun n => decide (0 ≤ n)) := by
   rw [List.not_any_eq_all_not]
   congr 1; funext n
   by_cases h : 0 ≤ n
   ·rw [decide_eq_true h, decide_eq_false (by omega)]; rfl
   ·rw [decide_eq_false h, decide_eq_true (by omega)]; rfl
  rw [this]
  cases m.fD == p.fL <;> simp
 ·rw [beq_eq_false_iff_ne.2 hv]; rfl
open Go
structure bT (x y : Am) : Prop where
 k : y.fG = x.fG
 f : y.fF = x.fF
 t : y.fJ = x.fJ
 a : y.fQ = x.fQ
 r : y.fK = x.fK
 l : y.fP.length = x.fP.length
 o : ∀ (u : Nat) (row : List Bool), x.fP[u]? = some row → ∃ row', y.fP[u]? = some row' ∧ row'.length = row.length ∧ ∀ v : Nat, row[v]? = some true → row'[v]? = some true
theorem bT.st {x y : Am} (h : bT x y) : B6 y = B6 x := by unfold B6; rw [h.k]
structure bP (p : Aa) (m x : Ab) : Prop where
 base : m.fD = x.fD
 next : m.fB = x.fB
 held : ∀ i, i < p.fC.length → ∀ v, Ee (m.fE.getD i 0) v = true → Ee (x.fE.getD i 0) v = true
theorem bP.refl (p : Aa) (m : Ab) : bP p m m := ⟨rfl, rfl, fun _ _ _ h => h⟩
theorem bP.trans {p : Aa} {a b c : Ab} (h : bP p a b) (g : bP p b c) : bP p a c := ⟨h.base.trans g.base, h.next.trans g.next, fun i hi v hv => g.held i hi v (h.held i hi v hv)⟩
structure UQ (xs ys : List Am) : Prop where
 l : ys.length = xs.length
 o : ∀ (i : Nat) (x : Am), xs[i]? = some x → ∃ y, ys[i]? = some y ∧ bT x y
theorem bT.refl (x : Am) : bT x x := ⟨rfl, rfl, rfl, rfl, rfl, rfl, fun _ row h => ⟨row, h, rfl, fun _ h => h⟩⟩
theorem UQ.refl (xs : List Am) : UQ xs xs := ⟨rfl, fun _ x h => ⟨x, h, bT.refl x⟩⟩
theorem UQ.set {xs ys : List Am} (h : UQ xs ys) {i u v : Nat} {y : Am} {row : List Bool} {b b0 : Bool} (hy : ys[i]? = some y) (hu : y.fP[u]? = some row) (hv : row[v]? = some b0) (hb : b0 = true → b = true) :
  UQ xs (ys.set i ⟨y.fG, y.fF, y.fJ, y.fQ, y.fP.set u (row.set v b), y.fK⟩) := by
 refine ⟨by rw [zG8]; exact h.l, fun k x hx => ?_⟩
 obtain ⟨z, hz, ht⟩ := h.o k x hx
 by_cases e : i = k
 ·subst e
  rw [hy] at hz; cases hz
  have hi := (lI.1 hy).1
  refine ⟨⟨y.fG, y.fF, y.fJ, y.fQ, y.fP.set u (row.set v b), y.fK⟩, by rw [zF2, if_pos rfl, if_pos hi], ⟨ht.k, ht.f, ht.t, ht.a, ht.r, by show (y.fP.set u (row.set v b)).length = _; rw [zG8]; exact ht.l, fun w r hw => ?_⟩⟩
  obtain ⟨r', e1, e2, e3⟩ := ht.o w r hw
  by_cases eu : u = w
  ·subst eu
   rw [hu] at e1; cases e1
   have hul := (lI.1 hu).1
   refine ⟨row.set v b, by show (y.fP.set u (row.set v b))[u]? = _; rw [zF2, if_pos rfl, if_pos hul], by rw [zG8]; exact e2, fun q hq => ?_⟩
   have h1 := e3 q hq
   rw [zF2]
   by_cases ev : v = q
   ·subst ev
    rw [hv] at h1; cases h1
    rw [if_pos rfl, if_pos (lI.1 hv).1, hb rfl]
   ·rw [if_neg ev]; exact h1
  ·exact ⟨r', by show (y.fP.set u (row.set v b))[w]? = _; rw [zF2, if_neg eu]; exact e1, e2, e3⟩
 ·exact ⟨z, by rw [zF2, if_neg e]; exact hz, ht⟩
theorem UQ.row {xs ys : List Am} (h : UQ xs ys) {i u : Nat} {x : Am} {row : List Bool} (hx : xs[i]? = some x) (hu : x.fP[u]? = some row) : ∃ y r, ys[i]? = some y ∧ y.fP[u]? = some r ∧ r.length = row.length := by
 obtain ⟨y, hy, ht⟩ := h.o i x hx
 obtain ⟨r, e1, e2, _⟩ := ht.o u row hu
 exact ⟨y, r, hy, e1, e2⟩
theorem Ta {α : Type} : ∀ (i : Nat) (xs : List α), CS (fun _ x => [x]) i xs = xs
 | _, [] => rfl
 | i, x :: xs => by rw [CS, Ta (i + 1) xs]; rfl
def Gw (p : Aa) (t : Am) : Int := if B6 t = true then D6 .u8 1 (p.fH.getD t.fF.toNat 0) else 0
def Dz (p : Aa) : Ab := ⟨p.fH, zA5 p.fH.length (-1), p.fC.map (Gw p)⟩
theorem Wa (N : Nat) (h : 100 ≤ N) (n : Nat) (hn : n ≤ 6) : ET N [(-1)] (n : Int) = some (zA5 n (-1)) := by
 obtain ⟨k, rfl⟩ : ∃ k, N = k + 100 := ⟨N - 100, by omega⟩
 have : n = 0 ∨ n = 1 ∨ n = 2 ∨ n = 3 ∨ n = 4 ∨ n = 5 ∨ n = 6 := by omega
 rcases this with rfl | rfl | rfl | rfl | rfl | rfl | rfl
 all_goals (show _ = _; kernel_rfl)
theorem T1 (T : List Int) (i : Nat) (hi : i < T.length) : (T.take i ++ zA5 (T.length - i) 0).set i (T.getD i 0) = T.take (i + 1) ++ zA5 (T.length - (i + 1)) 0 := by
 have hl : (T.take i).length = i := by simp; omega
 rw [List.set_append_right _ _ (by omega), hl, zJ4, show T.length - i = (T.length - (i + 1)) + 1 from by omega, List.replicate_succ, List.set_cons_zero, zE2, zD7]
 have : T[i]? = some (T.getD i 0) := by rw [lD]; simp [hi]
 rw [this]; rfl
theorem Wl (T : List Int) (i : Nat) (hi : i < T.length) (h0 : T.getD i 0 = 0) : T.take i ++ zA5 (T.length - i) 0 = T.take (i + 1) ++ zA5 (T.length - (i + 1)) 0 := by
 rw [← T1 T i hi, h0, List.set_append_right _ _ (by rw [List.length_take]; omega)]
 congr 1
 have hl : (T.take i).length = i := by simp; omega
 rw [hl, zJ4, show T.length - i = (T.length - (i + 1)) + 1 from by omega, List.replicate_succ, List.set_cons_zero]
theorem Vd {p : Aa} (hv : Bx p = 0) {t : Am} (ht : t ∈ p.fC) : 0 ≤ t.fF ∧ t.fF.toNat < p.fH.length ∧ 0 ≤ p.fH.getD t.fF.toNat 0 ∧ p.fH.getD t.fF.toNat 0 < 6 ∧ p.fH.getD t.fF.toNat 0 < p.fA.getD t.fF.toNat 0 ∧ t.fF.toNat < p.fA.length := by
 obtain ⟨hp, hr⟩ := Ch hv
 have h1 := J2 (hp.tab t ht)
 have h2 := hr t.fF.toNat (by omega)
 have h3 := Jf hp (i := t.fF.toNat) (by omega)
 have := hp.now
 refine ⟨h1.1, by omega, h2.1, by omega, h2.2.1, by omega⟩
theorem KX {p : Aa} {i : Nat} {t : Am} (ht : p.fC[i]? = some t) : (p.fC.map (Gw p)).getD i 0 = Gw p t := by
 rw [lD, zA3, ht]; rfl
theorem N3 (N : Nat) (p : Aa) (hN : N ≤ 1000000) (h20 : 100 ≤ N) : Hu N p = some (if Bx p = 0 then Dz p else ⟨[], [], []⟩, Bx p) := by
 unfold Hu
 rw [JN N p hN (by omega)]
 simp only [oS]
 by_cases hv : Bx p = 0
 ·rw [if_pos hv, hv]
  obtain ⟨hp, _⟩ := Ch hv
  have hnv := hp.nv
  have hnt := hp.nt
  have hnow := hp.now
  rw [bne_self_eq_false, Ao, K2 N _ (by simp only [Db]; omega)]
  simp only [oS]
  rw [Wa N h20 _ (by omega)]
  simp only [oS]
  rw [As (by simp only [Db]; omega)]
  obtain ⟨a', e, ha⟩ := FF (EB N p fun v7 => some (Ab.mk p.fH (zA5 p.fH.length (-1)) v7, 0)) (fun a i => (a, i)) p.fC.length (fun v7 => some (Ab.mk p.fH (zA5 p.fH.length (-1)) v7, 0))
   (fun i a => a = (p.fC.map (Gw p)).take i ++ zA5 ((p.fC.map (Gw p)).length - i) 0)
   (fun n i a hi ha => by
    have hx : p.fC[i]? = some p.fC[i] := by simp [hi]
    have hm : p.fC[i] ∈ p.fC := zG1 hi
    obtain ⟨n1, n2, n3, n4, _⟩ := Vd hv hm
    rw [EB, Az (by simp only; omega)]
    simp only [Bd, AT, hx, oS, KB, AB (show i < 1000000 by omega)]
    have hal : i < (p.fC.map (Gw p)).length := by simpa using hi
    cases hs : B6 p.fC[i]
    ·rw [Ao]
     refine ⟨a, rfl, ?_⟩
     rw [ha]
     exact Wl _ _ hal (by rw [KX hx]; unfold Gw; rw [hs]; rfl)
    ·rw [AN]
     have e1 : Br p.fH p.fC[i].fF = some (p.fH.getD p.fC[i].fF.toNat 0) := by
      obtain ⟨q, hq⟩ := zA7 n1
      rw [hq]; exact Dt (by rw [hq] at n2; simpa using n2)
     rw [e1]
     simp only [oS]
     rw [As n3]
     have hl : i < a.length := by rw [ha]; simp; omega
     have e2 : a[i]? = some a[i] := by simp [hl]
     rw [e2]
     simp only [oS]
     refine ⟨_, rfl, ?_⟩
     rw [← T1 _ _ hal, KX hx, ha]
     unfold Gw; rw [hs]; rfl)
   (fun n a ha => by rw [EB, Ax (by simp)]) N 0 (zA5 p.fC.length 0) (zA9 _) (by omega) (by simp)
  have e' : EB N p (fun v7 => some (Ab.mk p.fH (zA5 p.fH.length (-1)) v7, 0)) N (zA5 ((p.fC.length : Int)).toNat (0 : Int), 0) = _ := e
  rw [e', ha]
  have e5 : (p.fC.map (Gw p)).take p.fC.length = p.fC.map (Gw p) := List.take_of_length_le (by simp)
  simp [Dz, e5]
 ·rw [if_neg hv, bne_iff_ne.2 hv, AN]
theorem Nn (N : Nat) (p : Aa) (hN : N ≤ 1000000) (h20 : 100 ≤ N) : Ef N p = some (if Bx p = 0 then Dz p else ⟨[], [], []⟩, Bx p) := by
 unfold Ef
 rw [K9 N p hN (by omega)]
 simp only [oS]
 by_cases hv : Bx p = 0
 ·rw [if_pos hv, hv]
  obtain ⟨hp, _⟩ := Ch hv
  have hnv := hp.nv
  have hnt := hp.nt
  have hnow := hp.now
  rw [bne_self_eq_false, Ao]
  obtain ⟨a', e, ha⟩ := FF (Co N p fun v4 => Bo N p (fun v10 => some (Ab.mk v4.1 v4.2 v10, 0)) N (([] : List Int), 0)) (fun a i => (a.1, a.2, i)) p.fA.length (fun v4 => Bo N p (fun v10 => some (Ab.mk v4.1 v4.2 v10, 0)) N (([] : List Int), 0))
   (fun i a => a = (p.fH.take i, zA5 i (-1)))
   (fun n i a hi ha => by
    subst ha
    rw [Co, Az (by simp only; omega)]
    have hx : p.fH[i]? = some p.fH[i] := by simp [show i < p.fH.length from by omega]
    simp only [AT, hx, oS, AB (show i < 1000000 by omega)]
    rw [As (by simp [Db]; omega), As (by simp [Db]; omega)]
    refine ⟨(p.fH.take i ++ [p.fH[i]], zA5 i (-1) ++ [-1]), rfl, ?_⟩
    rw [zE2, hx, List.replicate_succ']; rfl)
   (fun n a ha => by rw [Co, Ax (by simp)]) N 0 ([], []) (zA9 _) (by omega) rfl
  have e' : Co N p (fun v4 => Bo N p (fun v10 => some (Ab.mk v4.1 v4.2 v10, 0)) N (([] : List Int), 0)) N (([] : List Int), ([] : List Int), 0) = _ := e
  rw [e', ha]
  simp only
  obtain ⟨b', e2, hb⟩ := FF (Bo N p fun v10 => some (Ab.mk (p.fH.take p.fA.length) (zA5 p.fA.length (-1)) v10, 0)) (fun a i => (a, i)) p.fC.length (fun v10 => some (Ab.mk (p.fH.take p.fA.length) (zA5 p.fA.length (-1)) v10, 0))
   (fun i a => a = (p.fC.map (Gw p)).take i)
   (fun n i a hi ha => by
    subst ha
    have hx : p.fC[i]? = some p.fC[i] := by simp [hi]
    have hm : p.fC[i] ∈ p.fC := zG1 hi
    obtain ⟨n1, n2, n3, n4, _⟩ := Vd hv hm
    rw [Bo, Az (by simp only; omega)]
    simp only [Bd, AT, hx, oS, HH, AB (show i < 1000000 by omega)]
    have hT : (p.fC.map (Gw p))[i]? = some (Gw p p.fC[i]) := by rw [zA3, hx]; rfl
    have hlen : ((p.fC.map (Gw p)).take i).length + 1 ≤ Db := by simp [Db]; omega
    cases hs : B6 p.fC[i]
    ·rw [Ao, As (by simpa using hlen)]
     refine ⟨_, rfl, ?_⟩
     rw [zE2, hT]
     unfold Gw; rw [hs]; rfl
    ·rw [AN]
     have e1 : Br p.fH p.fC[i].fF = some (p.fH.getD p.fC[i].fF.toNat 0) := by
      obtain ⟨q, hq⟩ := zA7 n1
      rw [hq]; exact Dt (by rw [hq] at n2; simpa using n2)
     rw [e1]
     simp only [oS]
     rw [As n3, As (by simpa using hlen)]
     refine ⟨_, rfl, ?_⟩
     rw [zE2, hT]
     unfold Gw; rw [hs]; rfl)
   (fun n a ha => by rw [Bo, Ax (by simp)]) N 0 [] (zA9 _) (by omega) rfl
  have e3 : Bo N p (fun v10 => some (Ab.mk (p.fH.take p.fA.length) (zA5 p.fA.length (-1)) v10, 0)) N (([] : List Int), 0) = _ := e2
  rw [e3, hb]
  simp only [Dz, ← hnow, zH8]
  rw [show p.fC.length = (p.fC.map (Gw p)).length from by simp, zH8]
 ·rw [if_neg hv, bne_iff_ne.2 hv, AN]
theorem K3 {p : Aa} (hv : Bx p = 0) : Bz p (Dz p) := by
 obtain ⟨hp, hr⟩ := Ch hv
 have hnow := hp.now
 have hnx : ∀ i, i < p.fA.length → (zA5 p.fH.length (-1 : Int)).getD i 0 = -1 := fun i hi => by
  rw [lD, List.getElem?_replicate, if_pos (by omega)]; rfl
 have hone : ∀ (i : Nat) (t : Am), p.fC[i]? = some t → ∃ b : Nat, b < 6 ∧ p.fH.getD t.fF.toNat 0 = (b : Int) ∧ (b : Int) < p.fA.getD t.fF.toNat 0 ∧ t.fF.toNat < p.fA.length := fun i t ht => by
  obtain ⟨n1, n2, n3, n4, n5, n6⟩ := Vd hv (lM ht)
  obtain ⟨b, hb⟩ := zA7 n3
  exact ⟨b, by omega, hb, by omega, n6⟩
 have hbit : ∀ b : Nat, b < 8 → ∀ v, Ee (D6 .u8 1 (b : Int)) v = decide (b = v) := fun b hb v => by
  by_cases h : v < 8
  ·exact (Le ⟨b, hb⟩ ⟨v, h⟩).1
  ·rw [Lb (Le ⟨b, hb⟩ ⟨0, by omega⟩).2.2 (by omega)]
   symm; apply decide_eq_false; omega
 refine { base := hnow, next := by simp [Dz, hnow], held := by simp [Dz], b0 := fun i hi => ⟨(hr i hi).1, (hr i hi).2.1⟩, n0 := fun i hi => ?_, ne := fun i hi => ?_, range := fun i hi => ?_, low := fun i t ht hs v hv' => ?_, high := fun i t ht hs v hb => ?_, none := fun i t ht hs => ?_ }
 ·show -1 ≤ (zA5 p.fH.length (-1 : Int)).getD i 0 ∧ (zA5 p.fH.length (-1 : Int)).getD i 0 < _
  rw [hnx i hi]
  have := Jf hp hi
  omega
 ·show p.fH.getD i 0 ≠ (zA5 p.fH.length (-1 : Int)).getD i 0
  rw [hnx i hi]
  have := hr i hi
  omega
 ·have hx : p.fC[i]? = some p.fC[i] := by simp [hi]
  show 0 ≤ (p.fC.map (Gw p)).getD i 0 ∧ (p.fC.map (Gw p)).getD i 0 ≤ 255
  rw [KX hx]
  unfold Gw
  split
  ·obtain ⟨b, h1, h2, _⟩ := hone i _ hx
   rw [h2]
   exact (Le ⟨b, by omega⟩ ⟨0, by omega⟩).2
  ·omega
 ·show Ee ((p.fC.map (Gw p)).getD i 0) v = true
  obtain ⟨b, h1, h2, h3, h4⟩ := hone i t ht
  rw [KX ht]
  unfold Gw
  rw [if_pos hs, h2, hbit b (by omega)]
  unfold JI at hv'
  have h5 : (Dz p).fD.getD t.fF.toNat 0 = (b : Int) := h2
  have h6 : (Dz p).fB.getD t.fF.toNat 0 = -1 := hnx _ h4
  rw [h5, h6, zG0, decide_eq_true_iff, decide_eq_true_iff] at hv'
  apply decide_eq_true; omega
 ·have hb : Ee ((p.fC.map (Gw p)).getD i 0) v = true := hb
  obtain ⟨b, h1, h2, h3, h4⟩ := hone i t ht
  rw [KX ht] at hb
  unfold Gw at hb
  rw [if_pos hs, h2, hbit b (by omega), decide_eq_true_iff] at hb
  omega
 ·show (p.fC.map (Gw p)).getD i 0 = 0
  rw [KX ht]; unfold Gw; rw [hs]; rfl
theorem OS (x : BitVec 8) : wI .u8 (x.toNat : Int) = (x.toNat : Int) := by
 have := x.isLt
 simp [wI, IntKind.signed, IntKind.bits]
 omega
theorem Ue (x : BitVec 8) : 0 ≤ (x.toNat : Int) ∧ (x.toNat : Int) ≤ 255 := by
 have := x.isLt
 omega
theorem W5 (x : BitVec 8) (v : Nat) : Ee (x.toNat : Int) v = x.getLsbD v := by
 unfold Ee; rw [zB3]; rfl
theorem Sj {a : Int} (ha : 0 ≤ a ∧ a ≤ 255) (v : Nat) : (BitVec.ofInt 8 a).getLsbD v = Ee a v := by
 obtain ⟨a, rfl⟩ := zA7 ha.1
 unfold BitVec.getLsbD Ee
 rw [Xn (by omega), zB3]
theorem UX {a b : Int} (ha : 0 ≤ a ∧ a ≤ 255) (hb : 0 ≤ b ∧ b ≤ 255) : (∀ v, Ee (Dk .u8 a b) v = (Ee a v && !Ee b v)) ∧ 0 ≤ Dk .u8 a b ∧ Dk .u8 a b ≤ 255 := by
 have e : Dk .u8 a b = ((BitVec.ofInt 8 a &&& ~~~BitVec.ofInt 8 b).toNat : Int) := OS (BitVec.ofInt 8 a &&& ~~~BitVec.ofInt 8 b)
 rw [e]
 refine ⟨fun v => ?_, Ue _⟩
 rw [W5, BitVec.getLsbD_and, BitVec.getLsbD_not, Sj ha, Sj hb]
 by_cases h : v < 8
 ·simp [h]
 ·rw [Lb ha.2 (by omega)]; simp
theorem Ux {a b : Int} (ha : 0 ≤ a ∧ a ≤ 255) (hb : 0 ≤ b ∧ b ≤ 255) : (∀ v, Ee (QC .u8 a b) v = (Ee a v || Ee b v)) ∧ 0 ≤ QC .u8 a b ∧ QC .u8 a b ≤ 255 := by
 have e : QC .u8 a b = ((BitVec.ofInt 8 a ||| BitVec.ofInt 8 b).toNat : Int) := OS (BitVec.ofInt 8 a ||| BitVec.ofInt 8 b)
 rw [e]
 refine ⟨fun v => ?_, Ue _⟩
 rw [W5, BitVec.getLsbD_or, Sj ha, Sj hb]
theorem YW {b : Nat} (hb : b < 8) : (∀ v, Ee (D6 .u8 1 (b : Int)) v = decide (b = v)) ∧ 0 ≤ D6 .u8 1 (b : Int) ∧ D6 .u8 1 (b : Int) ≤ 255 := by
 refine ⟨fun v => ?_, (Le ⟨b, hb⟩ ⟨0, by omega⟩).2⟩
 by_cases h : v < 8
 ·exact (Le ⟨b, hb⟩ ⟨v, h⟩).1
 ·rw [Lb (Le ⟨b, hb⟩ ⟨0, by omega⟩).2.2 (by omega)]
  symm; apply decide_eq_false; omega
theorem XY (N : Nat) {s : Int} {v : Nat} (hs : 0 ≤ s ∧ s ≤ 255) (hv : v < 8) : CM N s (v : Int) = some (Ee s v) := by
 unfold CM
 rw [As (by omega), So hs.1 hs.2 hv]
 cases Ee s v <;> rfl
def ad (v : Nat) : Nat := ((zB4 8).find? fun u => v.testBit u).getD 8
def dL (v : Nat) : Nat := ((zB4 8).filter fun u => v.testBit u).length
theorem bt : ∀ v : Fin 256, Do 0 (v.val : Int) = some (ad v.val : Int) := by decide +kernel
theorem d4 (N : Nat) {v : Nat} (h : v < 256) : Do N (v : Int) = some (ad v : Int) := bt ⟨v, h⟩
theorem ZD : ∀ v : Fin 256, v.val ≠ 0 → ad v.val < 8 ∧ Ee (v.val : Int) (ad v.val) = true ∧ 0 ≤ AK .u8 (v.val : Int) (wI .u8 ((v.val : Int) - 1)) ∧ AK .u8 (v.val : Int) (wI .u8 ((v.val : Int) - 1)) ≤ 255 ∧
  dL (AK .u8 (v.val : Int) (wI .u8 ((v.val : Int) - 1))).toNat + 1 = dL v.val ∧
  ∀ u : Fin 8, Ee (AK .u8 (v.val : Int) (wI .u8 ((v.val : Int) - 1))) u.val = (Ee (v.val : Int) u.val && decide (u.val ≠ ad v.val)) := by decide +kernel
theorem cF (v : Nat) : dL v ≤ 8 := by
 have := List.length_filter_le (fun u => v.testBit u) (zB4 8)
 simpa [dL] using this
theorem Ua (N : Nat) (t : Am) (b : Int) (rw_ : Nat → Bool) : ∀ (k n v : Nat), dL v ≤ k → k < n → v < 256 →
  (∀ u, u < 8 → Ee (v : Int) u = true → ∃ row, Br t.fK (u : Int) = some row ∧ Br row b = some (rw_ u)) →
  DX N t b (fun _ => some true) n (v : Int) = some ((zB4 8).all fun u => !Ee (v : Int) u || rw_ u)
 | k, 0, v, _, h, _, _ => by omega
 | k, n + 1, v, hk, hn, hv, hr => by
  rw [DX]
  by_cases h0 : v = 0
  ·subst h0
   have : (((0 : Nat) : Int) != 0) = false := rfl
   rw [this, Ao]
   congr 1
  ·have h1 : ((v : Int) != 0) = true := bne_iff_ne.2 (by omega)
   obtain ⟨l1, l2, l3, l4, l5, l6⟩ := ZD ⟨v, hv⟩ h0
   simp only at l1 l2 l3 l4 l5 l6
   obtain ⟨row, e1, e2⟩ := hr _ l1 l2
   rw [h1, AN, d4 N hv]
   simp only [oS, e1, e2]
   obtain ⟨w, hw⟩ := zA7 l3
   rw [hw] at l4 l5 l6 ⊢
   rw [zB3] at l5
   cases hq : rw_ (ad v)
   ·rw [zE0, AN]
    congr 1
    symm
    rw [List.all_eq_false]
    exact ⟨ad v, by simpa using l1, by rw [l2, hq]; simp⟩
   ·rw [zB9, Ao]
    match k, hk with
    | 0, hk => exfalso; omega
    | k + 1, hk =>
    rw [Ua N t b rw_ k n w (by omega) (by omega) (by omega) (fun u hu hb => hr u hu (by have := l6 ⟨u, hu⟩; simp only at this; rw [hb] at this; simpa using (zH6.1 this.symm).1))]
    congr 1
    rw [Bool.eq_iff_iff, zA4, zA4]
    refine ⟨fun h u hu => ?_, fun h u hu => ?_⟩
    ·have hu8 : u < 8 := by simpa using hu
     have h3 := h u hu
     have h4 := l6 ⟨u, hu8⟩
     simp only at h4
     rw [h4] at h3
     by_cases e : u = ad v
     ·rw [e, hq]; simp
     ·simpa [e] using h3
    ·have hu8 : u < 8 := by simpa using hu
     have h3 := h u hu
     have h4 := l6 ⟨u, hu8⟩
     simp only at h4
     rw [h4]
     cases hb : Ee (v : Int) u
     ·simp
     ·rw [hb] at h3; simp at h3; simp [h3]
theorem TN (N : Nat) (m : Ab) (s : Int) (h0 : 0 ≤ s) (h1 : s < (m.fD.length : Int)) (h2 : s < (m.fB.length : Int)) (hb : 0 ≤ m.fD.getD s.toNat 0) : GK N m s = some (HJ m s.toNat) := by
 unfold GK HJ
 rw [Em (d := 0) h0 h1, Em (d := 0) h0 h2]
 simp only [oS, Be]
 rw [show DN (0 ≤ m.fD.getD s.toNat 0) = some () from by unfold DN; rw [if_pos hb]]
 simp only [oS]
 by_cases h : 0 ≤ m.fB.getD s.toNat 0
 ·rw [Az h, if_pos h, show DN (0 ≤ m.fB.getD s.toNat 0) = some () from by unfold DN; rw [if_pos h]]; rfl
 ·rw [Ax h, if_neg h]
theorem Mn (N : Nat) (t : Am) : Gs N t = some (B6 t) := by
 unfold Gs B6
 simp only [Be]
 cases h : t.fG == 3 <;> simp
def Hk (s : Ad) : Bool := decide (1 ≤ s.fG ∧ s.fG ≤ 4 ∧ 0 ≤ s.fI ∧ 0 ≤ s.fO) && (s.fG == 1 || s.fO == 0)
def Gu (p : Aa) (s : Ad) : Bool :=
 if s.fG = 3 then decide (s.fI < (p.fC.length : Int)) else decide (s.fI < (p.fA.length : Int)) && (s.fG != 1 || decide (s.fO < p.fA.getD s.fI.toNat 0))
theorem QK (N : Nat) (s : Ad) : HI N s = some (Hk s) := by
 unfold HI Hk WZ
 simp only [Be]
 by_cases h1 : (if s.fO < s.fI then s.fO else s.fI) < 0
 ·rw [Az h1, AN, decide_eq_false (by split at h1 <;> omega)]; rfl
 ·rw [Ax h1]
  by_cases h2 : s.fG < 1
  ·rw [Az h2, AN, decide_eq_false (by omega)]; rfl
  ·rw [Ax h2]
   by_cases h3 : 4 < s.fG
   ·rw [decide_eq_true h3, AN, decide_eq_false (by omega)]; rfl
   ·rw [decide_eq_false h3, Ao, decide_eq_true (by split at h1 <;> omega), zE1]
    cases h4 : s.fG == 1 <;> simp
theorem Sk (N : Nat) (s : Ad) : EV N s = some (Hk s) := by
 unfold EV Hk
 simp only [Be]
 by_cases h1 : 1 ≤ s.fG
 ·rw [Az h1]
  by_cases h2 : s.fG ≤ 4
  ·rw [Az h2]
   by_cases h3 : 0 ≤ s.fI
   ·rw [Az h3]
    by_cases h4 : 0 ≤ s.fO
    ·rw [Az h4, decide_eq_true (by omega), zE1]
     cases h5 : s.fG == 1 <;> simp
    ·rw [Ax h4, decide_eq_false (by omega)]; rfl
   ·rw [Ax h3, decide_eq_false (by omega)]; rfl
  ·rw [Ax h2, decide_eq_false (by omega)]; rfl
 ·rw [Ax h1, decide_eq_false (by omega)]; rfl
theorem P4 (N : Nat) (p : Aa) (s : Ad) (hv : Hk s = true) : Hj N p s = some (Gu p s) := by
 have h0 : 0 ≤ s.fI := by
  unfold Hk at hv
  rw [zA6, decide_eq_true_iff] at hv
  exact hv.1.2.2.1
 unfold Hj Gu
 simp only [Be]
 by_cases h1 : s.fG = 3
 ·rw [if_pos h1, beq_iff_eq.2 h1, AN]
 ·rw [if_neg h1, beq_eq_false_iff_ne.2 h1, Ao]
  by_cases h2 : s.fI < (p.fA.length : Int)
  ·rw [Az h2, decide_eq_true h2, zE1]
   cases h3 : s.fG != 1
   ·rw [Ao, Em (d := 0) h0 h2, zI8]; rfl
   ·rw [AN]; rfl
  ·rw [Ax h2, decide_eq_false h2]; rfl
def Vp (s : Ad) (t : Am) : Bool := t.fF == s.fI && B6 t
def WM (s : Ad) (i : Nat) (t : Am) (a : List Int) : List Int := if Vp s t = true then a.set i (QC .u8 (a.getD i 0) (D6 .u8 1 s.fO)) else a
def J4 (p : Aa) (s : Ad) (held : List Int) : List Int := Jp (WM s) 0 p.fC held
theorem O2 {_R : Type} (N : Nat) (p : Aa) (s : Ad) (held : List Int) (hv : 0 ≤ s.fO) (hl : held.length = p.fC.length) (h12 : p.fC.length < N) (hN : N ≤ 1000000) (j : List Int → Option (Bool × List Int × List Int)) :
  Ej N p s j N (held, 0) = j (J4 p s held) ∧ (J4 p s held).length = p.fC.length := by
 have := Ic (Ej N p s j) (fun a i => (a, i)) p.fC j (WM s) (fun i a => a.length = p.fC.length)
  (fun n i x a hx ha => by
   have hi := (lI.1 hx).1
   rw [Ej, Az (by simp only; omega)]
   simp only [Bd, AT, hx, oS, Mn, AB (show i < 1000000 by omega)]
   have e2 : a[i]? = some (a.getD i 0) := by rw [lD]; simp [show i < a.length from by omega]
   unfold WM Vp
   cases h1 : x.fF == s.fI
   ·rw [Ao, Ao, zJ9, if_neg (by simp)]; exact ⟨rfl, ha⟩
   ·rw [AN, zE1]
    cases h2 : B6 x
    ·rw [Ao, if_neg (by simp)]; exact ⟨rfl, ha⟩
    ·rw [AN, e2, if_pos rfl]
     simp only [oS]
     rw [As hv]
     exact ⟨rfl, by simpa using ha⟩)
  (fun n a ha => by rw [Ej, Ax (by simp)]) N 0 held (zA9 _) (by omega) hl
 rw [zC0] at this
 exact this
theorem PY (N : Nat) (p : Aa) (s : Ad) (held : List Int) (hv : 0 ≤ s.fO) (hl : held.length = p.fC.length) (h12 : p.fC.length < N) (hN : N ≤ 1000000) (j : List Int → Option (Ab × Bool)) :
  B8 N p s j N (held, 0) = j (J4 p s held) := by
 have := Ic (B8 N p s j) (fun a i => (a, i)) p.fC j (WM s) (fun i a => a.length = p.fC.length)
  (fun n i x a hx ha => by
   have hi := (lI.1 hx).1
   rw [B8, Az (by simp only; omega)]
   simp only [Bd, AT, hx, oS, HH, AB (show i < 1000000 by omega)]
   have e2 : a[i]? = some (a.getD i 0) := by rw [lD]; simp [show i < a.length from by omega]
   unfold WM Vp
   cases h1 : x.fF == s.fI
   ·rw [Ao, Ao, zJ9, if_neg (by simp)]; exact ⟨rfl, ha⟩
   ·rw [AN, zE1]
    cases h2 : B6 x
    ·rw [Ao, if_neg (by simp)]; exact ⟨rfl, ha⟩
    ·rw [AN, e2, if_pos rfl]
     simp only [oS]
     rw [As hv]
     exact ⟨rfl, by simpa using ha⟩)
  (fun n a ha => by rw [B8, Ax (by simp)]) N 0 held (zA9 _) (by omega) hl
 rw [zC0] at this
 exact this.1
def MS (m : Ab) (t : Am) (u : Nat) : Bool := (t.fK.getD u []).getD (m.fD.getD t.fF.toNat 0).toNat false
def Pm (m : Ab) (i : Nat) (t : Am) (u : Nat) : Bool := Ee (m.fE.getD i 0) u && !JI m t.fF.toNat u
def Jg (_p : Aa) (m : Ab) (i : Nat) (t : Am) : Bool := t.fG == 4 && (zB4 8).any fun u => Pm m i t u && !MS m t u
def Gm (p : Aa) (m : Ab) (s : Ad) : Option Ab :=
 let i := s.fI.toNat
 if s.fG = 1 then (if 0 ≤ m.fB.getD i 0 ∨ m.fD.getD i 0 = s.fO then none else some ⟨m.fD, m.fB.set i s.fO, J4 p s m.fE⟩)
 else if s.fG = 3 then match p.fC[i]? with
  | none => none
  | some t => if B6 t = false ∨ m.fE.getD i 0 = HJ m t.fF.toNat ∨ Jg p m i t = true then none else some ⟨m.fD, m.fB, m.fE.set i (HJ m t.fF.toNat)⟩
 else if m.fB.getD i 0 < 0 then none
 else some ⟨if s.fG = 2 then m.fD.set i (m.fB.getD i 0) else m.fD, m.fB.set i (-1), m.fE⟩
def AX (p : Aa) (m : Ab) (s : Ad) : Ab × Int :=
 if Hk s = false then (HL, 1) else if Gu p s = false then (HL, 4) else match Gm p m s with
  | none => (HL, 11)
  | some x => (x, 0)
end Go.Lift
namespace Go.Lift
open Option renaming bind_some → oS
open List renaming mem_of_getElem? → lM
open List renaming getElem?_eq_some_iff → lI
open List renaming getD_eq_getElem?_getD → lD
open Go
section clear
variable {p : Aa} {m : Ab} {i : Nat} {t : Am}
theorem X7 (hp : Bf p) (hm : Bz p m) (ht : p.fC[i]? = some t) (hs : B6 t = true) {u : Nat} (h : Ee (m.fE.getD i 0) u = true) : (u : Int) < p.fA.getD t.fF.toNat 0 ∧ u < 6 ∧ t.fF.toNat < p.fA.length := by
 have h1 := hm.high i t ht hs u h
 have hin := J2 (hp.tab t (lM ht))
 have h2 := Jf hp (i := t.fF.toNat) (by omega)
 exact ⟨h1, by omega, by omega⟩
theorem XW (hp : Bf p) (hm : Bz p m) (ht : p.fC[i]? = some t) (hs : B6 t = true) (h4 : t.fG = 4) {u : Nat} (h : Ee (m.fE.getD i 0) u = true) :
  Br t.fK (u : Int) = some (t.fK.getD u []) ∧ Br (t.fK.getD u []) (m.fD.getD t.fF.toNat 0) = some (MS m t u) := by
 have hT := LP (hp.tab t (lM ht))
 obtain ⟨h1, h2, h3⟩ := X7 hp hm ht hs h
 have hl := hT.reL h4
 have e : t.fK[u]? = some (t.fK.getD u []) := by rw [lD]; simp [show u < t.fK.length from by omega]
 have hr := hT.reR _ (lM e)
 have hb := hm.b0 t.fF.toNat h3
 refine ⟨by rw [AT, e], ?_⟩
 unfold MS
 obtain ⟨b, hb'⟩ := zA7 hb.1
 rw [hb'] at hb ⊢
 rw [zB3]
 exact Dt (by omega)
theorem QO (N : Nat) (hN : N ≤ 1000000) (h20 : 100 ≤ N) (hp : Bf p) (hm : Bz p m) (ht : p.fC[i]? = some t) :
  HM N p m (i : Int) = some (if B6 t = false ∨ m.fE.getD i 0 = HJ m t.fF.toNat ∨ Jg p m i t = true then (false, m.fE) else (true, m.fE.set i (HJ m t.fF.toNat))) := by
 have hi := (lI.1 ht).1
 have hin := J2 (hp.tab t (lM ht))
 have hb := hm.base
 have hnx := hm.next
 have hh := hm.held
 have hr := I7 hp hm.toMixServ (s := t.fF.toNat) (by omega)
 have hrg := hm.range i hi
 have eh : Br m.fE (i : Int) = some (m.fE.getD i 0) := Dt (by omega)
 unfold HM
 simp only [Bd, AT, ht, oS, Mn]
 have eh' : m.fE[i]? = some (m.fE.getD i 0) := by rw [← AT, eh]
 cases hs : B6 t
 ·rw [zE0, AN, if_pos (.inl rfl)]
 ·rw [zB9, Ao, TN N m _ hin.1 (by omega) (by omega) (hm.b0 _ (by omega)).1]
  simp only [oS, eh']
  by_cases h1 : m.fE.getD i 0 = HJ m t.fF.toNat
  ·rw [beq_iff_eq.2 h1, AN, AN, if_pos (.inr (.inl h1))]
  ·rw [beq_eq_false_iff_ne.2 h1, Ao]
   by_cases h4 : t.fG = 4
   ·rw [beq_iff_eq.2 h4, AN, Em (d := 0) hin.1 (by omega)]
    simp only [oS]
    obtain ⟨a1, a2, a3⟩ := UX hrg hr.2
    obtain ⟨w, hw⟩ := zA7 a2
    unfold GB
    rw [hw] at a1 a3 ⊢
    rw [Ua N t _ (MS m t) 8 N w (cF _) (by omega) (by omega) (fun u hu hbu => by
     have := a1 u; rw [hbu] at this
     exact ⟨_, XW hp hm ht hs h4 (zH6.1 this.symm).1⟩)]
    simp only [oS]
    have e : (!(zB4 8).all fun u => !Ee (w : Int) u || MS m t u) = Jg p m i t := by
     unfold Jg
     rw [beq_iff_eq.2 h4, zE1, List.not_all_eq_any_not]
     congr 1
     funext u
     rw [a1 u, hr.1 u]
     unfold Pm
     cases Ee (m.fE.getD i 0) u <;> cases JI m t.fF.toNat u <;> cases MS m t u <;> rfl
    rw [e]
    cases hst : Jg p m i t
    ·rw [Ao, if_neg (by rintro (h | h | h); cases h; exact h1 h; cases h)]; rfl
    ·rw [AN, if_pos (.inr (.inr rfl))]
   ·have e : Jg p m i t = false := by unfold Jg; rw [beq_eq_false_iff_ne.2 h4]; rfl
    rw [beq_eq_false_iff_ne.2 h4, Ao, Ao, e, if_neg (by rintro (h | h | h); cases h; exact h1 h; cases h)]; rfl
theorem PU (N : Nat) (hN : N ≤ 1000000) (h20 : 100 ≤ N) (hp : Bf p) (hm : Bz p m) (ht : p.fC[i]? = some t) (hs : B6 t = true) (s : Ad) (hsi : s.fI = (i : Int)) (j : Option (Ab × Bool)) :
  BP N p m s t (HJ m t.fF.toNat) (fun _ => j) N 0 = if Jg p m i t = true then some (HL, false) else j := by
 have hi := (lI.1 ht).1
 have hin := J2 (hp.tab t (lM ht))
 have hb := hm.base
 have hh := hm.held
 have hr := I7 hp hm.toMixServ (s := t.fF.toNat) (by omega)
 have hrg := hm.range i hi
 have hver := Jf hp (i := t.fF.toNat) (by omega)
 obtain ⟨nv, hnv⟩ := zA7 (show 0 ≤ p.fA.getD t.fF.toNat 0 by omega)
 have eh' : m.fE[i]? = some (m.fE.getD i 0) := by rw [lD]; simp [show i < m.fE.length from by omega]
 have := Cx (BP N p m s t (HJ m t.fF.toNat) fun _ => j) (zB4 nv) j (fun u _ => if (Pm m i t u && (t.fG == 4 && !MS m t u)) = true then some (HL, false) else none)
  (fun n u x hx => by
   have hu : u < nv := by
    have := (lI.1 hx).1
    simpa using this
   rw [BP, Em (d := 0) hin.1 (by omega), hnv]
   simp only [oS]
   rw [Az (by omega)]
   simp only [Bd, hsi, AT, eh', oS]
   rw [XY N hrg (by omega), AB (by omega)]
   simp only [oS]
   cases h1 : Ee (m.fE.getD i 0) u
   ·have e : Pm m i t u = false := by unfold Pm; rw [h1]; rfl
    rw [Ao, Ao, Ao, e]; rfl
   ·rw [AN, XY N hr.2 (by omega), hr.1 u]
    simp only [oS]
    have e : Pm m i t u = !JI m t.fF.toNat u := by unfold Pm; rw [h1]; rfl
    rw [← e]
    cases h2 : Pm m i t u
    ·rw [Ao, Ao]; rfl
    ·rw [AN]
     by_cases h4 : t.fG = 4
     ·obtain ⟨e1, e2⟩ := XW hp hm ht hs h4 h1
      rw [AT] at e1
      rw [beq_iff_eq.2 h4, AN, e1, Em (d := 0) hin.1 (by omega)]
      simp only [oS]
      rw [e2]
      simp only [oS]
      cases MS m t u <;> rfl
     ·rw [beq_eq_false_iff_ne.2 h4, Ao, Ao]; rfl)
  (fun n => by
   rw [BP, Em (d := 0) hin.1 (by omega), hnv]
   simp only [oS, zH5]
   rw [Ax (by omega)]) N 0 (zA9 _) (by simp; omega)
 have e0 : BP N p m s t (HJ m t.fF.toNat) (fun _ => j) N 0 = _ := this
 rw [e0, zC0]
 by_cases hst : Jg p m i t = true
 ·rw [if_pos hst]
  unfold Jg at hst
  rw [zA6, zE8] at hst
  obtain ⟨h4, u, hu, h5⟩ := hst
  rw [zA6] at h5
  have h6 : Ee (m.fE.getD i 0) u = true := by have := h5.1; unfold Pm at this; exact (zH6.1 this).1
  have h7 := X7 hp hm ht hs h6
  cases hsc : CR (fun u (_ : Nat) => if (Pm m i t u && (t.fG == 4 && !MS m t u)) = true then some (HL, false) else none) 0 (zB4 nv) with
  | some r =>
   obtain ⟨q, x, hx, hf⟩ := DI hsc
   split at hf
   ·cases hf; rfl
   ·cases hf
  | none =>
   exfalso
   have hx : (zB4 nv)[u]? = some u := List.getElem?_range (by omega)
   have := Fu hsc u u hx
   rw [zA1, h5.1, h4, h5.2] at this
   cases this
 ·rw [if_neg hst]
  have : CR (fun u (_ : Nat) => if (Pm m i t u && (t.fG == 4 && !MS m t u)) = true then some (HL, false) else none) 0 (zB4 nv) = none := GF fun q x hx => by
   rw [zA1]
   split
   ·rename_i h5
    exfalso; apply hst
    rw [zA6, zA6] at h5
    unfold Jg
    rw [h5.2.1, zE1, zE8]
    have hq : q < nv := by
     have := (lI.1 hx).1
     simpa using this
    exact ⟨q, zE3.2 (by omega), by rw [h5.1, h5.2.2]; rfl⟩
   ·rfl
  rw [this]; rfl
end clear
end Go.Lift
namespace Go.Lift
open Option renaming bind_some → oS
open List renaming mem_of_getElem? → lM
open Go
theorem IS {s : Ad} (h : Hk s = true) : 1 ≤ s.fG ∧ s.fG ≤ 4 ∧ 0 ≤ s.fI ∧ 0 ≤ s.fO ∧ (s.fG ≠ 1 → s.fO = 0) := by
 unfold Hk at h
 rw [zA6, decide_eq_true_iff, zG0, beq_iff_eq, beq_iff_eq] at h
 exact ⟨h.1.1, h.1.2.1, h.1.2.2.1, h.1.2.2.2, fun hk => h.2.elim (fun e => (hk e).elim) id⟩
theorem JR {p : Aa} {s : Ad} (h : Gu p s = true) : (s.fG = 3 → s.fI < (p.fC.length : Int)) ∧ (s.fG ≠ 3 → s.fI < (p.fA.length : Int)) ∧ (s.fG = 1 → s.fO < p.fA.getD s.fI.toNat 0) := by
 unfold Gu at h
 split at h
 ·rename_i hk
  rw [decide_eq_true_iff] at h
  exact ⟨fun _ => h, fun hn => (hn hk).elim, fun h1 => by omega⟩
 ·rename_i hk
  rw [zA6, decide_eq_true_iff, zG0, decide_eq_true_iff, bne_iff_ne] at h
  exact ⟨fun h3 => (hk h3).elim, fun _ => h.1, fun h1 => h.2.elim (fun hn => (hn h1).elim) id⟩
theorem Wp (N : Nat) {p : Aa} {m : Ab} (hp : Bf p) (hm : Bz p m) : He N m = some m := by
 have hnv := hp.nv
 have hnt := hp.nt
 have h1 := hm.base
 have h2 := hm.next
 have h3 := hm.held
 unfold He
 rw [K2 N _ (by simp only [Db]; omega), K2 N _ (by simp only [Db]; omega), Rh N _ (by simp only [Db]; omega)]
 rfl
theorem MQ (N : Nat) (hN : N ≤ 1000000) (h20 : 100 ≤ N) {p : Aa} {m : Ab} (hp : Bf p) (hm : Bz p m) {s : Ad} (hv : Hk s = true) (hx : Gu p s = true) :
  ∃ o, F9 N p m s = some (o, (Gm p m s).isSome) ∧ ∀ x, Gm p m s = some x → o = x := by
 obtain ⟨k1, k4, i0, v0, vk⟩ := IS hv
 obtain ⟨x3, xn, x1⟩ := JR hx
 have hnv := hp.nv
 have hnt := hp.nt
 have hb := hm.base
 have hn := hm.next
 have hh := hm.held
 obtain ⟨i, hi⟩ := zA7 i0
 unfold F9 Gm
 rw [Wp N hp hm]
 simp only [oS, Bd]
 by_cases hk1 : s.fG = 1
 ·have hi1 : (i : Int) < p.fA.length := by have := xn (by omega); omega
  rw [beq_iff_eq.2 hk1, AN, if_pos hk1]
  unfold I1
  simp only [Bd, hi, zB3]
  rw [Dt (d := 0) (show i < m.fB.length by omega)]
  simp only [oS]
  by_cases c1 : 0 ≤ m.fB.getD i 0
  ·rw [Az c1, AN, if_pos (.inl c1)]
   exact ⟨_, rfl, fun x hx => by cases hx⟩
  ·rw [Ax c1, Dt (d := 0) (show i < m.fD.length by omega)]
   simp only [oS]
   by_cases c2 : m.fD.getD i 0 = s.fO
   ·rw [beq_iff_eq.2 c2, AN, if_pos (.inr c2)]
    exact ⟨_, rfl, fun x hx => by cases hx⟩
   ·rw [beq_eq_false_iff_ne.2 c2, Ao, (O2 (_R := Unit) N p s m.fE v0 hh (by omega) hN _).1, if_neg (by rintro (h | h); exact c1 h; exact c2 h)]
    exact ⟨_, rfl, fun x hx => by cases hx; rfl⟩
 ·rw [beq_eq_false_iff_ne.2 hk1, Ao, if_neg hk1]
  by_cases hk3 : s.fG = 3
  ·have hi3 : i < p.fC.length := by have := x3 hk3; omega
   have ht : p.fC[i]? = some p.fC[i] := by simp [hi3]
   rw [beq_iff_eq.2 hk3, AN, if_pos hk3, hi, QO N hN h20 hp hm ht]
   simp only [oS, zB3, ht]
   split
   ·exact ⟨_, rfl, fun x hx => by cases hx⟩
   ·exact ⟨_, rfl, fun x hx => by cases hx; rfl⟩
  ·have hi1 : (i : Int) < p.fA.length := by have := xn hk3; omega
   rw [beq_eq_false_iff_ne.2 hk3, Ao, if_neg hk3, hi, Dt (d := 0) (show i < m.fB.length by omega)]
   simp only [oS, zB3]
   by_cases c1 : m.fB.getD i 0 < 0
   ·rw [Az c1, if_pos c1]
    exact ⟨_, rfl, fun x hx => by cases hx⟩
   ·rw [Ax c1, if_neg c1]
    by_cases hk2 : s.fG = 2
    ·rw [beq_iff_eq.2 hk2, AN, Dt (d := 0) (show i < m.fD.length by omega), if_pos hk2]
     exact ⟨_, rfl, fun x hx => by cases hx; rfl⟩
    ·rw [beq_eq_false_iff_ne.2 hk2, Ao, if_neg hk2]
     exact ⟨_, rfl, fun x hx => by cases hx; rfl⟩
theorem QZ (N : Nat) (hN : N ≤ 1000000) (h20 : 100 ≤ N) {p : Aa} {m : Ab} (hp : Bf p) (hm : Bz p m) (s : Ad) : HQ N p m s = some (AX p m s) := by
 unfold HQ AX
 rw [QK]
 simp only [oS]
 cases hv : Hk s
 ·rw [zE0, AN, if_pos rfl]; rfl
 ·rw [zB9, Ao, if_neg (by simp), P4 N p s hv]
  simp only [oS]
  cases hx : Gu p s
  ·rw [zE0, AN, if_pos rfl]; rfl
  ·rw [zB9, Ao, if_neg (by simp)]
   obtain ⟨o, e, ho⟩ := MQ N hN h20 hp hm hv hx
   rw [e]
   simp only [oS]
   cases ha : Gm p m s with
   | none => rfl
   | some x => rw [ho x ha]; rfl
theorem NY (N : Nat) (hN : N ≤ 1000000) (h20 : 100 ≤ N) {p : Aa} {m : Ab} (hp : Bf p) (hm : Bz p m) {s : Ad} (hv : Hk s = true) (hx : Gu p s = true) :
  CF N p m s = some (match Gm p m s with | none => (HL, false) | some x => (x, true)) := by
 obtain ⟨k1, k4, i0, v0, vk⟩ := IS hv
 obtain ⟨x3, xn, x1⟩ := JR hx
 have hnv := hp.nv
 have hnt := hp.nt
 have hb := hm.base
 have hn := hm.next
 have hh := hm.held
 obtain ⟨i, hi⟩ := zA7 i0
 unfold CF Gm
 rw [As (by simp [Db]; omega), As (by simp [Db]; omega), As (by simp [Db]; omega)]
 simp only [Bd, zG9]
 by_cases hk1 : s.fG = 1
 ·have hi1 : (i : Int) < p.fA.length := by have := xn (by omega); omega
  rw [beq_iff_eq.2 hk1, AN, if_pos hk1]
  simp only [hi, zB3]
  rw [Dt (d := 0) (show i < m.fB.length by omega)]
  simp only [oS]
  by_cases c1 : 0 ≤ m.fB.getD i 0
  ·rw [Az c1, AN, if_pos (.inl c1)]; rfl
  ·rw [Ax c1, Dt (d := 0) (show i < m.fD.length by omega)]
   simp only [oS]
   by_cases c2 : m.fD.getD i 0 = s.fO
   ·rw [beq_iff_eq.2 c2.symm, AN, if_pos (.inr c2)]; rfl
   ·rw [beq_eq_false_iff_ne.2 (fun h => c2 h.symm), Ao, PY N p s m.fE v0 hh (by omega) hN _, if_neg (by rintro (h | h); exact c1 h; exact c2 h)]
 ·rw [beq_eq_false_iff_ne.2 hk1, Ao, if_neg hk1]
  by_cases hk3 : s.fG = 3
  ·have hi3 : i < p.fC.length := by have := x3 hk3; omega
   have ht : p.fC[i]? = some p.fC[i] := by simp [hi3]
   have hin := J2 (hp.tab _ (lM ht))
   have eh' : Br m.fE (i : Int) = some (m.fE.getD i 0) := Dt (by omega)
   rw [beq_eq_false_iff_ne.2 (show s.fG ≠ 2 by omega), Ao, beq_iff_eq.2 hk3, AN, if_pos hk3, hi, AT, ht]
   simp only [oS, HH, zB3, ht]
   cases hs : B6 p.fC[i]
   ·rw [zE0, AN, if_pos (.inl rfl)]; rfl
   ·rw [zB9, Ao, Lp N m _ hin.1 (by omega) (by omega) (hm.b0 _ (by omega)).1, eh']
    simp only [oS]
    by_cases h1 : m.fE.getD i 0 = HJ m (p.fC[i]).fF.toNat
    ·rw [beq_iff_eq.2 h1, AN, if_pos (.inr (.inl h1))]; rfl
    ·rw [beq_eq_false_iff_ne.2 h1, Ao]
     rw [PU N hN h20 hp hm ht hs s hi]
     cases hst : Jg p m i p.fC[i]
     ·rw [if_neg (by simp), if_neg (by rintro (h | h | h); cases h; exact h1 h; cases h)]
     ·rw [if_pos rfl, if_pos (.inr (.inr rfl))]
  ·have hi1 : (i : Int) < p.fA.length := by have := xn hk3; omega
   rw [if_neg hk3, hi, Dt (d := 0) (show i < m.fB.length by omega)]
   simp only [oS, zB3]
   by_cases hk2 : s.fG = 2
   ·rw [beq_iff_eq.2 hk2, AN, if_pos hk2]
    by_cases c1 : m.fB.getD i 0 < 0
    ·rw [Az c1, if_pos c1]; rfl
    ·rw [Ax c1, if_neg c1, Dt (d := 0) (show i < m.fD.length by omega)]; rfl
   ·rw [beq_eq_false_iff_ne.2 hk2, Ao, beq_eq_false_iff_ne.2 hk3, Ao, if_neg hk2]
    by_cases c1 : m.fB.getD i 0 < 0
    ·rw [Az c1, if_pos c1]; rfl
    ·rw [Ax c1, if_neg c1]
end Go.Lift
namespace Go.Lift
open Option renaming bind_some → oS
open List renaming mem_of_getElem? → lM
open List renaming getElem?_eq_some_iff → lI
open Go
theorem Tq (s : Ad) : ∀ (xs : List Am) (i : Nat) (a : List Int), i + xs.length ≤ a.length → (Jp (WM s) i xs a).length = a.length ∧ ∀ q, (Jp (WM s) i xs a).getD q 0 = match (if i ≤ q then xs[q - i]? else none) with
  | some t => if Vp s t = true then QC .u8 (a.getD q 0) (D6 .u8 1 s.fO) else a.getD q 0
  | none => a.getD q 0
 | [], i, a, _ => by
  refine ⟨rfl, fun q => ?_⟩
  split
  ·rename_i h; split at h
   ·simp at h
   ·cases h
  ·rfl
 | x :: xs, i, a, hl => by
  have hl' : i + (xs.length + 1) ≤ a.length := by simpa using hl
  have ha : (WM s i x a).length = a.length := by unfold WM; split <;> simp
  obtain ⟨ih1, ih2⟩ := Tq s xs (i + 1) (WM s i x a) (by omega)
  refine ⟨by rw [Jp, ih1, ha], fun q => ?_⟩
  rw [Jp, ih2 q]
  have hu : (WM s i x a).getD q 0 = if q = i ∧ Vp s x = true then QC .u8 (a.getD q 0) (D6 .u8 1 s.fO) else a.getD q 0 := by
   unfold WM
   by_cases hc : Vp s x = true
   ·rw [if_pos hc, JV (by omega)]
    by_cases hq : q = i
    ·subst hq; rw [if_pos rfl, if_pos ⟨rfl, hc⟩]
    ·rw [if_neg hq, if_neg (fun h => hq h.1)]
   ·rw [if_neg hc, if_neg (fun h => hc h.2)]
  by_cases h1 : i + 1 ≤ q
  ·rw [if_pos h1, if_pos (show i ≤ q by omega), hu, if_neg (by omega)]
   rw [show (x :: xs)[q - i]? = xs[q - (i + 1)]? from by rw [show q - i = (q - (i + 1)) + 1 from by omega, List.getElem?_cons_succ]]
  ·rw [if_neg h1]
   by_cases h2 : q = i
   ·subst h2
    rw [if_pos (zB0 _), zJ4, hu]
    simp
   ·rw [if_neg (show ¬ i ≤ q by omega), hu, if_neg (by omega)]
theorem Wn {p : Aa} {s : Ad} {held : List Int} (hl : held.length = p.fC.length) : (J4 p s held).length = p.fC.length ∧ ∀ q t, p.fC[q]? = some t → (J4 p s held).getD q 0 = if Vp s t = true then QC .u8 (held.getD q 0) (D6 .u8 1 s.fO) else held.getD q 0 := by
 obtain ⟨h1, h2⟩ := Tq s p.fC 0 held (by omega)
 refine ⟨h1.trans hl, fun q t ht => ?_⟩
 have := h2 q
 rw [if_pos (zA9 _), Nat.sub_zero, ht] at this
 exact this
theorem Pr {m : Ab} {s v : Nat} : JI m s v = true ↔ m.fD.getD s 0 = (v : Int) ∨ m.fB.getD s 0 = (v : Int) := by
 unfold JI; rw [zG0, decide_eq_true_iff, decide_eq_true_iff]
theorem Xj {p : Aa} {m x : Ab} (hp : Bf p) (hm : Bz p m) {s : Ad} (hv : Hk s = true) (hx : Gu p s = true) (h : Gm p m s = some x) : Bz p x := by
 obtain ⟨k1, k4, i0, v0, vk⟩ := IS hv
 obtain ⟨x3, xn, x1⟩ := JR hx
 obtain ⟨i, hi⟩ := zA7 i0
 have hb := hm.base
 have hn := hm.next
 have hh := hm.held
 unfold Gm at h
 simp only [hi, zB3] at h
 rw [hi, zB3] at x1
 split at h
 ·rename_i hk1
  have hi1 : i < p.fA.length := by have := xn (by omega); omega
  have hx1 := x1 hk1
  have hvi := Jf hp hi1
  split at h
  ·cases h
  rename_i hc
  cases h
  obtain ⟨u1, u2⟩ := Wn (s := s) hh
  obtain ⟨b, hbv⟩ := zA7 v0
  have hob := YW (b := b) (by omega)
  have hN : ∀ q, (m.fB.set i s.fO).getD q 0 = if q = i then s.fO else m.fB.getD q 0 := fun q => JV (by omega)
  refine { base := hb, next := by simpa using hn, held := u1, b0 := hm.b0, n0 := fun q hq => ?_, ne := fun q hq => ?_, range := fun q hq => ?_, low := fun q t ht hs v hr => ?_, high := fun q t ht hs v hbit => ?_, none := fun q t ht hs => ?_ }
  ·show -1 ≤ (m.fB.set i s.fO).getD q 0 ∧ (m.fB.set i s.fO).getD q 0 < _
   rw [hN q]
   split
   ·rename_i e; subst e; omega
   ·exact hm.n0 q hq
  ·show m.fD.getD q 0 ≠ (m.fB.set i s.fO).getD q 0
   rw [hN q]
   split
   ·rename_i e; subst e; exact fun h => hc (.inr h)
   ·exact hm.ne q hq
  ·have ht : p.fC[q]? = some p.fC[q] := by simp [hq]
   show 0 ≤ (J4 p s m.fE).getD q 0 ∧ (J4 p s m.fE).getD q 0 ≤ 255
   rw [u2 q _ ht, hbv]
   split
   ·exact (Ux (hm.range q hq) hob.2).2
   ·exact hm.range q hq
  ·have hq := (lI.1 ht).1
   show Ee ((J4 p s m.fE).getD q 0) v = true
   have hin := J2 (hp.tab t (lM ht))
   rw [Pr] at hr
   have hr : m.fD.getD t.fF.toNat 0 = (v : Int) ∨ (m.fB.set i s.fO).getD t.fF.toNat 0 = (v : Int) := hr
   rw [hN] at hr
   rw [u2 q t ht, hbv]
   have hlow := hm.low q t ht hs v
   rw [Pr] at hlow
   by_cases hf : t.fF.toNat = i
   ·have hup : Vp s t = true := by unfold Vp; rw [hs, Bool.and_true, beq_iff_eq, hi]; omega
    rw [if_pos hup, (Ux (hm.range q hq) hob.2).1, hob.1 v, zG0, decide_eq_true_iff]
    rw [if_pos hf] at hr
    rcases hr with h | h
    ·exact .inl (hlow (.inl h))
    ·right; omega
   ·rw [if_neg hf] at hr
    have hup : Vp s t = false := by unfold Vp; rw [hs, Bool.and_true, beq_eq_false_iff_ne, hi]; omega
    rw [hup, if_neg (by simp)]
    exact hlow hr
  ·have hq := (lI.1 ht).1
   have hbit : Ee ((J4 p s m.fE).getD q 0) v = true := hbit
   have hin := J2 (hp.tab t (lM ht))
   rw [u2 q t ht, hbv] at hbit
   split at hbit
   ·rename_i hup
    rw [(Ux (hm.range q hq) hob.2).1, hob.1 v, zG0, decide_eq_true_iff] at hbit
    rcases hbit with h | h
    ·exact hm.high q t ht hs v h
    ·unfold Vp at hup
     rw [hs, Bool.and_true, beq_iff_eq, hi] at hup
     rw [hup, zB3]; omega
   ·exact hm.high q t ht hs v hbit
  ·show (J4 p s m.fE).getD q 0 = 0
   have hup : Vp s t = false := by unfold Vp; rw [hs, Bool.and_false]
   rw [u2 q t ht, hup, if_neg (by simp)]
   exact hm.none q t ht hs
 ·rename_i hk1
  split at h
  ·rename_i hk3
   have hi3 : i < p.fC.length := by have := x3 hk3; omega
   have ht0 : p.fC[i]? = some p.fC[i] := by simp [hi3]
   rw [ht0] at h
   simp only at h
   split at h
   ·cases h
   rename_i hc
   cases h
   have hin0 := J2 (hp.tab _ (lM ht0))
   have hr0 := I7 hp hm.toMixServ (s := (p.fC[i]).fF.toNat) (by omega)
   have hs0 : B6 p.fC[i] = true := by
    cases hs : B6 p.fC[i]
    ·exact (hc (.inl hs)).elim
    ·rfl
   have hH : ∀ q, (m.fE.set i (HJ m (p.fC[i]).fF.toNat)).getD q 0 = if q = i then HJ m (p.fC[i]).fF.toNat else m.fE.getD q 0 := fun q => JV (by omega)
   refine { base := hb, next := hn, held := by simpa using hh, b0 := hm.b0, n0 := hm.n0, ne := hm.ne, range := fun q hq => ?_, low := fun q t ht hs v hr => ?_, high := fun q t ht hs v hbit => ?_, none := fun q t ht hs => ?_ }
   ·show 0 ≤ (m.fE.set i (HJ m (p.fC[i]).fF.toNat)).getD q 0 ∧ (m.fE.set i (HJ m (p.fC[i]).fF.toNat)).getD q 0 ≤ 255
    rw [hH q]
    split
    ·exact hr0.2
    ·exact hm.range q hq
   ·show Ee ((m.fE.set i (HJ m (p.fC[i]).fF.toNat)).getD q 0) v = true
    have hr : JI m t.fF.toNat v = true := hr
    rw [hH q]
    split
    ·rename_i e; subst e
     rw [ht0] at ht; cases ht
     rw [hr0.1]; exact hr
    ·exact hm.low q t ht hs v hr
   ·have hbit : Ee ((m.fE.set i (HJ m (p.fC[i]).fF.toNat)).getD q 0) v = true := hbit
    rw [hH q] at hbit
    split at hbit
    ·rename_i e; subst e
     rw [ht0] at ht; cases ht
     rw [hr0.1] at hbit
     exact hm.high q _ ht0 hs0 v (hm.low q _ ht0 hs0 v hbit)
    ·exact hm.high q t ht hs v hbit
   ·show (m.fE.set i (HJ m (p.fC[i]).fF.toNat)).getD q 0 = 0
    rw [hH q, if_neg (fun e => by subst e; rw [ht0] at ht; cases ht; rw [hs0] at hs; cases hs)]
    exact hm.none q t ht hs
  ·rename_i hk3
   have hi1 : i < p.fA.length := by have := xn hk3; omega
   have hvi := Jf hp hi1
   split at h
   ·cases h
   rename_i hc
   cases h
   have hN : ∀ q, (m.fB.set i (-1)).getD q 0 = if q = i then -1 else m.fB.getD q 0 := fun q => JV (by omega)
   have hB : ∀ q, (if s.fG = 2 then m.fD.set i (m.fB.getD i 0) else m.fD).getD q 0 = if s.fG = 2 ∧ q = i then m.fB.getD i 0 else m.fD.getD q 0 := fun q => by
    by_cases hk2 : s.fG = 2
    ·rw [if_pos hk2, JV (by omega)]
     by_cases e : q = i
     ·rw [if_pos e, if_pos ⟨hk2, e⟩]
     ·rw [if_neg e, if_neg (fun h => e h.2)]
    ·rw [if_neg hk2, if_neg (fun h => hk2 h.1)]
   have hrun : ∀ q v, JI ⟨if s.fG = 2 then m.fD.set i (m.fB.getD i 0) else m.fD, m.fB.set i (-1), m.fE⟩ q v = true → JI m q v = true := fun q v hr => by
    rw [Pr] at hr ⊢
    simp only [hN q, hB q] at hr
    by_cases e : q = i
    ·subst e
     rw [if_pos rfl] at hr
     by_cases hk2 : s.fG = 2
     ·rw [if_pos ⟨hk2, rfl⟩] at hr; omega
     ·rw [if_neg (fun h => hk2 h.1)] at hr; omega
    ·rw [if_neg e, if_neg (fun h => e h.2)] at hr; exact hr
   refine { base := by simp only; split <;> simp [hb], next := by simpa using hn, held := hh, b0 := fun q hq => ?_, n0 := fun q hq => ?_, ne := fun q hq => ?_, range := hm.range, low := fun q t ht hs v hr => hm.low q t ht hs v (hrun _ _ hr), high := hm.high, none := hm.none }
   ·simp only [hB q]
    split
    ·rename_i e; obtain ⟨_, e⟩ := e; subst e
     have := hm.n0 q hq
     omega
    ·exact hm.b0 q hq
   ·simp only [hN q]
    split
    ·rename_i e; subst e; omega
    ·exact hm.n0 q hq
   ·simp only [hB q, hN q]
    have h1 := hm.b0 q hq
    by_cases e : q = i
    ·rw [if_pos e]
     split
     ·rename_i e2; obtain ⟨_, e2⟩ := e2; subst e2; omega
     ·omega
    ·rw [if_neg e, if_neg (fun h => e h.2)]; exact hm.ne q hq
theorem Sr (N : Nat) (hN : N ≤ 1000000) (h20 : 100 ≤ N) {p : Aa} {m : Ab} (hw : O8 Mz m.fE) (s : Ad) : E3 N p m s = some (if B0 p m = 0 then AX p m s else (HL, B0 p m)) := by
 unfold E3 AX
 rw [SM N p m hN (by omega)]
 simp only [oS, Bd]
 by_cases hval : B0 p m = 0
 ·obtain ⟨hp, hm⟩ := KS hw hval
  rw [if_pos hval, hval, bne_self_eq_false, Ao, Sk]
  simp only [oS]
  cases hv : Hk s
  ·rw [zE0, AN, if_pos rfl]; rfl
  ·rw [zB9, Ao, if_neg (by simp)]
   obtain ⟨k1, k4, i0, v0, vk⟩ := IS hv
   have key : ∀ b : Bool, Gu p s = b → (if b = false then (HL, (4 : Int)) else match Gm p m s with | none => (HL, 11) | some x => (x, 0)) = (if b = false then (HL, (4 : Int)) else match Gm p m s with | none => (HL, 11) | some x => (x, 0)) := fun _ _ => rfl
   have tail : Gu p s = true → ((CF N p m s).bind fun v15 => AR (!v15.2) (some (Ab.mk [] [] [], (11 : Int))) (some (v15.1, 0))) = some (match Gm p m s with | none => (HL, 11) | some x => (x, 0)) := fun hx => by
    rw [NY N hN h20 hp hm hv hx]
    cases Gm p m s <;> rfl
   have zz : (Ab.mk [] [] [], (4 : Int)) = (HL, 4) := rfl
   by_cases hk3 : s.fG = 3
   ·rw [beq_iff_eq.2 hk3, AN, show (s.fG != 3) = false from by rw [hk3]; rfl]
    have hX : Gu p s = decide (s.fI < (p.fC.length : Int)) := by unfold Gu; rw [if_pos hk3]
    by_cases c : (p.fC.length : Int) ≤ s.fI
    ·rw [Az c, AN, hX, decide_eq_false (by omega), if_pos rfl]; rfl
    ·have hx : Gu p s = true := by rw [hX, decide_eq_true (by omega)]
     rw [Ax c, Ao, Ao, beq_eq_false_iff_ne.2 (show s.fG ≠ 1 by omega), Ao, Ao, hx, if_neg (by simp)]
     exact tail hx
   ·rw [beq_eq_false_iff_ne.2 hk3, Ao, bne_iff_ne.2 hk3, AN]
    have hX : Gu p s = (decide (s.fI < (p.fA.length : Int)) && (s.fG != 1 || decide (s.fO < p.fA.getD s.fI.toNat 0))) := by unfold Gu; rw [if_neg hk3]
    by_cases c : (p.fA.length : Int) ≤ s.fI
    ·rw [decide_eq_true c, AN, hX, decide_eq_false (show ¬ s.fI < (p.fA.length : Int) by omega), zJ9, if_pos rfl]; rfl
    ·rw [decide_eq_false c, Ao]
     by_cases hk1 : s.fG = 1
     ·rw [beq_iff_eq.2 hk1, AN, Em (d := 0) i0 (by omega)]
      simp only [oS]
      by_cases c2 : p.fA.getD s.fI.toNat 0 ≤ s.fO
      ·rw [decide_eq_true c2, AN, hX, decide_eq_false (show ¬ s.fO < p.fA.getD s.fI.toNat 0 by omega), show (s.fG != 1) = false from by rw [hk1]; rfl, zI8, Bool.and_false, if_pos rfl]; rfl
      ·have hx : Gu p s = true := by rw [hX, decide_eq_true (by omega), decide_eq_true (by omega), zK9]; rfl
       rw [decide_eq_false c2, Ao, hx, if_neg (by simp)]
       exact tail hx
     ·have hx : Gu p s = true := by rw [hX, decide_eq_true (by omega), bne_iff_ne.2 hk1]; rfl
      rw [beq_eq_false_iff_ne.2 hk1, Ao, Ao, hx, if_neg (by simp)]
      exact tail hx
 ·rw [if_neg hval, bne_iff_ne.2 hval, AN]; rfl
theorem MR (N : Nat) (hN : N ≤ 1000000) (h20 : 100 ≤ N) {p : Aa} {m : Ab} (hw : O8 Mz m.fE) (s : Ad) : GS N p m s = some (if B0 p m = 0 then AX p m s else (HL, B0 p m)) := by
 unfold GS
 rw [IB N p m hN (by omega) hw]
 simp only [oS]
 by_cases hval : B0 p m = 0
 ·obtain ⟨hp, hm⟩ := KS hw hval
  rw [if_pos hval, hval, bne_self_eq_false, Ao, QZ N hN h20 hp hm s]; rfl
 ·rw [if_neg hval, bne_iff_ne.2 hval, AN]; rfl
theorem JP {p : Aa} {m : Ab} (hp : Bf p) (hm : Bz p m) {s : Ad} (h : (AX p m s).2 = 0) : Bz p (AX p m s).1 := by
 unfold AX at h ⊢
 split at h
 ·cases h
 rename_i h1
 rw [if_neg h1]
 split at h
 ·cases h
 rename_i h2
 rw [if_neg h2]
 cases ha : Gm p m s with
 | none => rw [ha] at h; cases h
 | some x => exact Xj hp hm (by simpa using h1) (by simpa using h2) ha
end Go.Lift
namespace Go.Lift
open Go
section
variable {N : Nat} {p : Aa} {l : List Ad}
end
end Go.Lift
namespace Go.Lift
open Go
end Go.Lift
namespace Go.Lift
open IntKind renaming wrap → wI
open Go
theorem Ww {i : Nat} (h : i < 1000000) : wI .i64 (((i + 1 : Nat) : Int) - 1) = (i : Int) := by
 rw [Ce (by omega) (by omega)]; omega
def MU (p : Aa) (m : Ab) (s : Ad) : Option Ab := if (AX p m s).2 = 0 ∧ s.fG ≠ 4 ∧ AZ p (AX p m s).1 = true then some (AX p m s).1 else none
def N1 (p : Aa) : Ab → List Ad → Option Ab
 | m, [] => some m
 | m, s :: l => (MU p m s).bind fun x => N1 p x l
def Mb (p : Aa) (m : Ab) (l : List Ad) : Bool := match N1 p m l with
 | some x => Hb p x
 | none => false
theorem Wx {p : Aa} {m x : Ab} {s : Ad} : MU p m s = some x ↔ Hk s = true ∧ Gu p s = true ∧ Gm p m s = some x ∧ s.fG ≠ 4 ∧ AZ p x = true := by
 unfold MU AX
 cases h1 : Hk s
 ·simp
 cases h2 : Gu p s
 ·simp
 cases h3 : Gm p m s with
 | none => simp
 | some y =>
  simp only [Bool.true_eq_false, if_false, true_and, Option.some.injEq]
  constructor
  ·intro h
   split at h
   ·rename_i hc; cases h; exact ⟨rfl, hc.1, hc.2⟩
   ·cases h
  ·rintro ⟨rfl, h4, h5⟩
   rw [if_pos ⟨h4, h5⟩]
theorem RH {p : Aa} {m : Ab} {l : List Ad} (h : Mb p m l = true) : ∃ x, N1 p m l = some x ∧ Hb p x = true := by
 unfold Mb at h
 cases hr : N1 p m l with
 | none => rw [hr] at h; cases h
 | some x => rw [hr] at h; exact ⟨x, rfl, h⟩
end Go.Lift
namespace Go.Lift
open IntKind renaming wrap → wI
open Option renaming bind_some → oS
open List renaming getElem?_eq_some_iff → lI
open List renaming getD_eq_getElem?_getD → lD
open Go
def G5 (m : Ab) (i : Nat) (b : Int) : List Int := [wI .u8 b, wI .u8 (wI .i64 (m.fB.getD i 0 + 1))]
def L2 (m : Ab) : List Int := CS (G5 m) 0 m.fD ++ m.fE
theorem WR (N : Nat) (hN : N ≤ 1000000) (h20 : 100 ≤ N) {p : Aa} {m : Ab} (hp : Bf p) (hm : Bz p m) : H8 N m = some (CX (L2 m)) := by
 have hnv := hp.nv
 have hnt := hp.nt
 have hb := hm.base
 have hn := hm.next
 have hh := hm.held
 unfold H8
 have e1 : wI .i64 (2 * (m.fD.length : Int)) = 2 * (m.fD.length : Int) := Ce (by omega) (by omega)
 rw [e1, Ce (n := 2 * (m.fD.length : Int) + (m.fE.length : Int)) (by omega) (by omega), As ⟨Int.le_refl 0, by omega, by simp only [Db]; omega⟩]
 have l1 := FQ (Fc N m fun v3 => D2 N m (fun v9 => some (CX v9)) N (v3, 0)) (fun a i => (a, i)) m.fD (fun v3 => D2 N m (fun v9 => some (CX v9)) N (v3, 0)) (G5 m) 2 100
  (fun i x hx => by simp [G5])
  (fun n i x a hx hl => by
   have hi := (lI.1 hx).1
   rw [Fc, Az (by simp only; omega)]
   simp only [AT, hx, oS, AB (show i < 1000000 by omega)]
   have e2 : m.fB[i]? = some (m.fB.getD i 0) := by rw [lD]; simp [show i < m.fB.length by omega]
   rw [e2]
   simp only [oS]
   rw [As (by simp [Db]; simp [G5] at hl; omega)]
   rfl)
  (fun n a => by rw [Fc, Ax (by simp)]) N [] (by omega) (by simp; omega)
 have l1' : Fc N m (fun v3 => D2 N m (fun v9 => some (CX v9)) N (v3, 0)) N (zA5 (0 : Int).toNat (0 : Int), 0) = _ := l1
 rw [l1', zG9]
 have hfl : (CS (G5 m) 0 m.fD).length ≤ 2 * m.fD.length := Gr fun j x hx => by simp [G5]
 have l2 := FQ (D2 N m fun v9 => some (CX v9)) (fun a i => (a, i)) m.fE (fun v9 => some (CX v9)) (fun _ x => [x]) 1 100
  (fun i x hx => by simp)
  (fun n i x a hx hl => by
   have hi := (lI.1 hx).1
   rw [D2, Az (by simp only; omega)]
   simp only [AT, hx, oS, AB (show i < 1000000 by omega)]
   rw [As (by simp [Db]; simp at hl; omega)])
  (fun n a => by rw [D2, Ax (by simp)]) N (CS (G5 m) 0 m.fD) (by omega) (by omega)
 have e3 : ∀ (i : Nat) (l : List Int), CS (fun _ (x : Int) => [x]) i l = l := by
  intro i l
  induction l generalizing i with
  | nil => rfl
  | cons x l ih => rw [CS, ih]; rfl
 refine l2.trans ?_
 rw [e3]; rfl
theorem U5 (xs : List Int) : ∀ b : ByteArray, (xs.foldl (fun s n => s.push (UInt8.ofNat n.toNat)) b).data.toList = b.data.toList ++ xs.map fun n => UInt8.ofNat n.toNat := by
 induction xs with
 | nil => intro b; simp
 | cons x xs ih => intro b; rw [List.foldl_cons, ih]; simp [ByteArray.push]
theorem Oa (xs : List Int) : (CX xs).data.toList = xs.map fun n => UInt8.ofNat n.toNat := by
 unfold CX
 rw [U5]; rfl
theorem bO {a b : Int} (ha : 0 ≤ a ∧ a ≤ 255) (hb : 0 ≤ b ∧ b ≤ 255) (h : UInt8.ofNat a.toNat = UInt8.ofNat b.toNat) : a = b := by
 have := congrArg UInt8.toNat h
 simp at this
 omega
theorem Pj : ∀ {xs ys : List Int}, (∀ x, x ∈ xs → 0 ≤ x ∧ x ≤ 255) → (∀ x, x ∈ ys → 0 ≤ x ∧ x ≤ 255) → (xs.map fun n => UInt8.ofNat n.toNat) = (ys.map fun n => UInt8.ofNat n.toNat) → xs = ys
 | [], [], _, _, _ => rfl
 | [], _ :: _, _, _, h => by cases h
 | _ :: _, [], _, _, h => by cases h
 | x :: xs, y :: ys, hx, hy, h => by
  rw [zC8, zC8, List.cons.injEq] at h
  rw [bO (hx x (by simp)) (hy y (by simp)) h.1, Pj (fun z hz => hx z (zH0 _ hz)) (fun z hz => hy z (zH0 _ hz)) h.2]
theorem TP {xs ys : List Int} (hx : ∀ x, x ∈ xs → 0 ≤ x ∧ x ≤ 255) (hy : ∀ x, x ∈ ys → 0 ≤ x ∧ x ≤ 255) (h : (CX xs == CX ys) = true) : xs = ys := by
 rw [KE, beq_iff_eq] at h
 have h := congrArg Array.toList h
 rw [Oa, Oa] at h
 exact Pj hx hy h
theorem Sp (xs : List Int) : (CX xs == CX xs) = true := by rw [KE]; simp
theorem RQ {α β : Type} {g h : Nat → α → List β} {c : Nat} : ∀ {i : Nat} {xs ys : List α}, xs.length = ys.length → (∀ i x, (g i x).length = c) → (∀ i x, (h i x).length = c) → CS g i xs = CS h i ys → ∀ j x y, xs[j]? = some x → ys[j]? = some y → g (i + j) x = h (i + j) y
 | i, [], ys, _, _, _, _, j, x, y, hx, _ => by simp at hx
 | i, x :: xs, [], hl, _, _, _, _, _, _, _, _ => by simp at hl
 | i, x :: xs, y :: ys, hl, hg, hh, e, j, x', y', hx, hy => by
  rw [CS, CS] at e
  have e1 := List.append_inj e ((hg i x).trans (hh i y).symm)
  cases j with
  | zero => simp at hx hy; subst hx; subst hy; exact e1.1
  | succ j =>
   have := RQ (i := i + 1) (by simpa using hl) hg hh e1.2 j x' y' (by simpa using hx) (by simpa using hy)
   rwa [show i + 1 + j = i + (j + 1) from by omega] at this
theorem Q7 {p : Aa} {m : Ab} (_hp : Bf p) (hm : Bz p m) : ∀ x, x ∈ L2 m → 0 ≤ x ∧ x ≤ 255 := by
 intro x hx
 unfold L2 at hx
 rcases zC4.1 hx with h | h
 ·obtain ⟨j, b, hb, hk⟩ := Hv.1 h
  have hw : ∀ n : Int, 0 ≤ wI .u8 n ∧ wI .u8 n ≤ 255 := fun n => by
   simp [wI, IntKind.signed, IntKind.bits]; omega
  unfold G5 at hk
  rcases zB1.1 hk with e | e
  ·subst e; exact hw _
  ·rcases zB1.1 e with e | e
   ·subst e; exact hw _
   ·cases e
 ·obtain ⟨j, hj⟩ := zB5.1 h
  have hl := (lI.1 hj).1
  have := hm.range j (by rw [← hm.held]; exact hl)
  rw [lD, hj] at this
  exact this
theorem IZ {n : Int} (h : 0 ≤ n ∧ n ≤ 255) : wI .u8 n = n := by
 simp [wI, IntKind.signed, IntKind.bits]; omega
theorem ZW {p : Aa} {m x : Ab} (hp : Bf p) (hm : Bz p m) (hx : Bz p x) (h : (CX (L2 m) == CX (L2 x)) = true) : m = x := by
 have e := TP (Q7 hp hm) (Q7 hp hx) h
 unfold L2 at e
 have hbl : m.fD.length = x.fD.length := hm.base.trans hx.base.symm
 have hfl : ∀ y : Ab, (CS (G5 y) 0 y.fD).length = 2 * y.fD.length := fun y => by
  have : ∀ (i : Nat) (l : List Int), (CS (G5 y) i l).length = 2 * l.length := by
   intro i l
   induction l generalizing i with
   | nil => rfl
   | cons b l ih => rw [CS, zB7, ih, zC1]; simp [G5]; omega
  exact this 0 _
 obtain ⟨e1, e2⟩ := List.append_inj e (by rw [hfl, hfl, hbl])
 have key : ∀ j, j < p.fA.length → m.fD.getD j 0 = x.fD.getD j 0 ∧ m.fB.getD j 0 = x.fB.getD j 0 := fun j hj => by
  have h1 : m.fD[j]? = some (m.fD.getD j 0) := by rw [lD]; simp [hm.base, hj]
  have h2 : x.fD[j]? = some (x.fD.getD j 0) := by rw [lD]; simp [hx.base, hj]
  have h3 := RQ (c := 2) hbl (fun _ _ => by simp [G5]) (fun _ _ => by simp [G5]) e1 j _ _ h1 h2
  rw [zA1] at h3
  have v := Jf hp hj
  have b1 := hm.b0 j hj
  have b2 := hx.b0 j hj
  have n1 := hm.n0 j hj
  have n2 := hx.n0 j hj
  unfold G5 at h3
  rw [Ce (n := m.fB.getD j 0 + 1) (by omega) (by omega), Ce (n := x.fB.getD j 0 + 1) (by omega) (by omega), IZ (n := m.fD.getD j 0) (by omega), IZ (n := x.fD.getD j 0) (by omega), IZ (n := m.fB.getD j 0 + 1) (by omega), IZ (n := x.fB.getD j 0 + 1) (by omega), List.cons.injEq, List.cons.injEq] at h3
  exact ⟨h3.1, by omega⟩
 have hB : m.fD = x.fD := GV hbl fun q hq => (key q (by rw [← hm.base]; exact hq)).1
 have hN : m.fB = x.fB := GV (hm.next.trans hx.next.symm) fun q hq => (key q (by rw [← hm.next]; exact hq)).2
 cases m; cases x
 simp only at hB hN e2
 rw [hB, hN, e2]
end Go.Lift
namespace Go.Lift
open Option renaming bind_some → oS
open List renaming mem_of_getElem? → lM
open List renaming getElem?_eq_some_iff → lI
open Go
def Kk (i : Nat) (n : Int) : List Ad := (zB4 n.toNat).map fun v => ⟨1, (i : Int), ((v : Nat) : Int), ⟩
def Fa (p : Aa) : List Ad := CS Kk 0 p.fA ++ ((zB4 p.fA.length).map fun i => (⟨2, ((i : Nat) : Int), 0⟩ : Ad)) ++ ((zB4 p.fC.length).map fun i => (⟨3, ((i : Nat) : Int), 0⟩ : Ad))
def Fb (p : Aa) (m : Ab) : List Ad := (Fa p).filter fun s => (AX p m s).2 == 0
theorem Vz {p : Aa} (hp : Bf p) : (Fa p).length ≤ 54 := by
 have h1 : (CS Kk 0 p.fA).length ≤ 6 * p.fA.length := Gr fun j x hx => by
  have := hp.ver x (lM hx)
  simp [Kk]; omega
 have := hp.nv
 have := hp.nt
 unfold Fa
 simp only [zB7, zA8, zH5]
 omega
theorem TT (N : Nat) (hN : N ≤ 1000000) (h20 : 100 ≤ N) {p : Aa} (hp : Bf p) : I5 N p = some (Fa p) := by
 have hnv := hp.nv
 have hnt := hp.nt
 unfold I5
 have l1 := FQ (DC N p fun v2 => CI N p (fun v10 => BB N p (fun v14 => some v14) N (v10, 0)) N (v2, 0)) (fun a i => (a, i)) p.fA (fun v2 => CI N p (fun v10 => BB N p (fun v14 => some v14) N (v10, 0)) N (v2, 0)) Kk 6 100
  (fun i x hx => by have := hp.ver x (lM hx); simp [Kk]; omega)
  (fun n i x a hx hl => by
   have hi := (lI.1 hx).1
   have hx6 := hp.ver x (lM hx)
   obtain ⟨k, hk⟩ := zA7 (show 0 ≤ x by omega)
   rw [DC, Az (by simp only; omega)]
   simp only [AT, hx, oS, AB (show i < 1000000 by omega)]
   subst hk
   obtain ⟨a', e, ha⟩ := FF (E9 N (a, (i : Int)) (k : Int) fun v6 => DC N p (fun v2 => CI N p (fun v10 => BB N p (fun v14 => some v14) N (v10, 0)) N (v2, 0)) n (v6, ((i + 1 : Nat) : Int))) (fun b v => (b, v)) k (fun v6 => DC N p (fun v2 => CI N p (fun v10 => BB N p (fun v14 => some v14) N (v10, 0)) N (v2, 0)) n (v6, ((i + 1 : Nat) : Int)))
    (fun v b => b = a ++ (zB4 v).map fun v => (⟨1, (i : Int), ((v : Nat) : Int)⟩ : Ad))
    (fun n v b hv hb => by
     subst hb
     rw [E9, Az (by simp only; omega), As (by simp [Db]; simp [Kk] at hl; omega), AB (by omega)]
     exact ⟨_, rfl, by rw [zG7, zF5, zD7]; rfl⟩)
    (fun n b hb => by rw [E9, Ax (by simp)]) N 0 a (zA9 _) (by omega) (by simp)
   have e' : E9 N (a, (i : Int)) (k : Int) (fun v6 => DC N p (fun v2 => CI N p (fun v10 => BB N p (fun v14 => some v14) N (v10, 0)) N (v2, 0)) n (v6, ((i + 1 : Nat) : Int))) N (a, 0) = _ := e
   rw [e', ha]; rfl)
  (fun n a => by rw [DC, Ax (by simp)]) N [] (by omega) (by simp; omega)
 have l1' : DC N p (fun v2 => CI N p (fun v10 => BB N p (fun v14 => some v14) N (v10, 0)) N (v2, 0)) N (([] : List Ad), 0) = _ := l1
 rw [l1', zG9]
 have hA : (CS Kk 0 p.fA).length ≤ 6 * p.fA.length := Gr fun j x hx => by
  have := hp.ver x (lM hx)
  simp [Kk]; omega
 generalize hAe : CS Kk 0 p.fA = A at hA
 obtain ⟨b', e2, hb⟩ := FF (CI N p fun v10 => BB N p (fun v14 => some v14) N (v10, 0)) (fun b v => (b, v)) p.fA.length (fun v10 => BB N p (fun v14 => some v14) N (v10, 0))
  (fun v b => b = A ++ (zB4 v).map fun i => (⟨2, ((i : Nat) : Int), 0⟩ : Ad))
  (fun n v b hv hb => by
   subst hb
   rw [CI, Az (by simp only; omega), As (by simp [Db]; omega), AB (by omega)]
   exact ⟨_, rfl, by rw [zG7, zF5, zD7]; rfl⟩)
  (fun n b hb => by rw [CI, Ax (by simp)]) N 0 A (zA9 _) (by omega) (by simp)
 have e2' : CI N p (fun v10 => BB N p (fun v14 => some v14) N (v10, 0)) N (A, 0) = _ := e2
 rw [e2', hb]
 generalize hBe : A ++ (zB4 p.fA.length).map (fun i => (⟨2, ((i : Nat) : Int), 0⟩ : Ad)) = B
 have hB : B.length ≤ 50 := by rw [← hBe]; simp; omega
 obtain ⟨c', e3, hc⟩ := FF (BB N p fun v14 => some v14) (fun b v => (b, v)) p.fC.length (fun v14 => some v14)
  (fun v b => b = B ++ (zB4 v).map fun i => (⟨3, ((i : Nat) : Int), 0⟩ : Ad))
  (fun n v b hv hb => by
   subst hb
   rw [BB, Az (by simp only; omega), As (by simp [Db]; omega), AB (by omega)]
   exact ⟨_, rfl, by rw [zG7, zF5, zD7]; rfl⟩)
  (fun n b hb => by rw [BB, Ax (by simp)]) N 0 B (zA9 _) (by omega) (by simp)
 have e3' : BB N p (fun v14 => some v14) N (B, 0) = _ := e3
 rw [e3', hc, ← hBe, ← hAe]; rfl
end Go.Lift
namespace Go.Lift
open Option renaming bind_some → oS
open List renaming mem_of_getElem? → lM
open List renaming getElem?_eq_some_iff → lI
open List renaming getD_eq_getElem?_getD → lD
open Go
theorem Oe {p : Aa} (hp : Bf p) {s : Ad} (h : s ∈ Fa p) : Hk s = true ∧ Gu p s = true := by
 have hnv := hp.nv
 unfold Fa at h
 rcases zC4.1 h with h | h
 ·rcases zC4.1 h with h | h
  ·obtain ⟨j, x, hx, hk⟩ := Hv.1 h
   rw [zA1] at hk
   unfold Kk at hk
   obtain ⟨v, hv, rfl⟩ := zB6.1 hk
   have hx6 := hp.ver x (lM hx)
   have hv := zE3.1 hv
   have hj := (lI.1 hx).1
   refine ⟨by unfold Hk; simp, ?_⟩
   unfold Gu
   have e : p.fA.getD j 0 = x := by rw [lD, hx]; rfl
   simp only
   rw [if_neg (by omega), decide_eq_true (by omega), zB3, e, decide_eq_true (by omega), zK9]; rfl
  ·obtain ⟨v, hv, rfl⟩ := zB6.1 h
   have hv := zE3.1 hv
   refine ⟨by unfold Hk; simp, ?_⟩
   unfold Gu
   simp only
   rw [if_neg (by omega), decide_eq_true (by omega)]; rfl
 ·obtain ⟨v, hv, rfl⟩ := zB6.1 h
  have hv := zE3.1 hv
  refine ⟨by unfold Hk; simp, ?_⟩
  unfold Gu
  simp only
  rw [if_pos trivial, decide_eq_true (by omega)]
theorem WP {p : Aa} {m : Ab} {s : Ad} (hv : Hk s = true) (hx : Gu p s = true) : ((AX p m s).2 == 0) = (Gm p m s).isSome := by
 unfold AX
 rw [hv, hx, if_neg (by simp), if_neg (by simp)]
 cases Gm p m s <;> rfl
theorem T8 (N : Nat) (hN : N ≤ 1000000) (h20 : 100 ≤ N) {p : Aa} {m : Ab} (hp : Bf p) (hm : Bz p m) {s : Ad} (h : s ∈ Fa p) :
  DR N s p.fA p.fH p.fL p.fC m.fD m.fB m.fE = some (!((AX p m s).2 == 0)) := by
 obtain ⟨hv, hx⟩ := Oe hp h
 unfold DR
 obtain ⟨o, e, _⟩ := MQ N hN h20 hp hm hv hx
 have e' : F9 N ⟨p.fA, p.fH, p.fL, p.fC⟩ ⟨m.fD, m.fB, m.fE⟩ s = some (o, (Gm p m s).isSome) := e
 rw [e', WP hv hx]; rfl
theorem UL (N : Nat) (hN : N ≤ 1000000) (a : List Ad) (f : Ad → Option Bool) (g : Ad → Bool) (h : a.length < N) (hf : ∀ x, x ∈ a → f x = some (g x)) :
  BX N a f = some ((CR (fun i x => if g x = true then some (i : Int) else none) 0 a).getD (-1)) := by
 unfold BX
 have := Cx (A8 N a f fun _ => some (-1)) a (some (-1)) (fun i x => if g x = true then some (i : Int) else none)
  (fun n i x hx => by
   have hi := (lI.1 hx).1
   rw [A8, Az (by omega), AT, hx]
   simp only [oS]
   rw [hf x (lM hx), AB (by omega)]
   simp only [oS]
   cases g x <;> rfl)
  (fun n => by rw [A8, Ax (by simp)]) N 0 (zA9 _) (by omega)
 refine this.trans ?_
 rw [zC0]
 cases CR (fun i x => if g x = true then some (i : Int) else none) 0 a <;> rfl
theorem QI {α : Type} {l : List α} {i : Nat} {v : α} (h : i < l.length) : (l.set i v).take (i + 1) = l.take i ++ [v] := by
 rw [zE2, List.take_set_of_le (zB0 i)]
 congr 1
 simp [h]
theorem Tj (N : Nat) (hN : N ≤ 1000000) (a : List Ad) (f : Ad → Option Bool) (g : Ad → Bool) (h : a.length < N) (h9 : a.length ≤ 1000) (hf : ∀ x, x ∈ a → f x = some (g x)) :
  ∃ X n, BS N a f = some (n, X) ∧ n ≤ X.length ∧ X.take n = a.filter fun x => !g x := by
 unfold BS
 rw [UL N hN a f g h hf]
 simp only [oS]
 cases hs : CR (fun i x => if g x = true then some (i : Int) else none) 0 a with
 | none =>
  refine ⟨a, a.length, rfl, zB0 _, ?_⟩
  rw [zH8]
  symm
  rw [List.filter_eq_self]
  intro x hx
  obtain ⟨j, hj⟩ := zB5.1 hx
  have := Fu hs j x hj
  cases hg : g x
  ·rfl
  ·rw [hg] at this; cases this
 | some r =>
  obtain ⟨j, x, hx, hr⟩ := DI hs
  rw [zA1] at hr
  split at hr
  ·rename_i hg
   cases hr
   have hj := (lI.1 hx).1
   have e0 : ((some (j : Int)).getD (-1) == (-1 : Int)) = false := beq_eq_false_iff_ne.2 (by simp only [zC9]; omega)
   rw [e0, Ao]
   simp only [zC9]
   rw [AB (by omega)]
   -- what lies before the first that goes is kept
   have hpre : (a.take (j + 1)).filter (fun x => !g x) = a.take j := by
    rw [zE2, hx, zF6]
    have h1 : (a.take j).filter (fun x => !g x) = a.take j := by
     rw [List.filter_eq_self]
     intro y hy
     obtain ⟨q, hq⟩ := zB5.1 hy
     have hql := (lI.1 hq).1
     simp at hql
     rw [zC5 (by omega)] at hq
     cases hgy : g y
     ·rfl
     ·exfalso
      have : ∀ (xs : List Ad) (i j q : Nat) (y : Ad), CR (fun i x => if g x = true then some (i : Int) else none) i xs = some ((i + j : Nat) : Int) → q < j → xs[q]? = some y → g y = true → False := by
       intro xs
       induction xs with
       | nil => intro i j q y _ _ hq; simp at hq
       | cons z zs ih =>
        intro i j q y hs hqj hq hgy
        rw [FN] at hs
        cases hz : g z
        ·rw [hz] at hs
         cases q with
         | zero => simp at hq; subst hq; rw [hz] at hgy; cases hgy
         | succ q =>
          cases j with
          | zero => omega
          | succ j => exact ih (i + 1) j q y (by rw [show i + 1 + j = i + (j + 1) from by omega]; exact hs) (by omega) (by simpa using hq) hgy
        ·rw [hz] at hs
         have hs : (some (i : Int)) = some ((i + j : Nat) : Int) := hs
         have := Option.some.inj hs
         omega
      exact this a 0 j q y (by rw [zA1]; exact hs) (by omega) hq hgy
    rw [h1]
    simp [hg]
   obtain ⟨b, e, hb⟩ := FF (A3 N f fun v4 => (DN ((0 : Int) ≤ v4.2 ∧ (v4.2).toNat ≤ v4.1.length ∧ v4.1.length ≤ v4.1.length)).bind fun _ =>
     (DN ((0 : Int) ≤ v4.2 ∧ 0 ≤ (v4.2).toNat ∧ (v4.2).toNat ≤ (JC v4.1 ((v4.2).toNat) (zA5 ((v4.1.length - (v4.2).toNat)) ((Ad.mk 0 0 0)))).length)).bind fun _ =>
     some ((v4.2).toNat, JC v4.1 ((v4.2).toNat) (zA5 ((v4.1.length - (v4.2).toNat)) ((Ad.mk 0 0 0)))))
    (fun (b : List Ad × Nat) i => (b.1, ((b.2 : Nat) : Int), i)) a.length (fun b => (DN ((0 : Int) ≤ ((b.2 : Nat) : Int) ∧ (((b.2 : Nat) : Int)).toNat ≤ b.1.length ∧ b.1.length ≤ b.1.length)).bind fun _ =>
     (DN ((0 : Int) ≤ ((b.2 : Nat) : Int) ∧ 0 ≤ (((b.2 : Nat) : Int)).toNat ∧ (((b.2 : Nat) : Int)).toNat ≤ (JC b.1 ((((b.2 : Nat) : Int)).toNat) (zA5 ((b.1.length - (((b.2 : Nat) : Int)).toNat)) ((Ad.mk 0 0 0)))).length)).bind fun _ =>
     some ((((b.2 : Nat) : Int)).toNat, JC b.1 ((((b.2 : Nat) : Int)).toNat) (zA5 ((b.1.length - (((b.2 : Nat) : Int)).toNat)) ((Ad.mk 0 0 0)))))
    (fun i b => b.1.length = a.length ∧ b.2 ≤ i ∧ b.1.drop i = a.drop i ∧ b.1.take b.2 = (a.take i).filter fun x => !g x)
    (fun n i b hi hb => by
     obtain ⟨b1, b2, b3, b4⟩ := hb
     rw [A3, Az (by simp only; omega)]
     have hai : a[i]? = some a[i] := by simp [hi]
     have hbi : b.1[i]? = some a[i] := by
      have := congrArg (fun l => l[0]?) b3
      simp only [zE6, zG4] at this
      rw [this, hai]
     simp only [Bd, AT, hbi, oS]
     rw [hf a[i] (zG1 hi), AB (i := i) (by omega)]
     simp only [oS]
     have hnext : b.1.drop (i + 1) = a.drop (i + 1) := by
      have := congrArg (List.drop 1) b3
      rwa [List.drop_drop, List.drop_drop] at this
     cases hgi : g a[i]
     ·rw [zE0, AN]
      have hbj : b.1[b.2]? = some b.1[b.2] := by simp [show b.2 < b.1.length from by omega]
      rw [hbj, AB (i := b.2) (by omega)]
      refine ⟨(b.1.set b.2 a[i], b.2 + 1), rfl, by simpa using b1, by simp only; omega, ?_, ?_⟩
      ·simp only
       rw [List.drop_set_of_lt (by omega), hnext]
      ·simp only
       rw [QI (by omega), b4, zE2, hai, zF6]
       simp [hgi]
     ·rw [zB9, Ao]
      refine ⟨b, rfl, b1, by omega, hnext, ?_⟩
      rw [b4, zE2, hai, zF6]
      simp [hgi])
    (fun n b hb => by rw [A3, Ax (by simp [hb.1])]) N (j + 1) (a, j) (by omega) (by omega) ⟨rfl, by simp only; omega, rfl, hpre.symm⟩
   obtain ⟨b1, b2, b3, b4⟩ := hb
   have e' : A3 N f (fun v4 => (DN ((0 : Int) ≤ v4.2 ∧ (v4.2).toNat ≤ v4.1.length ∧ v4.1.length ≤ v4.1.length)).bind fun _ =>
     (DN ((0 : Int) ≤ v4.2 ∧ 0 ≤ (v4.2).toNat ∧ (v4.2).toNat ≤ (JC v4.1 ((v4.2).toNat) (zA5 ((v4.1.length - (v4.2).toNat)) ((Ad.mk 0 0 0)))).length)).bind fun _ =>
     some ((v4.2).toNat, JC v4.1 ((v4.2).toNat) (zA5 ((v4.1.length - (v4.2).toNat)) ((Ad.mk 0 0 0))))) N (a, (j : Int), ((j + 1 : Nat) : Int)) = _ := e
   rw [e']
   have hsl : (JC b.1 b.2 (zA5 (b.1.length - b.2) (Ad.mk 0 0 0))).length = b.1.length := J5 (by rw [List.length_replicate]; omega)
   simp only [zB3]
   rw [As ⟨by omega, by omega, zB0 _⟩, As ⟨by omega, by omega, by rw [hsl]; omega⟩]
   refine ⟨_, _, rfl, by rw [hsl]; omega, ?_⟩
   unfold JC
   rw [zD7, List.take_append_of_le_length (by simp; omega), List.take_take, Nat.min_self, b4, zH8]
  ·cases hr
theorem Px (N : Nat) (hN : N ≤ 1000000) (h20 : 100 ≤ N) {p : Aa} {m : Ab} (hv : Bx p = 0) (hm : Bz p m) : zFS N p m = some (Fb p m, 0) := by
 obtain ⟨hp, _⟩ := Ch hv
 unfold zFS
 rw [IB N p m hN (by omega) (KZ hm), HN hv hm]
 simp only [oS, bne_self_eq_false, Ao]
 rw [TT N hN h20 hp]
 simp only [oS]
 have hl := Vz hp
 obtain ⟨X, n, e, h1, h2⟩ := Tj N hN (Fa p) (fun x => DR N x p.fA p.fH p.fL p.fC m.fD m.fB m.fE) (fun s => !((AX p m s).2 == 0)) (by omega) (by omega) (fun x hx => T8 N hN h20 hp hm hx)
 rw [e]
 simp only [oS]
 rw [As h1, h2]
 unfold Fb
 simp
theorem Jd {β : Type} (g : Nat → List β) : ∀ n : Nat, CS (fun i (_ : Nat) => g i) 0 (zB4 n) = (zB4 n).flatMap g
 | 0 => rfl
 | n + 1 => by rw [zG7, NE, Jd g n, zJ3]; simp [CS]
def YI (p : Aa) (m : Ab) (s : Ad) : Bool := (AX p m s).2 == 0
def gS (p : Aa) (m : Ab) (k : Int) (i v : Nat) : List Ad := if YI p m ⟨k, (i : Int), (v : Int)⟩ = true then [⟨k, (i : Int), (v : Int)⟩] else []
def bS (p : Aa) (m : Ab) (k : Int) (i : Nat) : List Ad := (zB4 6).flatMap (gS p m k i)
def UK (p : Aa) : Nat := max p.fA.length p.fC.length
def kS (p : Aa) (m : Ab) (k : Int) : List Ad := (zB4 (UK p)).flatMap (bS p m k)
theorem LL {β : Type} (f : Nat → β) (q : β → Bool) : ∀ n : Nat, ((zB4 n).flatMap fun v => if q (f v) = true then [f v] else []) = ((zB4 n).map f).filter q
 | 0 => rfl
 | n + 1 => by
  rw [zG7, zJ3, LL f q n, zF5, zF6]
  cases h : q (f n) <;> simp [h]
theorem L0 {β : Type} (g : Nat → List β) (a : Nat) (h : ∀ v, a ≤ v → g v = []) : ∀ n, a ≤ n → (zB4 n).flatMap g = (zB4 a).flatMap g
 | 0, hn => by rw [Nat.le_zero.1 hn]
 | n + 1, hn => by
  by_cases h1 : a = n + 1
  ·rw [h1]
  ·rw [zG7, zJ3, L0 g a h n (by omega)]
   simp [h n (by omega)]
theorem Yy (p : Aa) (m : Ab) (k : Int) (i v : Nat) : (gS p m k i v).length ≤ 1 := by unfold gS; split <;> simp
theorem WQ (p : Aa) (m : Ab) (k : Int) (i : Nat) : (bS p m k i).length ≤ 6 := by
 unfold bS
 rw [← Jd]
 have := Gr (g := fun i' (_ : Nat) => gS p m k i i') (c := 1) (i := 0) (xs := zB4 6) fun j x _ => Yy p m k i _
 simpa using this
theorem bb {p : Aa} (hp : Bf p) (m : Ab) (k : Int) : (kS p m k).length ≤ 72 := by
 have h1 := hp.nv
 have h2 := hp.nt
 unfold kS
 rw [← Jd]
 have := Gr (g := fun i' (_ : Nat) => bS p m k i') (c := 6) (i := 0) (xs := zB4 (UK p)) fun j x _ => WQ p m k _
 simp only [zH5] at this
 have h3 : UK p ≤ 12 := by unfold UK; omega
 omega
theorem bg {p : Aa} {m : Ab} {s : Ad} (h : YI p m s = true) : Hk s = true ∧ Gu p s = true := by
 unfold YI AX at h
 split at h
 ·cases h
 ·rename_i h1
  split at h
  ·cases h
  ·rename_i h2
   exact ⟨by simpa using h1, by simpa using h2⟩
theorem NP {p : Aa} {m : Ab} {k : Int} {i v : Nat} (h : YI p m ⟨k, (i : Int), (v : Int)⟩ = true) : (k = 3 → i < p.fC.length) ∧ (k ≠ 3 → i < p.fA.length) ∧ (k = 1 → (v : Int) < p.fA.getD i 0) ∧ (k ≠ 1 → v = 0) := by
 obtain ⟨h1, h2⟩ := bg h
 obtain ⟨a1, a2, a3, a4, a5⟩ := IS h1
 obtain ⟨b1, b2, b3⟩ := JR h2
 simp only [zB3] at *
 exact ⟨fun e => by have := b1 e; omega, fun e => by have := b2 e; omega, b3, fun e => by have := a5 e; omega⟩
theorem Xr {p : Aa} (hp : Bf p) (m : Ab) : kS p m 1 ++ kS p m 2 ++ kS p m 3 = Fb p m := by
 have hnv := hp.nv
 have hnt := hp.nt
 unfold Fb Fa
 rw [zF6, zF6]
 have e1 : kS p m 1 = (CS Kk 0 p.fA).filter fun s => (AX p m s).2 == 0 := by
  unfold kS
  rw [L0 (bS p m 1) p.fA.length (fun i hi => by
   unfold bS
   rw [zK8]
   intro v _
   unfold gS
   rw [if_neg]
   intro h
   have := (NP h).2.1 (by decide)
   omega) (UK p) (by unfold UK; omega)]
  have e : ∀ (xs : List Int) (i : Nat), (∀ j x, xs[j]? = some x → 1 ≤ x ∧ x ≤ 6 ∧ p.fA.getD (i + j) 0 = x) → ((zB4 xs.length).flatMap fun j => bS p m 1 (i + j)) = (CS Kk i xs).filter fun s => (AX p m s).2 == 0 := by
   intro xs
   induction xs with
   | nil => intro i _; rfl
   | cons x xs ih =>
    intro i hx
    rw [zC1, List.range_succ_eq_map, List.flatMap_cons, List.flatMap_map, CS, zF6]
    have ih' := ih (i + 1) (fun j y hy => by
     have := hx (j + 1) y (by simpa using hy)
     rw [show i + 1 + j = i + (j + 1) from by omega]; exact this)
    have hx0 := hx 0 x rfl
    rw [zG4] at hx0
    congr 1
    ·rw [zG4]
     unfold bS Kk
     rw [L0 (gS p m 1 i) x.toNat (fun v hv => by
      unfold gS
      rw [if_neg]
      intro h
      have := (NP h).2.2.1 rfl
      rw [hx0.2.2] at this
      omega) 6 (by omega)]
     exact LL (fun v => (⟨1, (i : Int), ((v : Nat) : Int)⟩ : Ad)) (YI p m) x.toNat
    ·rw [← ih']
     congr 1
     funext j
     rw [show i + (j + 1) = i + 1 + j from by omega]
  have := e p.fA 0 (fun j x hx => by
   have h1 := hp.ver x (lM hx)
   refine ⟨h1.1, h1.2, ?_⟩
   rw [zA1, lD, hx]; rfl)
  simp only [zA1] at this
  exact this
 have e23 : ∀ (k : Int) (n : Nat), k ≠ 1 → n ≤ UK p → (∀ i v, YI p m ⟨k, ((i : Nat) : Int), ((v : Nat) : Int)⟩ = true → i < n) → kS p m k = (((zB4 n).map fun i => (⟨k, ((i : Nat) : Int), 0⟩ : Ad)).filter fun s => (AX p m s).2 == 0) := by
  intro k n hk hn hi
  unfold kS
  rw [L0 (bS p m k) n (fun i hi' => by
   unfold bS
   rw [zK8]
   intro v _
   unfold gS
   rw [if_neg]
   intro h
   have := hi i v h
   omega) (UK p) hn]
  show _ = List.filter (YI p m) _
  rw [← LL (fun i => (⟨k, ((i : Nat) : Int), 0⟩ : Ad)) (YI p m) n]
  congr 1
  funext i
  unfold bS
  rw [L0 (gS p m k i) 1 (fun v hv => by
   unfold gS
   rw [if_neg]
   intro h
   have := (NP h).2.2.2 hk
   omega) 6 (by omega)]
  simp [gS]
 rw [e1, e23 2 p.fA.length (by decide) (by unfold UK; omega) (fun i v h => (NP h).2.1 (by decide)), e23 3 p.fC.length (by decide) (by unfold UK; omega) (fun i v h => (NP h).1 rfl)]
theorem Tb (a b : Nat) : WB (a : Int) (b : Int) = ((max a b : Nat) : Int) := by
 unfold WB
 omega
theorem N8 (N : Nat) (hN : N ≤ 1000000) (h20 : 100 ≤ N) {p : Aa} {m : Ab} (hv : Bx p = 0) (hm : Bz p m) : Eh N p m = some (Fb p m) := by
 obtain ⟨hp, _⟩ := Ch hv
 have hnv := hp.nv
 have hnt := hp.nt
 have hmx : UK p ≤ 12 := by unfold UK; omega
 unfold Eh
 have hmix := HN hv hm
 -- one number
 have inn : ∀ (k : Int) (c0 a : List Ad) (i : Nat) (d0 : List Ad) (j : List Ad → Option (List Ad)), a.length ≤ 1000 →
   Ck N p m (c0, k) (d0, (i : Int)) j N (a, 0) = j (a ++ bS p m k i) := by
  intro k c0 a i d0 j ha
  have := FQ (Ck N p m (c0, k) (d0, (i : Int)) j) (fun a i => (a, i)) (zB4 6) j (fun v _ => gS p m k i v) 1 2000
   (fun v x _ => Yy _ _ _ _ _)
   (fun n v x a hx hl => by
    have hi := (lI.1 hx).1
    simp only [zH5] at hi
    rw [Ck, Az (by simp only; omega)]
    simp only [Bd]
    rw [Sr N hN h20 (KZ hm), if_pos hmix]
    simp only [oS, AB (show v < 1000000 by omega)]
    unfold gS YI
    cases hq : (AX p m ⟨k, (i : Int), (v : Int)⟩).2 == 0
    ·rw [Ao, if_neg (by simp), zH1]
    ·rw [AN, if_pos rfl, As (by simp [Db]; unfold gS YI at hl; rw [hq] at hl; simp at hl; omega)])
   (fun n a => by rw [Ck, Ax (by simp)]) N a (by simp; omega) (by simp; omega)
  rw [Jd] at this
  exact this
 have mid : ∀ (k : Int) (c0 a : List Ad) (j : List Ad → Option (List Ad)), a.length ≤ 500 →
   Cq N p m (c0, k) j N (a, 0) = j (a ++ kS p m k) := by
  intro k c0 a j ha
  have := FQ (Cq N p m (c0, k) j) (fun a i => (a, i)) (zB4 (UK p)) j (fun i _ => bS p m k i) 6 900
   (fun v x _ => WQ _ _ _ _)
   (fun n i x a hx hl => by
    have hi := (lI.1 hx).1
    simp only [zH5] at hi
    rw [Cq, Az (by simp only; rw [Tb]; unfold UK at hi; omega)]
    rw [inn k c0 a i a _ (by omega)]
    simp only [AB (show i < 1000000 by omega)])
   (fun n a => by rw [Cq, Ax (by simp [Tb, UK])]) N a (by simp; omega) (by simp; omega)
  rw [Jd] at this
  exact this
 have hk := bb hp m
 have go : ∀ (k : Int) (n : Nat) (a : List Ad), k ≤ 3 → 1 ≤ k → a.length ≤ 300 → BE N p m (fun v2 => some v2) (n + 1) (a, k) = BE N p m (fun v2 => some v2) n (a ++ kS p m k, k + 1) := by
  intro k n a h1 h2 ha
  rw [BE, Az h1]
  rw [mid k a a _ (by omega), Ce (by omega) (by omega)]
 obtain ⟨N', hN'⟩ : ∃ q, N = q + 4 := ⟨N - 4, by omega⟩
 have e0 : BE N p m (fun v2 => some v2) N ([], 1) = BE N p m (fun v2 => some v2) (N' + 4) ([], 1) := by rw [hN']
 rw [e0, go 1 (N' + 3) [] (by decide) (by decide) (by simp), zG9]
 rw [show (1 : Int) + 1 = 2 from rfl, go 2 (N' + 2) _ (by decide) (by decide) (by have := hk 1; omega)]
 rw [show (2 : Int) + 1 = 3 from rfl, go 3 (N' + 1) _ (by decide) (by decide) (by have h1 := hk 1; have h2 := hk 2; rw [zB7]; omega)]
 rw [BE, Ax (by simp), Xr hp]
end Go.Lift
namespace Go.Lift
open List renaming mem_of_getElem? → lM
open List renaming getElem?_eq_some_iff → lI
namespace Bfs
section
variable {α σ : Type}
def code (rk : σ → Nat) (K : Nat) (w : List σ) : Nat := w.foldl (fun c s => c * K + rk s) 0
theorem JQ (rk : σ → Nat) (K : Nat) (w : List σ) (s : σ) : code rk K (w ++ [s]) = code rk K w * K + rk s := by
 simp [code]
theorem Tw (rk : σ → Nat) (K : Nat) : code rk K ([] : List σ) = 0 := rfl
def Dig (rk : σ → Nat) (K : Nat) (w : List σ) : Prop := ∀ s, s ∈ w → 1 ≤ rk s ∧ rk s ≤ K
theorem Dig.snoc {rk : σ → Nat} {K : Nat} {w : List σ} {s : σ} (h : Dig rk K w) (hs : 1 ≤ rk s ∧ rk s ≤ K) : Dig rk K (w ++ [s]) := by
 intro x hx; rcases zC4.1 hx with h1 | h1
 ·exact h x h1
 ·rw [zD6.1 h1]; exact hs
theorem VY {c d K a b : Nat} (h : c < d) (_ : 1 ≤ b) (ha : a ≤ K) : c * K + a < d * K + b := by
 have : c * K + K ≤ d * K := by rw [← zC3]; exact zA2 K h
 omega
theorem Zi {c d K a : Nat} (h : c ≤ d) : c * K + a ≤ d * K + a := Nat.add_le_add_right (zA2 K h) a
theorem list_snoc {β : Type} (l : List β) : l = [] ∨ ∃ u s, l = u ++ [s] := by
 cases h : l.reverse with
 | nil => exact .inl (List.reverse_eq_nil_iff.1 h)
 | cons s r => exact .inr ⟨r.reverse, s, by rw [← List.reverse_cons, ← h, List.reverse_reverse]⟩
abbrev Nd (α σ : Type) := α × Int × σ
def put [DecidableEq α] (i : Nat) (l : List (Nd α σ)) (q : σ × α) : List (Nd α σ) := if (l.any fun n => decide (n.1 = q.2)) = true then l else l ++ [(q.2, (i : Int), q.1)]
def inner [DecidableEq α] (most i : Nat) : List (σ × α) → List (Nd α σ) → Option (List (Nd α σ))
 | [], l => some l
 | q :: qs, l => if most < (put i l q).length then none else inner most i qs (put i l q)
def go [DecidableEq α] (nxt : α → List (σ × α)) (most : Nat) : Nat → Nat → List (Nd α σ) → Option (List (Nd α σ))
 | 0, _, _ => none
 | n + 1, i, l => match l[i]? with
  | none => some l
  | some nd => (inner most i (nxt nd.1) l).bind fun l' => go nxt most n (i + 1) l'
structure Inv (nxt : α → List (σ × α)) (rk : σ → Nat) (K : Nat) (root : α) (i : Nat) (done : List (σ × α)) (l : List (Nd α σ)) (ws : List (List σ)) : Prop where
 len : ws.length = l.length
 root : ∃ s, l[0]? = some (root, -1, s)
 root' : ws[0]? = some []
 par : ∀ (k : Nat) x f s, 0 < k → l[k]? = some (x, f, s) → ∃ (j : Nat) (y : α) (g : Int) (t : σ) (w : List σ), f = (j : Int) ∧ j < k ∧ l[j]? = some (y, g, t) ∧ (s, x) ∈ nxt y ∧ ws[j]? = some w ∧ ws[k]? = some (w ++ [s]) ∧ (j < i ∨ (j = i ∧ (s, x) ∈ done))
 nodup : ∀ (a b : Nat) x f s g t, l[a]? = some (x, f, s) → l[b]? = some (x, g, t) → a = b
 inc : ∀ (a b : Nat) u w, ws[a]? = some u → ws[b]? = some w → a < b → code rk K u < code rk K w
 dig : ∀ (k : Nat) w, ws[k]? = some w → Dig rk K w
 closed : ∀ (j : Nat) x f s w, l[j]? = some (x, f, s) → ws[j]? = some w → ∀ q, (j < i ∧ q ∈ nxt x) ∨ (j = i ∧ q ∈ done) → ∃ (k : Nat) (f' : Int) (s' : σ) (w' : List σ), l[k]? = some (q.2, f', s') ∧ ws[k]? = some w' ∧ code rk K w' ≤ code rk K (w ++ [q.1])
theorem get_app {β : Type} {l : List β} {y x : β} {k : Nat} (h : (l ++ [y])[k]? = some x) : l[k]? = some x ∨ (k = l.length ∧ x = y) := by
 rcases Nat.lt_trichotomy k l.length with h1 | h1 | h1
 ·rw [zC7 h1] at h; exact .inl h
 ·subst h1; simp at h; exact .inr ⟨rfl, h.symm⟩
 ·rw [zD8 (by simp; omega)] at h; cases h
theorem get_app_of {β : Type} {l : List β} {y x : β} {k : Nat} (h : l[k]? = some x) : (l ++ [y])[k]? = some x := by
 rw [zC7 ((lI.1 h).1)]; exact h
theorem get_app_new {β : Type} {l : List β} {y : β} : (l ++ [y])[l.length]? = some y := by simp
theorem lt_get {β : Type} {l : List β} {k : Nat} {x : β} (h : l[k]? = some x) : k < l.length := (lI.1 h).1
theorem get_ex {β : Type} {l : List β} {k : Nat} (h : k < l.length) : ∃ x, l[k]? = some x := ⟨l[k], zD0 h⟩
theorem YS [DecidableEq α] {nxt : α → List (σ × α)} {rk : σ → Nat} {K : Nat} {root : α} {i : Nat} {done : List (σ × α)} {l : List (Nd α σ)} {ws : List (List σ)} {x : α} {f : Int} {s : σ} {q : σ × α}
  (hI : Inv nxt rk K root i done l ws) (hx : l[i]? = some (x, f, s)) (hq : q ∈ nxt x) (hd : ∀ r, r ∈ done → rk r.1 < rk q.1) (hr : 1 ≤ rk q.1 ∧ rk q.1 ≤ K) :
  ∃ ws', Inv nxt rk K root i (done ++ [q]) (put i l q) ws' ∧ (∀ (k : Nat) w, ws[k]? = some w → ws'[k]? = some w) ∧ (∀ (k : Nat) n, l[k]? = some n → (put i l q)[k]? = some n) := by
 obtain ⟨w0, hw0⟩ := get_ex (l := ws) (k := i) (by rw [hI.len]; exact lt_get hx)
 unfold put
 by_cases hin : (l.any fun n => decide (n.1 = q.2)) = true
 ·rw [if_pos hin]
  refine ⟨ws, ⟨hI.len, hI.root, hI.root', ?_, hI.nodup, hI.inc, hI.dig, ?_⟩, fun _ _ h => h, fun _ _ h => h⟩
  ·intro k y g t hk hy
   obtain ⟨j, y', g', t', w, h1, h2, h3, h4, h5, h6, h7⟩ := hI.par k y g t hk hy
   exact ⟨j, y', g', t', w, h1, h2, h3, h4, h5, h6, h7.imp id fun h => ⟨h.1, zF0 _ h.2⟩⟩
  ·intro j y g t w hy hw r hr'
   by_cases hold : (j < i ∧ r ∈ nxt y) ∨ (j = i ∧ r ∈ done)
   ·exact hI.closed j y g t w hy hw r hold
   ·have hjr : j = i ∧ r = q := by
     rcases hr' with h | ⟨h1, h2⟩
     ·exact absurd (.inl h) hold
     ·rcases zC4.1 h2 with h3 | h3
      ·exact absurd (.inr ⟨h1, h3⟩) hold
      ·exact ⟨h1, zD6.1 h3⟩
    obtain ⟨rfl, rfl⟩ := hjr
    rw [hw0] at hw; cases hw
    obtain ⟨n, hn1, hn2⟩ := zE8.1 hin
    obtain ⟨k, hk⟩ := zB5.1 hn1
    obtain ⟨nx, nf, ns⟩ := n
    have hn2 : nx = r.2 := of_decide_eq_true hn2
    subst hn2
    obtain ⟨wk, hwk⟩ := get_ex (l := ws) (k := k) (by rw [hI.len]; exact lt_get hk)
    refine ⟨k, nf, ns, wk, hk, hwk, ?_⟩
    rw [JQ]
    rcases zI6 k with rfl | hk0
    ·rw [hI.root'] at hwk; cases hwk; rw [Tw]; omega
    ·obtain ⟨j', y', g', t', w, h1, h2, h3, h4, h5, h6, h7⟩ := hI.par k _ _ _ hk0 hk
     rw [h6] at hwk; cases hwk
     rw [JQ]
     have hdg : 1 ≤ rk ns ∧ rk ns ≤ K := hI.dig k _ h6 ns (by simp)
     rcases h7 with h7 | ⟨h7, h8⟩
     ·exact Nat.le_of_lt (VY (hI.inc _ _ _ _ h5 hw0 h7) hr.1 hdg.2)
     ·subst h7; rw [hw0] at h5; cases h5
      have := hd _ h8
      simp only at this; omega
 ·rw [if_neg hin]
  have hnew : ∀ (k : Nat) y g t, l[k]? = some (y, g, t) → y ≠ q.2 := fun k y g t hy e => hin (zE8.2 ⟨_, lM hy, decide_eq_true e⟩)
  have hbig : ∀ (k : Nat) u, ws[k]? = some u → code rk K u < code rk K (w0 ++ [q.1]) := by
   intro k u hu
   rw [JQ]
   obtain ⟨⟨nx, nf, ns⟩, hk⟩ := get_ex (l := l) (k := k) (by rw [← hI.len]; exact lt_get hu)
   rcases zI6 k with rfl | hk0
   ·rw [hI.root'] at hu; cases hu; rw [Tw]; omega
   ·obtain ⟨j', y', g', t', w, h1, h2, h3, h4, h5, h6, h7⟩ := hI.par k _ _ _ hk0 hk
    rw [h6] at hu; cases hu
    rw [JQ]
    have hdg : 1 ≤ rk ns ∧ rk ns ≤ K := hI.dig k _ h6 ns (by simp)
    rcases h7 with h7 | ⟨h7, h8⟩
    ·exact VY (hI.inc _ _ _ _ h5 hw0 h7) hr.1 hdg.2
    ·subst h7; rw [hw0] at h5; cases h5
     have := hd _ h8
     simp only at this; omega
  refine ⟨ws ++ [w0 ++ [q.1]], ⟨by simp [hI.len], ?_, get_app_of hI.root', ?_, ?_, ?_, ?_, ?_⟩, fun _ _ h => get_app_of h, fun _ _ h => get_app_of h⟩
  ·obtain ⟨s0, hs0⟩ := hI.root; exact ⟨s0, get_app_of hs0⟩
  ·intro k y g t hk hy
   rcases get_app hy with hy | ⟨hk1, hy⟩
   ·obtain ⟨j, y', g', t', w, h1, h2, h3, h4, h5, h6, h7⟩ := hI.par k y g t hk hy
    exact ⟨j, y', g', t', w, h1, h2, get_app_of h3, h4, get_app_of h5, get_app_of h6, h7.imp id fun h => ⟨h.1, zF0 _ h.2⟩⟩
   ·cases hy
    refine ⟨i, x, f, s, w0, rfl, by rw [hk1]; exact lt_get hx, get_app_of hx, hq, get_app_of hw0, by rw [hk1, ← hI.len]; exact get_app_new, .inr ⟨rfl, by simp⟩⟩
  ·intro a b y g t g' t' ha hb
   rcases get_app ha with ha | ⟨ha1, ha⟩ <;> rcases get_app hb with hb | ⟨hb1, hb⟩
   ·exact hI.nodup a b y g t g' t' ha hb
   ·cases hb; exact absurd rfl (hnew _ _ _ _ ha)
   ·cases ha; exact absurd rfl (hnew _ _ _ _ hb)
   ·omega
  ·intro a b u w ha hb hab
   rcases get_app ha with ha | ⟨ha1, ha⟩ <;> rcases get_app hb with hb | ⟨hb1, hb⟩
   ·exact hI.inc a b u w ha hb hab
   ·rw [hb]; exact hbig _ _ ha
   ·have := lt_get hb; omega
   ·omega
  ·intro k w hw
   rcases get_app hw with hw | ⟨hw1, hw⟩
   ·exact hI.dig k w hw
   ·rw [hw]; exact (hI.dig _ _ hw0).snoc hr
  ·intro j y g t w hy hw r hr'
   rcases get_app hy with hy1 | ⟨hy1, hy2⟩
   ·have hw1 : ws[j]? = some w := by
     rcases get_app hw with h | ⟨h, _⟩
     ·exact h
     ·have := lt_get hy1; rw [← hI.len] at this; omega
    by_cases hold : (j < i ∧ r ∈ nxt y) ∨ (j = i ∧ r ∈ done)
    ·obtain ⟨k, f', s', w', h1, h2, h3⟩ := hI.closed j y g t w hy1 hw1 r hold
     exact ⟨k, f', s', w', get_app_of h1, get_app_of h2, h3⟩
    ·have hjr : j = i ∧ r = q := by
      rcases hr' with h | ⟨h1, h2⟩
      ·exact absurd (.inl h) hold
      ·rcases zC4.1 h2 with h3 | h3
       ·exact absurd (.inr ⟨h1, h3⟩) hold
       ·exact ⟨h1, zD6.1 h3⟩
     obtain ⟨rfl, rfl⟩ := hjr
     rw [hw0] at hw1; cases hw1
     exact ⟨l.length, _, _, _, get_app_new, by rw [← hI.len]; exact get_app_new, zB0 _⟩
   ·have := lt_get hx
    rcases hr' with h | h <;> omega
theorem RG [DecidableEq α] {nxt : α → List (σ × α)} {rk : σ → Nat} {K : Nat} {root : α} {i most : Nat} {x : α} {f : Int} {s : σ} (hP : (nxt x).Pairwise fun a b => rk a.1 < rk b.1) (hD : ∀ q, q ∈ nxt x → 1 ≤ rk q.1 ∧ rk q.1 ≤ K) :
  ∀ (qs done : List (σ × α)) (l l' : List (Nd α σ)) (ws : List (List σ)), done ++ qs = nxt x → Inv nxt rk K root i done l ws → l[i]? = some (x, f, s) → inner most i qs l = some l' →
   ∃ ws', Inv nxt rk K root i (nxt x) l' ws' ∧ (∀ (k : Nat) w, ws[k]? = some w → ws'[k]? = some w) ∧ (∀ (k : Nat) n, l[k]? = some n → l'[k]? = some n)
 | [], done, l, l', ws, he, hI, hx, h => by
  cases h; rw [zH1] at he; subst he; exact ⟨ws, hI, fun _ _ h => h, fun _ _ h => h⟩
 | q :: qs, done, l, l', ws, he, hI, hx, h => by
  have hqm : q ∈ nxt x := by rw [← he]; simp
  have hlt : ∀ r, r ∈ done → rk r.1 < rk q.1 := fun r hr => by
   rw [← he] at hP
   exact (zI3.1 hP).2.2 r hr q (by simp)
  obtain ⟨ws1, h1, h2, h3⟩ := YS hI hx hqm hlt (hD q hqm)
  simp only [inner] at h
  split at h
  ·cases h
  ·obtain ⟨ws2, g1, g2, g3⟩ := RG hP hD qs (done ++ [q]) _ l' ws1 (by rw [zD7]; exact he) h1 (h3 _ _ hx) h
   exact ⟨ws2, g1, fun k w hw => g2 k w (h2 k w hw), fun k n hn => g3 k n (h3 k n hn)⟩
theorem W2 {nxt : α → List (σ × α)} {rk : σ → Nat} {K : Nat} {root : α} {i : Nat} {x : α} {f : Int} {s : σ} {l : List (Nd α σ)} {ws : List (List σ)} (h : Inv nxt rk K root i (nxt x) l ws) (hx : l[i]? = some (x, f, s)) : Inv nxt rk K root (i + 1) [] l ws := by
 refine ⟨h.len, h.root, h.root', ?_, h.nodup, h.inc, h.dig, ?_⟩
 ·intro k y g t hk hy
  obtain ⟨j, y', g', t', w, h1, h2, h3, h4, h5, h6, h7⟩ := h.par k y g t hk hy
  exact ⟨j, y', g', t', w, h1, h2, h3, h4, h5, h6, .inl (by rcases h7 with h7 | h7 <;> omega)⟩
 ·intro j y g t w hy hw r hr
  rcases hr with ⟨h1, h2⟩ | ⟨_, h2⟩
  ·refine h.closed j y g t w hy hw r ?_
   by_cases hj : j < i
   ·exact .inl ⟨hj, h2⟩
   ·have : j = i := by omega
    subst this; rw [hx] at hy; cases hy; exact .inr ⟨rfl, h2⟩
  ·cases h2
theorem inv_go [DecidableEq α] {nxt : α → List (σ × α)} {rk : σ → Nat} {K : Nat} {root : α} {most : Nat} (P : α → Prop) (hP : ∀ x, P x → (nxt x).Pairwise fun a b => rk a.1 < rk b.1) (hD : ∀ x, P x → ∀ q, q ∈ nxt x → (1 ≤ rk q.1 ∧ rk q.1 ≤ K) ∧ P q.2) (hroot : P root) :
  ∀ (n i : Nat) (l l' : List (Nd α σ)) (ws : List (List σ)), i ≤ l.length → Inv nxt rk K root i [] l ws → (∀ (k : Nat) x f s, l[k]? = some (x, f, s) → P x) → go nxt most n i l = some l' → ∃ ws', Inv nxt rk K root l'.length [] l' ws' ∧ (∀ (k : Nat) x f s, l'[k]? = some (x, f, s) → P x)
 | 0, i, l, l', ws, _, _, _, h => by cases h
 | n + 1, i, l, l', ws, hi, hI, hA, h => by
  simp only [go] at h
  split at h
  ·rename_i hn
   cases h
   have : i = l.length := by
    have := List.getElem?_eq_none_iff.1 hn; omega
   subst this
   exact ⟨ws, hI, hA⟩
  ·rename_i nd hn
   obtain ⟨x, f, s⟩ := nd
   cases hin : inner most i (nxt x) l with
   | none => rw [hin] at h; cases h
   | some l1 =>
    rw [hin] at h
    have hx := hA _ _ _ _ hn
    obtain ⟨ws1, h1, h2, h3⟩ := RG (hP x hx) (fun q hq => (hD x hx q hq).1) (nxt x) [] l l1 ws rfl hI hn hin
    have hA1 : ∀ (k : Nat) y g t, l1[k]? = some (y, g, t) → P y := fun k y g t hy => by
     rcases zI6 k with rfl | hk
     ·obtain ⟨s0, hs0⟩ := h1.root; rw [hs0] at hy; cases hy; exact hroot
     ·obtain ⟨j, y', g', t', w, e1, e2, e3, e4, e5, e6, e7⟩ := h1.par k y g t hk hy
      have hj : P y' := by
       have hjl : j < l.length := by rcases e7 with h | h <;> have := lt_get hn <;> omega
       obtain ⟨⟨z, zf, zs⟩, hz⟩ := get_ex hjl
       have := h3 _ _ hz
       rw [e3] at this; cases this
       exact hA _ _ _ _ hz
      exact (hD y' hj _ e4).2
    exact inv_go P hP hD hroot n (i + 1) l1 l' ws1 (by have := lt_get (h3 _ _ hn); omega) (W2 h1 (h3 _ _ hn)) hA1 h
theorem inv_start {nxt : α → List (σ × α)} {rk : σ → Nat} {K : Nat} {root : α} {s : σ} : Inv nxt rk K root 0 [] [(root, -1, s)] [[]] := by
 refine ⟨rfl, ⟨s, rfl⟩, rfl, ?_, ?_, ?_, ?_, ?_⟩
 ·intro k x f s hk h; rw [zD8 (by simp; omega)] at h; cases h
 ·intro a b x f s g t ha hb; have := lt_get ha; have := lt_get hb; simp at *; omega
 ·intro a b u w ha hb hab; have := lt_get hb; simp at this; omega
 ·intro k w hw
  have := lt_get hw; simp at this; subst this; simp at hw; subst hw
  intro s hs; cases hs
 ·intro j x f s w _ _ q h
  rcases h with h | h
  ·omega
  ·cases h.2
def run (nxt : α → List (σ × α)) (x : α) : List σ → α → Prop
 | [], y => y = x
 | s :: w, y => ∃ z, (s, z) ∈ nxt x ∧ run nxt z w y
theorem GE {nxt : α → List (σ × α)} : ∀ {u w : List σ} {x y : α}, run nxt x (u ++ w) y ↔ ∃ z, run nxt x u z ∧ run nxt z w y
 | [], w, x, y => by simp [run]
 | s :: u, w, x, y => by
  simp only [zH7, run]
  constructor
  ·rintro ⟨z, h1, h2⟩
   obtain ⟨z', h3, h4⟩ := GE.1 h2
   exact ⟨z', ⟨z, h1, h3⟩, h4⟩
  ·rintro ⟨z', ⟨z, h1, h3⟩, h4⟩
   exact ⟨z, h1, GE.2 ⟨z', h3, h4⟩⟩
theorem way_run {nxt : α → List (σ × α)} {rk : σ → Nat} {K : Nat} {root : α} {i : Nat} {l : List (Nd α σ)} {ws : List (List σ)} (h : Inv nxt rk K root i [] l ws) : ∀ (n k : Nat) {x : α} {f : Int} {s : σ} {w : List σ}, k < n → l[k]? = some (x, f, s) → ws[k]? = some w → run nxt root w x
 | 0, k, _, _, _, _, hk, _, _ => by omega
 | n + 1, k, x, f, s, w, hk, hx, hw => by
  rcases zI6 k with rfl | hk0
  ·obtain ⟨s0, hs0⟩ := h.root; rw [hs0] at hx; cases hx
   rw [h.root'] at hw; cases hw; rfl
  ·obtain ⟨j, y', g', t', w', e1, e2, e3, e4, e5, e6, e7⟩ := h.par k _ _ _ hk0 hx
   rw [e6] at hw; cases hw
   exact GE.2 ⟨y', way_run h n j (by omega) e3 e5, x, e4, rfl⟩
theorem reach_node {nxt : α → List (σ × α)} {rk : σ → Nat} {K : Nat} {root : α} {l : List (Nd α σ)} {ws : List (List σ)} (h : Inv nxt rk K root l.length [] l ws) : ∀ (n : Nat) {w : List σ} {y : α}, w.length = n → run nxt root w y → ∃ (k : Nat) (f : Int) (s : σ) (u : List σ), l[k]? = some (y, f, s) ∧ ws[k]? = some u ∧ code rk K u ≤ code rk K w
 | 0, w, y, hn, hr => by
  rw [List.length_eq_zero_iff.1 hn] at hr ⊢
  simp only [run] at hr; subst hr
  obtain ⟨s, hs⟩ := h.root
  exact ⟨0, _, _, _, hs, h.root', zB0 _⟩
 | n + 1, w, y, hn, hr => by
  rcases list_snoc w with rfl | ⟨w', s, rfl⟩
  ·simp at hn
  obtain ⟨z, h1, h2⟩ := GE.1 hr
  simp only [run] at h2
  obtain ⟨z', h2, rfl⟩ := h2
  simp only [zB7, zC2] at hn
  obtain ⟨k, f, t, u, g1, g2, g3⟩ := reach_node h n (by omega) h1
  obtain ⟨k', f', s', u', e1, e2, e3⟩ := h.closed k z f t u g1 g2 (s, y) (.inl ⟨lt_get g1, h2⟩)
  refine ⟨k', f', s', u', e1, e2, zG5 e3 ?_⟩
  rw [JQ, JQ]
  exact Zi g3
theorem PG [DecidableEq α] {most more i : Nat} (hm : most ≤ more) : ∀ (qs : List (σ × α)) (l l' : List (Nd α σ)), inner most i qs l = some l' → inner more i qs l = some l'
 | [], l, l', h => h
 | q :: qs, l, l', h => by
  simp only [inner] at h ⊢
  split at h
  ·cases h
  ·rw [if_neg (by omega)]; exact PG hm qs _ _ h
theorem go_more [DecidableEq α] {nxt : α → List (σ × α)} {most more : Nat} (hm : most ≤ more) : ∀ (n m i : Nat) (l l' : List (Nd α σ)), n ≤ m → go nxt most n i l = some l' → go nxt more m i l = some l'
 | 0, m, i, l, l', _, h => by cases h
 | n + 1, m, i, l, l', hnm, h => by
  obtain ⟨m, rfl⟩ : ∃ k, m = k + 1 := ⟨m - 1, by omega⟩
  simp only [go] at h ⊢
  cases hl : l[i]? with
  | none => rw [hl] at h; exact h
  | some nd =>
   rw [hl] at h
   simp only at h ⊢
   cases hin : inner most i (nxt nd.1) l with
   | none => rw [hin] at h; cases h
   | some l1 =>
    rw [hin] at h
    rw [PG hm _ _ _ hin]
    exact go_more hm n m (i + 1) l1 l' (by omega) h
theorem inner_len [DecidableEq α] {most i : Nat} : ∀ (qs : List (σ × α)) (l l' : List (Nd α σ)), l.length ≤ most → inner most i qs l = some l' → l'.length ≤ most
 | [], l, l', h0, h => by cases h; exact h0
 | q :: qs, l, l', h0, h => by
  simp only [inner] at h
  split at h
  ·cases h
  ·exact inner_len qs _ _ (by omega) h
theorem go_len [DecidableEq α] {nxt : α → List (σ × α)} {most : Nat} : ∀ (n i : Nat) (l l' : List (Nd α σ)), l.length ≤ most → go nxt most n i l = some l' → l'.length ≤ most
 | 0, i, l, l', _, h => by cases h
 | n + 1, i, l, l', h0, h => by
  simp only [go] at h
  split at h
  ·cases h; exact h0
  ·rename_i nd hn
   cases hin : inner most i (nxt nd.1) l with
   | none => rw [hin] at h; cases h
   | some l1 => rw [hin] at h; exact go_len n (i + 1) l1 l' (inner_len _ _ _ h0 hin) h
end
end Bfs
end Go.Lift
namespace Go.Lift
open IntKind renaming wrap → wI
open Option renaming bind_some → oS
open List renaming mem_of_getElem? → lM
open List renaming getElem?_eq_some_iff → lI
open List renaming getD_eq_getElem?_getD → lD
open Go
theorem Tt : ∀ {l : List Int}, Us l = 0 → ∀ x, x ∈ l → x = 0
 | [], _, x, hx => by cases hx
 | y :: ys, h, x, hx => by
  unfold Us at h
  split at h
  ·rename_i hy
   rcases zB1.1 hx with rfl | hx
   ·exact hy
   ·exact Tt h x hx
  ·rename_i hy; exact absurd h hy
theorem KM {a b : Ab} (h : Fk a b = 0) : a = b := by
 have := Tt h
 have h1 := Pf _ _ (this (E4 a.fD b.fD) (by simp))
 have h2 := Pf _ _ (this (E4 a.fB b.fB) (by simp))
 have h3 := Pf _ _ (this (E4 a.fE b.fE) (by simp))
 cases a; cases b; simp only at h1 h2 h3; subst h1; subst h2; subst h3; rfl
instance eK : DecidableEq Ab := fun a b => if h : Fk a b = 0 then isTrue (KM h) else isFalse (fun e => h (by rw [e]; exact Ms b))
theorem WY (a b : Ab) : (Fk a b == 0) = decide (a = b) := by
 by_cases h : a = b
 ·rw [decide_eq_true h, h, Ms]; rfl
 ·rw [decide_eq_false h]
  exact beq_eq_false_iff_ne.2 fun e => h (KM e)
def Qp (p : Aa) (m : Ab) (ss : List Ad) : List (Ad × Ab) := ss.filterMap fun s => if AZ p (AX p m s).1 = true then some (s, (AX p m s).1) else none
def Ih (p : Aa) (m : Ab) : List (Ad × Ab) := Qp p m (Fb p m)
def Nm (s : Ad) : Nat := if s.fG = 1 then 1 + 8 * s.fI.toNat + s.fO.toNat else if s.fG = 2 then 60 + s.fI.toNat else 70 + s.fI.toNat
theorem HG {p : Aa} {m : Ab} {s : Ad} (h : s ∈ Fb p m) : s ∈ Fa p ∧ (AX p m s).2 = 0 := by
 unfold Fb at h
 have := List.mem_filter.1 h
 exact ⟨this.1, by simpa using this.2⟩
theorem Vo {p : Aa} {m : Ab} {ss : List Ad} {q : Ad × Ab} : q ∈ Qp p m ss ↔ q.1 ∈ ss ∧ q.2 = (AX p m q.1).1 ∧ AZ p q.2 = true := by
 unfold Qp
 rw [List.mem_filterMap]
 constructor
 ·rintro ⟨s, h1, h2⟩
  split at h2
  ·rename_i h3; cases h2; exact ⟨h1, rfl, h3⟩
  ·cases h2
 ·rintro ⟨h1, h2, h3⟩
  refine ⟨q.1, h1, ?_⟩
  rw [← h2, if_pos h3]
theorem K8 {p : Aa} {m : Ab} {q : Ad × Ab} : q ∈ Ih p m ↔ q.1 ∈ Fb p m ∧ q.2 = (AX p m q.1).1 ∧ AZ p q.2 = true := Vo
theorem Pw {p : Aa} {m : Ab} (hp : Bf p) (hm : Bz p m) {q : Ad × Ab} (h : q ∈ Ih p m) : Bz p q.2 ∧ AZ p q.2 = true := by
 obtain ⟨h1, h2, h3⟩ := K8.1 h
 exact ⟨by rw [h2]; exact JP hp hm (HG h1).2, h3⟩
theorem Qz {p : Aa} (hp : Bf p) {s : Ad} (h : s ∈ Fa p) : s.fG ≤ 3 ∧ 1 ≤ Nm s ∧ Nm s ≤ 100 := by
 obtain ⟨h1, h2⟩ := Oe hp h
 obtain ⟨a1, a2, a3, a4, a5⟩ := IS h1
 obtain ⟨b1, b2, b3⟩ := JR h2
 have hnv := hp.nv
 have hnt := hp.nt
 have hk : s.fG ≤ 3 := by
  unfold Fa at h
  rcases zC4.1 h with h | h
  ·rcases zC4.1 h with h | h
   ·obtain ⟨j, x, hx, hk⟩ := Hv.1 h
    unfold Kk at hk
    obtain ⟨v, hv, rfl⟩ := zB6.1 hk
    exact (by decide : (1 : Int) ≤ 3)
   ·obtain ⟨v, hv, rfl⟩ := zB6.1 h
    exact (by decide : (2 : Int) ≤ 3)
  ·obtain ⟨v, hv, rfl⟩ := zB6.1 h
   exact (by decide : (3 : Int) ≤ 3)
 refine ⟨hk, ?_⟩
 unfold Nm
 by_cases h1 : s.fG = 1
 ·rw [if_pos h1]
  have := b2 (by omega)
  have h3 := b3 h1
  have h4 := (Jf hp (i := s.fI.toNat) (by omega)).2
  omega
 ·rw [if_neg h1]
  by_cases h2 : s.fG = 2
  ·rw [if_pos h2]
   have := b2 (by omega)
   omega
  ·rw [if_neg h2]
   have := b1 (by omega)
   omega
theorem Y3 (i : Nat) (n : Int) : (Kk i n).Pairwise fun a b => Nm a < Nm b := by
 unfold Kk
 rw [zK2]
 refine List.Pairwise.imp ?_ zJ5
 intro a b h
 simp [Nm]; omega
theorem YM {p : Aa} (hp : Bf p) : (Fa p).Pairwise fun a b => Nm a < Nm b := by
 have hnv := hp.nv
 have hnt := hp.nt
 have e1 : ∀ (xs : List Int) (i : Nat), (∀ x, x ∈ xs → x ≤ 6) → (CS Kk i xs).Pairwise fun a b => Nm a < Nm b := by
  intro xs
  induction xs with
  | nil => intro i _; exact List.Pairwise.nil
  | cons x xs ih =>
   intro i hx
   rw [CS, zI3]
   refine ⟨Y3 i x, ih (i + 1) fun y hy => hx y (zH0 _ hy), ?_⟩
   intro a ha b hb
   unfold Kk at ha
   obtain ⟨v, hv, rfl⟩ := zB6.1 ha
   obtain ⟨j, y, hy, hb⟩ := Hv.1 hb
   unfold Kk at hb
   obtain ⟨w, hw, rfl⟩ := zB6.1 hb
   have := hx x (by simp)
   have := zE3.1 hv
   simp [Nm]; omega
 unfold Fa
 rw [zI3, zI3]
 refine ⟨⟨e1 _ 0 fun x hx => (hp.ver x hx).2, ?_, ?_⟩, ?_, ?_⟩
 ·rw [zK2]
  refine List.Pairwise.imp ?_ zJ5
  intro a b h
  simp [Nm]; omega
 ·intro a ha b hb
  obtain ⟨w, hw, rfl⟩ := zB6.1 hb
  obtain ⟨j, y, hy, ha⟩ := Hv.1 ha
  unfold Kk at ha
  obtain ⟨v, hv, rfl⟩ := zB6.1 ha
  have := zE3.1 hv
  have := (hp.ver y (lM hy)).2
  have := (lI.1 hy).1
  simp [Nm]; omega
 ·rw [zK2]
  refine List.Pairwise.imp ?_ zJ5
  intro a b h
  simp [Nm]; omega
 ·intro a ha b hb
  obtain ⟨w, hw, rfl⟩ := zB6.1 hb
  have hw := zE3.1 hw
  rcases zC4.1 ha with ha | ha
  ·obtain ⟨j, y, hy, ha⟩ := Hv.1 ha
   unfold Kk at ha
   obtain ⟨v, hv, rfl⟩ := zB6.1 ha
   have := zE3.1 hv
   have := (hp.ver y (lM hy)).2
   have := (lI.1 hy).1
   simp [Nm]; omega
  ·obtain ⟨v, hv, rfl⟩ := zB6.1 ha
   have := zE3.1 hv
   simp [Nm]; omega
theorem bh {p : Aa} {m : Ab} {ss : List Ad} (h : ss.Pairwise fun a b => Nm a < Nm b) : (Qp p m ss).Pairwise fun a b => Nm a.1 < Nm b.1 := by
 unfold Qp
 rw [List.pairwise_filterMap]
 refine List.Pairwise.imp ?_ h
 intro a b hab x hx y hy
 split at hx
 ·cases hx
  split at hy
  ·cases hy; exact hab
  ·cases hy
 ·cases hx
theorem bf {p : Aa} (hp : Bf p) (m : Ab) : (Ih p m).Pairwise fun a b => Nm a.1 < Nm b.1 := bh ((YM hp).filter _)
theorem ZI {p : Aa} {s : Ad} (hv : Hk s = true) (hx : Gu p s = true) (hk : s.fG ≠ 4) : s ∈ Fa p := by
 obtain ⟨a1, a2, a3, a4, a5⟩ := IS hv
 obtain ⟨b1, b2, b3⟩ := JR hx
 obtain ⟨k, i, v⟩ := s
 simp only at *
 unfold Fa
 obtain ⟨i, rfl⟩ := zA7 a3
 by_cases h1 : k = 1
 ·subst h1
  have h2 := b2 (by decide)
  have h3 := b3 rfl
  obtain ⟨v, rfl⟩ := zA7 a4
  refine zF0 _ (zF0 _ (Hv.2 ⟨i, p.fA.getD i 0, ?_, ?_⟩))
  ·rw [lD]
   have hi : i < p.fA.length := by omega
   simp [hi]
  ·unfold Kk
   refine zB6.2 ⟨v, zE3.2 ?_, by simp⟩
   simp only [zB3] at h3
   omega
 ·have hv0 := a5 h1
  subst hv0
  by_cases h2 : k = 2
  ·subst h2
   have := b2 (by decide)
   exact zF0 _ (List.mem_append_right _ (zB6.2 ⟨i, zE3.2 (by omega), rfl⟩))
  ·have h3 : k = 3 := by omega
   subst h3
   have := b1 rfl
   exact List.mem_append_right _ (zB6.2 ⟨i, zE3.2 (by omega), rfl⟩)
theorem Oz {p : Aa} {m x : Ab} {s : Ad} : MU p m s = some x → (s, x) ∈ Ih p m := by
 intro h
 obtain ⟨h1, h2, h3, h4, h5⟩ := Wx.1 h
 unfold MU at h
 split at h
 ·rename_i h6
  cases h
  refine K8.2 ⟨?_, rfl, h6.2.2⟩
  unfold Fb
  exact List.mem_filter.2 ⟨ZI h1 h2 h4, by simpa using h6.1⟩
 ·cases h
theorem Wy {p : Aa} (hp : Bf p) {m x : Ab} {s : Ad} (h : (s, x) ∈ Ih p m) : MU p m s = some x := by
 obtain ⟨h1, h2, h3⟩ := K8.1 h
 have h1 : s ∈ Fb p m := h1
 obtain ⟨h4, h5⟩ := HG h1
 have := (Qz hp h4).1
 have h2 : x = (AX p m s).1 := h2
 have h3 : AZ p x = true := h3
 unfold MU
 rw [if_pos ⟨h5, by omega, by rw [← h2]; exact h3⟩, h2]
theorem N4 {p : Aa} (hp : Bf p) : ∀ {w : List Ad} {m x : Ab}, N1 p m w = some x ↔ Bfs.run (Ih p) m w x
 | [], m, x => by simp only [N1, Bfs.run, Option.some.injEq]; exact eq_comm
 | s :: w, m, x => by
  simp only [N1, Bfs.run]
  constructor
  ·intro h
   cases hs : MU p m s with
   | none => rw [hs] at h; cases h
   | some z => rw [hs] at h; exact ⟨z, Oz hs, (N4 hp).1 h⟩
  ·rintro ⟨z, h1, h2⟩
   rw [Wy hp h1]
   exact (N4 hp).2 h2
abbrev IP := Bfs.Nd Ab Ad
def LD (n : IP) : AH := ⟨n.1, n.2.1, n.2.2⟩
def MT : Ad := ⟨0, 0, 0⟩
theorem X2 {N : Nat} {p : Aa} {a b : Ab} (hN : N ≤ 1000000) (h20 : 100 ≤ N) (hp : Bf p) (ha : Bz p a) (hb : Bz p b) : EY N a b = some (decide (a = b)) := by
 have hnv := hp.nv
 have hnt := hp.nt
 unfold EY
 rw [OM hN (by rw [ha.base]; omega) (by rw [ha.next]; omega) (by rw [ha.held]; omega) (by rw [hb.held]; omega) (KZ ha) (KZ hb)]
 simp only [oS]
 rw [WY]
theorem TR {N : Nat} (hN : N ≤ 1000000) (h20 : 100 ≤ N) {p : Aa} (hp : Bf p) {x : Ab} (hx : Bz p x) {l : List IP} (hl : l.length < N) (hA : ∀ n, n ∈ l → Bz p n.1) :
  ∃ r, Ew N (l.map LD) x = some r ∧ decide (r < 0) = !(l.any fun n => decide (n.1 = x)) := by
 unfold Ew
 have := Cx (CB N (l.map LD) x fun _ => some (-1)) l (some (-1)) (fun i n => if n.1 = x then some (i : Int) else none)
  (fun n i nd hnd => by
   have hi := (lI.1 hnd).1
   rw [CB, Az (by rw [zA8]; omega), AT, zA3, hnd]
   simp only [zE7, oS, LD]
   have e := X2 hN h20 hp (hA nd (lM hnd)) hx
   rw [show (Ab.mk nd.1.fD nd.1.fB nd.1.fE) = nd.1 from rfl, e, AB (by omega)]
   simp only [oS]
   by_cases h : nd.1 = x
   ·rw [decide_eq_true h, if_pos h]; rfl
   ·rw [decide_eq_false h, if_neg h]; rfl)
  (fun n => by rw [CB, Ax (by simp)]) N 0 (zA9 _) (by omega)
 have e' : CB N (l.map LD) x (fun _ => some (-1)) N 0 = _ := this
 rw [e', zC0]
 cases hs : CR (fun i (n : IP) => if n.1 = x then some (i : Int) else none) 0 l with
 | none =>
  refine ⟨_, rfl, ?_⟩
  have : (l.any fun n => decide (n.1 = x)) = false := by
   rw [zI7]
   intro n hn
   obtain ⟨j, hj⟩ := zB5.1 hn
   have := Fu hs j n hj
   split at this
   ·cases this
   ·rename_i h; simpa using h
  rw [this]; rfl
 | some r =>
  refine ⟨_, rfl, ?_⟩
  obtain ⟨j, n, hj, hr⟩ := DI hs
  split at hr
  ·rename_i h
   cases hr
   have : (l.any fun n => decide (n.1 = x)) = true := zE8.2 ⟨n, lM hj, decide_eq_true h⟩
   rw [this]
   exact decide_eq_false (by omega)
  ·cases hr
theorem Qb {i : Nat} {l : List IP} {q : Ad × Ab} {k : Nat} {n : IP} (h : l[k]? = some n) : (Bfs.put i l q)[k]? = some n := by
 unfold Bfs.put
 split
 ·exact h
 ·exact Bfs.get_app_of h
theorem Sc {i : Nat} {l : List IP} {q : Ad × Ab} {n : IP} (h : n ∈ Bfs.put i l q) : n ∈ l ∨ n.1 = q.2 := by
 unfold Bfs.put at h
 split at h
 ·exact .inl h
 ·rcases zC4.1 h with h | h
  ·exact .inl h
  ·rw [zD6.1 h]; exact .inr rfl
theorem Qt {p : Aa} {m : Ab} {s : Ad} {ss : List Ad} : Qp p m (s :: ss) = if AZ p (AX p m s).1 = true then (s, (AX p m s).1) :: Qp p m ss else Qp p m ss := by
 unfold Qp
 rw [List.filterMap_cons]
 split <;> rename_i h
 ·split at h
  ·cases h
  ·rename_i h2; rw [if_neg h2]
 ·split at h
  ·rename_i h2; cases h; rw [if_pos h2]
  ·cases h
theorem IN {p : Aa} {most i : Nat} : ∀ {qs : List (Ad × Ab)} {l l' : List IP}, Bfs.inner most i qs l = some l' → (∀ q, q ∈ qs → Bz p q.2 ∧ AZ p q.2 = true) → (∀ n, n ∈ l → Bz p n.1 ∧ AZ p n.1 = true) → (∀ n, n ∈ l' → Bz p n.1 ∧ AZ p n.1 = true) ∧ (∀ (k : Nat) n, l[k]? = some n → l'[k]? = some n)
 | [], l, l', h, _, hA => by cases h; exact ⟨hA, fun _ _ h => h⟩
 | q :: qs, l, l', h, hq, hA => by
  simp only [Bfs.inner] at h
  split at h
  ·cases h
  ·obtain ⟨h1, h2⟩ := IN h (fun q hq' => hq q (zH0 _ hq')) (fun n hn => by
    rcases Sc hn with h | h
    ·exact hA n h
    ·rw [h]; exact hq q (by simp))
   exact ⟨h1, fun k n hn => h2 k n (Qb hn)⟩
theorem NT (N : Nat) (hN : N ≤ 1000000) (h20 : 100 ≤ N) {p : Aa} {m : Ab} (hp : Bf p) (hm : Bz p m) {s : Ad} (hs : s ∈ Fb p m) : ∃ b, CF N p m s = some ((AX p m s).1, b) := by
 obtain ⟨h1, h2⟩ := HG hs
 obtain ⟨h3, h4⟩ := Oe hp h1
 rw [NY N hN h20 hp hm h3 h4]
 unfold AX at h2 ⊢
 rw [h3, h4, if_neg (by simp), if_neg (by simp)] at h2 ⊢
 cases h : Gm p m s with
 | none => rw [h] at h2; cases h2
 | some x => exact ⟨true, rfl⟩
theorem Lk {N : Nat} (hN : N ≤ 1000000) (h20 : 100 ≤ N) {p : Aa} (hp : Bf p) {m : Ab} (hm : Bz p m) {f : Int} {t : Ad} {most i : Nat} (hmo : most ≤ 20000) {v1 : List AH × Int} (hv1 : v1.2 = (i : Int)) (ss : List Ad) (hss : ∀ s, s ∈ ss → s ∈ Fb p m) (hsl : ss.length ≤ 1000) (j : List AH → Option (List AH × Bool)) :
  ∀ (n k : Nat) (l : List IP), k ≤ ss.length → ss.length - k < n → l[i]? = some (m, f, t) → (∀ n, n ∈ l → Bz p n.1 ∧ AZ p n.1 = true) → l.length ≤ most → (l.length < N ∧ most < N ∨ ∃ l', Bfs.inner most i (Qp p m (ss.drop k)) l = some l' ∧ l'.length < N) →
   BV N p (most : Int) v1 ss j n (l.map LD, (k : Int)) = match Bfs.inner most i (Qp p m (ss.drop k)) l with
    | none => some ([], false)
    | some l' => j (l'.map LD)
 | 0, k, l, _, h, _, _, _, _ => by omega
 | n + 1, k, l, hk, h, hi, hA, hlm, hfu => by
  by_cases h1 : k < ss.length
  ·have hs : ss[k]? = some ss[k] := by simp [h1]
   have hsm := hss _ (lM hs)
   have hl1 : l.length < N := by
    rcases hfu with h | ⟨l', h, h2⟩
    ·exact h.1
    ·have hk := (IN (p := p) h (fun q hq => by
      obtain ⟨g1, g2, g3⟩ := Vo.1 hq
      exact ⟨by rw [g2]; exact JP hp hm (HG (hss _ (List.mem_of_mem_drop g1))).2, g3⟩) hA).2
     by_cases h0 : l.length = 0
     ·omega
     ·have := hk (l.length - 1) l[l.length - 1] (by simp)
      have := (lI.1 this).1
      omega
   rw [BV, Az (by simp only; omega)]
   simp only [Bd, hv1, AT, zA3, hi, hs, zE7, oS, LD]
   obtain ⟨b, ea⟩ := NT N hN h20 hp hm hsm
   rw [show (Ab.mk m.fD m.fB m.fE) = m from rfl, ea]
   simp only [oS]
   have hxo := JP hp hm (HG hsm).2
   rw [IX N p _ hN h20 hp hxo]
   simp only [oS]
   rw [C9 hs, Qt] at hfu ⊢
   cases hr : AZ p (AX p m ss[k]).1
   ·rw [hr] at hfu
    rw [Ao, Ao, if_neg (by simp), Ax (by rw [zA8]; omega), AB (by omega)]
    rw [if_neg (by simp)] at hfu
    exact Lk hN h20 hp hm hmo hv1 ss hss hsl j n (k + 1) l (by omega) (by omega) hi hA hlm hfu
   ·rw [hr] at hfu
    rw [AN, if_pos rfl]
    rw [if_pos rfl] at hfu
    obtain ⟨r, er, hr2⟩ := TR hN h20 hp hxo hl1 (fun n hn => (hA n hn).1)
    have er' : Ew N (l.map fun n => AH.mk n.1 n.2.1 n.2.2) (AX p m ss[k]).1 = some r := er
    have em : (l.map fun n : IP => AH.mk n.1 n.2.1 n.2.2) = l.map LD := rfl
    rw [← em, er']
    simp only [oS]
    rw [hr2]
    have hput : Bfs.put i l (ss[k], (AX p m ss[k]).1) = if (l.any fun n => decide (n.1 = (AX p m ss[k]).1)) = true then l else l ++ [((AX p m ss[k]).1, (i : Int), ss[k])] := rfl
    simp only [Bfs.inner] at hfu ⊢
    have hA2 : ∀ n, n ∈ Bfs.put i l (ss[k], (AX p m ss[k]).1) → Bz p n.1 ∧ AZ p n.1 = true := fun n hn => by
     rcases Sc hn with h | h
     ·exact hA n h
     ·rw [h]; exact ⟨hxo, hr⟩
    have hi2 : (Bfs.put i l (ss[k], (AX p m ss[k]).1))[i]? = some (m, f, t) := Qb hi
    have main : (AR (decide ((most : Int) < (((Bfs.put i l (ss[k], (AX p m ss[k]).1)).map LD).length : Int))) (some (([] : List AH), false)) (BV N p (most : Int) v1 ss j n ((Bfs.put i l (ss[k], (AX p m ss[k]).1)).map LD, (wI .i64 ((k : Int) + 1))))) =
      match (if most < (Bfs.put i l (ss[k], (AX p m ss[k]).1)).length then none else Bfs.inner most i (Qp p m (ss.drop (k + 1))) (Bfs.put i l (ss[k], (AX p m ss[k]).1))) with
      | none => some ([], false)
      | some l' => j (l'.map LD) := by
     by_cases hb : most < (Bfs.put i l (ss[k], (AX p m ss[k]).1)).length
     ·rw [if_pos hb, Az (by rw [zA8]; omega)]
     ·rw [if_neg hb] at hfu
      rw [if_neg hb, Ax (by rw [zA8]; omega), AB (by omega)]
      exact Lk hN h20 hp hm hmo hv1 ss hss hsl j n (k + 1) _ (by omega) (by omega) hi2 hA2 (by omega) (hfu.imp (fun h => ⟨by omega, h.2⟩) id)
    cases hin : (l.any fun n => decide (n.1 = (AX p m ss[k]).1))
    ·rw [hin] at hput
     rw [zE0, AN, As (by simp [Db]; omega)]
     rw [if_neg (by simp)] at hput
     rw [hput, zF5] at main
     rw [hput]
     exact main
    ·rw [hin] at hput
     rw [zB9, Ao]
     rw [if_pos rfl] at hput
     rw [hput] at main
     rw [hput]
     exact main
  ·have : k = ss.length := by omega
   subst this
   rw [BV, Ax (by simp), zB2 (zB0 _)]
   rfl
theorem Ny {p : Aa} {m : Ab} (hm : Bz p m) (hr : AZ p m = true) : ∀ n, n ∈ ([(m, -1, MT)] : List IP) → Bz p n.1 ∧ AZ p n.1 = true := fun n hn => by
 rw [zD6.1 hn]; exact ⟨hm, hr⟩
theorem My {p : Aa} (hp : Bf p) (m : Ab) : (Fb p m).length ≤ 54 := zG5 (List.length_filter_le _ _) (Vz hp)
theorem LT {N : Nat} (hN : N ≤ 1000000) (h20 : 100 ≤ N) {p : Aa} (hv : Bx p = 0) {most : Nat} (hmo : most ≤ 20000) (j : List AH → Option (List AH × Bool)) :
  ∀ (n i : Nat) (l : List IP), i ≤ l.length → (∀ n, n ∈ l → Bz p n.1 ∧ AZ p n.1 = true) → l.length ≤ most → (most < N ∧ most < n + i ∨ ∃ l', Bfs.go (Ih p) most n i l = some l' ∧ l'.length < N) →
   BW N p (most : Int) j n (l.map LD, (i : Int)) = match Bfs.go (Ih p) most n i l with
    | none => some ([], false)
    | some l' => j (l'.map LD)
 | 0, i, l, hi, _, hlm, hfu => by
  rcases hfu with h | ⟨l', h, _⟩
  ·omega
  ·cases h
 | n + 1, i, l, hi, hA, hlm, hfu => by
  obtain ⟨hp, _⟩ := Ch hv
  simp only [Bfs.go] at hfu ⊢
  rw [BW]
  by_cases h1 : i < l.length
  ·obtain ⟨⟨m, f, t⟩, hx⟩ := Bfs.get_ex h1
   have hm := (hA _ (lM hx)).1
   rw [hx] at hfu ⊢
   simp only at hfu ⊢
   rw [Az (by rw [zA8]; omega)]
   simp only [AT, zA3, hx, zE7, oS, LD]
   rw [show (Ab.mk m.fD m.fB m.fE) = m from rfl, N8 N hN h20 hv hm]
   simp only [oS]
   have hgo : Qp p m ((Fb p m).drop 0) = Ih p m := rfl
   have hsl := My hp m
   have e := Lk hN h20 hp hm hmo (v1 := (l.map LD, (i : Int))) rfl (Fb p m) (fun s hs => hs) (by omega) (fun (v7 : (List AH)) =>
    BW N p (most : Int) j n (v7, (wI .i64 ((i : Int) + 1)))) N 0 l (zA9 _) (by omega) hx hA hlm (by
     rcases hfu with ⟨g1, g2⟩ | ⟨l', h, hl'⟩
     ·exact .inl ⟨by omega, g1⟩
     ·right
      rw [hgo]
      cases hin : Bfs.inner most i (Ih p m) l with
      | none => rw [hin] at h; cases h
      | some l1 =>
       rw [hin] at h
       refine ⟨l1, rfl, ?_⟩
       have : l1.length ≤ l'.length := by
        have : ∀ (n i : Nat) (l l' : List IP), Bfs.go (Ih p) most n i l = some l' → l.length ≤ l'.length := by
         intro n
         induction n with
         | zero => intro i l l' h; cases h
         | succ n ih =>
          intro i l l' h
          simp only [Bfs.go] at h
          split at h
          ·cases h; exact zB0 _
          ·rename_i nd _
           cases hin : Bfs.inner most i (Ih p nd.1) l with
           | none => rw [hin] at h; cases h
           | some l1 =>
            rw [hin] at h
            refine zG5 ?_ (ih _ _ _ h)
            have : ∀ (qs : List (Ad × Ab)) (l l1 : List IP), Bfs.inner most i qs l = some l1 → l.length ≤ l1.length := by
             intro qs
             induction qs with
             | nil => intro l l1 h; cases h; exact zB0 _
             | cons q qs ih =>
              intro l l1 h
              simp only [Bfs.inner] at h
              split at h
              ·cases h
              ·refine zG5 ?_ (ih _ _ h)
               unfold Bfs.put; split
               ·exact zB0 _
               ·simp
            exact this _ _ _ hin
        exact this _ _ _ _ h
       omega)
   have e' : BV N p (most : Int) (l.map LD, (i : Int)) (Fb p m) (fun (v7 : (List AH)) => BW N p (most : Int) j n (v7, (wI .i64 ((i : Int) + 1)))) N (l.map LD, 0) = _ := e
   rw [e', hgo]
   cases hin : Bfs.inner most i (Ih p m) l with
   | none => rfl
   | some l1 =>
    rw [hin] at hfu
    obtain ⟨k1, k2⟩ := IN hin (fun q hq => Pw hp hm hq) hA
    have := (lI.1 (k2 _ _ hx)).1
    simp only [oS] at hfu ⊢
    rw [AB (by omega)]
    exact LT hN h20 hv hmo j n (i + 1) l1 (by omega) k1 (Bfs.inner_len _ _ _ hlm hin) (hfu.imp (fun h => ⟨h.1, by omega⟩) id)
  ·have hi' : i = l.length := by omega
   subst hi'
   rw [zD8 (zB0 _)]
   rw [Ax (by simp)]
def Hz (p : Aa) (m : Ab) (most n : Nat) : Option (List IP) := Bfs.go (Ih p) most n 0 [(m, -1, MT)]
theorem Sy {N : Nat} (hN : N ≤ 1000000) (h20 : 100 ≤ N) {p : Aa} (hv : Bx p = 0) {m : Ab} (hm : Bz p m) (hr : AZ p m = true) {most : Nat} (hmo : most ≤ 20000) (h1 : 1 ≤ most) (hfu : most < N ∨ ∃ l', Hz p m most N = some l' ∧ l'.length < N) :
  Ea N p m (most : Int) = some (match Hz p m most N with
   | none => ([], false)
   | some l' => (l'.map LD, true)) := by
 unfold Ea
 have e := LT hN h20 hv hmo (fun (v2 : (List AH)) => some (v2, true)) N 0 [(m, -1, MT)] (zA9 _) (Ny hm hr) h1 (hfu.imp (fun h => ⟨h, by omega⟩) id)
 have e' : BW N p (most : Int) (fun (v2 : (List AH)) => some (v2, true)) N (([(AH.mk m ((-1)) ((Ad.mk 0 0 0)))] : List AH), 0) = _ := e
 rw [e']
 unfold Hz
 cases Bfs.go (Ih p) most N 0 [(m, -1, MT)] <;> rfl
structure bk (p : Aa) (m : Ab) (l : List IP) (ws : List (List Ad)) : Prop where
 inv : Bfs.Inv (Ih p) Nm 100 m l.length [] l ws
 ok : ∀ (k : Nat) x f s, l[k]? = some (x, f, s) → Bz p x ∧ AZ p x = true
theorem SO {p : Aa} (hp : Bf p) {m : Ab} (hm : Bz p m) (hr : AZ p m = true) {most n : Nat} {l : List IP} (h : Hz p m most n = some l) : ∃ ws, bk p m l ws := by
 obtain ⟨ws, h1, h2⟩ := Bfs.inv_go (rk := Nm) (K := 100) (fun x => Bz p x ∧ AZ p x = true) (fun x _ => bf hp x) (fun x hx q hq => by
  refine ⟨?_, Pw hp hx.1 hq⟩
  exact (Qz hp (HG (K8.1 hq).1).1).2) ⟨hm, hr⟩ n 0 [(m, -1, MT)] l [[]] (zA9 _) Bfs.inv_start (fun k x f s hk => by
   have := Bfs.lt_get hk
   simp at this; subst this
   cases hk; exact ⟨hm, hr⟩) h
 exact ⟨ws, h1, h2⟩
theorem VU {p : Aa} (hp : Bf p) {m : Ab} {l : List IP} {ws : List (List Ad)} (h : bk p m l ws) {k : Nat} {x : Ab} {f : Int} {s : Ad} {w : List Ad} (hx : l[k]? = some (x, f, s)) (hw : ws[k]? = some w) : N1 p m w = some x :=
 (N4 hp).2 (Bfs.way_run h.inv (k + 1) k (Nat.lt_succ_self k) hx hw)
theorem Q6 {p : Aa} (hp : Bf p) {m x : Ab} {l : List IP} {ws : List (List Ad)} (h : bk p m l ws) {w : List Ad} (hw : N1 p m w = some x) : ∃ (k : Nat) (f : Int) (s : Ad) (u : List Ad), l[k]? = some (x, f, s) ∧ ws[k]? = some u ∧ Bfs.code Nm 100 u ≤ Bfs.code Nm 100 w :=
 Bfs.reach_node h.inv w.length rfl ((N4 hp).1 hw)
theorem Sw {p : Aa} {m : Ab} {l : List IP} {ws : List (List Ad)} (h : bk p m l ws) : ∀ (n k : Nat) {w : List Ad}, k < n → ws[k]? = some w → w.length ≤ k
 | 0, k, _, hk, _ => by omega
 | n + 1, k, w, hk, hw => by
  obtain ⟨⟨x, f, s⟩, hx⟩ := Bfs.get_ex (l := l) (k := k) (by rw [← h.inv.len]; exact Bfs.lt_get hw)
  rcases zI6 k with rfl | hk0
  ·rw [h.inv.root'] at hw; cases hw; exact zB0 _
  ·obtain ⟨j, y', g', t', w', e1, e2, e3, e4, e5, e6, e7⟩ := h.inv.par k _ _ _ hk0 hx
   rw [e6] at hw; cases hw
   have := Sw h n j (by omega) e5
   simp; omega
def LW (p : Aa) (l : List IP) : Option Nat := CR (fun i (n : IP) => if Hb p n.1 = true then some i else none) 0 l
theorem Q3 {p : Aa} {l : List IP} {k : Nat} (h : LW p l = some k) : (∃ x f s, l[k]? = some (x, f, s) ∧ Hb p x = true) ∧ ∀ j x f s, j < k → l[j]? = some (x, f, s) → Hb p x = false := by
 have : ∀ (xs : List IP) (i k : Nat), CR (fun i (n : IP) => if Hb p n.1 = true then some i else none) i xs = some (i + k) → (∃ x f s, xs[k]? = some (x, f, s) ∧ Hb p x = true) ∧ ∀ j x f s, j < k → xs[j]? = some (x, f, s) → Hb p x = false := by
  intro xs
  induction xs with
  | nil => intro i k h; cases h
  | cons n xs ih =>
   intro i k h
   rw [FN] at h
   cases hg : Hb p n.1
   ·rw [hg] at h
    simp only [Bool.false_eq_true, if_false] at h
    cases k with
    | zero =>
     exfalso
     obtain ⟨j, x, _, hj⟩ := DI h
     split at hj
     ·have := Option.some.inj hj; omega
     ·cases hj
    | succ k =>
     obtain ⟨⟨x, f, s, h1, h2⟩, h3⟩ := ih (i + 1) k (by rw [show i + 1 + k = i + (k + 1) from by omega]; exact h)
     refine ⟨⟨x, f, s, by simpa using h1, h2⟩, ?_⟩
     intro j x f s hj hx
     cases j with
     | zero => simp at hx; subst hx; exact hg
     | succ j => exact h3 j x f s (by omega) (by simpa using hx)
   ·rw [hg] at h
    simp only [if_true, Option.some.injEq] at h
    have : k = 0 := by omega
    subst this
    exact ⟨⟨n.1, n.2.1, n.2.2, rfl, hg⟩, fun j _ _ _ hj => by omega⟩
 exact this l 0 k (by rw [zA1]; exact h)
theorem Wk {p : Aa} {l : List IP} (h : LW p l = none) {k : Nat} {x : Ab} {f : Int} {s : Ad} (hx : l[k]? = some (x, f, s)) : Hb p x = false := by
 have := Fu h k _ hx
 split at this
 ·cases this
 ·rename_i h; simpa using h
def PS (p : Aa) (l : List IP) (ws : List (List Ad)) : List Ad × Int := match LW p l with
 | none => ([], 14)
 | some k => (ws.getD k [], 0)
def EJ (n : AD) : IP := (n.fN, n.fF, n.fR)
def JU (x : Ab) : List (Ab × Int) → Option Int
 | [] => none
 | e :: r => if x = e.1 then some e.2 else JU x r
def MN (q : List (Ab × Int)) : List (ByteArray × Int) := q.map fun e => (CX (L2 e.1), e.2)
theorem YX {p : Aa} (hp : Bf p) {x y : Ab} (hx : Bz p x) (hy : Bz p y) : (CX (L2 x) == CX (L2 y)) = decide (x = y) := by
 by_cases h : x = y
 ·rw [decide_eq_true h, h, Sp]
 ·rw [decide_eq_false h]
  cases hb : CX (L2 x) == CX (L2 y)
  ·rfl
  ·exact absurd (ZW hp hx hy hb) h
theorem PJ {p : Aa} (hp : Bf p) {x : Ab} (hx : Bz p x) : ∀ {q : List (Ab × Int)}, (∀ e, e ∈ q → Bz p e.1) → IR (CX (L2 x)) (MN q) = JU x q
 | [], _ => rfl
 | e :: q, h => by
  have ih := PJ hp hx (q := q) fun e he => h e (zH0 _ he)
  show (if (CX (L2 x) == CX (L2 e.1)) = true then some e.2 else IR (CX (L2 x)) (MN q)) = if x = e.1 then some e.2 else JU x q
  rw [YX hp hx (h e (by simp)), ih]
  by_cases h : x = e.1
  ·rw [decide_eq_true h, if_pos rfl, if_pos h]
  ·rw [decide_eq_false h, if_neg (by simp), if_neg h]
theorem Mj (x y : Ab) (r : Int) : ∀ q : List (Ab × Int), JU x (q ++ [(y, r)]) = match JU x q with
  | some v => some v
  | none => if x = y then some r else none
 | [] => rfl
 | e :: q => by
  simp only [zH7, JU]
  by_cases h : x = e.1
  ·rw [if_pos h, if_pos h]
  ·rw [if_neg h, if_neg h, Mj x y r q]
theorem X6 (q : List (Ab × Int)) (x : Ab) (r : Int) : MN (q ++ [(x, r)]) = MN q ++ [(CX (L2 x), r)] := by simp [MN]
structure Pd (p : Aa) (q : List (Ab × Int)) (l : List IP) : Prop where
 ok : ∀ e, e ∈ q → Bz p e.1
 none : ∀ x, Bz p x → JU x q = none → ∀ n, n ∈ l → n.1 ≠ x
 some : ∀ x r, Bz p x → JU x q = some r → (r = -1 ∧ AZ p x = false) ∨ ∃ (j : Nat) (f : Int) (s : Ad), r = (j : Int) ∧ l[j]? = some (x, f, s)
structure Ni (p : Aa) (i : Nat) (done : List (Ad × Ab)) (pl : List AD) : Prop where
 to : ∀ (b : Nat) nd, pl[b]? = some nd → ∀ r, r ∈ nd.fB → ∃ s y, ((b < i ∧ (s, y) ∈ Ih p nd.fN) ∨ (b = i ∧ (s, y) ∈ done)) ∧ ∃ (a : Nat) (f : Int) (t : Ad), r = (a : Int) ∧ (pl.map EJ)[a]? = some (y, f, t)
 of : ∀ (b : Nat) nd, pl[b]? = some nd → ∀ s y, ((b < i ∧ (s, y) ∈ Ih p nd.fN) ∨ (b = i ∧ (s, y) ∈ done)) → ∃ (a : Nat) (f : Int) (t : Ad), ((a : Nat) : Int) ∈ nd.fB ∧ (pl.map EJ)[a]? = some (y, f, t)
def ME (pl : List AD) (i : Nat) (nd : AD) (r : Int) : List AD := if 0 ≤ r then pl.set i ⟨nd.fN, nd.fF, nd.fR, nd.fB ++ [r]⟩ else pl
theorem NV {pl : List AD} {i : Nat} {nd : AD} {r : Int} (h : pl[i]? = some nd) : (ME pl i nd r).map EJ = pl.map EJ := by
 unfold ME
 split
 ·apply List.ext_getElem?
  intro k
  rw [zA3, zA3, zF2]
  by_cases hk : i = k
  ·subst hk
   rw [if_pos rfl, if_pos (Bfs.lt_get h), h]; rfl
  ·rw [if_neg hk]
 ·rfl
theorem Mr {pl : List AD} {i : Nat} {nd : AD} {r : Int} (h : pl[i]? = some nd) {b : Nat} {nb : AD} (hb : (ME pl i nd r)[b]? = some nb) : (b ≠ i ∧ pl[b]? = some nb) ∨ (b = i ∧ nb.fN = nd.fN ∧ nb.fF = nd.fF ∧ nb.fR = nd.fR ∧ nb.fB = if 0 ≤ r then nd.fB ++ [r] else nd.fB) := by
 unfold ME at hb
 split at hb
 ·rename_i hr
  rw [zF2] at hb
  by_cases hk : i = b
  ·subst hk
   rw [if_pos rfl, if_pos (Bfs.lt_get h)] at hb
   cases hb
   exact .inr ⟨rfl, rfl, rfl, rfl, by rw [if_pos hr]⟩
  ·rw [if_neg hk] at hb
   exact .inl ⟨fun e => hk e.symm, hb⟩
 ·rename_i hr
  by_cases hk : b = i
  ·subst hk; rw [h] at hb; cases hb
   exact .inr ⟨rfl, rfl, rfl, rfl, by rw [if_neg hr]⟩
  ·exact .inl ⟨hk, hb⟩
theorem Te {p : Aa} {i : Nat} {done : List (Ad × Ab)} {pl pl2 : List AD} {nd : AD} {s : Ad} {x : Ab} {a : Nat} {f : Int} {t : Ad} (h : Ni p i done pl)
  (hkeep : ∀ (b : Nat) nb, pl2[b]? = some nb → pl[b]? = some nb ∨ (i < b ∧ nb.fB = [])) (hk2 : ∀ (b : Nat) n, (pl.map EJ)[b]? = some n → (pl2.map EJ)[b]? = some n) (hi : pl2[i]? = some nd) (ha : (pl2.map EJ)[a]? = some (x, f, t)) : Ni p i (done ++ [(s, x)]) (ME pl2 i nd (a : Int)) := by
 constructor
 ·intro b nb hb r hr
  rw [NV hi]
  rcases Mr hi hb with ⟨h1, h2⟩ | ⟨h1, h2, h3, h4, h5⟩
  ·rcases hkeep b nb h2 with h3 | ⟨h3, h4⟩
   ·obtain ⟨s', y, g1, a', f', t', g2, g3⟩ := h.to b nb h3 r hr
    refine ⟨s', y, ?_, a', f', t', g2, hk2 _ _ g3⟩
    rcases g1 with g1 | g1
    ·exact .inl g1
    ·exact absurd g1.1 h1
   ·rw [h4] at hr; cases hr
  ·subst h1
   rw [h5, if_pos (Int.natCast_nonneg a)] at hr
   rcases zC4.1 hr with hr | hr
   ·rcases hkeep b nd hi with h6 | ⟨h6, _⟩
    ·obtain ⟨s', y, g1, a', f', t', g2, g3⟩ := h.to b nd h6 r hr
     refine ⟨s', y, ?_, a', f', t', g2, hk2 _ _ g3⟩
     rcases g1 with g1 | g1
     ·exact .inl ⟨g1.1, by rw [h2]; exact g1.2⟩
     ·exact .inr ⟨rfl, zF0 _ g1.2⟩
    ·omega
   ·rw [zD6.1 hr]
    exact ⟨s, x, .inr ⟨rfl, by simp⟩, a, f, t, rfl, ha⟩
 ·intro b nb hb s' y hs
  rw [NV hi]
  rcases Mr hi hb with ⟨h1, h2⟩ | ⟨h1, h2, h3, h4, h5⟩
  ·rcases hkeep b nb h2 with h3 | ⟨h3, h4⟩
   ·obtain ⟨a', f', t', g2, g3⟩ := h.of b nb h3 s' y (by
     rcases hs with hs | hs
     ·exact .inl hs
     ·exact absurd hs.1 h1)
    exact ⟨a', f', t', g2, hk2 _ _ g3⟩
   ·rcases hs with hs | hs <;> omega
  ·subst h1
   rw [h5, if_pos (Int.natCast_nonneg a)]
   rcases hkeep b nd hi with h6 | ⟨h6, _⟩
   ·rcases hs with hs | ⟨_, hs⟩
    ·omega
    ·rcases zC4.1 hs with hs | hs
     ·obtain ⟨a', f', t', g2, g3⟩ := h.of b nd h6 s' y (.inr ⟨rfl, hs⟩)
      exact ⟨a', f', t', zF0 _ g2, hk2 _ _ g3⟩
     ·cases zD6.1 hs
      exact ⟨a, f, t, by simp, ha⟩
   ·omega
theorem HT {N : Nat} (hN : N ≤ 1000000) (h20 : 100 ≤ N) {p : Aa} (hv : Bx p = 0) {m : Ab} (hm : Bz p m) {most i : Nat} (hmo : most ≤ 20000) {v2 : List AD × List (ByteArray × Int) × Int} (hv2 : v2.2.2 = (i : Int)) (ss : List Ad) (e0 : Int) (hss : ∀ s, s ∈ ss → s ∈ Fb p m) (hsl : ss.length ≤ 1000) (j : List AD × List (ByteArray × Int) → Option (List AD × Int)) :
  ∀ (n k : Nat) (pl : List AD) (q : List (Ab × Int)) (l' : List IP), k ≤ ss.length → ss.length - k < n → (∃ nd, pl[i]? = some nd ∧ nd.fN = m) → (∀ n, n ∈ pl.map EJ → Bz p n.1 ∧ AZ p n.1 = true) → pl.length ≤ most → Pd p q (pl.map EJ) → Ni p i (Qp p m (ss.take k)) pl →
   (∃ nd, pl[i]? = some nd ∧ nd.fB.length ≤ k) → Bfs.inner most i (Qp p m (ss.drop k)) (pl.map EJ) = some l' →
   ∃ pl' q', CA N p v2 (ss, e0) j n (pl, MN q, (k : Int)) = j (pl', MN q') ∧ pl'.map EJ = l' ∧ Pd p q' l' ∧ Ni p i (Qp p m ss) pl' ∧ (∀ (b : Nat) nb, pl'[b]? = some nb → b ≠ i → pl[b]? = some nb ∨ nb.fB = [])
 | 0, k, pl, q, l', _, h, _, _, _, _, _, _, _ => by omega
 | n + 1, k, pl, q, l', hk, h, hi, hA, hlm, hpl, hnx, hfl, hin => by
  obtain ⟨hp, _⟩ := Ch hv
  obtain ⟨nd, hnd, hndm⟩ := hi
  obtain ⟨nd', hnd', hfl⟩ := hfl
  rw [hnd] at hnd'; cases hnd'
  by_cases h1 : k < ss.length
  ·have hs : ss[k]? = some ss[k] := by simp [h1]
   have hsm := hss _ (lM hs)
   have hstep := (HG hsm).2
   have hxo := JP hp hm hstep
   have hil := Bfs.lt_get hnd
   rw [CA, Az (by simp only; omega)]
   simp only [Bd, hv2, AT, hnd, hs, oS]
   rw [show (Ab.mk nd.fN.fD nd.fN.fB nd.fN.fE) = m from hndm, MR N hN h20 (KZ hm), if_pos (HN hv hm)]
   simp only [oS]
   rw [hstep, bne_self_eq_false, Ao, WR N hN h20 hp hxo]
   simp only [oS]
   rw [PJ hp hxo hpl.ok]
   have htk : ss.take (k + 1) = ss.take k ++ [ss[k]] := by rw [zE2, hs]; rfl
   have hgo : Qp p m (ss.take (k + 1)) = if AZ p (AX p m ss[k]).1 = true then Qp p m (ss.take k) ++ [(ss[k], (AX p m ss[k]).1)] else Qp p m (ss.take k) := by
    rw [htk]; unfold Qp; rw [List.filterMap_append]
    cases hr : AZ p (AX p m ss[k]).1 <;> simp [hr]
   rw [C9 hs, Qt] at hin
   -- what follows when the node's number is known
   have tail : ∀ (pl2 : List AD) (q2 : List (Ab × Int)) (r : Int) (nd2 : AD), pl2[i]? = some nd2 → nd2.fN = m → nd2.fB.length ≤ k → pl2.length ≤ most →
     AR (decide (0 ≤ r)) ((Br pl2 (i : Int)).bind fun v26 => (DN (v26.fB.length + (([r] : List Int)).length ≤ Db)).bind fun _ => (Br pl2 (i : Int)).bind fun v28 =>
      AR (decide ((20000 : Int) < ((pl2.set ((i : Int)).toNat (AD.mk (Ab.mk v28.fN.fD v28.fN.fB v28.fN.fE) v28.fF (Ad.mk v28.fR.fG v28.fR.fI v28.fR.fO) (v26.fB ++ ([r] : List Int)))).length : Int))) (some (([] : List AD), 3))
       (CA N p v2 (ss, e0) j n (pl2.set ((i : Int)).toNat (AD.mk (Ab.mk v28.fN.fD v28.fN.fB v28.fN.fE) v28.fF (Ad.mk v28.fR.fG v28.fR.fI v28.fR.fO) (v26.fB ++ ([r] : List Int))), MN q2, (wI .i64 ((k : Int) + 1)))))
      (AR (decide ((20000 : Int) < (pl2.length : Int))) (some (([] : List AD), 3)) (CA N p v2 (ss, e0) j n (pl2, MN q2, (wI .i64 ((k : Int) + 1))))) =
     CA N p v2 (ss, e0) j n (ME pl2 i nd2 r, MN q2, ((k + 1 : Nat) : Int)) := by
    intro pl2 q2 r nd2 h2 h3 h4 h5
    by_cases hr : 0 ≤ r
    ·rw [Az hr]
     simp only [AT, h2, oS, zB3]
     rw [As (by simp [Db]; omega), Ax (by rw [zG8]; omega), AB (by omega)]
     unfold ME; rw [if_pos hr]
    ·rw [Ax hr, Ax (by omega), AB (by omega)]
     unfold ME; rw [if_neg hr]
   cases hlq : JU (AX p m ss[k]).1 q with
   | some r =>
    simp only [Option.isSome_some, zB9, Ao, zC9]
    have ht := tail pl q r nd hnd hndm hfl hlm
    simp only [AT, hnd, oS] at ht
    rw [show (Ab.mk nd.fN.fD nd.fN.fB nd.fN.fE) = m from hndm] at ht
    rw [ht]
    rcases hpl.some _ _ hxo hlq with ⟨hr, hnr⟩ | ⟨a, f, t, hr, ha⟩
    ·subst hr
     rw [hnr, if_neg (by simp)] at hin
     rw [hnr, if_neg (by simp)] at hgo
     have hadd : ME pl i nd (-1) = pl := by unfold ME; rw [if_neg (by decide)]
     rw [hadd]
     exact HT hN h20 hv hm hmo hv2 ss e0 hss hsl j n (k + 1) pl q l' (by omega) (by omega) ⟨nd, hnd, hndm⟩ hA hlm hpl (by rw [hgo]; exact hnx) ⟨nd, hnd, by omega⟩ hin
    ·subst hr
     have hrob : AZ p (AX p m ss[k]).1 = true := (hA _ (lM ha)).2
     rw [hrob, if_pos rfl] at hin hgo
     have hput : Bfs.put i (pl.map EJ) (ss[k], (AX p m ss[k]).1) = pl.map EJ := by
      unfold Bfs.put
      rw [if_pos]
      exact zE8.2 ⟨_, lM ha, decide_eq_true rfl⟩
     simp only [Bfs.inner] at hin
     rw [hput, if_neg (by rw [zA8]; omega)] at hin
     have hpr := NV (r := (a : Int)) hnd
     have hnx2 := Te (s := ss[k]) hnx (pl2 := pl) (fun b nb hb => .inl hb) (fun b n hb => hb) hnd ha
     obtain ⟨nd3, hnd3⟩ := Bfs.get_ex (l := ME pl i nd (a : Int)) (k := i) (by
      have := congrArg zF8 hpr; simp only [zA8] at this; omega)
     obtain ⟨g1, g2⟩ | ⟨_, g2, g3, g4, g5⟩ := Mr hnd hnd3
     ·exact absurd rfl g1
     obtain ⟨pl', q', r1, r2, r3, r4, r5⟩ := HT hN h20 hv hm hmo hv2 ss e0 hss hsl j n (k + 1) (ME pl i nd (a : Int)) q l' (by omega) (by omega) ⟨nd3, hnd3, by rw [g2]; exact hndm⟩ (by rw [hpr]; exact hA) (by have := congrArg zF8 hpr; simp only [zA8] at this; omega)  (by rw [hpr]; exact hpl) (by rw [hgo]; exact hnx2) ⟨nd3, hnd3, by rw [g5]; split <;> (try simp only [zB7, zC2]) <;> omega⟩ (by rw [hpr]; exact hin)
     refine ⟨pl', q', r1, r2, r3, r4, ?_⟩
     intro b nb hb hbi
     rcases r5 b nb hb hbi with h2 | h2
     ·rcases Mr hnd h2 with ⟨_, h3⟩ | ⟨h3, _⟩
      ·exact .inl h3
      ·exact absurd h3 hbi
     ·exact .inr h2
   | none =>
    simp only [Option.isSome_none, zE0, AN]
    rw [GT N p _ hN h20 (KZ hxo) (HN hv hxo)]
    simp only [oS, bne_self_eq_false, Ao]
    have hms : ∀ r, Ng (CX (L2 (AX p m ss[k]).1)) r (MN q) = MN (q ++ [((AX p m ss[k]).1, r)]) := fun r => by
     rw [X6]; exact Mx _ _ (by rw [PJ hp hxo hpl.ok, hlq])
    have hok2 : ∀ r e, e ∈ q ++ [((AX p m ss[k]).1, r)] → Bz p e.1 := fun r e he => by
     rcases zC4.1 he with he | he
     ·exact hpl.ok e he
     ·rw [zD6.1 he]; exact hxo
    cases hrob : AZ p (AX p m ss[k]).1
    ·rw [zE0, AN]
     rw [hrob, if_neg (by simp)] at hin hgo
     rw [hms]
     have ht := tail pl (q ++ [((AX p m ss[k]).1, -1)]) (-1) nd hnd hndm hfl hlm
     simp only [AT, hnd, oS] at ht
     rw [show (Ab.mk nd.fN.fD nd.fN.fB nd.fN.fE) = m from hndm] at ht
     rw [ht]
     have hadd : ME pl i nd (-1) = pl := by unfold ME; rw [if_neg (by decide)]
     rw [hadd]
     refine HT hN h20 hv hm hmo hv2 ss e0 hss hsl j n (k + 1) pl _ l' (by omega) (by omega) ⟨nd, hnd, hndm⟩ hA hlm ⟨hok2 (-1), ?_, ?_⟩ (by rw [hgo]; exact hnx) ⟨nd, hnd, by omega⟩ hin
     ·intro x hx hq
      rw [Mj] at hq
      cases hq2 : JU x q with
      | none => exact hpl.none x hx hq2
      | some v => rw [hq2] at hq; cases hq
     ·intro x r hx hq
      rw [Mj] at hq
      cases hq2 : JU x q with
      | none =>
       rw [hq2] at hq
       simp only at hq
       split at hq
       ·rename_i he
        cases hq; left; exact ⟨rfl, by rw [he]; exact hrob⟩
       ·cases hq
      | some v => rw [hq2] at hq; cases hq; exact hpl.some x _ hx hq2
    ·rw [zB9, Ao]
     rw [hrob, if_pos rfl] at hin hgo
     rw [hms]
     have hnew : ((pl.map EJ).any fun n => decide (n.1 = (AX p m ss[k]).1)) = false := by
      rw [zI7]
      intro n hn
      simpa using hpl.none _ hxo hlq n hn
     have hput : Bfs.put i (pl.map EJ) (ss[k], (AX p m ss[k]).1) = (pl ++ [AD.mk (AX p m ss[k]).1 (i : Int) ss[k] []]).map EJ := by
      unfold Bfs.put
      rw [hnew, if_neg (by simp), zF5]; rfl
     simp only [Bfs.inner] at hin
     rw [hput] at hin
     split at hin
     ·cases hin
     rename_i hmm
     rw [zA8, zB7, zC2] at hmm
     rw [As (by simp [Db]; omega)]
     have hnd2 : (pl ++ [AD.mk (AX p m ss[k]).1 (i : Int) ss[k] []])[i]? = some nd := Bfs.get_app_of hnd
     have ht := tail (pl ++ [AD.mk (AX p m ss[k]).1 (i : Int) ss[k] []]) (q ++ [((AX p m ss[k]).1, (pl.length : Int))]) (pl.length : Int) nd hnd2 hndm hfl (by rw [zB7, zC2]; omega)
     simp only [AT] at ht
     rw [ht]
     have hpr := NV (r := (pl.length : Int)) hnd2
     have hlast : ((pl ++ [AD.mk (AX p m ss[k]).1 (i : Int) ss[k] []]).map EJ)[pl.length]? = some ((AX p m ss[k]).1, (i : Int), ss[k]) := by
      rw [zA3, Bfs.get_app_new]; rfl
     have hold : ∀ (b : Nat) n, (pl.map EJ)[b]? = some n → ((pl ++ [AD.mk (AX p m ss[k]).1 (i : Int) ss[k] []]).map EJ)[b]? = some n := fun b n hb => by
      rw [zF5]; exact Bfs.get_app_of hb
     have hkeep : ∀ (b : Nat) nb, (pl ++ [AD.mk (AX p m ss[k]).1 (i : Int) ss[k] []])[b]? = some nb → pl[b]? = some nb ∨ (i < b ∧ nb.fB = []) := fun b nb hb => by
      rcases Bfs.get_app hb with h2 | ⟨h2, h3⟩
      ·exact .inl h2
      ·exact .inr ⟨by omega, by rw [h3]⟩
     have hnx2 := Te (s := ss[k]) hnx hkeep hold hnd2 hlast
     have hpl2 : Pd p (q ++ [((AX p m ss[k]).1, (pl.length : Int))]) ((pl ++ [AD.mk (AX p m ss[k]).1 (i : Int) ss[k] []]).map EJ) := by
      refine ⟨hok2 _, ?_, ?_⟩
      ·intro x hx hq n hn
       rw [Mj] at hq
       cases hq2 : JU x q with
       | none =>
        rw [hq2] at hq
        simp only at hq
        split at hq
        ·cases hq
        ·rename_i hne
         rw [zF5] at hn
         rcases zC4.1 hn with hn | hn
         ·exact hpl.none x hx hq2 n hn
         ·simp at hn; subst hn
          exact fun e => hne e.symm
       | some v => rw [hq2] at hq; cases hq
      ·intro x r hx hq
       rw [Mj] at hq
       cases hq2 : JU x q with
       | none =>
        rw [hq2] at hq
        simp only at hq
        split at hq
        ·rename_i he
         cases hq
         exact .inr ⟨pl.length, _, _, rfl, by rw [he]; exact hlast⟩
        ·cases hq
       | some v =>
        rw [hq2] at hq; cases hq
        rcases hpl.some x _ hx hq2 with g | ⟨a, f, t, g1, g2⟩
        ·exact .inl g
        ·exact .inr ⟨a, f, t, g1, hold _ _ g2⟩
     obtain ⟨nd3, hnd3⟩ := Bfs.get_ex (l := ME (pl ++ [AD.mk (AX p m ss[k]).1 (i : Int) ss[k] []]) i nd (pl.length : Int)) (k := i) (by
      have := congrArg zF8 hpr; simp only [zA8, zB7, zC2] at this; omega)
     obtain ⟨g1, g2⟩ | ⟨_, g2, g3, g4, g5⟩ := Mr hnd2 hnd3
     ·exact absurd rfl g1
     obtain ⟨pl', q', r1, r2, r3, r4, r5⟩ := HT hN h20 hv hm hmo hv2 ss e0 hss hsl j n (k + 1) (ME (pl ++ [AD.mk (AX p m ss[k]).1 (i : Int) ss[k] []]) i nd (pl.length : Int)) _ l' (by omega) (by omega) ⟨nd3, hnd3, by rw [g2]; exact hndm⟩ (by
       rw [hpr]
       intro n hn
       rw [zF5] at hn
       rcases zC4.1 hn with hn | hn
       ·exact hA n hn
       ·simp at hn; subst hn; exact ⟨hxo, hrob⟩) (by have := congrArg zF8 hpr; simp only [zA8, zB7, zC2] at this; omega)  (by rw [hpr]; exact hpl2) (by rw [hgo]; exact hnx2) ⟨nd3, hnd3, by rw [g5]; split <;> (try simp only [zB7, zC2]) <;> omega⟩ (by rw [hpr]; exact hin)
     refine ⟨pl', q', r1, r2, r3, r4, ?_⟩
     intro b nb hb hbi
     rcases r5 b nb hb hbi with h2 | h2
     ·rcases Mr hnd2 h2 with ⟨_, h3⟩ | ⟨h3, _⟩
      ·rcases hkeep b nb h3 with h4 | ⟨_, h4⟩
       ·exact .inl h4
       ·exact .inr h4
      ·exact absurd h3 hbi
     ·exact .inr h2
  ·have : k = ss.length := by omega
   subst this
   rw [zB2 (zB0 _)] at hin
   have hin : some (pl.map EJ) = some l' := hin
   cases hin
   rw [zH8] at hnx
   rw [CA, Ax (by simp)]
   exact ⟨pl, q, rfl, rfl, hpl, hnx, fun b nb hb _ => .inl hb⟩
end Go.Lift
