/- Lemmas for RefuseReasonsSaid, which YtpaobkaighpaaaaGreatFinR7 proves. -/
import Derived.Test.YtpaobkaighpaaaaGreatDec
import Derived.KernelRfl
open Bool renaming and_eq_true → zA4, and_eq_true_iff → zH0, and_true → zJ6, eq_iff_iff → zJ8, false_and → zK5, false_or → zH9, not_false → zE0, not_true → zB7, or_eq_false_iff → zI7, or_eq_true → zF6, or_true → zL6, true_and → zF1
open Int renaming eq_ofNat_of_zero_le → zA7, ofNat_inj → zL4, tmod → zB5, toNat_natCast → zA9
open List renaming all_eq_true → zA5, any_eq_true → zF0, append_assoc → zD2, append_nil → zJ7, cons_append → zI2, drop_drop → zH5, drop_eq_nil_of_le → zB3, drop_zero → zC0, eq_nil_iff_forall_not_mem → zL1, eq_nil_of_length_eq_zero → zD1, filter_append → zF2, flatMap_append → zJ2, flatMap_eq_nil_iff → zL5, getD_cons_succ → zJ1, getD_cons_zero → zK2, getElem?_append_left → zC4, getElem?_append_right → zD0, getElem?_cons_zero → zI8, getElem?_drop → zD5, getElem?_eq_getElem → zB6, getElem?_eq_none → zB9, getElem?_map → zA6, getElem?_set → zD8, getElem?_take_of_lt → zC1, getElem_mem → zE9, length_append → zD4, length_cons → zC6, length_filter_le → zH6, length_map → zC2, length_nil → zF7, length_range → zG9, length_set → zF8, length_singleton → zJ9, map_append → zI1, map_cons → zC3, mem_append → zC5, mem_append_left → zG6, mem_cons → zB0, mem_cons_of_mem → zJ3, mem_filter → zK4, mem_iff_getElem? → zA8, mem_map → zB8, mem_range → zD9, mem_singleton → zE1, mem_take_iff_getElem → zK9, nil_append → zG1, nodup_cons → zE7, pairwise_append → zG5, pairwise_cons → zD3, pairwise_iff_getElem → zH7, pairwise_lt_range → zJ4, pairwise_map → zK6, range → zB1, range_succ → zG0, replicate → zA2, take_add_one → zE4, take_append_of_le_length → zK3, take_length → zI3, take_of_length_le → zJ5, take_succ_eq_append_getElem → zF5
open Nat renaming add_assoc → zF3, add_zero → zF9, eq_zero_or_pos → zK1, le_refl → zB4, le_trans → zG4, mul_le_mul_right → zA3, succ_mul → zC7, zero_add → zA1, zero_le → zB2
open Option renaming getD_some → zC9, map_some → zE8
namespace Go.Lift
open IntKind renaming wrap → wI
open Option renaming bind_some → oS
open List renaming getElem?_eq_some_iff → lI
theorem AU {α : Type} (xs : List α) (i : Nat) : Bx xs (i : Int) = xs[i]? := by
 unfold Bx; simp
theorem Dq {n : Int} (h0 : -9223372036854775808 ≤ n) (h1 : n ≤ 9223372036854775807) : wI .i64 n = n := by
 simp [wI, IntKind.signed, IntKind.bits]; omega
theorem AE {i : Nat} (h : i < 1000000) : wI .i64 ((i : Int) + 1) = ((i + 1 : Nat) : Int) := by
 rw [Dq (by omega) (by omega)]; simp
@[simp] theorem AI {α : Type} {a b : Option α} : AP true a b = a := rfl
@[simp] theorem Am {α : Type} {a b : Option α} : AP false a b = b := rfl
theorem AD {α : Type} {p : Prop} [Decidable p] {a b : Option α} (h : p) : AP (decide p) a b = a := by simp [h]
theorem AA {α : Type} {p : Prop} [Decidable p] {a b : Option α} (h : ¬ p) : AP (decide p) a b = b := by simp [h]
def ZW (a b : Int) : Int := if a < b then -1 else if b < a then 1 else 0
def EQ : List Int → List Int → Int
 | [], [] => 0
 | [], _ :: _ => -1
 | _ :: _, [] => 1
 | a :: as1, b :: bs => if a < b then -1 else if b < a then 1 else EQ as1 bs
theorem Yj (N : Nat) (a b : Int) : Cz N a b = some (ZW a b) := by
 unfold Cz Fb ZW
 by_cases h1 : a < b <;> by_cases h2 : b < a <;> simp [h1, h2]
theorem Xu (N : Nat) (a b : Int) : Ei N a b = some (ZW a b) := by
 unfold Ei EK ZW
 by_cases h1 : a < b <;> by_cases h2 : b < a <;> simp [h1, h2]
theorem Dg {α : Type} {xs : List α} {i : Nat} {x : α} (h : xs[i]? = some x) : xs.drop i = x :: xs.drop (i + 1) := by
 obtain ⟨hi, rfl⟩ := lI.1 h
 exact List.drop_eq_getElem_cons hi
theorem Sy (N : Nat) (a b : List Int) (hb : a.length < 1000000) : ∀ (n i : Nat), i ≤ a.length → i ≤ b.length → a.length - i < n →
  Cq N a b (fun _ => AP (decide ((a.length : Int) < (b.length : Int))) (some (-1)) (some 0)) n (i : Int) = some (EQ (a.drop i) (b.drop i))
 | 0, i, _, _, h => by omega
 | n + 1, i, hi, hj, h => by
  unfold Cq
  by_cases h1 : i < a.length
  ·rw [AD (by omega), AU]
   have ha : a[i]? = some a[i] := by simp [h1]
   rw [ha, Dg ha]
   simp only [oS]
   by_cases h2 : i < b.length
   ·rw [AA (by omega), AU]
    have hbb : b[i]? = some b[i] := by simp [h2]
    rw [hbb, Dg hbb]
    simp only [oS, Yj, EQ, ZW]
    rw [AE (by omega), Sy N a b hb n (i + 1) (by omega) (by omega) (by omega)]
    by_cases h3 : a[i] < b[i]
    ·simp [h3]
    ·by_cases h4 : b[i] < a[i]
     ·simp [h3, h4]
     ·simp [h3, h4]
   ·rw [AD (by omega), zB3 (by omega : b.length ≤ i)]
    simp [EQ]
  ·rw [AA (by omega), zB3 (by omega : a.length ≤ i)]
   by_cases h2 : a.length < b.length
   ·rw [AD (by omega)]
    have hbb : b[i]? = some b[i] := by simp [show i < b.length from by omega]
    rw [Dg hbb]; simp [EQ]
   ·rw [AA (by omega), zB3 (by omega : b.length ≤ i)]
    simp [EQ]
theorem Qv (N : Nat) (a b : List Int) (hb : a.length < 1000000) : ∀ (n i : Nat), i ≤ a.length → i ≤ b.length → a.length - i < n →
  Bu N a b (fun _ => AP (decide ((a.length : Int) < (b.length : Int))) (some (-1)) (some 0)) n (i : Int) = some (EQ (a.drop i) (b.drop i))
 | 0, i, _, _, h => by omega
 | n + 1, i, hi, hj, h => by
  unfold Bu
  by_cases h1 : i < a.length
  ·rw [AD (by omega), AU]
   have ha : a[i]? = some a[i] := by simp [h1]
   rw [ha, Dg ha]
   simp only [oS]
   by_cases h2 : i < b.length
   ·rw [AA (by omega), AU]
    have hbb : b[i]? = some b[i] := by simp [h2]
    rw [hbb, Dg hbb]
    simp only [oS, Xu, EQ, ZW]
    rw [AE (by omega), Qv N a b hb n (i + 1) (by omega) (by omega) (by omega)]
    by_cases h3 : a[i] < b[i]
    ·simp [h3]
    ·by_cases h4 : b[i] < a[i]
     ·simp [h3, h4]
     ·simp [h3, h4]
   ·rw [AD (by omega), zB3 (by omega : b.length ≤ i)]
    simp [EQ]
  ·rw [AA (by omega), zB3 (by omega : a.length ≤ i)]
   by_cases h2 : a.length < b.length
   ·rw [AD (by omega)]
    have hbb : b[i]? = some b[i] := by simp [show i < b.length from by omega]
    rw [Dg hbb]; simp [EQ]
   ·rw [AA (by omega), zB3 (by omega : b.length ≤ i)]
    simp [EQ]
theorem Ur (N : Nat) (a b : List Int) (hb : a.length < 1000000) : ∀ (n i : Nat), i ≤ a.length → i ≤ b.length → a.length - i < n →
  DA N a b (fun _ => AP (decide ((a.length : Int) < (b.length : Int))) (some (-1)) (AP (decide ((b.length : Int) < (a.length : Int))) (some 1) (some 0))) n (i : Int) = some (EQ (a.drop i) (b.drop i))
 | 0, i, _, _, h => by omega
 | n + 1, i, hi, hj, h => by
  unfold DA
  simp only [Bf]
  by_cases h1 : i < a.length
  ·rw [AD (p := (i : Int) < (a.length : Int)) (by omega)]
   have ha : a[i]? = some a[i] := by simp [h1]
   rw [Dg ha]
   by_cases h2 : i < b.length
   ·have hbb : b[i]? = some b[i] := by simp [h2]
    rw [show decide ((i : Int) < (b.length : Int)) = true from decide_eq_true (by omega), AI, AU, AU, ha, hbb, Dg hbb]
    simp only [oS, EQ]
    rw [AE (by omega), Ur N a b hb n (i + 1) (by omega) (by omega) (by omega)]
    by_cases h3 : a[i] < b[i]
    ·simp [h3]
    ·by_cases h4 : b[i] < a[i]
     ·simp [h3, h4]
     ·simp [h3, h4]
   ·rw [show decide ((i : Int) < (b.length : Int)) = false from decide_eq_false (by omega), Am, AA (by omega), AD (by omega), zB3 (by omega : b.length ≤ i)]
    simp [EQ]
  ·rw [AA (p := (i : Int) < (a.length : Int)) (by omega), Am, zB3 (by omega : a.length ≤ i)]
   by_cases h2 : a.length < b.length
   ·rw [AD (by omega)]
    have hbb : b[i]? = some b[i] := by simp [show i < b.length from by omega]
    rw [Dg hbb]; simp [EQ]
   ·rw [AA (by omega), AA (by omega), zB3 (by omega : b.length ≤ i)]
    simp [EQ]
theorem Ov {N : Nat} {a b : List Int} (h : a.length < N) (hN : N ≤ 1000000) : CU N a b = some (EQ a b) := by
 have := Sy N a b (by omega) N 0 (by omega) (by omega) (by omega)
 simpa [CU] using this
theorem R3 {N : Nat} {a b : List Int} (h : a.length < N) (hN : N ≤ 1000000) : Co N a b = some (EQ a b) := by
 have := Qv N a b (by omega) N 0 (by omega) (by omega) (by omega)
 simpa [Co] using this
theorem OO {N : Nat} {a b : List Int} (h : a.length < N) (hN : N ≤ 1000000) : DJ N a b = some (EQ a b) := by
 have := Ur N a b (by omega) N 0 (by omega) (by omega) (by omega)
 simpa [DJ] using this
theorem P0 : ∀ a : List Int, EQ a a = 0
 | [] => rfl
 | a :: as1 => by simp [EQ, P0 as1]
theorem Oj : ∀ a b : List Int, EQ a b = 0 → a = b
 | [], [], _ => rfl
 | [], _ :: _, h => by simp [EQ] at h
 | _ :: _, [], h => by simp [EQ] at h
 | a :: as1, b :: bs, h => by
  unfold EQ at h
  split at h
  ·omega
  ·split at h
   ·omega
   ·rw [Oj as1 bs h, show a = b from by omega]
theorem JV : ∀ a b : List Int, EQ b a = - EQ a b
 | [], [] => rfl
 | [], _ :: _ => rfl
 | _ :: _, [] => rfl
 | a :: as1, b :: bs => by
  have := JV as1 bs
  unfold EQ
  by_cases h1 : a < b
  ·simp [h1, show ¬ b < a from by omega]
  ·by_cases h2 : b < a
   ·simp [h1, h2]
   ·simp [h1, h2, this]
theorem Ub : ∀ a b c : List Int, EQ a b ≤ 0 → EQ b c ≤ 0 → EQ a c ≤ 0
 | [], _, [], _, _ => by simp [EQ]
 | [], _, _ :: _, _, _ => by simp [EQ]
 | _ :: _, [], _, h, _ => by simp [EQ] at h
 | _ :: _, _ :: _, [], _, h => by simp [EQ] at h
 | a :: as1, b :: bs, c :: cs, h1, h2 => by
  have ih := Ub as1 bs cs
  unfold EQ at h1 h2 ⊢
  split at h1 <;> split at h2 <;> (try split at h1) <;> (try split at h2) <;> split <;> (try split) <;> omega
def PA : List Int → Int
 | [] => 0
 | x :: xs => if x = 0 then PA xs else x
theorem cU (N : Nat) (a : List Int) (hb : a.length < 1000000) : ∀ (n i : Nat), i ≤ a.length → a.length - i < n →
  Fc N a (fun _ => some 0) n (i : Int) = some (PA (a.drop i))
 | 0, i, _, h => by omega
 | n + 1, i, hi, h => by
  unfold Fc
  by_cases h1 : i < a.length
  ·have ha : a[i]? = some a[i] := by simp [h1]
   rw [AD (by omega), AU, ha, Dg ha]
   simp only [oS, PA]
   rw [AE (by omega), cU N a hb n (i + 1) (by omega) (by omega)]
   by_cases h3 : a[i] = 0
   ·simp [h3]
   ·have : (a[i] != 0) = true := by simpa using h3
    simp [h3, this]
  ·rw [AA (by omega), zB3 (by omega : a.length ≤ i)]
   simp [PA]
theorem WX {N : Nat} {a : List Int} (h : a.length < N) (hN : N ≤ 1000000) : Gl N a = some (PA a) := by
 have := cU N a (by omega) N 0 (by omega) (by omega)
 simpa [Gl] using this
theorem ai (N : Nat) (a : List Int) (hb : a.length < 1000000) (hw : LL JT a) : ∀ (n i : Nat), i ≤ a.length → a.length - i < n →
  CT N a (fun v => some v) n (a.take i, (i : Int)) = some a
 | 0, i, _, h => by omega
 | n + 1, i, hi, h => by
  unfold CT
  by_cases h1 : i < a.length
  ·have ha : a[i]? = some a[i] := by simp [h1]
   rw [AD (by simpa using h1)]
   simp only
   rw [AU, ha]
   have hr : wI .i64 a[i] = a[i] := by
    have := hw a[i] (zE9 h1)
    unfold JT at this
    have h2 : 0 ≤ a[i] ∧ a[i] ≤ 255 := by simpa [Lit.wf, IntKind.min, IntKind.max, IntKind.signed, IntKind.bits] using this
    exact Dq (by omega) (by omega)
   simp only [oS, hr]
   have hlen : (a.take i).length + ([a[i]] : List Int).length ≤ Dw := by
    simp [Dw]; omega
   rw [show DT ((a.take i).length + ([a[i]] : List Int).length ≤ Dw) = some () from by unfold DT; rw [if_pos hlen]]
   simp only [oS]
   rw [AE (by omega), show a.take i ++ [a[i]] = a.take (i + 1) from by rw [zE4, ha]; rfl]
   exact ai N a hb hw n (i + 1) (by omega) (by omega)
  ·rw [AA (by simpa using h1)]
   simp only
   rw [zJ5 (by omega)]
theorem NQ {N : Nat} {a : List Int} (h : a.length < N) (hN : N ≤ 1000000) (hw : LL JT a) : Dz N a = some a := by
 have := ai N a (by omega) hw N 0 (by omega) (by omega)
 simpa [Dz] using this
def cW (a : Ab) : Prop := a.fd.length ≤ 8 ∧ a.fa.length ≤ 8 ∧ a.fe.length ≤ 14
def GD (a b : Ab) : Int := PA [EQ a.fd b.fd, EQ a.fa b.fa, EQ a.fe b.fe]
theorem U3 (a b : Ab) : GD b a = - GD a b := by
 unfold GD
 rw [JV a.fd b.fd, JV a.fa b.fa, JV a.fe b.fe]
 simp only [PA, Int.neg_eq_zero]
 split
 ·split
  ·split <;> simp_all
  ·rfl
 ·rfl
theorem Lh (a : Ab) : GD a a = 0 := by unfold GD; simp [P0, PA]
def C3 {α R : Type} (f : Nat → α → Option R) : Nat → List α → Option R
 | _, [] => none
 | i, x :: xs => match f i x with
  | some r => some r
  | none => C3 f (i + 1) xs
theorem Gm {α R : Type} (f : Nat → α → Option R) (i : Nat) (x : α) (xs : List α) : C3 f i (x :: xs) = match f i x with
  | some r => some r
  | none => C3 f (i + 1) xs := rfl
def BR {R : Type} (a : Option R) (b : Option R) : Option R := match a with
 | some r => some r
 | none => b
theorem Di {α R : Type} (L : Nat → Int → Option R) (xs : List α) (j : Option R) (f : Nat → α → Option R)
  (hs : ∀ (n i : Nat) (x : α), xs[i]? = some x → L (n + 1) (i : Int) = BR (f i x) (L n ((i + 1 : Nat) : Int))) (he : ∀ n : Nat, L (n + 1) (xs.length : Int) = j) :
  ∀ n i : Nat, i ≤ xs.length → xs.length - i < n → L n (i : Int) = BR (C3 f i (xs.drop i)) j
 | 0, i, _, h => by omega
 | n + 1, i, hi, h => by
  by_cases h1 : i < xs.length
  ·have hx : xs[i]? = some xs[i] := by simp [h1]
   rw [hs n i _ hx, Dg hx, Di L xs j f hs he n (i + 1) (by omega) (by omega)]
   rw [Gm]
   cases f i xs[i] <;> rfl
  ·have : i = xs.length := by omega
   subst this
   rw [he n, zB3 (zB4 _)]
   rfl
theorem Qb (N : Nat) (k n : Int) : Er N k n = some (decide (0 ≤ k) && decide (k < n)) := by
 unfold Er
 simp only [Bf]
 by_cases h : 0 ≤ k
 ·rw [AD h]; simp [h]
 ·rw [AA h]; simp [h]
theorem Na (N : Nat) (t : An) : A5 N t = some (t.ff == 3 || t.ff == 4) := by
 unfold A5
 simp only [Bf]
 cases h : t.ff == 3 <;> simp
def sq (l : List (List Bool)) (n m : Int) : Bool := decide ((l.length : Int) = n) && l.all fun r => decide ((r.length : Int) = m)
theorem Pj {α : Type} (p : α → Bool) {R : Type} (r : Nat → R) : ∀ (i : Nat) (xs : List α), (C3 (fun i x => if p x then none else some (r i)) i xs).isNone = xs.all p
 | i, [] => rfl
 | i, x :: xs => by
  unfold C3
  cases h : p x <;> simp [h, Pj p r (i + 1) xs]
theorem P5 (N : Nat) (l : List (List Bool)) (n m : Int) (h : n < (N : Int)) (hN : N ≤ 1000000) : DO N l n m = some (sq l n m) := by
 unfold DO sq
 by_cases h1 : (l.length : Int) = n
 ·subst h1
  simp only [bne_self_eq_false, Am, decide_true, zF1]
  have := Di (CC N l (l.length : Int) m (fun _ => some true)) l (some true) (fun _ r => if decide ((r.length : Int) = m) then none else some false)
   (fun n i x hx => by
    have hi := (lI.1 hx).1
    rw [CC, AD (by omega), AU, hx]
    simp only [oS]
    rw [AE (by omega)]
    by_cases h2 : (x.length : Int) = m
    ·simp [h2, BR]
    ·have : ((x.length : Int) != m) = true := by simpa using h2
     simp [h2, this, BR])
   (fun n => by rw [CC, AA (by omega)]) N 0 (by omega) (by omega)
  simp only [Int.ofNat_zero, zC0] at this
  rw [this]
  have h3 := Pj (fun r : List Bool => decide ((r.length : Int) = m)) (fun _ => false) 0 l
  cases hsc : C3 (fun (_ : Nat) (r : List Bool) => if decide ((r.length : Int) = m) = true then none else some false) 0 l with
  | none => rw [hsc] at h3; rw [← h3]; rfl
  | some b =>
   rw [hsc] at h3
   rw [← h3]
   have : ∀ (i : Nat) (xs : List (List Bool)) b, C3 (fun (_ : Nat) (r : List Bool) => if decide ((r.length : Int) = m) = true then none else some false) i xs = some b → b = false := by
    intro i xs
    induction xs generalizing i with
    | nil => intro b hb; cases hb
    | cons x xs ih =>
     intro b hb
     unfold C3 at hb
     split at hb
     ·rename_i r hr; cases hb; split at hr <;> simp at hr; exact hr
     ·exact ih _ b hb
   rw [this 0 l b hsc]; rfl
 ·have : ((l.length : Int) != n) = true := by simpa using h1
  simp [this, h1]
theorem Qg (N : Nat) (l : List (List Bool)) (n m : Int) (h : n < (N : Int)) (hN : N ≤ 1000000) : Fv N l n m = some (sq l n m) := by
 unfold Fv sq
 simp only [Bf]
 by_cases h1 : (l.length : Int) = n
 ·subst h1
  simp only [beq_self_eq_true, AI, decide_true, zF1]
  have := Di (Bp N l (fun x => Eh N x m) (fun _ => some (-1))) l (some (-1)) (fun i r => if decide ((r.length : Int) = m) then none else some (i : Int))
   (fun n i x hx => by
    have hi := (lI.1 hx).1
    rw [Bp, AD (by omega), AU, hx]
    simp only [oS, Eh]
    rw [AE (by omega)]
    by_cases h2 : (x.length : Int) = m
    ·simp [h2, BR]
    ·have : ((x.length : Int) != m) = true := by simpa using h2
     simp [h2, this, BR])
   (fun n => by rw [Bp, AA (by omega)]) N 0 (by omega) (by omega)
  simp only [Int.ofNat_zero, zC0] at this
  unfold C9 DL
  rw [this]
  have h3 := Pj (fun r : List Bool => decide ((r.length : Int) = m)) (fun i : Nat => (i : Int)) 0 l
  cases hsc : C3 (fun (i : Nat) (r : List Bool) => if decide ((r.length : Int) = m) = true then none else some (i : Int)) 0 l with
  | none => rw [hsc] at h3; rw [← h3]; rfl
  | some b =>
   rw [hsc] at h3
   rw [← h3]
   have : ∀ (i : Nat) (xs : List (List Bool)) b, C3 (fun (i : Nat) (r : List Bool) => if decide ((r.length : Int) = m) = true then none else some (i : Int)) i xs = some b → 0 ≤ b := by
    intro i xs
    induction xs generalizing i with
    | nil => intro b hb; cases hb
    | cons x xs ih =>
     intro b hb
     rw [Gm] at hb
     split at hb
     ·rename_i r hr
      cases hb
      split at hr
      ·cases hr
      ·cases hr; omega
     ·exact ih _ b hb
   have := this 0 l b hsc
   simp [BR, this]
 ·have : ((l.length : Int) == n) = false := by simpa using h1
  simp [this, h1]
open List renaming mem_of_getElem? → lM
open List renaming getD_eq_getElem?_getD → lD
def IY (l : List (List Bool)) : Option Int := C3 (fun i row => if row.getD i false then none else some 1) 0 l
theorem RZ {row : List Bool} {i : Nat} (h : i < row.length) : Bx row (i : Int) = some (row.getD i false) := by
 rw [AU, lD]; simp [h]
theorem Ys (N : Nat) (t : An) (h : t.fo.length < N) (hN : N ≤ 1000000) (hsq : ∀ row, row ∈ t.fo → row.length = t.fo.length) (j : Option Int) :
  B8 N t (fun _ => j) N 0 = BR (IY t.fo) j := by
 have := Di (B8 N t (fun _ => j)) t.fo j (fun i row => if row.getD i false then none else some 1)
  (fun n i x hx => by
   have hi := (lI.1 hx).1
   have hl := hsq x (lM hx)
   rw [B8, AD (by omega), AU, hx]
   simp only [oS]
   rw [RZ (by omega), AE (by omega)]
   simp only [oS]
   cases x.getD i false <;> rfl)
  (fun n => by rw [B8, AA (by omega)]) N 0 (by omega) (by omega)
 simpa [IY] using this
theorem PZ (N : Nat) (t : An) (h : t.fo.length < N) (hN : N ≤ 1000000) (hsq : ∀ row, row ∈ t.fo → row.length = t.fo.length) (j : Option Int) :
  Du N t (fun _ => j) N 0 = BR (IY t.fo) j := by
 have := Di (Du N t (fun _ => j)) t.fo j (fun i row => if row.getD i false then none else some 1)
  (fun n i x hx => by
   have hi := (lI.1 hx).1
   have hl := hsq x (lM hx)
   rw [Du, AD (by omega), AU, hx]
   simp only [oS]
   rw [RZ (by omega), AE (by omega)]
   simp only [oS]
   cases x.getD i false <;> rfl)
  (fun n => by rw [Du, AA (by omega)]) N 0 (by omega) (by omega)
 simpa [IY] using this
theorem Oi {l : List (List Bool)} {n m : Int} (h : sq l n m = true) : (l.length : Int) = n ∧ ∀ row, row ∈ l → (row.length : Int) = m := by
 unfold sq at h
 simp only [zA4, decide_eq_true_eq, zA5] at h
 exact h
def DW (p : Aa) (t : An) : Int :=
 if t.ff < 1 ∨ 4 < t.ff ∨ (t.ft = true ∧ (t.ff = 3 ∨ t.ff = 4)) then 1
 else if t.fg < 0 ∨ (p.fb.length : Int) ≤ t.fg ∨ t.fm < 0 ∨ (p.fb.length : Int) ≤ t.fm then 4
 else
  let f := p.fb.getD t.fg.toNat 0
  let g := p.fb.getD t.fm.toNat 0
  if sq t.fk f g = false then 6
  else if t.ff = 4 then (if sq t.fo f f = false then 6 else (IY t.fo).getD 0)
  else if t.fo.length = 0 then 0 else 6
theorem E5 {α : Type} {xs : List α} {i : Int} {d : α} (h0 : 0 ≤ i) (h1 : i < (xs.length : Int)) : Bx xs i = some (xs.getD i.toNat d) := by
 obtain ⟨k, rfl⟩ := zA7 h0
 rw [AU, lD, zA9]
 simp [show k < xs.length from by omega]
theorem Wf {t : An} (A B : Option Int) (hk : ¬ (t.ft = true ∧ (t.ff = 3 ∨ t.ff = 4))) : AP t.ft (AP (t.ff == 3 || t.ff == 4) A B) B = B := by
 cases ha : t.ft
 ·rfl
 ·have : (t.ff == 3 || t.ff == 4) = false := by
   rw [zI7]
   constructor
   ·simp only [beq_eq_false_iff_ne]; intro h; exact hk ⟨ha, .inl h⟩
   ·simp only [beq_eq_false_iff_ne]; intro h; exact hk ⟨ha, .inr h⟩
  rw [this]; rfl
theorem Km {p : Aa} {i : Int} (hv : ∀ v, v ∈ p.fb → 1 ≤ v ∧ v ≤ 6) (h0 : 0 ≤ i) (h1 : i < (p.fb.length : Int)) : 1 ≤ p.fb.getD i.toNat 0 ∧ p.fb.getD i.toNat 0 ≤ 6 := by
 refine hv _ ?_
 rw [lD, zB6 (by omega)]
 exact zE9 _
theorem U5 (N : Nat) (p : Aa) (t : An) (hN : N ≤ 1000000) (h6 : 7 ≤ N) (hv : ∀ v, v ∈ p.fb → 1 ≤ v ∧ v ≤ 6) : ER N p t = some (DW p t) := by
 unfold ER DW
 simp only [Bf, Na, oS]
 by_cases k1 : t.ff < 1
 ·simp [k1]
 by_cases k2 : 4 < t.ff
 ·simp [k1, k2]
 rw [AA k1, AA k2]
 by_cases hk : t.ft = true ∧ (t.ff = 3 ∨ t.ff = 4)
 ·obtain ⟨ha, k | k⟩ := hk <;> simp [ha, k]
 rw [Am, Wf _ _ hk, if_neg (fun h => h.elim k1 fun h => h.elim k2 hk)]
 by_cases f1 : t.fg < 0
 ·simp [f1]
 by_cases f2 : (p.fb.length : Int) ≤ t.fg
 ·simp [f1, f2]
 by_cases f3 : t.fm < 0
 ·simp [f1, f2, f3]
 by_cases f4 : (p.fb.length : Int) ≤ t.fm
 ·simp [f1, f2, f3, f4]
 rw [AA f1, AA f2, AA f3, if_neg (fun h => h.elim f1 fun h => h.elim f2 fun h => h.elim f3 f4)]
 have hf := Km hv (i := t.fg) (by omega) (by omega)
 rw [decide_eq_false f4, Am, E5 (d := 0) (by omega : 0 ≤ t.fg) (by omega), E5 (d := 0) (by omega : 0 ≤ t.fm) (by omega)]
 simp only [oS]
 generalize p.fb.getD t.fg.toNat 0 = f at *
 generalize p.fb.getD t.fm.toNat 0 = g at *
 rw [P5 N t.fk f g (by omega) hN, P5 N t.fo f f (by omega) hN]
 simp only [oS]
 cases hq : sq t.fk f g
 ·rfl
 simp only [zB7, Am]
 by_cases k4 : t.ff = 4
 ·have : (t.ff != 4) = false := by simp [k4]
  rw [this, Am]
  simp only [k4, if_true]
  cases hr : sq t.fo f f
  ·rfl
  ·have h7 := Oi hr
   simp only [zB7, Am]
   rw [Ys N t (by omega) hN (fun row hm => by have := h7.2 row hm; omega)]
   cases IY t.fo <;> simp [BR]
 ·have : (t.ff != 4) = true := by simpa using k4
  rw [this, AI]
  simp only [k4, if_false]
  by_cases hr : t.fo.length = 0
  ·simp [hr]
  ·have : ((t.fo.length : Int) != 0) = true := bne_iff_ne.2 (by omega)
   rw [this]; simp [hr]
theorem Xz (N : Nat) (k : Int) (a : Bool) : He N k a = some (k == 1 || (k == 2 || ((k == 3 || k == 4) && !a))) := by
 unfold He
 simp only [Bf]
 cases h1 : k == 1 <;> cases h2 : k == 2 <;> cases h3 : k == 3 <;> cases h4 : k == 4 <;> cases a <;> rfl
theorem Pg (N : Nat) (p : Aa) (t : An) (hN : N ≤ 1000000) (h6 : 7 ≤ N) (hv : ∀ v, v ∈ p.fb → 1 ≤ v ∧ v ≤ 6) : GG N p t = some (DW p t) := by
 unfold GG DW
 simp only [Bf, Xz, Qb, oS]
 by_cases hb : t.ff < 1 ∨ 4 < t.ff ∨ (t.ft = true ∧ (t.ff = 3 ∨ t.ff = 4))
 ·have : (t.ff == 1 || (t.ff == 2 || ((t.ff == 3 || t.ff == 4) && !t.ft))) = false := by
   rcases hb with h | h | ⟨ha, h | h⟩
   ·rw [beq_eq_false_iff_ne.2 (by omega : t.ff ≠ 1), beq_eq_false_iff_ne.2 (by omega : t.ff ≠ 2), beq_eq_false_iff_ne.2 (by omega : t.ff ≠ 3), beq_eq_false_iff_ne.2 (by omega : t.ff ≠ 4)]; rfl
   ·rw [beq_eq_false_iff_ne.2 (by omega : t.ff ≠ 1), beq_eq_false_iff_ne.2 (by omega : t.ff ≠ 2), beq_eq_false_iff_ne.2 (by omega : t.ff ≠ 3), beq_eq_false_iff_ne.2 (by omega : t.ff ≠ 4)]; rfl
   ·simp [ha, h]
   ·simp [ha, h]
  rw [this, if_pos hb]; rfl
 ·have : (t.ff == 1 || (t.ff == 2 || ((t.ff == 3 || t.ff == 4) && !t.ft))) = true := by
   have hk : t.ff = 1 ∨ t.ff = 2 ∨ t.ff = 3 ∨ t.ff = 4 := by
    have h1 : ¬ t.ff < 1 := fun h => hb (.inl h)
    have h2 : ¬ 4 < t.ff := fun h => hb (.inr (.inl h))
    omega
   rcases hk with h | h | h | h
   ·simp [h]
   ·simp [h]
   ·cases ha : t.ft
    ·simp [h]
    ·exact (hb (.inr (.inr ⟨ha, .inl h⟩))).elim
   ·cases ha : t.ft
    ·simp [h]
    ·exact (hb (.inr (.inr ⟨ha, .inr h⟩))).elim
  rw [this, if_neg hb]
  simp only [zB7, Am]
  by_cases f1 : t.fg < 0
  ·simp [f1, show ¬ (0 ≤ t.fg) from by omega]
  by_cases f2 : (p.fb.length : Int) ≤ t.fg
  ·simp [f2, show ¬ (t.fg < (p.fb.length : Int)) from by omega]
  by_cases f3 : t.fm < 0
  ·simp [f3, show 0 ≤ t.fg from by omega, show t.fg < (p.fb.length : Int) from by omega, show ¬ (0 ≤ t.fm) from by omega]
  by_cases f4 : (p.fb.length : Int) ≤ t.fm
  ·simp [f4, show 0 ≤ t.fg from by omega, show t.fg < (p.fb.length : Int) from by omega, show ¬ (t.fm < (p.fb.length : Int)) from by omega]
  rw [if_neg (fun h => h.elim f1 fun h => h.elim f2 fun h => h.elim f3 f4)]
  have hf := Km hv (i := t.fg) (by omega) (by omega)
  have hg := Km hv (i := t.fm) (by omega) (by omega)
  rw [decide_eq_true (by omega : 0 ≤ t.fg), decide_eq_true (by omega : t.fg < (p.fb.length : Int)), decide_eq_true (by omega : 0 ≤ t.fm), decide_eq_true (by omega : t.fm < (p.fb.length : Int)), E5 (d := 0) (by omega : 0 ≤ t.fg) (by omega), E5 (d := 0) (by omega : 0 ≤ t.fm) (by omega)]
  simp only [Bool.and_self, zB7, Am, oS]
  generalize p.fb.getD t.fg.toNat 0 = f at *
  generalize p.fb.getD t.fm.toNat 0 = g at *
  rw [Qg N t.fk f g (by omega) hN, Qg N t.fo f f (by omega) hN]
  simp only [oS]
  cases hq : sq t.fk f g
  ·rfl
  simp only [zB7, Am]
  by_cases k4 : t.ff = 4
  ·simp only [k4, beq_self_eq_true, AI, if_true]
   cases hr : sq t.fo f f
   ·rfl
   ·have h7 := Oi hr
    simp only [zB7, Am]
    rw [PZ N t (by omega) hN (fun row hm => by have := h7.2 row hm; omega)]
    cases IY t.fo <;> simp [BR]
  ·have : (t.ff == 4) = false := beq_eq_false_iff_ne.2 k4
   rw [this, Am]
   simp only [k4, if_false, zE0, AI]
   by_cases hr : t.fo.length = 0
   ·rw [PZ N t (by omega) hN (fun row hm => by rw [zD1 hr] at hm; cases hm), zD1 hr]
    simp [IY, C3, BR]
   ·rw [decide_eq_true (by omega : 0 < (t.fo.length : Int))]
    simp [hr]
def FO (p : Aa) (i : Nat) (v : Int) : Option Int :=
 if v < 1 ∨ 6 < v ∨ p.fh.getD i 0 < 0 ∨ v ≤ p.fh.getD i 0 ∨ p.fi.getD i 0 < 0 ∨ v ≤ p.fi.getD i 0 then some 7 else none
def KX (p : Aa) (_ : Nat) (t : An) : Option Int := if DW p t = 0 then none else some (DW p t)
def By (p : Aa) : Int :=
 if 6 < p.fb.length ∨ 12 < p.fc.length then 3
 else if p.fh.length ≠ p.fb.length ∨ p.fi.length ≠ p.fb.length then 6
 else ((BR (C3 (FO p) 0 p.fb) (C3 (KX p) 0 p.fc)).getD 0)
theorem Ff {α R : Type} {f : Nat → α → Option R} : ∀ {i : Nat} {xs : List α}, C3 f i xs = none → ∀ j x, xs[j]? = some x → f (i + j) x = none
 | _, [], _, j, x, hx => by simp at hx
 | i, y :: ys, h, j, x, hx => by
  rw [Gm] at h
  split at h
  ·cases h
  ·rename_i h0
   cases j with
   | zero => simp at hx; subst hx; exact h0
   | succ j =>
    have := Ff h j x (by simpa using hx)
    rwa [show i + 1 + j = i + (j + 1) from by omega] at this
theorem Om {p : Aa} (h : C3 (FO p) 0 p.fb = none) : ∀ v, v ∈ p.fb → 1 ≤ v ∧ v ≤ 6 := by
 intro v hv
 obtain ⟨i, hi⟩ := zA8.1 hv
 have := Ff h i v hi
 unfold FO at this
 split at this
 ·cases this
 ·rename_i hn
  constructor
  ·exact Int.not_lt.1 fun h => hn (.inl h)
  ·exact Int.not_lt.1 fun h => hn (.inr (.inl h))
theorem Db {α : Type} {xs : List α} {i : Nat} {d : α} (h : i < xs.length) : Bx xs (i : Int) = some (xs.getD i d) := by
 rw [AU, lD]; simp [h]
theorem Tf (N : Nat) (p : Aa) (hN : N ≤ 1000000) (h1 : p.fb.length < N) (h2 : p.fh.length = p.fb.length) (h3 : p.fi.length = p.fb.length) (j : Option Int) :
  Bm N p (fun _ => j) N 0 = BR (C3 (FO p) 0 p.fb) j := by
 have := Di (Bm N p (fun _ => j)) p.fb j (FO p)
  (fun n i x hx => by
   have hi := (lI.1 hx).1
   rw [Bm, AD (by omega), AU, hx]
   simp only [oS, Bf]
   rw [Db (d := 0) (by omega), Db (d := 0) (by omega), AE (by omega)]
   simp only [oS]
   unfold FO
   generalize p.fh.getD i 0 = a
   generalize p.fi.getD i 0 = b
   by_cases k1 : x < 1 <;> by_cases k2 : 6 < x <;> by_cases k3 : a < 0 <;> by_cases k4 : x ≤ a <;> by_cases k5 : b < 0 <;> by_cases k6 : x ≤ b <;> simp [k1, k2, k3, k4, k5, k6, BR])
  (fun n => by rw [Bm, AA (by omega)]) N 0 (by omega) (by omega)
 simpa using this
theorem QP (N : Nat) (p : Aa) (hN : N ≤ 1000000) (h1 : p.fb.length < N) (h2 : p.fh.length = p.fb.length) (h3 : p.fi.length = p.fb.length) (j : Option Int) :
  Ca N p (fun _ => j) N 0 = BR (C3 (FO p) 0 p.fb) j := by
 have := Di (Ca N p (fun _ => j)) p.fb j (FO p)
  (fun n i x hx => by
   have hi := (lI.1 hx).1
   rw [Ca, AD (by omega), AU, hx]
   simp only [oS, Bf, Qb]
   rw [Db (d := 0) (by omega), Db (d := 0) (by omega), AE (by omega)]
   simp only [oS]
   unfold FO
   generalize p.fh.getD i 0 = a
   generalize p.fi.getD i 0 = b
   have e1 : decide (0 ≤ a) = !decide (a < 0) := by rw [← decide_not]; congr 1; simp
   have e2 : decide (a < x) = !decide (x ≤ a) := by rw [← decide_not]; congr 1; simp
   have e3 : decide (0 ≤ b) = !decide (b < 0) := by rw [← decide_not]; congr 1; simp
   have e4 : decide (b < x) = !decide (x ≤ b) := by rw [← decide_not]; congr 1; simp
   rw [e1, e2, e3, e4]
   by_cases k1 : x < 1 <;> by_cases k2 : 6 < x <;> by_cases k3 : a < 0 <;> by_cases k4 : x ≤ a <;> by_cases k5 : b < 0 <;> by_cases k6 : x ≤ b <;> simp [k1, k2, k3, k4, k5, k6, BR])
  (fun n => by rw [Ca, AA (by omega)]) N 0 (by omega) (by omega)
 simpa using this
theorem WF (N : Nat) (p : Aa) (hN : N ≤ 1000000) (h6 : 7 ≤ N) (h1 : p.fc.length < N) (hv : ∀ v, v ∈ p.fb → 1 ≤ v ∧ v ≤ 6) (j : Option Int) :
  Bb N p (fun _ => j) N 0 = BR (C3 (KX p) 0 p.fc) j := by
 have := Di (Bb N p (fun _ => j)) p.fc j (KX p)
  (fun n i x hx => by
   have hi := (lI.1 hx).1
   rw [Bb, AD (by omega), AU, hx]
   simp only [oS]
   rw [U5 N p x hN h6 hv, AE (by omega)]
   simp only [oS]
   unfold KX
   by_cases k : DW p x = 0
   ·simp [k, BR]
   ·rw [bne_iff_ne.2 k, if_neg k]; rfl)
  (fun n => by rw [Bb, AA (by omega)]) N 0 (by omega) (by omega)
 simpa using this
theorem TH (N : Nat) (p : Aa) (hN : N ≤ 1000000) (h6 : 7 ≤ N) (h1 : p.fc.length < N) (hv : ∀ v, v ∈ p.fb → 1 ≤ v ∧ v ≤ 6) (j : Option Int) :
  BS N p (fun _ => j) N 0 = BR (C3 (KX p) 0 p.fc) j := by
 have := Di (BS N p (fun _ => j)) p.fc j (KX p)
  (fun n i x hx => by
   have hi := (lI.1 hx).1
   rw [BS, AD (by omega), AU, hx]
   simp only [oS]
   rw [Pg N p x hN h6 hv, AE (by omega)]
   simp only [oS]
   unfold KX
   by_cases k : DW p x = 0
   ·simp [k, BR]
   ·rw [bne_iff_ne.2 k, if_neg k]; rfl)
  (fun n => by rw [BS, AA (by omega)]) N 0 (by omega) (by omega)
 simpa using this
theorem J7 (N : Nat) (p : Aa) (hN : N ≤ 1000000) (h : 20 ≤ N) : Bn N p = some (By p) := by
 unfold Bn By
 simp only [Bf]
 by_cases k1 : 6 < p.fb.length
 ·rw [AD (by omega)]; simp [k1]
 rw [AA (by omega)]
 by_cases k2 : 12 < p.fc.length
 ·rw [decide_eq_true (by omega : (12 : Int) < (p.fc.length : Int))]; simp [k2]
 rw [decide_eq_false (by omega : ¬ (12 : Int) < (p.fc.length : Int)), Am, if_neg (by omega)]
 by_cases k3 : p.fh.length = p.fb.length
 ·by_cases k4 : p.fi.length = p.fb.length
  ·rw [k3, k4]
   simp only [bne_self_eq_false, Am, ne_eq, not_true_eq_false, or_self, if_false]
   rw [Tf N p hN (by omega) k3 k4]
   cases hs : C3 (FO p) 0 p.fb with
   | some r => rfl
   | none =>
    simp only [BR]
    rw [WF N p hN (by omega) (by omega) (Om hs)]
    cases C3 (KX p) 0 p.fc <;> rfl
  ·have : ((p.fi.length : Int) != (p.fb.length : Int)) = true := bne_iff_ne.2 (by omega)
   rw [this, k3]; simp [k4]
 ·have : ((p.fh.length : Int) != (p.fb.length : Int)) = true := bne_iff_ne.2 (by omega)
  rw [this]; simp [k3]
theorem Kl (N : Nat) (p : Aa) (hN : N ≤ 1000000) (h : 20 ≤ N) : CH N p = some (By p) := by
 unfold CH By
 simp only [Bf]
 by_cases k1 : 6 < p.fb.length
 ·rw [AD (by omega)]; simp [k1]
 rw [AA (by omega)]
 by_cases k2 : 12 < p.fc.length
 ·rw [decide_eq_true (by omega : (12 : Int) < (p.fc.length : Int))]; simp [k2]
 rw [decide_eq_false (by omega : ¬ (12 : Int) < (p.fc.length : Int)), Am, if_neg (by omega)]
 by_cases k3 : p.fh.length = p.fb.length
 ·by_cases k4 : p.fi.length = p.fb.length
  ·rw [k3, k4]
   simp only [bne_self_eq_false, Am, ne_eq, not_true_eq_false, or_self, if_false]
   rw [QP N p hN (by omega) k3 k4]
   cases hs : C3 (FO p) 0 p.fb with
   | some r => rfl
   | none =>
    simp only [BR]
    rw [TH N p hN (by omega) (by omega) (Om hs)]
    cases C3 (KX p) 0 p.fc <;> rfl
  ·have : ((p.fi.length : Int) != (p.fb.length : Int)) = true := bne_iff_ne.2 (by omega)
   rw [this, k3]; simp [k4]
 ·have : ((p.fh.length : Int) != (p.fb.length : Int)) = true := bne_iff_ne.2 (by omega)
  rw [this]; simp [k3]
theorem IW {n : Int} (h : JT n) : 0 ≤ n ∧ n ≤ 255 := by
 unfold JT at h
 simpa [Lit.wf, IntKind.min, IntKind.max, IntKind.signed, IntKind.bits] using h
theorem PB : ∀ k : Fin 256, DC .u8 0 (k.val : Int) = 0 := by decide +kernel
theorem PF : ∀ k : Fin 256, DC .u8 (k.val : Int) 0 = (k.val : Int) := by decide +kernel
theorem VH {n : Int} (h : JT n) : DC .u8 0 n = 0 := by
 have := IW h
 obtain ⟨k, rfl⟩ := zA7 this.1
 exact PB ⟨k, by omega⟩
theorem Wp {n : Int} (h : JT n) : DC .u8 n 0 = n := by
 have := IW h
 obtain ⟨k, rfl⟩ := zA7 this.1
 exact PF ⟨k, by omega⟩
theorem El {α R : Type} {f : Nat → α → Option R} : ∀ {i : Nat} {xs : List α} {r : R}, C3 f i xs = some r → ∃ j x, xs[j]? = some x ∧ f (i + j) x = some r
 | _, [], _, h => by cases h
 | i, y :: ys, r, h => by
  rw [Gm] at h
  split at h
  ·rename_i r' h0
   cases h
   exact ⟨0, y, rfl, h0⟩
  ·obtain ⟨j, x, h1, h2⟩ := El h
   exact ⟨j + 1, x, by simpa using h1, by rwa [show i + (j + 1) = i + 1 + j from by omega]⟩
structure A2 (p : Aa) : Prop where
 nv : p.fb.length ≤ 6
 nt : p.fc.length ≤ 12
 now : p.fh.length = p.fb.length
 tgt : p.fi.length = p.fb.length
 ver : ∀ v, v ∈ p.fb → 1 ≤ v ∧ v ≤ 6
 tab : ∀ t, t ∈ p.fc → DW p t = 0
theorem TV (l : List (List Bool)) : (IY l).getD 0 = 0 ∨ (IY l).getD 0 = 1 := by
 cases h : IY l with
 | none => exact .inl rfl
 | some r =>
  obtain ⟨j, x, _, h⟩ := El h
  split at h
  ·cases h
  ·cases h; exact .inr rfl
theorem QD (p : Aa) (t : An) : DW p t = 0 ∨ DW p t = 1 ∨ DW p t = 4 ∨ DW p t = 6 := by
 unfold DW
 split
 ·exact .inr (.inl rfl)
 split
 ·exact .inr (.inr (.inl rfl))
 simp only
 split
 ·exact .inr (.inr (.inr rfl))
 split
 ·split
  ·exact .inr (.inr (.inr rfl))
  ·rcases TV t.fo with h | h
   ·exact .inl h
   ·exact .inr (.inl h)
 ·split
  ·exact .inl rfl
  ·exact .inr (.inr (.inr rfl))
theorem IG (p : Aa) : (By p = 0 ∧ A2 p) ∨ (By p = 1 ∨ By p = 3 ∨ By p = 4 ∨ By p = 6 ∨ By p = 7) := by
 unfold By
 split
 ·simp
 rename_i k1
 split
 ·simp
 rename_i k2
 cases hs : C3 (FO p) 0 p.fb with
 | some r =>
  obtain ⟨j, x, _, h⟩ := El hs
  unfold FO at h
  split at h
  ·cases h; simp [BR]
  ·cases h
 | none =>
  cases ht : C3 (KX p) 0 p.fc with
  | some r =>
   obtain ⟨j, t, _, h⟩ := El ht
   unfold KX at h
   split at h
   ·cases h
   ·rename_i hne
    cases h
    simp only [BR, zC9]
    right
    rcases QD p t with h | h | h | h
    ·exact (hne h).elim
    ·exact .inl h
    ·exact .inr (.inr (.inl h))
    ·exact .inr (.inr (.inr (.inl h)))
  | none =>
   left
   refine ⟨rfl, by omega, by omega, by omega, by omega, Om hs, fun t hm => ?_⟩
   obtain ⟨j, hj⟩ := zA8.1 hm
   have := Ff ht j t hj
   unfold KX at this
   split at this
   ·assumption
   ·cases this
def Hc (m : Ab) (s : Nat) : Int :=
 if 0 ≤ m.fa.getD s 0 then Pw .u8 (Ee .u8 1 (m.fd.getD s 0)) (Ee .u8 1 (m.fa.getD s 0)) else Ee .u8 1 (m.fd.getD s 0)
def Ma (m : Ab) (i : Nat) (v : Int) : Option Int :=
 if m.fd.getD i 0 < 0 ∨ v ≤ m.fd.getD i 0 ∨ m.fa.getD i 0 < -1 ∨ v ≤ m.fa.getD i 0 then some 7
 else if m.fd.getD i 0 = m.fa.getD i 0 then some 1 else none
def B5 (t : An) : Bool := t.ff == 3 || t.ff == 4
def X7 (p : Aa) (t : An) : Int := wI .u8 (Ee .u8 1 (p.fb.getD t.fg.toNat 0) - 1)
def Jp (p : Aa) (m : Ab) (i : Nat) (t : An) : Option Int :=
 if B5 t = true then (if DC .u8 (Hc m t.fg.toNat) (m.fe.getD i 0) ≠ 0 ∨ DC .u8 (m.fe.getD i 0) (X7 p t) ≠ 0 then some 1 else none)
 else if m.fe.getD i 0 ≠ 0 then some 1 else none
def Do (p : Aa) (m : Ab) : Int :=
 if By p ≠ 0 then By p
 else if m.fd.length ≠ p.fb.length ∨ m.fa.length ≠ p.fb.length ∨ m.fe.length ≠ p.fc.length then 6
 else (BR (C3 (Ma m) 0 p.fb) (C3 (Jp p m) 0 p.fc)).getD 0
theorem I2 {p : Aa} {t : An} (h : DW p t = 0) : 0 ≤ t.fg ∧ t.fg < (p.fb.length : Int) ∧ 0 ≤ t.fm ∧ t.fm < (p.fb.length : Int) := by
 unfold DW at h
 split at h
 ·cases h
 ·split at h
  ·cases h
  ·omega
theorem L3 (N : Nat) (m : Ab) (s : Int) (h0 : 0 ≤ s) (h1 : s < (m.fd.length : Int)) (h2 : s < (m.fa.length : Int)) (hb : 0 ≤ m.fd.getD s.toNat 0) : Fh N m s = some (Hc m s.toNat) := by
 unfold Fh Hc
 rw [E5 (d := 0) h0 h1, E5 (d := 0) h0 h2]
 simp only [oS, Bf]
 rw [show DT (0 ≤ m.fd.getD s.toNat 0) = some () from by unfold DT; rw [if_pos hb]]
 simp only [oS]
 by_cases h : 0 ≤ m.fa.getD s.toNat 0
 ·rw [AD h, if_pos h, show DT (0 ≤ m.fa.getD s.toNat 0) = some () from by unfold DT; rw [if_pos h]]; rfl
 ·rw [AA h, if_neg h]
theorem Ke (N : Nat) (m : Ab) (s : Int) (h0 : 0 ≤ s) (h1 : s < (m.fd.length : Int)) (h2 : s < (m.fa.length : Int)) (hb : 0 ≤ m.fd.getD s.toNat 0) : B4 N m s = some (Hc m s.toNat) := by
 unfold B4 Hc
 rw [E5 (d := 0) h0 h1, E5 (d := 0) h0 h2]
 simp only [oS, Bf]
 rw [show DT (0 ≤ m.fd.getD s.toNat 0) = some () from by unfold DT; rw [if_pos hb]]
 simp only [oS]
 by_cases h : 0 ≤ m.fa.getD s.toNat 0
 ·rw [AD h, if_pos h, show DT (0 ≤ m.fa.getD s.toNat 0) = some () from by unfold DT; rw [if_pos h]]; rfl
 ·rw [AA h, if_neg h]
theorem Rj (N : Nat) (p : Aa) (m : Ab) (hN : N ≤ 1000000) (h1 : p.fb.length < N) (h2 : m.fd.length = p.fb.length) (h3 : m.fa.length = p.fb.length) (j : Option Int) :
  Et N p m (fun _ => j) N 0 = BR (C3 (Ma m) 0 p.fb) j := by
 have := Di (Et N p m (fun _ => j)) p.fb j (Ma m)
  (fun n i x hx => by
   have hi := (lI.1 hx).1
   rw [Et, AD (by omega), AU, hx]
   simp only [oS, Bf]
   rw [Db (d := 0) (by omega), Db (d := 0) (by omega), AE (by omega)]
   simp only [oS]
   unfold Ma
   generalize m.fd.getD i 0 = a
   generalize m.fa.getD i 0 = b
   by_cases k7 : a = b
   ·subst k7
    by_cases k3 : a < 0 <;> by_cases k4 : x ≤ a <;> by_cases k5 : a < -1 <;> simp [k3, k4, k5, BR]
   ·have k8 : (a == b) = false := beq_eq_false_iff_ne.2 k7
    by_cases k3 : a < 0 <;> by_cases k4 : x ≤ a <;> by_cases k5 : b < -1 <;> by_cases k6 : x ≤ b <;> simp [k3, k4, k5, k6, k7, k8, BR])
  (fun n => by rw [Et, AA (by omega)]) N 0 (by omega) (by omega)
 simpa using this
theorem QW (N : Nat) (p : Aa) (m : Ab) (hN : N ≤ 1000000) (h1 : p.fb.length < N) (h2 : m.fd.length = p.fb.length) (h3 : m.fa.length = p.fb.length) (j : Option Int) :
  Cj N p m (fun _ => j) N 0 = BR (C3 (Ma m) 0 p.fb) j := by
 have := Di (Cj N p m (fun _ => j)) p.fb j (Ma m)
  (fun n i x hx => by
   have hi := (lI.1 hx).1
   rw [Cj, AD (by omega), show Bx p.fb (i : Int) = some x from by rw [AU, hx]]
   simp only [oS, Bf]
   rw [Db (d := 0) (by omega), Db (d := 0) (by omega), AE (by omega)]
   simp only [oS]
   unfold Ma
   generalize m.fd.getD i 0 = a
   generalize m.fa.getD i 0 = b
   by_cases k7 : a = b
   ·subst k7
    by_cases k3 : a < 0 <;> by_cases k4 : x ≤ a <;> by_cases k5 : a < -1 <;> simp [k3, k4, k5, BR]
   ·have k8 : (a == b) = false := beq_eq_false_iff_ne.2 k7
    by_cases k3 : a < 0 <;> by_cases k4 : x ≤ a <;> by_cases k5 : b < -1 <;> by_cases k6 : x ≤ b <;> simp [k3, k4, k5, k6, k7, k8, BR])
  (fun n => by rw [Cj, AA (by omega)]) N 0 (by omega) (by omega)
 simpa using this
structure MixServ (p : Aa) (m : Ab) : Prop where
 base : m.fd.length = p.fb.length
 next : m.fa.length = p.fb.length
 held : m.fe.length = p.fc.length
 b0 : ∀ i, i < p.fb.length → 0 ≤ m.fd.getD i 0 ∧ m.fd.getD i 0 < p.fb.getD i 0
 n0 : ∀ i, i < p.fb.length → -1 ≤ m.fa.getD i 0 ∧ m.fa.getD i 0 < p.fb.getD i 0
 ne : ∀ i, i < p.fb.length → m.fd.getD i 0 ≠ m.fa.getD i 0
theorem Q2 {p : Aa} {m : Ab} (h2 : m.fd.length = p.fb.length) (h3 : m.fa.length = p.fb.length) (h4 : m.fe.length = p.fc.length) (h : C3 (Ma m) 0 p.fb = none) : MixServ p m := by
 have key : ∀ i, i < p.fb.length → ¬ (m.fd.getD i 0 < 0 ∨ p.fb.getD i 0 ≤ m.fd.getD i 0 ∨ m.fa.getD i 0 < -1 ∨ p.fb.getD i 0 ≤ m.fa.getD i 0) ∧ ¬ m.fd.getD i 0 = m.fa.getD i 0 := by
  intro i hi
  have hx : p.fb[i]? = some (p.fb.getD i 0) := by rw [lD]; simp [hi]
  have := Ff h i _ hx
  rw [zA1] at this
  unfold Ma at this
  split at this
  ·cases this
  ·split at this
   ·cases this
   ·rename_i k1 k2; exact ⟨k1, k2⟩
 exact ⟨h2, h3, h4, fun i hi => by have := (key i hi).1; omega, fun i hi => by have := (key i hi).1; omega, fun i hi => (key i hi).2⟩
theorem SE {m : Ab} (hw : LL JT m.fe) {i : Nat} (h : i < m.fe.length) : JT (m.fe.getD i 0) := by
 refine hw _ ?_
 rw [lD, zB6 h]
 exact zE9 _
theorem JG (N : Nat) (t : An) : FL N t = some (B5 t) := by
 unfold FL B5
 simp only [Bf]
 cases h : t.ff == 3 <;> simp
theorem G6 (N : Nat) (t : An) : A5 N t = some (B5 t) := Na N t
theorem Tr (N : Nat) (p : Aa) (m : Ab) (hN : N ≤ 1000000) (h1 : p.fc.length < N) (hp : A2 p) (hm : MixServ p m) (hw : LL JT m.fe) (j : Option Int) :
  D1 N p m (fun _ => j) N 0 = BR (C3 (Jp p m) 0 p.fc) j := by
 have := Di (D1 N p m (fun _ => j)) p.fc j (Jp p m)
  (fun n i x hx => by
   have hi := (lI.1 hx).1
   have hin := I2 (hp.tab x (lM hx))
   have hheld := SE hw (show i < m.fe.length from by rw [hm.held]; exact hi)
   have hv := Km hp.ver hin.1 hin.2.1
   rw [D1, AD (by omega), AU, hx]
   simp only [oS, Bf, JG]
   rw [L3 N m x.fg hin.1 (by rw [hm.base]; exact hin.2.1) (by rw [hm.next]; exact hin.2.1) (hm.b0 _ (by omega)).1, E5 (d := 0) hin.1 hin.2.1, Db (d := 0) (show i < m.fe.length from by rw [hm.held]; exact hi), AE (by omega)]
   simp only [oS]
   rw [show DT (0 ≤ p.fb.getD x.fg.toNat 0) = some () from by unfold DT; rw [if_pos (by omega)]]
   simp only [oS]
   unfold Jp X7
   rw [VH hheld, Wp hheld]
   generalize DC .u8 (Hc m x.fg.toNat) (m.fe.getD i 0) = A
   generalize DC .u8 (m.fe.getD i 0) (wI .u8 (Ee .u8 1 (p.fb.getD x.fg.toNat 0) - 1)) = B
   generalize m.fe.getD i 0 = H
   cases B5 x
   ·simp only [Am, bne_self_eq_false]
    by_cases k : H = 0
    ·simp [k, BR]
    ·have : (H != 0) = true := bne_iff_ne.2 k
     simp [k, this, BR]
   ·simp only [AI]
    by_cases k : A = 0
    ·by_cases k2 : B = 0
     ·simp [k, k2, BR]
     ·have : (B != 0) = true := bne_iff_ne.2 k2
      simp [k, k2, this, BR]
    ·have : (A != 0) = true := bne_iff_ne.2 k
     simp [k, this, BR])
  (fun n => by rw [D1, AA (by omega)]) N 0 (by omega) (by omega)
 simpa using this
theorem TR (N : Nat) (p : Aa) (m : Ab) (hN : N ≤ 1000000) (h1 : p.fc.length < N) (hp : A2 p) (hm : MixServ p m) (j : Option Int) :
  B9 N p m (fun _ => j) N 0 = BR (C3 (Jp p m) 0 p.fc) j := by
 have := Di (B9 N p m (fun _ => j)) p.fc j (Jp p m)
  (fun n i x hx => by
   have hi := (lI.1 hx).1
   have hin := I2 (hp.tab x (lM hx))
   have hv := Km hp.ver hin.1 hin.2.1
   rw [B9, AD (by omega), AU, hx]
   simp only [oS, Bf, G6]
   rw [Ke N m x.fg hin.1 (by rw [hm.base]; exact hin.2.1) (by rw [hm.next]; exact hin.2.1) (hm.b0 _ (by omega)).1, E5 (d := 0) hin.1 hin.2.1, Db (d := 0) (show i < m.fe.length from by rw [hm.held]; exact hi), AE (by omega)]
   simp only [oS]
   rw [show DT (0 ≤ p.fb.getD x.fg.toNat 0) = some () from by unfold DT; rw [if_pos (by omega)]]
   simp only [oS]
   unfold Jp X7
   generalize DC .u8 (Hc m x.fg.toNat) (m.fe.getD i 0) = A
   generalize DC .u8 (m.fe.getD i 0) (wI .u8 (Ee .u8 1 (p.fb.getD x.fg.toNat 0) - 1)) = B
   generalize m.fe.getD i 0 = H
   cases B5 x
   ·simp only [zE0, AI, Am]
    by_cases k : H = 0
    ·simp [k, BR]
    ·have : (H != 0) = true := bne_iff_ne.2 k
     simp [k, this, BR]
   ·simp only [zB7, Am, AI]
    by_cases k : A = 0
    ·by_cases k2 : B = 0
     ·simp [k, k2, BR]
     ·have : (B != 0) = true := bne_iff_ne.2 k2
      simp [k, k2, this, BR]
    ·have : (A != 0) = true := bne_iff_ne.2 k
     by_cases k2 : B = 0
     ·simp [k, k2, this, BR]
     ·have h5 : (B != 0) = true := bne_iff_ne.2 k2
      simp [k, h5, BR])
  (fun n => by rw [B9, AA (by omega)]) N 0 (by omega) (by omega)
 simpa using this
theorem HE (N : Nat) (p : Aa) (m : Ab) (hN : N ≤ 1000000) (h : 20 ≤ N) (hw : LL JT m.fe) : E6 N p m = some (Do p m) := by
 unfold E6 Do
 rw [Kl N p hN h]
 simp only [oS, Bf]
 by_cases k0 : By p = 0
 ·have hp : A2 p := by
   rcases IG p with h | h
   ·exact h.2
   ·omega
  have hnv := hp.nv
  have hnt := hp.nt
  rw [k0]
  simp only [bne_self_eq_false, Am, ne_eq, not_true_eq_false, if_false]
  by_cases k1 : m.fd.length = p.fb.length
  ·by_cases k2 : m.fa.length = p.fb.length
   ·by_cases k3 : m.fe.length = p.fc.length
    ·rw [k1, k2, k3]
     simp only [bne_self_eq_false, Am, not_true_eq_false, or_self, if_false]
     rw [Rj N p m hN (by omega) k1 k2]
     cases hs : C3 (Ma m) 0 p.fb with
     | some r => rfl
     | none =>
      simp only [BR]
      rw [Tr N p m hN (by omega) hp (Q2 k1 k2 k3 hs) hw]
      cases C3 (Jp p m) 0 p.fc <;> rfl
    ·have : ((m.fe.length : Int) != (p.fc.length : Int)) = true := bne_iff_ne.2 (by omega)
     rw [this, k1, k2]; simp [k3]
   ·have : ((m.fa.length : Int) != (p.fb.length : Int)) = true := bne_iff_ne.2 (by omega)
    rw [this, k1]; simp [k2]
  ·have : ((m.fd.length : Int) != (p.fb.length : Int)) = true := bne_iff_ne.2 (by omega)
   rw [this]; simp [k1]
 ·rw [bne_iff_ne.2 k0]; simp [k0]
theorem MW (N : Nat) (p : Aa) (m : Ab) (hN : N ≤ 1000000) (h : 20 ≤ N) : D7 N p m = some (Do p m) := by
 unfold D7 Do
 rw [J7 N p hN h]
 simp only [oS, Bf]
 by_cases k0 : By p = 0
 ·have hp : A2 p := by
   rcases IG p with h | h
   ·exact h.2
   ·omega
  have hnv := hp.nv
  have hnt := hp.nt
  rw [k0]
  simp only [bne_self_eq_false, Am, ne_eq, not_true_eq_false, if_false]
  by_cases k1 : m.fd.length = p.fb.length
  ·by_cases k2 : m.fa.length = p.fb.length
   ·by_cases k3 : m.fe.length = p.fc.length
    ·rw [k1, k2, k3]
     simp only [bne_self_eq_false, Am, not_true_eq_false, or_self, if_false]
     rw [QW N p m hN (by omega) k1 k2]
     cases hs : C3 (Ma m) 0 p.fb with
     | some r => rfl
     | none =>
      simp only [BR]
      rw [TR N p m hN (by omega) hp (Q2 k1 k2 k3 hs)]
      cases C3 (Jp p m) 0 p.fc <;> rfl
    ·have : ((m.fe.length : Int) != (p.fc.length : Int)) = true := bne_iff_ne.2 (by omega)
     rw [this, k1, k2]; simp [k3]
   ·have : ((m.fa.length : Int) != (p.fb.length : Int)) = true := bne_iff_ne.2 (by omega)
    rw [this, k1]; simp [k2]
  ·have : ((m.fd.length : Int) != (p.fb.length : Int)) = true := bne_iff_ne.2 (by omega)
   rw [this]; simp [k1]
 ·rw [bne_iff_ne.2 k0]; simp [k0]
@[simp] theorem Bc {α β : Type} (k : α) (f : α → β) : Bf k f = f k := rfl
@[simp] theorem VM {p : Prop} [Decidable p] (h : p) : DT p = some () := by unfold DT; rw [if_pos h]
theorem Aq {β : Type} {p : Prop} [Decidable p] (h : p) (f : Unit → Option β) : (DT p).bind f = f () := by rw [VM h]; rfl
def Cy {α β : Type} (g : Nat → α → List β) : Nat → List α → List β
 | _, [] => []
 | i, x :: xs => g i x ++ Cy g (i + 1) xs
def Hr {α A : Type} (f : Nat → α → A → A) : Nat → List α → A → A
 | _, [], a => a
 | i, x :: xs, a => Hr f (i + 1) xs (f i x a)
theorem Mp {α β : Type} (g : Nat → α → List β) : ∀ (i : Nat) (xs ys : List α), Cy g i (xs ++ ys) = Cy g i xs ++ Cy g (i + xs.length) ys
 | i, [], ys => by simp [Cy]
 | i, x :: xs, ys => by
  rw [zI2, Cy, Cy, Mp g (i + 1) xs ys, zD2, zC6, zF3, Nat.add_comm 1]
theorem D4 {α β : Type} {g : Nat → α → List β} {y : β} : ∀ {i : Nat} {xs : List α}, y ∈ Cy g i xs ↔ ∃ j x, xs[j]? = some x ∧ y ∈ g (i + j) x
 | _, [] => by simp [Cy]
 | i, x :: xs => by
  rw [Cy, zC5, D4]
  constructor
  ·rintro (h | ⟨j, z, hz, h⟩)
   ·exact ⟨0, x, rfl, h⟩
   ·exact ⟨j + 1, z, by simpa using hz, by rwa [show i + (j + 1) = i + 1 + j from by omega]⟩
  ·rintro ⟨j, z, hz, h⟩
   cases j with
   | zero => simp at hz; subst hz; exact .inl h
   | succ j => exact .inr ⟨j, z, by simpa using hz, by rwa [show i + 1 + j = i + (j + 1) from by omega]⟩
theorem JN {α β : Type} {g : Nat → α → List β} {i : Nat} {xs : List α} : Cy g i xs = [] ↔ ∀ j x, xs[j]? = some x → g (i + j) x = [] := by
 rw [zL1]
 constructor
 ·intro h j x hx
  rw [zL1]
  exact fun y hy => h y (D4.2 ⟨j, x, hx, hy⟩)
 ·intro h y hy
  obtain ⟨j, x, hx, hm⟩ := D4.1 hy
  rw [h j x hx] at hm; cases hm
theorem Ft {α β : Type} {g : Nat → α → List β} {c : Nat} : ∀ {i : Nat} {xs : List α}, (∀ j x, xs[j]? = some x → (g (i + j) x).length ≤ c) → (Cy g i xs).length ≤ c * xs.length
 | _, [], _ => by simp [Cy]
 | i, x :: xs, h => by
  have h1 := h 0 x rfl
  have h2 := Ft (g := g) (c := c) (i := i + 1) (xs := xs) fun j y hy => by
   have := h (j + 1) y (by simpa using hy)
   rwa [show i + (j + 1) = i + 1 + j from by omega] at this
  rw [Cy, zD4, zC6, Nat.mul_add]
  simp only [zF9] at h1
  omega
theorem IS {α A S R : Type} (L : Nat → S → Option R) (mk : A → Int → S) (xs : List α) (j : A → Option R) (f : Nat → α → A → A) (I : Nat → A → Prop)
  (hs : ∀ (n i : Nat) (x : α) (a : A), xs[i]? = some x → I i a → L (n + 1) (mk a (i : Int)) = L n (mk (f i x a) ((i + 1 : Nat) : Int)) ∧ I (i + 1) (f i x a))
  (he : ∀ (n : Nat) (a : A), I xs.length a → L (n + 1) (mk a (xs.length : Int)) = j a) :
  ∀ (n i : Nat) (a : A), i ≤ xs.length → xs.length - i < n → I i a → L n (mk a (i : Int)) = j (Hr f i (xs.drop i) a) ∧ I xs.length (Hr f i (xs.drop i) a)
 | 0, i, _, _, h, _ => by omega
 | n + 1, i, a, hi, h, ha => by
  by_cases h1 : i < xs.length
  ·have hx : xs[i]? = some xs[i] := by simp [h1]
   obtain ⟨e1, e2⟩ := hs n i _ a hx ha
   rw [e1, Dg hx, Hr]
   exact IS L mk xs j f I hs he n (i + 1) _ (by omega) (by omega) e2
  ·have : i = xs.length := by omega
   subst this
   rw [zB3 (zB4 _), Hr]
   exact ⟨he n a ha, ha⟩
theorem Ou {α β : Type} (g : Nat → α → List β) : ∀ (i : Nat) (xs : List α) (acc : List β), Hr (fun i x a => a ++ g i x) i xs acc = acc ++ Cy g i xs
 | _, [], acc => by simp [Hr, Cy]
 | i, x :: xs, acc => by rw [Hr, Ou g (i + 1) xs, Cy, zD2]
theorem Fr {α β S R : Type} (L : Nat → S → Option R) (mk : List β → Int → S) (xs : List α) (j : List β → Option R) (g : Nat → α → List β) (c B : Nat)
  (hg : ∀ i x, xs[i]? = some x → (g i x).length ≤ c)
  (hs : ∀ (n i : Nat) (x : α) (a : List β), xs[i]? = some x → a.length + (g i x).length ≤ B → L (n + 1) (mk a (i : Int)) = L n (mk (a ++ g i x) ((i + 1 : Nat) : Int)))
  (he : ∀ (n : Nat) (a : List β), L (n + 1) (mk a (xs.length : Int)) = j a) (n : Nat) (a : List β) (hn : xs.length < n) (ha : a.length + c * xs.length ≤ B) :
  L n (mk a 0) = j (a ++ Cy g 0 xs) := by
 have := IS L mk xs j (fun i x a => a ++ g i x) (fun i b => i ≤ xs.length ∧ b.length ≤ a.length + c * i)
  (fun n i x b hx hb => by
   have h1 := hg i x hx
   have hi := (lI.1 hx).1
   have h2 : c * (i + 1) ≤ c * xs.length := Nat.mul_le_mul_left c hi
   have h3 : c * (i + 1) = c * i + c := Nat.mul_succ c i
   refine ⟨hs n i x b hx (by have := hb.2; omega), hi, ?_⟩
   rw [zD4]
   have := hb.2
   omega)
  (fun n b _ => he n b) n 0 a (zB2 _) (by omega) ⟨zB2 _, by omega⟩
 have h2 := this.1
 rw [zC0, Ou] at h2
 exact h2
def DZ (s : Int) (v : Nat) : Bool := s.toNat.testBit v
def IK (m : Ab) (s v : Nat) : Bool := decide (m.fd.getD s 0 = (v : Int)) || decide (m.fa.getD s 0 = (v : Int))
theorem XK : ∀ (s : Fin 256) (v : Fin 8), GP .u8 (FI .u8 (s.val : Int) (v.val : Int)) 1 = if DZ (s.val : Int) v.val then 1 else 0 := by decide +kernel
theorem Rt {s : Int} {v : Nat} (h0 : 0 ≤ s) (h1 : s ≤ 255) (hv : v < 8) : GP .u8 (FI .u8 s (v : Int)) 1 = if DZ s v then 1 else 0 := by
 obtain ⟨k, rfl⟩ := zA7 h0
 exact XK ⟨k, by omega⟩ ⟨v, hv⟩
theorem RK {s : Int} {v : Nat} (h0 : 0 ≤ s) (h1 : s ≤ 255) (hv : v < 8) : (GP .u8 (FI .u8 s (v : Int)) 1 == 0) = !DZ s v := by
 rw [Rt h0 h1 hv]; cases DZ s v <;> rfl
theorem Sp {s : Int} {v : Nat} (h0 : 0 ≤ s) (h1 : s ≤ 255) (hv : v < 8) : (GP .u8 (FI .u8 s (v : Int)) 1 == 1) = DZ s v := by
 rw [Rt h0 h1 hv]; cases DZ s v <;> rfl
theorem Kp {s : Int} {v : Nat} (h1 : s ≤ 255) (hv : 8 ≤ v) : DZ s v = false := by
 unfold DZ
 apply Nat.testBit_lt_two_pow
 have : (2 : Nat) ^ 8 ≤ 2 ^ v := Nat.pow_le_pow_right (by omega) hv
 omega
theorem Kf : ∀ (b : Fin 8) (v : Fin 8), DZ (Ee .u8 1 (b.val : Int)) v.val = decide (b.val = v.val) ∧ 0 ≤ Ee .u8 1 (b.val : Int) ∧ Ee .u8 1 (b.val : Int) ≤ 255 := by decide +kernel
theorem X1 : ∀ (b n : Fin 8) (v : Fin 8), DZ (Pw .u8 (Ee .u8 1 (b.val : Int)) (Ee .u8 1 (n.val : Int))) v.val = (decide (b.val = v.val) || decide (n.val = v.val))
  ∧ 0 ≤ Pw .u8 (Ee .u8 1 (b.val : Int)) (Ee .u8 1 (n.val : Int)) ∧ Pw .u8 (Ee .u8 1 (b.val : Int)) (Ee .u8 1 (n.val : Int)) ≤ 255 := by decide +kernel
theorem Wa {m : Ab} {s : Nat} (hb0 : 0 ≤ m.fd.getD s 0) (hb1 : m.fd.getD s 0 < 8) (hn1 : m.fa.getD s 0 < 8) :
  (∀ v, DZ (Hc m s) v = IK m s v) ∧ 0 ≤ Hc m s ∧ Hc m s ≤ 255 := by
 unfold Hc IK
 obtain ⟨b, hb⟩ := zA7 hb0
 rw [hb] at hb1 ⊢
 by_cases h : 0 ≤ m.fa.getD s 0
 ·obtain ⟨n, hn⟩ := zA7 h
  rw [hn] at hn1 ⊢
  rw [if_pos (by omega)]
  have h1 := X1 ⟨b, by omega⟩ ⟨n, by omega⟩
  refine ⟨fun v => ?_, (h1 0).2⟩
  by_cases hv : v < 8
  ·rw [(h1 ⟨v, hv⟩).1]
   simp only [zL4]
  ·rw [Kp (h1 0).2.2 (by omega)]
   simp; omega
 ·rw [if_neg h]
  have h1 := Kf ⟨b, by omega⟩
  refine ⟨fun v => ?_, (h1 0).2⟩
  have h3 : decide (m.fa.getD s 0 = (v : Int)) = false := decide_eq_false (by omega)
  rw [h3, Bool.or_false]
  by_cases hv : v < 8
  ·rw [(h1 ⟨v, hv⟩).1]
   simp only [zL4]
  ·rw [Kp (h1 0).2.2 (by omega)]
   simp; omega
theorem Wz {a : Nat} (h : a < 256) : (BitVec.ofInt 8 (a : Int)).toNat = a := by
 simp; omega
theorem O0 {a b : Int} (ha : 0 ≤ a ∧ a ≤ 255) (hb : 0 ≤ b ∧ b ≤ 255) : DC .u8 a b = 0 ↔ ∀ v, DZ a v = true → DZ b v = true := by
 obtain ⟨a, rfl⟩ := zA7 ha.1
 obtain ⟨b, rfl⟩ := zA7 hb.1
 have hA := Wz (a := a) (by omega)
 have hB := Wz (a := b) (by omega)
 unfold DC DZ
 simp only [IntKind.bits, zA9]
 have hx : ∀ x : BitVec 8, wI .u8 (x.toNat : Int) = (x.toNat : Int) := by
  intro x
  have := x.isLt
  simp [wI, IntKind.signed, IntKind.bits]
  omega
 rw [hx]
 constructor
 ·intro h v hv
  have h0 : (BitVec.ofInt 8 (a : Int) &&& ~~~BitVec.ofInt 8 (b : Int)) = (BitVec.ofNat 8 0) := by
   apply BitVec.eq_of_toNat_eq
   simp only [BitVec.toNat_ofNat, Nat.zero_mod]
   exact zL4.1 h
  by_cases hv8 : v < 8
  ·have h1 : (BitVec.ofInt 8 (a : Int) &&& ~~~BitVec.ofInt 8 (b : Int)).getLsbD v = false := by rw [h0]; simp
   rw [BitVec.getLsbD_and, BitVec.getLsbD_not] at h1
   have e1 : (BitVec.ofInt 8 (a : Int)).getLsbD v = a.testBit v := by unfold BitVec.getLsbD; rw [hA]
   have e2 : (BitVec.ofInt 8 (b : Int)).getLsbD v = b.testBit v := by unfold BitVec.getLsbD; rw [hB]
   rw [e1, e2, hv] at h1
   simpa [hv8] using h1
  ·have := Kp (s := (a : Int)) (v := v) (by omega) (by omega)
   unfold DZ at this
   rw [zA9, hv] at this
   cases this
 ·intro h
  have h0 : (BitVec.ofInt 8 (a : Int) &&& ~~~BitVec.ofInt 8 (b : Int)) = (BitVec.ofNat 8 0) := by
   apply BitVec.eq_of_getLsbD_eq
   intro i hi
   rw [BitVec.getLsbD_and, BitVec.getLsbD_not]
   have e1 : (BitVec.ofInt 8 (a : Int)).getLsbD i = a.testBit i := by unfold BitVec.getLsbD; rw [hA]
   have e2 : (BitVec.ofInt 8 (b : Int)).getLsbD i = b.testBit i := by unfold BitVec.getLsbD; rw [hB]
   rw [e1, e2]
   have := h i
   cases h3 : a.testBit i
   ·simp
   ·rw [this h3]; simp
  have h2 : ∀ x : BitVec 8, x = (BitVec.ofNat 8 0) → (x.toNat : Int) = 0 := fun x hx => by rw [hx]; rfl
  exact h2 _ h0
theorem XS : ∀ n : Fin 9, (∀ v : Fin 8, DZ (wI .u8 (Ee .u8 1 (n.val : Int) - 1)) v.val = decide (v.val < n.val)) ∧ 0 ≤ wI .u8 (Ee .u8 1 (n.val : Int) - 1) ∧ wI .u8 (Ee .u8 1 (n.val : Int) - 1) ≤ 255 := by decide +kernel
theorem Xt {n : Int} (h0 : 0 ≤ n) (h1 : n ≤ 8) : (∀ v, DZ (wI .u8 (Ee .u8 1 n - 1)) v = decide ((v : Int) < n)) ∧ 0 ≤ wI .u8 (Ee .u8 1 n - 1) ∧ wI .u8 (Ee .u8 1 n - 1) ≤ 255 := by
 obtain ⟨n, rfl⟩ := zA7 h0
 have h := XS ⟨n, by omega⟩
 refine ⟨fun v => ?_, h.2⟩
 by_cases hv : v < 8
 ·rw [h.1 ⟨v, hv⟩]; simp
 ·rw [Kp h.2.2 (by omega)]
  symm; apply decide_eq_false; omega
structure BI (p : Aa) (m : Ab) : Prop extends MixServ p m where
 range : ∀ i, i < p.fc.length → 0 ≤ m.fe.getD i 0 ∧ m.fe.getD i 0 ≤ 255
 low : ∀ i t, p.fc[i]? = some t → B5 t = true → ∀ v, IK m t.fg.toNat v = true → DZ (m.fe.getD i 0) v = true
 high : ∀ i t, p.fc[i]? = some t → B5 t = true → ∀ v, DZ (m.fe.getD i 0) v = true → (v : Int) < p.fb.getD t.fg.toNat 0
 none : ∀ i t, p.fc[i]? = some t → B5 t = false → m.fe.getD i 0 = 0
theorem H8 {p : Aa} (hp : A2 p) {i : Nat} (hi : i < p.fb.length) : 1 ≤ p.fb.getD i 0 ∧ p.fb.getD i 0 ≤ 6 := by
 have := Km (i := (i : Int)) hp.ver (by omega) (by omega)
 simpa using this
theorem Ih {p : Aa} {m : Ab} (hp : A2 p) (hm : MixServ p m) {s : Nat} (hs : s < p.fb.length) :
  (∀ v, DZ (Hc m s) v = IK m s v) ∧ 0 ≤ Hc m s ∧ Hc m s ≤ 255 := by
 have h1 := hm.b0 s hs
 have h2 := hm.n0 s hs
 have h3 := H8 hp hs
 exact Wa h1.1 (by omega) (by omega)
theorem Sb {p : Aa} {m : Ab} (hp : A2 p) (hm : MixServ p m) {i : Nat} {t : An} (ht : p.fc[i]? = some t) (hr : 0 ≤ m.fe.getD i 0 ∧ m.fe.getD i 0 ≤ 255) :
  Jp p m i t = none ↔ ((B5 t = true → (∀ v, IK m t.fg.toNat v = true → DZ (m.fe.getD i 0) v = true) ∧ (∀ v, DZ (m.fe.getD i 0) v = true → (v : Int) < p.fb.getD t.fg.toNat 0)) ∧ (B5 t = false → m.fe.getD i 0 = 0)) := by
 have hin := I2 (hp.tab t (lM ht))
 have hrun := Ih hp hm (s := t.fg.toNat) (by omega)
 have hver := H8 hp (i := t.fg.toNat) (by omega)
 have hall := Xt (n := p.fb.getD t.fg.toNat 0) (by omega) (by omega)
 unfold Jp X7
 have e1 := O0 hrun.2 hr
 have e2 := O0 hr hall.2
 cases hst : B5 t
 ·simp
 ·simp only [if_true, true_implies, Bool.true_eq_false, false_implies, and_true, ite_eq_right_iff, reduceCtorEq, imp_false, not_or, Decidable.not_not]
  rw [e1, e2]
  simp only [hrun.1, hall.1, decide_eq_true_eq]
theorem Iq {p : Aa} {m : Ab} (hw : LL JT m.fe) (h : Do p m = 0) : A2 p ∧ BI p m := by
 unfold Do at h
 split at h
 ·rename_i k; exact (k h).elim
 ·rename_i k0
  have hp : A2 p := by
   rcases IG p with h | h
   ·exact h.2
   ·omega
  split at h
  ·cases h
  ·rename_i k1
   have b1 : m.fd.length = p.fb.length := Decidable.not_not.1 fun h => k1 (.inl h)
   have b2 : m.fa.length = p.fb.length := Decidable.not_not.1 fun h => k1 (.inr (.inl h))
   have b3 : m.fe.length = p.fc.length := Decidable.not_not.1 fun h => k1 (.inr (.inr h))
   cases hs : C3 (Ma m) 0 p.fb with
   | some r =>
    obtain ⟨j, x, _, he⟩ := El hs
    rw [hs] at h
    unfold Ma at he
    simp only [BR, zC9] at h
    split at he
    ·cases he; cases h
    ·split at he
     ·cases he; cases h
     ·cases he
   | none =>
    have hm := Q2 b1 b2 b3 hs
    rw [hs] at h
    simp only [BR] at h
    cases ht : C3 (Jp p m) 0 p.fc with
    | some r =>
     obtain ⟨j, x, _, he⟩ := El ht
     rw [ht] at h
     simp only [zC9] at h
     subst h
     unfold Jp at he
     split at he
     ·split at he <;> cases he
     ·split at he <;> cases he
    | none =>
     have hr : ∀ i, i < p.fc.length → 0 ≤ m.fe.getD i 0 ∧ m.fe.getD i 0 ≤ 255 := fun i hi => IW (SE hw (by omega))
     have key : ∀ i t, p.fc[i]? = some t → _ := fun i t hi => (Sb hp hm hi (hr i (lI.1 hi).1)).1 (by have := Ff ht i t hi; rwa [zA1] at this)
     exact ⟨hp, hm, hr, fun i t hi hst => ((key i t hi).1 hst).1, fun i t hi hst => ((key i t hi).1 hst).2, fun i t hi hst => (key i t hi).2 hst⟩
theorem E4 {α R : Type} {f : Nat → α → Option R} : ∀ {i : Nat} {xs : List α}, (∀ j x, xs[j]? = some x → f (i + j) x = none) → C3 f i xs = none
 | _, [], _ => rfl
 | i, y :: ys, h => by
  rw [Gm, show f i y = none from h 0 y rfl]
  exact E4 fun j x hx => by
   have := h (j + 1) x (by simpa using hx)
   rwa [show i + (j + 1) = i + 1 + j from by omega] at this
theorem Q1 {p : Aa} (hp : A2 p) (hr : ∀ i, i < p.fb.length → 0 ≤ p.fh.getD i 0 ∧ p.fh.getD i 0 < p.fb.getD i 0 ∧ 0 ≤ p.fi.getD i 0 ∧ p.fi.getD i 0 < p.fb.getD i 0) : By p = 0 := by
 have := hp.nv
 have := hp.nt
 have := hp.now
 have := hp.tgt
 unfold By
 rw [if_neg (by omega), if_neg (by omega)]
 have h1 : C3 (FO p) 0 p.fb = none := E4 fun j x hx => by
  have hj := (lI.1 hx).1
  have h1 := hr j hj
  have h2 := H8 hp hj
  have e : p.fb.getD j 0 = x := by rw [lD, hx]; rfl
  rw [e] at h1 h2
  unfold FO
  rw [zA1, if_neg (by omega)]
 have h2 : C3 (KX p) 0 p.fc = none := E4 fun j x hx => by
  unfold KX
  rw [if_pos (hp.tab x (lM hx))]
 rw [h1, h2]; rfl
theorem Cd {p : Aa} (h : By p = 0) : A2 p ∧ ∀ i, i < p.fb.length → 0 ≤ p.fh.getD i 0 ∧ p.fh.getD i 0 < p.fb.getD i 0 ∧ 0 ≤ p.fi.getD i 0 ∧ p.fi.getD i 0 < p.fb.getD i 0 := by
 have hp : A2 p := by
  rcases IG p with h | h
  ·exact h.2
  ·omega
 refine ⟨hp, fun i hi => ?_⟩
 have h1 := hp.nv
 have h2 := hp.nt
 have h3 := hp.now
 have h4 := hp.tgt
 unfold By at h
 rw [if_neg (by omega), if_neg (by omega)] at h
 cases hs : C3 (FO p) 0 p.fb with
 | some r =>
  obtain ⟨j, x, _, he⟩ := El hs
  rw [hs] at h
  unfold FO at he
  split at he
  ·cases he; cases h
  ·cases he
 | none =>
  have hx : p.fb[i]? = some (p.fb.getD i 0) := by rw [lD]; simp [hi]
  have := Ff hs i _ hx
  rw [zA1] at this
  unfold FO at this
  split at this
  ·cases this
  ·rename_i hn; omega
theorem Ij {p : Aa} {m : Ab} (hv : By p = 0) (hm : BI p m) : Do p m = 0 := by
 obtain ⟨hp, _⟩ := Cd hv
 unfold Do
 rw [hv, if_neg (by simp), if_neg (by have := hm.base; have := hm.next; have := hm.held; omega)]
 have h1 : C3 (Ma m) 0 p.fb = none := E4 fun j x hx => by
  have hj := (lI.1 hx).1
  have e : p.fb.getD j 0 = x := by rw [lD, hx]; rfl
  have h1 := hm.b0 j hj
  have h2 := hm.n0 j hj
  have h3 := hm.ne j hj
  rw [e] at h1 h2
  unfold Ma
  rw [zA1, if_neg (by omega), if_neg h3]
 have h2 : C3 (Jp p m) 0 p.fc = none := E4 fun j x hx => by
  have hj := (lI.1 hx).1
  rw [zA1]
  exact (Sb hp hm.toMixServ hx (hm.range j hj)).2 ⟨fun hst => ⟨hm.low j x hx hst, hm.high j x hx hst⟩, fun hst => hm.none j x hx hst⟩
 rw [h1, h2]; rfl
def Lw {α : Type} (g : Nat → α → Bool) : Nat → List α → Bool
 | _, [] => false
 | i, x :: xs => g i x || Lw g (i + 1) xs
theorem OP {α : Type} {g : Nat → α → Bool} : ∀ {i : Nat} {xs : List α}, Lw g i xs = true ↔ ∃ j x, xs[j]? = some x ∧ g (i + j) x = true
 | _, [] => by simp [Lw]
 | i, x :: xs => by
  rw [Lw, zF6, OP]
  constructor
  ·rintro (h | ⟨j, z, hz, h⟩)
   ·exact ⟨0, x, rfl, h⟩
   ·exact ⟨j + 1, z, by simpa using hz, by rwa [show i + (j + 1) = i + 1 + j from by omega]⟩
  ·rintro ⟨j, z, hz, h⟩
   cases j with
   | zero => simp at hz; subst hz; exact .inl h
   | succ j => exact .inr ⟨j, z, by simpa using hz, by rwa [show i + 1 + j = i + (j + 1) from by omega]⟩
theorem L6 {α β : Type} (g : Nat → α → List β) (h : Nat → α → Bool) : ∀ (i : Nat) (xs : List α) (a : List β) (b : Bool),
  Hr (fun i x (s : List β × Bool) => (s.1 ++ g i x, s.2 || h i x)) i xs (a, b) = (a ++ Cy g i xs, b || Lw h i xs)
 | _, [], a, b => by simp [Hr, Cy, Lw]
 | i, x :: xs, a, b => by rw [Hr, L6 g h, Cy, Lw, zD2, Bool.or_assoc]
def gC (i u : Nat) (m : Ab) (t : An) (v : Nat) (ok : Bool) : List Ad :=
 if IK m t.fm.toNat v && (!ok && !t.ft) then [⟨(i : Int), (u : Int), (v : Int)⟩] else []
def hC (m : Ab) (t : An) (v : Nat) (ok : Bool) : Bool := IK m t.fm.toNat v && ok
def JJ (i : Nat) (m : Ab) (t : An) (u : Nat) (row : List Bool) : List Ad :=
 Cy (gC i u m t) 0 row ++ if t.ft && !Lw (hC m t) 0 row then [⟨(i : Int), (u : Int), -1⟩] else []
def SK (m : Ab) (i : Nat) (t : An) (u : Nat) : Bool := if B5 t then DZ (m.fe.getD i 0) u else IK m t.fg.toNat u
def Js (m : Ab) (i : Nat) (t : An) : List Ad := Cy (fun u row => if SK m i t u then JJ i m t u row else []) 0 t.fk
def DY (p : Aa) (m : Ab) : List Ad := Cy (Js m) 0 p.fc
structure NS (p : Aa) (t : An) : Prop where
 kind : 1 ≤ t.ff ∧ t.ff ≤ 4
 aware : t.ft = true → B5 t = false
 from0 : 0 ≤ t.fg ∧ t.fg < (p.fb.length : Int)
 to0 : 0 ≤ t.fm ∧ t.fm < (p.fb.length : Int)
 okL : (t.fk.length : Int) = p.fb.getD t.fg.toNat 0
 okR : ∀ row, row ∈ t.fk → (row.length : Int) = p.fb.getD t.fm.toNat 0
 reL : t.ff = 4 → (t.fo.length : Int) = p.fb.getD t.fg.toNat 0
 reR : ∀ row, row ∈ t.fo → (row.length : Int) = p.fb.getD t.fg.toNat 0
 reD : t.ff = 4 → IY t.fo = none
 reN : t.ff ≠ 4 → t.fo = []
theorem Lb {p : Aa} {t : An} (h : DW p t = 0) : NS p t := by
 unfold DW at h
 split at h
 ·cases h
 rename_i h1
 split at h
 ·cases h
 rename_i h2
 simp only at h
 split at h
 ·cases h
 rename_i h3
 have h3 : sq t.fk (p.fb.getD t.fg.toNat 0) (p.fb.getD t.fm.toNat 0) = true := by simpa using h3
 have h3 := Oi h3
 have ha : t.ft = true → B5 t = false := by
  intro ha
  unfold B5
  rw [zI7, beq_eq_false_iff_ne, beq_eq_false_iff_ne]
  exact ⟨fun hk => h1 (.inr (.inr ⟨ha, .inl hk⟩)), fun hk => h1 (.inr (.inr ⟨ha, .inr hk⟩))⟩
 split at h
 ·rename_i h4
  split at h
  ·cases h
  rename_i h5
  have h5 : sq t.fo (p.fb.getD t.fg.toNat 0) (p.fb.getD t.fg.toNat 0) = true := by simpa using h5
  have h5 := Oi h5
  refine ⟨by omega, ha, by omega, by omega, h3.1, h3.2, fun _ => h5.1, h5.2, fun _ => ?_, fun h => (h h4).elim⟩
  cases hd : IY t.fo with
  | none => rfl
  | some r =>
   obtain ⟨j, x, _, hx⟩ := El hd
   rw [hd] at h
   split at hx
   ·cases hx
   ·cases hx; cases h
 ·rename_i h4
  split at h
  ·rename_i h5
   have h5 := zD1 h5
   refine ⟨by omega, ha, by omega, by omega, h3.1, h3.2, fun h => (h4 h).elim, fun row hr => ?_, fun h => (h4 h).elim, fun _ => h5⟩
   rw [h5] at hr; cases hr
  ·cases h
theorem Lk {R : Type} (b : Bool) (acc : List Ad) (x : Ad) (j : List Ad → Option R) (h : acc.length + 1 ≤ Dw) :
  AP b ((DT (acc.length + ([x] : List Ad).length ≤ Dw)).bind fun _ => j (acc ++ [x])) (j acc) = j (acc ++ if b then [x] else []) := by
 cases b
 ·simp
 ·rw [AI, Aq (by simpa using h)]; rfl
theorem SI (N : Nat) (m : Ab) (t : An) (i u : Nat) (row : List Bool) (R : Int) (b1 b2 acc : List Ad) (j : List Ad × Bool → Option (List Ad))
  (hN : N ≤ 1000000) (h8 : 8 ≤ N) (hrow : row.length ≤ 6) (hacc : acc.length + 6 ≤ Dw) (hR0 : 0 ≤ R) (hR1 : R ≤ 255) (hRb : ∀ v, DZ R v = IK m t.fm.toNat v) :
  Cb N (b1, (i : Int)) t R (b2, (u : Int)) row j N (acc, false, 0) = j (acc ++ Cy (gC i u m t) 0 row, Lw (hC m t) 0 row) := by
 have := IS (A := List Ad × Bool) (Cb N (b1, (i : Int)) t R (b2, (u : Int)) row j) (fun a k => (a.1, a.2, k)) row (fun a => j a) (fun v ok s => (s.1 ++ gC i u m t v ok, s.2 || hC m t v ok))
  (fun v a => v ≤ row.length ∧ a.1.length ≤ acc.length + v)
  (fun n v ok a hx ha => by
   have hv := (lI.1 hx).1
   obtain ⟨c, f⟩ := a
   simp only at ha
   refine ⟨?_, by omega, ?_⟩
   ·rw [Cb]
    simp only [Bc]
    rw [AD (by omega), AU, hx]
    simp only [oS]
    rw [Aq (by omega), RK hR0 hR1 (by omega), hRb, AE (by omega), Lk _ _ _ (fun l => Cb N (b1, (i : Int)) t R (b2, (u : Int)) row j n (l, true, ((v + 1 : Nat) : Int))) (by omega)]
    unfold gC hC
    rw [Lk _ _ _ (fun l => Cb N (b1, (i : Int)) t R (b2, (u : Int)) row j n (l, ok, ((v + 1 : Nat) : Int))) (by omega)]
    cases IK m t.fm.toNat v
    ·simp
    ·cases ok <;> cases f <;> cases t.ft <;> simp
   ·simp only [gC, zD4]
    split <;> simp <;> omega)
  (fun n a _ => by
   rw [Cb]
   simp only [Bc]
   rw [AA (by omega)]) N 0 (acc, false) (by omega) (by omega) ⟨by omega, by simp⟩
 have h2 := this.1
 rw [zC0, L6, zH9] at h2
 exact h2
theorem Ll {p : Aa} {t : An} (hp : A2 p) (ht : NS p t) : t.fk.length ≤ 6 ∧ ∀ row, row ∈ t.fk → row.length ≤ 6 := by
 have h1 := Km hp.ver ht.from0.1 ht.from0.2
 have h2 := Km hp.ver ht.to0.1 ht.to0.2
 have h3 := ht.okL
 exact ⟨by omega, fun row hr => by have := ht.okR row hr; omega⟩
theorem TB (i u : Nat) (m : Ab) (t : An) (v : Nat) (ok : Bool) : (gC i u m t v ok).length ≤ 1 := by
 unfold gC; split <;> simp
theorem TG (i : Nat) (m : Ab) (t : An) (u : Nat) (row : List Bool) (h : row.length ≤ 6) : (JJ i m t u row).length ≤ 7 := by
 unfold JJ
 rw [zD4]
 have := Ft (g := gC i u m t) (c := 1) (i := 0) (xs := row) (fun j x _ => TB _ _ _ _ _ _)
 split <;> simp <;> omega
theorem To (i : Nat) (m : Ab) (t : An) (u : Nat) (row : List Bool) (h : row.length ≤ 6) : (if SK m i t u = true then JJ i m t u row else []).length ≤ 7 := by
 have := TG i m t u row h
 split <;> simp <;> omega
theorem NB {p : Aa} {t : An} (hp : A2 p) (ht : NS p t) (i : Nat) (m : Ab) : (Js m i t).length ≤ 42 := by
 have h1 := Ll hp ht
 have := Ft (g := fun u row => if SK m i t u = true then JJ i m t u row else []) (c := 7) (i := 0) (xs := t.fk) (fun j x hx => To i m t _ x (h1.2 x (lM hx)))
 unfold Js
 omega
theorem MU (N : Nat) (p : Aa) (m : Ab) (t : An) (i : Nat) (W R : Int) (b1 acc : List Ad) (j : List Ad → Option (List Ad))
  (hN : N ≤ 1000000) (h8 : 8 ≤ N) (hp : A2 p) (ht : NS p t) (hacc : acc.length + 42 ≤ 10000) (hR0 : 0 ≤ R) (hR1 : R ≤ 255) (hRb : ∀ v, DZ R v = IK m t.fm.toNat v) (hW0 : 0 ≤ W) (hW1 : W ≤ 255) (hWb : ∀ v, DZ W v = SK m i t v) :
  Cs N (b1, (i : Int)) t R W j N (acc, 0) = j (acc ++ Js m i t) := by
 have hl := Ll hp ht
 exact Fr (Cs N (b1, (i : Int)) t R W j) (fun a k => (a, k)) t.fk j (fun u row => if SK m i t u then JJ i m t u row else []) 7 10000
  (fun u row hx => To i m t u row (hl.2 row (lM hx)))
  (fun n u row a hx ha => by
   have hu := (lI.1 hx).1
   have hrow := hl.2 row (lM hx)
   rw [Cs]
   simp only [Bc]
   rw [AD (by omega), Aq (by omega), RK hW0 hW1 (by omega), hWb, AU, hx]
   simp only [oS]
   rw [SI N m t i u row R b1 a a _ hN h8 hrow (by unfold Dw; omega) hR0 hR1 hRb, AE (by omega)]
   cases hw : SK m i t u
   ·simp
   ·simp only [zB7, Am, if_true, JJ]
    have h1 := Ft (g := gC i u m t) (c := 1) (i := 0) (xs := row) (fun j x _ => TB _ _ _ _ _ _)
    have := Lk (R := List Ad) (t.ft && !Lw (hC m t) 0 row) (a ++ Cy (gC i u m t) 0 row) ⟨(i : Int), (u : Int), -1⟩ (fun l => Cs N (b1, (i : Int)) t R W j n (l, ((u + 1 : Nat) : Int))) (by rw [zD4]; unfold Dw; rw [hw, if_pos rfl] at ha; omega)
    rw [← zD2, ← this]
    cases t.ft <;> cases Lw (hC m t) 0 row <;> rfl)
  (fun n a => by
   rw [Cs]
   simp only [Bc]
   rw [AA (by omega)]) N acc (by omega) (by omega)
theorem SC (N : Nat) (p : Aa) (m : Ab) (t : An) (i u : Nat) (row : List Bool) (b1 b2 acc : List Ad) (j : List Ad × Bool → Option (List Ad))
  (hN : N ≤ 1000000) (h8 : 8 ≤ N) (hp : A2 p) (hm : MixServ p m) (ht : NS p t) (hu : t.fk[u]? = some row) (hacc : acc.length + 6 ≤ Dw) :
  Bo N p m (b1, (i : Int)) t (b2, (u : Int)) j N (acc, false, 0) = j (acc ++ Cy (gC i u m t) 0 row, Lw (hC m t) 0 row) := by
 have hrow := (Ll hp ht).2 row (lM hu)
 have hR := Ih hp hm (s := t.fm.toNat) (by have := ht.to0; omega)
 have hlen := ht.okR row (lM hu)
 have hto := ht.to0
 have := IS (A := List Ad × Bool) (Bo N p m (b1, (i : Int)) t (b2, (u : Int)) j) (fun a k => (a.1, a.2, k)) row (fun a => j a) (fun v ok s => (s.1 ++ gC i u m t v ok, s.2 || hC m t v ok))
  (fun v a => v ≤ row.length ∧ a.1.length ≤ acc.length + v)
  (fun n v ok a hx ha => by
   have hv := (lI.1 hx).1
   obtain ⟨c, f⟩ := a
   simp only at ha
   refine ⟨?_, by omega, ?_⟩
   ·rw [Bo]
    simp only [Bc]
    rw [E5 (d := 0) hto.1 hto.2, Ke N m t.fm hto.1 (by rw [hm.base]; exact hto.2) (by rw [hm.next]; exact hto.2) (hm.b0 _ (by omega)).1, AU, hu]
    simp only [oS]
    unfold CD
    rw [AD (by omega), AU, hx, Aq (by omega), Sp hR.2.1 hR.2.2 (by omega), hR.1]
    simp only [oS]
    rw [AE (by omega), Lk _ _ _ (fun l => Bo N p m (b1, (i : Int)) t (b2, (u : Int)) j n (l, true, ((v + 1 : Nat) : Int))) (by omega)]
    unfold gC hC
    rw [Lk _ _ _ (fun l => Bo N p m (b1, (i : Int)) t (b2, (u : Int)) j n (l, ok, ((v + 1 : Nat) : Int))) (by omega)]
    cases IK m t.fm.toNat v
    ·simp
    ·cases ok <;> cases f <;> cases t.ft <;> simp
   ·simp only [gC, zD4]
    split <;> simp <;> omega)
  (fun n a _ => by
   rw [Bo]
   simp only [Bc]
   rw [E5 (d := 0) hto.1 hto.2]
   simp only [oS]
   rw [AA (by omega)]) N 0 (acc, false) (by omega) (by omega) ⟨by omega, by simp⟩
 have h2 := this.1
 rw [zC0, L6, zH9] at h2
 exact h2
theorem MK (N : Nat) (p : Aa) (m : Ab) (t : An) (i : Nat) (W : Int) (b1 acc : List Ad) (j : List Ad → Option (List Ad))
  (hN : N ≤ 1000000) (h8 : 8 ≤ N) (hp : A2 p) (hm : MixServ p m) (ht : NS p t) (hacc : acc.length + 42 ≤ 10000) (hW0 : 0 ≤ W) (hW1 : W ≤ 255) (hWb : ∀ v, DZ W v = SK m i t v) :
  BN N p m (b1, (i : Int)) t W j N (acc, 0) = j (acc ++ Js m i t) := by
 have hl := Ll hp ht
 have hfr := ht.from0
 have hok := ht.okL
 exact Fr (BN N p m (b1, (i : Int)) t W j) (fun a k => (a, k)) t.fk j (fun u row => if SK m i t u then JJ i m t u row else []) 7 10000
  (fun u row hx => To i m t u row (hl.2 row (lM hx)))
  (fun n u row a hx ha => by
   have hu := (lI.1 hx).1
   have hrow := hl.2 row (lM hx)
   rw [BN]
   simp only [Bc]
   rw [E5 (d := 0) hfr.1 hfr.2]
   simp only [oS]
   unfold CD
   rw [AD (by omega), Aq (by omega), Sp hW0 hW1 (by omega), hWb]
   simp only [oS]
   rw [SC N p m t i u row b1 a a _ hN h8 hp hm ht hx (by unfold Dw; omega), AE (by omega)]
   cases hw : SK m i t u
   ·simp
   ·simp only [zB7, Am, if_true, JJ]
    have h1 := Ft (g := gC i u m t) (c := 1) (i := 0) (xs := row) (fun j x _ => TB _ _ _ _ _ _)
    have := Lk (R := List Ad) (t.ft && !Lw (hC m t) 0 row) (a ++ Cy (gC i u m t) 0 row) ⟨(i : Int), (u : Int), -1⟩ (fun l => BN N p m (b1, (i : Int)) t W j n (l, ((u + 1 : Nat) : Int))) (by rw [zD4]; unfold Dw; rw [hw, if_pos rfl] at ha; omega)
    rw [← zD2, ← this]
    cases t.ft <;> cases Lw (hC m t) 0 row <;> rfl)
  (fun n a => by
   rw [BN]
   simp only [Bc]
   rw [E5 (d := 0) hfr.1 hfr.2]
   simp only [oS]
   rw [AA (by omega)]) N acc (by omega) (by omega)
theorem Nb (N : Nat) (p : Aa) (m : Ab) (hN : N ≤ 1000000) (h20 : 20 ≤ N) (hp : A2 p) (hm : BI p m) : FW N p m = some (DY p m) := by
 unfold FW
 have hnt := hp.nt
 rw [Fr (DE N p m _) (fun a k => (a, k)) p.fc some (Js m) 42 9000
  (fun i t hx => NB hp (Lb (hp.tab t (lM hx))) i m)
  (fun n i t a hx ha => by
   have hi := (lI.1 hx).1
   have ht := Lb (hp.tab t (lM hx))
   have hto := ht.to0
   have hfr := ht.from0
   have hR := Ih hp hm.toMixServ (s := t.fm.toNat) (by omega)
   have hF := Ih hp hm.toMixServ (s := t.fg.toNat) (by omega)
   have hH := hm.range i hi
   rw [DE]
   simp only [Bc]
   rw [AD (by omega), AU, hx]
   simp only [oS, JG]
   rw [L3 N m t.fg hfr.1 (by rw [hm.base]; exact hfr.2) (by rw [hm.next]; exact hfr.2) (hm.b0 _ (by omega)).1, L3 N m t.fm hto.1 (by rw [hm.base]; exact hto.2) (by rw [hm.next]; exact hto.2) (hm.b0 _ (by omega)).1, Db (d := 0) (by rw [hm.held]; exact hi), AE (by omega)]
   simp only [oS]
   cases hs : B5 t
   ·rw [Am, MU N p m t i _ _ a a _ hN (by omega) hp ht (by omega) hR.2.1 hR.2.2 hR.1 hF.2.1 hF.2.2 (fun v => by unfold SK; rw [hs, hF.1]; rfl)]
   ·rw [AI, MU N p m t i _ _ a a _ hN (by omega) hp ht (by omega) hR.2.1 hR.2.2 hR.1 hH.1 hH.2 (fun v => by unfold SK; rw [hs]; rfl)])
  (fun n a => by
   rw [DE]
   simp only [Bc]
   rw [AA (by omega)]) N [] (by omega) (by simp; omega)]
 rfl
theorem Nm (N : Nat) (p : Aa) (m : Ab) (hN : N ≤ 1000000) (h20 : 20 ≤ N) (hp : A2 p) (hm : BI p m) : ES N p m = some (DY p m) := by
 unfold ES
 have hnt := hp.nt
 rw [Fr (CJ N p m _) (fun a k => (a, k)) p.fc some (Js m) 42 9000
  (fun i t hx => NB hp (Lb (hp.tab t (lM hx))) i m)
  (fun n i t a hx ha => by
   have hi := (lI.1 hx).1
   have ht := Lb (hp.tab t (lM hx))
   have hto := ht.to0
   have hfr := ht.from0
   have hF := Ih hp hm.toMixServ (s := t.fg.toNat) (by omega)
   have hH := hm.range i hi
   rw [CJ]
   simp only [Bc]
   rw [AD (by omega), AU, hx]
   simp only [oS, G6]
   rw [Ke N m t.fg hfr.1 (by rw [hm.base]; exact hfr.2) (by rw [hm.next]; exact hfr.2) (hm.b0 _ (by omega)).1, Db (d := 0) (by rw [hm.held]; exact hi), AE (by omega)]
   simp only [oS]
   cases hs : B5 t
   ·rw [Am, MK N p m t i _ a a _ hN (by omega) hp hm.toMixServ ht (by omega) hF.2.1 hF.2.2 (fun v => by unfold SK; rw [hs, hF.1]; rfl)]
   ·rw [AI, MK N p m t i _ a a _ hN (by omega) hp hm.toMixServ ht (by omega) hH.1 hH.2 (fun v => by unfold SK; rw [hs]; rfl)])
  (fun n a => by
   rw [CJ]
   simp only [Bc]
   rw [AA (by omega)]) N [] (by omega) (by simp; omega)]
 rfl
theorem Fk {A S R : Type} (L : Nat → S → Option R) (mk : A → Int → S) (len : Nat) (j : A → Option R) (I : Nat → A → Prop)
  (hs : ∀ (n i : Nat) (a : A), i < len → I i a → ∃ a', L (n + 1) (mk a (i : Int)) = L n (mk a' ((i + 1 : Nat) : Int)) ∧ I (i + 1) a')
  (he : ∀ (n : Nat) (a : A), I len a → L (n + 1) (mk a (len : Int)) = j a) :
  ∀ (n i : Nat) (a : A), i ≤ len → len - i < n → I i a → ∃ a', L n (mk a (i : Int)) = j a' ∧ I len a'
 | 0, i, _, _, h, _ => by omega
 | n + 1, i, a, hi, h, ha => by
  by_cases h1 : i < len
  ·obtain ⟨a', e1, e2⟩ := hs n i a h1 ha
   rw [e1]
   exact Fk L mk len j I hs he n (i + 1) _ (by omega) (by omega) e2
  ·have : i = len := by omega
   subst this
   exact ⟨a, he n a ha, ha⟩
theorem Jr {α : Type} {xs ys : List α} {i : Nat} {d : α} (h : i < xs.length) : (xs ++ ys).getD i d = xs.getD i d := by
 rw [lD, lD, zC4 h]
theorem Jx {α : Type} {xs : List α} {y : α} {i : Nat} {d : α} (h : i = xs.length) : (xs ++ [y]).getD i d = y := by
 subst h; rw [lD, zD0 (zB4 _)]; simp
theorem O2 {α : Type} {P : Nat → α → Prop} {xs : List α} {y : α} {d : α} {n : Nat} (hn : xs.length = n) (h : ∀ k, k < n → P k (xs.getD k d)) (hy : P n y) : ∀ k, k < n + 1 → P k ((xs ++ [y]).getD k d) := by
 intro k hk
 by_cases h1 : k < n
 ·rw [Jr (by omega)]; exact h k h1
 ·have : k = n := by omega
  subst this
  rw [Jx hn.symm]; exact hy
theorem Ug {l : List Int} (hw : LL JT l) (i : Nat) : 0 ≤ l.getD i 0 ∧ l.getD i 0 ≤ 255 := by
 by_cases h : i < l.length
 ·have : l.getD i 0 ∈ l := by rw [lD, zB6 h]; exact zE9 _
  exact IW (hw _ this)
 ·rw [lD, zB9 (by omega)]
  exact ⟨by decide, by decide⟩
theorem Qy (N : Nat) {l : List Int} (hw : LL JT l) (i : Nat) : Em N l (i : Int) = some (l.getD i 0) := by
 unfold Em
 have h2 := Ug hw i
 by_cases h : i < l.length
 ·rw [AD (by omega), Db (d := 0) h]
  simp only [oS]
  rw [Dq (by omega) (by omega)]
 ·rw [AA (by omega), lD, zB9 (by omega)]; rfl
theorem H0 {a n : Int} (ha : 0 ≤ a) (hn : 0 < n) : 0 ≤ zB5 a n ∧ zB5 a n < n := ⟨Int.tmod_nonneg n ha, Int.tmod_lt_of_pos a hn⟩
theorem Yx {l : List (List Bool)} {n m : Int} (h1 : (l.length : Int) = n) (h2 : ∀ row, row ∈ l → (row.length : Int) = m) : sq l n m = true := by
 unfold sq
 simp only [zA4, decide_eq_true_eq, zA5]
 exact ⟨h1, h2⟩
theorem Zu {p : Aa} {t : An} (h : NS p t) : DW p t = 0 := by
 have hk := h.kind
 have hf := h.from0
 have ht := h.to0
 unfold DW
 rw [if_neg, if_neg (by omega)]
 ·simp only [Yx h.okL h.okR]
  rw [if_neg (by simp)]
  by_cases h4 : t.ff = 4
  ·rw [if_pos h4, Yx (h.reL h4) h.reR, if_neg (by simp), h.reD h4]; rfl
  ·rw [if_neg h4, h.reN h4]; rfl
 ·rintro (h1 | h1 | ⟨h1, h2⟩)
  ·omega
  ·omega
  ·have := h.aware h1
   unfold B5 at this
   rw [zI7, beq_eq_false_iff_ne, beq_eq_false_iff_ne] at this
   omega
theorem V4 (N : Nat) (m bad : Int) (diag : Bool) (i : Nat) (acc : List (List Bool)) {_R : Type} (j : List Bool → Option (List (List Bool))) (hN : N ≤ 1000000) (h20 : 20 ≤ N) (hm : 0 ≤ m ∧ m ≤ 6) (hi : i < 6) :
  ∃ row, Ct N m bad diag (acc, (i : Int)) j N ([], 0) = j row ∧ (row.length : Int) = m ∧ (diag = true → (i : Int) < m → row.getD i false = true) := by
 obtain ⟨M, rfl⟩ := zA7 hm.1
 obtain ⟨row, e, h1, h2⟩ := Fk (A := List Bool) (Ct N (M : Int) bad diag (acc, (i : Int)) j) (fun a k => (a, k)) M j
  (fun k a => a.length = k ∧ ∀ q, q < k → diag = true → q = i → a.getD q false = true)
  (fun n k a hk ha => by
   refine ⟨a ++ [(diag && decide (i = k)) || (zB5 (FI .u16 bad ((3 * i + k : Nat) : Int)) 2 == 0)], ?_, by simp [ha.1], O2 (P := fun q y => diag = true → q = i → y = true) ha.1 ha.2 (fun h1 h2 => by simp [h1, h2])⟩
   rw [Ct]
   simp only [Bc]
   rw [AD (by omega), AE (by omega), Dq (n := 3 * (i : Int)) (by omega) (by omega), Dq (n := 3 * (i : Int) + (k : Int)) (by omega) (by omega)]
   have l1 : ∀ y : Bool, a.length + ([y] : List Bool).length ≤ Dw := by intro y; rw [ha.1]; unfold Dw; simp; omega
   simp only [Aq (l1 _), Aq (show (0 : Int) ≤ 3 * (i : Int) + (k : Int) by omega)]
   have e1 : ((3 * i + k : Nat) : Int) = 3 * (i : Int) + (k : Int) := by omega
   rw [e1]
   have e2 : (((i : Nat) : Int) == ((k : Nat) : Int)) = decide (i = k) := by
    by_cases h : i = k
    ·simp [h]
    ·rw [decide_eq_false h]; exact beq_eq_false_iff_ne.2 (by omega)
   rw [e2]
   cases diag <;> cases decide (i = k) <;> rfl)
  (fun n a _ => by
   rw [Ct]
   simp only [Bc]
   rw [AA (by omega)]) N 0 [] (zB2 _) (by omega) ⟨rfl, fun q hq => by omega⟩
 exact ⟨row, e, by omega, fun hd hlt => h2 i (by omega) hd rfl⟩
theorem T3 (N : Nat) (n m bad : Int) (diag : Bool) (hN : N ≤ 1000000) (h20 : 20 ≤ N) (hn : 0 ≤ n ∧ n ≤ 6) (hm : 0 ≤ m ∧ m ≤ 6) :
  ∃ l, En N n m bad diag = some l ∧ (l.length : Int) = n ∧ (∀ row, row ∈ l → (row.length : Int) = m) ∧ (diag = true → n = m → IY l = none) := by
 obtain ⟨M, rfl⟩ := zA7 hn.1
 unfold En
 obtain ⟨l, e, h1, h2⟩ := Fk (A := List (List Bool)) (Cw N (M : Int) m bad diag (fun v => some v)) (fun a k => (a, k)) M some
  (fun k a => a.length = k ∧ ∀ q, q < k → (((a.getD q []).length : Nat) : Int) = m ∧ (diag = true → (q : Int) < m → (a.getD q []).getD q false = true))
  (fun n k a hk ha => by
   obtain ⟨row, e, h1, h2⟩ := V4 (_R := Unit) N m bad diag k a (fun (v5 : List Bool) =>
    (DT (a.length + (([v5] : List (List Bool))).length ≤ Dw)).bind fun _ =>
    Cw N (M : Int) m bad diag (fun v => some v) n (a ++ (([v5] : List (List Bool))), (wI .i64 ((k : Int) + 1)))) hN h20 hm (by omega)
   refine ⟨a ++ [row], ?_, by simp [ha.1], O2 (P := fun q y => ((y.length : Nat) : Int) = m ∧ (diag = true → (q : Int) < m → y.getD q false = true)) ha.1 ha.2 ⟨h1, h2⟩⟩
   rw [Cw]
   simp only
   rw [AD (by omega), e, Aq (by rw [ha.1]; unfold Dw; simp; omega), AE (by omega)])
  (fun n a _ => by
   rw [Cw]
   simp only
   rw [AA (by omega)]) N 0 [] (zB2 _) (by omega) ⟨rfl, fun q hq => by omega⟩
 have key : ∀ q row, l[q]? = some row → l.getD q [] = row := fun q row hq => by rw [lD, hq]; rfl
 refine ⟨l, e, by omega, fun row hr => ?_, fun hd hnm => ?_⟩
 ·obtain ⟨q, hq⟩ := zA8.1 hr
  have := (h2 q (by have := (lI.1 hq).1; omega)).1
  rwa [key q row hq] at this
 ·unfold IY
  refine E4 fun q row hq => ?_
  have hlt := (lI.1 hq).1
  have := (h2 q (by omega)).2 hd (by omega)
  rw [key q row hq] at this
  rw [zA1, this]; rfl
structure YQ (p : Aa) : Prop where
 valid : By p = 0
 nv : p.fb.length ≤ 3
 nt : p.fc.length ≤ 4
 v3 : ∀ v, v ∈ p.fb → v ≤ 3
theorem UW {p q : Aa} (h : p.fb = q.fb) (t : An) : DW p t = DW q t := by
 unfold DW; rw [h]
theorem cF (N : Nat) (d : BJ) (hN : N ≤ 1000000) (h20 : 20 ≤ N) (hw : FD d) : ∃ p ok, Fy N d = some (p, ok) ∧ (ok = true → YQ p) := by
 obtain ⟨w1, w2, w3, w4, _⟩ := hw
 unfold Fy
 simp only [Bc]
 by_cases k1 : 3 < d.fb.length
 ·rw [AD (by omega)]; exact ⟨_, false, rfl, fun h => by cases h⟩
 by_cases k2 : 4 < d.fw.length
 ·rw [AA (by omega), decide_eq_true (by omega : (4 : Int) < (d.fw.length : Int))]; exact ⟨_, false, rfl, fun h => by cases h⟩
 rw [AA (by omega), decide_eq_false (by omega : ¬ (4 : Int) < (d.fw.length : Int)), Am]
 obtain ⟨⟨vs, ns, ts⟩, e, h1, h2, h3, h4⟩ := Fk (A := List Int × List Int × List Int) (CS N d fun v5 => BE N d v5 (fun v16 => some (Aa.mk v5.1 v5.2.1 v5.2.2 v16, true)) N ([], 0)) (fun a k => (a.1, a.2.1, a.2.2, k)) d.fb.length
  (fun v5 => BE N d v5 (fun v16 => some (Aa.mk v5.1 v5.2.1 v5.2.2 v16, true)) N ([], 0))
  (fun i a => a.1.length = i ∧ a.2.1.length = i ∧ a.2.2.length = i ∧ (∀ k, k < i → (1 ≤ a.1.getD k 0 ∧ a.1.getD k 0 ≤ 3) ∧ (0 ≤ a.2.1.getD k 0 ∧ a.2.1.getD k 0 < a.1.getD k 0) ∧ (0 ≤ a.2.2.getD k 0 ∧ a.2.2.getD k 0 < a.1.getD k 0)))
  (fun n i a hi ha => by
   obtain ⟨vs, ns, ts⟩ := a
   obtain ⟨h1, h2, h3, h4⟩ := ha
   simp only at h1 h2 h3 h4
   have hv := Ug w1 i
   have hb := Ug w2 i
   have hk := Ug w3 i
   have hm := H0 (n := 3) hv.1 (by omega)
   obtain ⟨v, hvd⟩ : ∃ v, v = 1 + zB5 (d.fb.getD i 0) 3 := ⟨_, rfl⟩
   have m1 := H0 (n := v) hb.1 (by omega)
   have m2 := H0 (n := v) hk.1 (by omega)
   refine ⟨(vs ++ [v], ns ++ [zB5 (d.fh.getD i 0) v], ts ++ [zB5 (d.fi.getD i 0) v]), ?_, by simp [h1], by simp [h2], by simp [h3], ?_⟩
   ·rw [CS]
    simp only
    rw [AD (by omega), Db (d := 0) hi, Qy N w2, Qy N w3]
    simp only [oS]
    rw [Dq (n := zB5 _ _) (by omega) (by omega), Dq (n := 1 + _) (by omega) (by omega), ← hvd, AE (by omega)]
    have l1 : ∀ y : Int, vs.length + ([y] : List Int).length ≤ Dw := by intro y; rw [h1]; unfold Dw; simp; omega
    have l2 : ∀ y : Int, ns.length + ([y] : List Int).length ≤ Dw := by intro y; rw [h2]; unfold Dw; simp; omega
    have l3 : ∀ y : Int, ts.length + ([y] : List Int).length ≤ Dw := by intro y; rw [h3]; unfold Dw; simp; omega
    simp only [Aq (l1 _), Aq (l2 _), Aq (l3 _), Aq (show v ≠ 0 by omega)]
   ·intro k hk
    simp only
    by_cases hki : k < i
    ·rw [Jr (by omega), Jr (by omega), Jr (by omega)]; exact h4 k hki
    ·have : k = i := by omega
     subst this
     rw [Jx h1.symm, Jx h2.symm, Jx h3.symm]
     omega)
  (fun n a _ => by
   rw [CS]
   simp only
   rw [AA (by omega)]) N 0 ([], [], []) (zB2 _) (by omega) ⟨rfl, rfl, rfl, fun k hk => by omega⟩
 simp only at h1 h2 h3 h4
 have e' : CS N d (fun v5 => BE N d v5 (fun v16 => some (Aa.mk v5.1 v5.2.1 v5.2.2 v16, true)) N ([], 0)) N ([], [], [], 0) = _ := e
 rw [e']
 have hvs : ∀ v, v ∈ vs → 1 ≤ v ∧ v ≤ 3 := by
  intro v hv
  obtain ⟨q, hq⟩ := zA8.1 hv
  have := (h4 q (by have := (lI.1 hq).1; omega)).1
  rwa [lD, hq] at this
 have fin : ∀ Ph : List An, Ph.length ≤ 4 → (∀ t, t ∈ Ph → DW ⟨vs, ns, ts, []⟩ t = 0) → YQ ⟨vs, ns, ts, Ph⟩ := by
  intro Ph ht h
  have hp : A2 ⟨vs, ns, ts, Ph⟩ := ⟨show vs.length ≤ 6 by omega, show Ph.length ≤ 12 by omega, show ns.length = vs.length by omega, show ts.length = vs.length by omega, fun v hv => by have := hvs v hv; omega, fun t ht => by rw [← h t ht]; exact UW rfl t⟩
  exact ⟨Q1 hp fun i hi => by have := h4 i (by have : i < vs.length := hi; omega); simp only; omega, show vs.length ≤ 3 by omega, ht, fun v hv => (hvs v hv).2⟩
 by_cases k3 : vs.length = 0
 ·refine ⟨_, true, ?_, fun _ => fin [] (by simp) (fun t ht => by cases ht)⟩
  obtain ⟨M, rfl⟩ : ∃ M, N = M + 1 := ⟨N - 1, by omega⟩
  rw [BE]
  simp only [Bc]
  rw [k3]
  by_cases k4 : (0 : Int) < (d.fw.length : Int)
  ·rw [AD k4]; rfl
  ·rw [AA k4]; rfl
 obtain ⟨Ph, e2, g1, g2⟩ := Fk (A := List An) (BE N d (vs, ns, ts) (fun v16 => some (Aa.mk vs ns ts v16, true))) (fun a k => (a, k)) d.fw.length (fun v16 => some (Aa.mk vs ns ts v16, true))
  (fun i a => a.length = i ∧ ∀ t, t ∈ a → DW ⟨vs, ns, ts, []⟩ t = 0)
  (fun n i a hi ha => by
   have hx : d.fw[i]? = some d.fw[i] := by simp [hi]
   generalize d.fw[i] = l at hx
   obtain ⟨u1, u2, u3, _, u5, u6, _⟩ := w4 l (lM hx)
   have u1 := IW u1
   have u2 := IW u2
   have u3 := IW u3
   have mk := H0 (n := 4) u1.1 (by omega)
   have hL : (0 : Int) < (vs.length : Int) := by omega
   have mf := H0 (n := (vs.length : Int)) u2.1 hL
   have mt := H0 (n := (vs.length : Int)) u3.1 hL
   rw [BE]
   simp only [Bc]
   rw [AD (by omega), decide_eq_true hL, AI, AU, hx]
   simp only [oS]
   rw [Aq (by omega), Aq (by omega), Dq (n := l.fg) (by omega) (by omega), Dq (n := l.fm) (by omega) (by omega), Dq (n := zB5 l.ff 4) (by omega) (by omega), Dq (n := 1 + _) (by omega) (by omega), AE (by omega)]
   simp only [Na, oS]
   rw [E5 (d := 0) mf.1 mf.2, E5 (d := 0) mt.1 mt.2]
   simp only [oS]
   have hA : ∀ q : Int, 0 ≤ q → q < (vs.length : Int) → 1 ≤ vs.getD q.toNat 0 ∧ vs.getD q.toNat 0 ≤ 3 := fun q h0 h1 => (h4 q.toNat (by omega)).1
   have hf := hA _ mf.1 mf.2
   have ht := hA _ mt.1 mt.2
   obtain ⟨A, eA, a1, a2, _⟩ := T3 N (vs.getD (zB5 l.fg (vs.length : Int)).toNat 0) (vs.getD (zB5 l.fm (vs.length : Int)).toNat 0) l.fA false hN h20 (by omega) (by omega)
   obtain ⟨B, eB, b1, b2, b3⟩ := T3 N (vs.getD (zB5 l.fg (vs.length : Int)).toNat 0) (vs.getD (zB5 l.fg (vs.length : Int)).toNat 0) l.fB true hN h20 (by omega) (by omega)
   rw [eA, eB]
   simp only [oS]
   have l1 : ∀ y : An, a.length + ([y] : List An).length ≤ Dw := by intro y; rw [ha.1]; unfold Dw; simp; omega
   simp only [Aq (l1 _)]
   obtain ⟨kd, hkd⟩ : ∃ kd, kd = 1 + zB5 l.ff 4 := ⟨_, rfl⟩
   rw [← hkd]
   have fin2 : ∀ (aw : Bool) (re : List (List Bool)), (aw = true → (kd == 3 || kd == 4) = false) → ((kd = 4 → re = B) ∧ (kd ≠ 4 → re = [])) →
     DW ⟨vs, ns, ts, []⟩ (An.mk kd (zB5 l.fg (vs.length : Int)) (zB5 l.fm (vs.length : Int)) aw A re) = 0 := by
    intro aw re haw hre
    refine Zu ⟨show 1 ≤ kd ∧ kd ≤ 4 by omega, haw, mf, mt, a1, a2, fun h => by rw [hre.1 h]; exact b1, fun row hr => ?_, fun h => by rw [hre.1 h]; exact b3 rfl rfl, fun h => hre.2 h⟩
    by_cases h4 : kd = 4
    ·simp only at hr; rw [hre.1 h4] at hr; exact b2 row hr
    ·simp only at hr; rw [hre.2 h4] at hr; cases hr
   have app : ∀ t, DW ⟨vs, ns, ts, []⟩ t = 0 → (a ++ [t]).length = i + 1 ∧ ∀ t', t' ∈ a ++ [t] → DW ⟨vs, ns, ts, []⟩ t' = 0 := by
    intro t ht
    refine ⟨by simp [ha.1], fun t' ht' => ?_⟩
    rcases zC5.1 ht' with h | h
    ·exact ha.2 t' h
    ·rw [zE1.1 h]; exact ht
   by_cases h4 : kd = 4
   ·have e4 : (kd == 4) = true := beq_iff_eq.2 h4
    have hre : (kd = 4 → B = B) ∧ (kd ≠ 4 → B = []) := ⟨fun _ => rfl, fun h => (h h4).elim⟩
    rw [e4]
    simp only [AI, zL6, zB7]
    cases l.ft
    ·exact ⟨_, rfl, app _ (fin2 false B (fun h => by cases h) hre)⟩
    ·exact ⟨_, rfl, app _ (fin2 false B (fun h => by cases h) hre)⟩
   ·have e4 : (kd == 4) = false := beq_eq_false_iff_ne.2 h4
    have hre : (kd = 4 → ([] : List (List Bool)) = B) ∧ (kd ≠ 4 → ([] : List (List Bool)) = []) := ⟨fun h => (h4 h).elim, fun _ => rfl⟩
    rw [e4]
    simp only [Am, Bool.or_false]
    cases l.ft
    ·exact ⟨_, rfl, app _ (fin2 false [] (fun h => by cases h) hre)⟩
    ·cases e3 : kd == 3
     ·exact ⟨_, rfl, app _ (fin2 true [] (fun _ => by rw [e3, e4]; rfl) hre)⟩
     ·exact ⟨_, rfl, app _ (fin2 false [] (fun h => by cases h) hre)⟩)
  (fun n a _ => by
   rw [BE]
   simp only [Bc]
   rw [AA (by omega), Am]) N 0 [] (zB2 _) (by omega) ⟨rfl, fun t ht => by cases ht⟩
 exact ⟨_, true, e2, fun _ => fin Ph (by omega) g2⟩
def II : List Int → Nat → Nat
 | [], _ => 0
 | _, 0 => 0
 | n :: ns, q + 1 => (if 0 ≤ n then 1 else 0) + II ns q
theorem I4 (l : List Int) : II l 0 = 0 := by cases l <;> rfl
theorem HP : ∀ (l : List Int) (q : Nat), q < l.length → II l (q + 1) = II l q + if 0 ≤ l.getD q 0 then 1 else 0
 | [], q, h => by simp at h
 | n :: ns, 0, _ => by simp [II, I4]
 | n :: ns, q + 1, h => by
  rw [II, HP ns q (by simpa using h), II, zJ1, zF3]
theorem Pc (l : List Int) {a b : Nat} (h : a ≤ b) (hb : b ≤ l.length) : II l a ≤ II l b := by
 induction b with
 | zero => rw [Nat.le_zero.1 h]; exact zB4 _
 | succ b ih =>
  by_cases h1 : a = b + 1
  ·rw [h1]; exact zB4 _
  ·have := ih (by omega) (by omega)
   rw [HP l b (by omega)]; omega
theorem Ld (l : List Int) : ∀ q, q ≤ l.length → II l q ≤ q
 | 0, _ => by rw [I4]; exact zB4 _
 | q + 1, h => by
  have := Ld l q (by omega)
  rw [HP l q h]
  split <;> omega
def Nh (l : List Int) (k q : Nat) : Int := if 0 ≤ l.getD q 0 ∧ k.testBit (II l q) = true then -1 else l.getD q 0
def Xi (l : List Int) (k : Nat) : List Int := (zB1 l.length).map (Nh l k)
def Zg (m : Ab) (k : Nat) : Ab := ⟨m.fd, Xi m.fa k, m.fe⟩
def Gr (m : Ab) : List Ab := (zB1 (2 ^ II m.fa m.fa.length)).map (Zg m)
theorem MG (l : List Int) (k : Nat) : (Xi l k).length = l.length := by simp [Xi]
theorem Ry (l : List Int) (k q : Nat) (h : q < l.length) : (Xi l k).getD q 0 = Nh l k q := by
 unfold Xi; rw [lD, zA6, List.getElem?_range h]; rfl
theorem FM {l1 l2 : List Int} (h1 : l1.length = l2.length) (h : ∀ q, q < l1.length → l1.getD q 0 = l2.getD q 0) : l1 = l2 := by
 apply List.ext_getElem h1
 intro q h2 h3
 have := h q h2
 rw [lD, lD, zB6 h2, zB6 h3] at this
 exact this
theorem UF : ∀ (k : Fin 64) (b : Fin 7), GP .i64 (FI .i64 (k.val : Int) (b.val : Int)) 1 = (if k.val.testBit b.val then 1 else 0) ∧ zB5 (FI .i64 (k.val : Int) (b.val : Int)) 2 = (if k.val.testBit b.val then 1 else 0) := by decide +kernel
theorem XG : ∀ n : Fin 7, Ee .i64 1 (n.val : Int) = ((2 ^ n.val : Nat) : Int) := by decide +kernel
structure PI (m x : Ab) : Prop where
 base : x.fd = m.fd
 held : x.fe = m.fe
 len : x.fa.length = m.fa.length
 next : ∀ q, q < m.fa.length → x.fa.getD q 0 = m.fa.getD q 0 ∨ (0 ≤ m.fa.getD q 0 ∧ x.fa.getD q 0 = -1)
theorem PI.refl (m : Ab) : PI m m := ⟨rfl, rfl, rfl, fun _ _ => .inl rfl⟩
theorem PI.trans {a b c : Ab} (h1 : PI a b) (h2 : PI b c) : PI a c :=
 ⟨h2.base.trans h1.base, h2.held.trans h1.held, h2.len.trans h1.len, fun q hq => by
  have e1 := h1.next q hq
  have e2 := h2.next q (by rw [h1.len]; exact hq)
  omega⟩
theorem V7 (m : Ab) (k : Nat) : PI m (Zg m k) :=
 ⟨rfl, rfl, MG _ _, fun q hq => by
  show (Xi m.fa k).getD q 0 = _ ∨ _ ∧ (Xi m.fa k).getD q 0 = _
  rw [Ry _ _ _ hq]; unfold Nh
  split
  ·rename_i h; exact .inr ⟨h.1, rfl⟩
  ·exact .inl rfl⟩
theorem Uy : ∀ (l x : List Int), x.length = l.length → (∀ q, q < l.length → x.getD q 0 = l.getD q 0 ∨ (0 ≤ l.getD q 0 ∧ x.getD q 0 = -1)) → ∃ k, k < 2 ^ II l l.length ∧ ∀ q, q < l.length → x.getD q 0 = Nh l k q
 | [], x, h, _ => ⟨0, by simp [II], fun q hq => by simp at hq⟩
 | n :: ns, [], h, _ => by simp at h
 | n :: ns, y :: ys, h, hq => by
  obtain ⟨k, hk, hk2⟩ := Uy ns ys (by simpa using h) (fun q hq' => by have := hq (q + 1) (by simpa using hq'); simpa using this)
  have h0 := hq 0 (by simp)
  simp only [zK2] at h0
  by_cases hn : 0 ≤ n
  ·refine ⟨2 * k + if y = n then 0 else 1, ?_, ?_⟩
   ·rw [zC6, II, if_pos hn, Nat.pow_add]
    split <;> omega
   ·intro q hq'
    cases q with
    | zero =>
     simp only [zK2, Nh, I4]
     by_cases hy : y = n
     ·simp [hy]
     ·rw [if_neg hy, if_pos ⟨hn, by simp⟩]; omega
    | succ q =>
     have := hk2 q (by simpa using hq')
     simp only [zJ1, Nh, II, if_pos hn] at this ⊢
     rw [this, Nat.add_comm 1, Nat.testBit_succ]
     have : (2 * k + if y = n then 0 else 1) / 2 = k := by split <;> omega
     rw [this]
  ·refine ⟨k, ?_, ?_⟩
   ·rw [zC6, II, if_neg hn, zA1]; exact hk
   ·intro q hq'
    cases q with
    | zero =>
     simp only [zK2, Nh, I4]
     rw [if_neg (fun h => hn h.1)]
     omega
    | succ q =>
     have := hk2 q (by simpa using hq')
     simp only [zJ1, Nh, II, if_neg hn, zA1] at this ⊢
     exact this
theorem OS {m x : Ab} : x ∈ Gr m ↔ PI m x := by
 unfold Gr
 rw [zB8]
 constructor
 ·rintro ⟨k, _, rfl⟩; exact V7 m k
 ·intro h
  obtain ⟨k, hk, hq⟩ := Uy m.fa x.fa h.len h.next
  refine ⟨k, zD9.2 hk, ?_⟩
  have : Xi m.fa k = x.fa := FM (by rw [MG, h.len]) fun q hq' => by
   rw [MG] at hq'
   rw [Ry _ _ _ hq', hq q hq']
  unfold Zg
  rw [this, ← h.base, ← h.held]
theorem Zh {m x : Ab} (h : PI m x) {s : Nat} (hs : s < m.fa.length) {v : Nat} (hv : IK x s v = true) : IK m s v = true := by
 unfold IK at hv ⊢
 rw [h.base] at hv
 have := h.next s hs
 simp only [zF6, decide_eq_true_eq] at hv ⊢
 omega
theorem Yy {p : Aa} {m x : Ab} (hp : A2 p) (hm : BI p m) (h : PI m x) : BI p x := by
 refine ⟨⟨by rw [h.base]; exact hm.base, by rw [h.len]; exact hm.next, by rw [h.held]; exact hm.held, fun i hi => by rw [h.base]; exact hm.b0 i hi, fun i hi => ?_, fun i hi => ?_⟩, fun i hi => by rw [h.held]; exact hm.range i hi, fun i t ht hs v hv => ?_, fun i t ht hs v hv => ?_, fun i t ht hs => by rw [h.held]; exact hm.none i t ht hs⟩
 ·have h1 := hm.n0 i hi
  have h2 := h.next i (by rw [hm.next]; exact hi)
  have h3 := H8 hp hi
  omega
 ·have h1 := hm.ne i hi
  have h2 := h.next i (by rw [hm.next]; exact hi)
  have h3 := hm.b0 i hi
  rw [h.base]
  omega
 ·have hin := (Lb (hp.tab t (lM ht))).from0
  rw [h.held]
  exact hm.low i t ht hs v (Zh h (by rw [hm.next]; omega) hv)
 ·rw [h.held] at hv
  exact hm.high i t ht hs v hv
theorem J4 (N : Nat) (l : List Int) (h : l.length ≤ Dw) : Bl N l = some l := by
 unfold Bl
 rw [Aq (by simpa using h)]; rfl
theorem P4 (N : Nat) (l : List Int) (h : l.length ≤ Dw) : Bz N l = some l := by
 unfold Bz
 rw [Aq (by simpa using h)]; rfl
theorem Jg {l : List Int} {i q : Nat} {y : Int} (hi : i < l.length) : (l.set i y).getD q 0 = if q = i then y else l.getD q 0 := by
 rw [lD, lD, zD8]
 by_cases h : i = q
 ·subst h; simp [hi]
 ·rw [if_neg h, if_neg (fun e => h e.symm)]
theorem XQ {l : List Int} {a b : Nat} (ha : a < l.length) (hb : b < l.length) (h1 : 0 ≤ l.getD a 0) (h2 : 0 ≤ l.getD b 0) (h : II l a = II l b) : a = b := by
 rcases Nat.lt_trichotomy a b with h3 | h3 | h3
 ·have := Pc l (a := a + 1) (b := b) h3 (by omega)
  rw [HP l a ha, if_pos h1] at this; omega
 ·exact h3
 ·have := Pc l (a := b + 1) (b := a) h3 (by omega)
  rw [HP l b hb, if_pos h2] at this; omega
structure WP (l : List Int) (o : List Int) : Prop where
 len : o.length = II l l.length
 at_ : ∀ b, b < o.length → ∃ i : Nat, o.getD b 0 = (i : Int) ∧ i < l.length ∧ 0 ≤ l.getD i 0 ∧ II l i = b
theorem So (N : Nat) (l o : List Int) (k : Nat) (acc : List Ab) (hN : N ≤ 1000000) (h20 : 20 ≤ N) (hl : l.length ≤ 6) (ho : WP l o) (hk : k < 64) (j : List Int → Option (List Ab × Int)) :
  C6 N o (acc, (k : Int)) j N (l, 0) = j (Xi l k) := by
 have hol := Ld l l.length (zB4 _)
 have hoL := ho.len
 obtain ⟨x, e, h1, h2⟩ := Fk (A := List Int) (C6 N o (acc, (k : Int)) j) (fun a k => (a, k)) o.length j
  (fun b a => a.length = l.length ∧ ∀ q, q < l.length → a.getD q 0 = if 0 ≤ l.getD q 0 ∧ II l q < b ∧ k.testBit (II l q) = true then -1 else l.getD q 0)
  (fun n b a hb ha => by
   obtain ⟨i, hi1, hi2, hi3, hi4⟩ := ho.at_ b hb
   have hbit := UF ⟨k, hk⟩ ⟨b, by omega⟩
   rw [C6]
   simp only [Bc]
   rw [AD (by omega), Db (d := 0) hb]
   simp only [oS]
   rw [Aq (by omega), hi1, hbit.1, Db (d := 0) (show i < a.length by rw [ha.1]; exact hi2), AE (by omega)]
   simp only [oS, zA9]
   cases hkb : k.testBit b
   ·refine ⟨a, rfl, ha.1, fun q hq => ?_⟩
    rw [ha.2 q hq]
    by_cases hqb : II l q = b
    ·rw [hqb, hkb]; simp
    ·by_cases h3 : II l q < b
     ·have : II l q < b + 1 := by omega
      simp [h3, this]
     ·have : ¬ II l q < b + 1 := by omega
      simp [h3, this]
   ·refine ⟨a.set i (-1), rfl, by simp [ha.1], fun q hq => ?_⟩
    rw [Jg (by rw [ha.1]; exact hi2), ha.2 q hq]
    by_cases hqi : q = i
    ·subst hqi
     rw [if_pos rfl, if_pos ⟨hi3, by omega, by rw [hi4]; exact hkb⟩]
    ·rw [if_neg hqi]
     by_cases h0 : 0 ≤ l.getD q 0
     ·have hne : II l q ≠ b := fun h => hqi (XQ hq hi2 h0 hi3 (by omega))
      by_cases h3 : II l q < b
      ·have : II l q < b + 1 := by omega
       simp [h3, this]
      ·have : ¬ II l q < b + 1 := by omega
       simp [h3, this]
     ·rw [if_neg (fun h => h0 h.1), if_neg (fun h => h0 h.1)])
  (fun n a _ => by
   rw [C6]
   simp only [Bc]
   rw [AA (by omega)]) N 0 l (zB2 _) (by omega) ⟨rfl, fun q hq => by simp⟩
 have e' : C6 N o (acc, (k : Int)) j N (l, 0) = j x := e
 rw [e']
 congr 1
 refine FM (by rw [MG, h1]) fun q hq => ?_
 rw [h1] at hq
 rw [h2 q hq, Ry _ _ _ hq, Nh]
 by_cases h0 : 0 ≤ l.getD q 0
 ·have h3 := Pc l (a := q + 1) (b := l.length) hq (zB4 _)
  rw [HP l q hq, if_pos h0] at h3
  have : II l q < o.length := by omega
  simp [this]
 ·rw [if_neg (fun h => h0 h.1), if_neg (fun h => h0 h.1)]
theorem Sk (N : Nat) (m : Ab) (k : Nat) (acc : List Ab) (hN : N ≤ 1000000) (h20 : 20 ≤ N) (hl : m.fa.length ≤ 6) (hk : k < 64) (j : List Int → Option (List Ab)) :
  B2 N m (acc, (k : Int)) j N (m.fa, 0, 0) = j (Xi m.fa k) := by
 obtain ⟨⟨x, pl⟩, e, h1, h2, h3⟩ := Fk (A := List Int × Nat) (B2 N m (acc, (k : Int)) j) (fun a k => (a.1, (a.2 : Int), k)) m.fa.length (fun a => j a.1)
  (fun i a => a.2 = II m.fa i ∧ a.1.length = m.fa.length ∧ ∀ q, q < m.fa.length → a.1.getD q 0 = if q < i then Nh m.fa k q else m.fa.getD q 0)
  (fun n i a hi ha => by
   obtain ⟨a, pl⟩ := a
   obtain ⟨a1, a2, a3⟩ := ha
   simp only at a1 a2 a3
   have hple := Ld m.fa i (by omega)
   have hbit := UF ⟨k, hk⟩ ⟨pl, by omega⟩
   have hs := HP m.fa i hi
   rw [B2]
   simp only [Bc]
   rw [AD (by omega), Db (d := 0) hi]
   simp only [oS]
   rw [AE (by omega)]
   by_cases h0 : m.fa.getD i 0 < 0
   ·rw [AD h0]
    refine ⟨(a, pl), rfl, by simp only; rw [hs, if_neg (by omega), a1]; rfl, a2, fun q hq => ?_⟩
    simp only
    rw [a3 q hq]
    by_cases hqi : q = i
    ·subst hqi
     rw [if_neg (by omega), if_pos (by omega), Nh, if_neg (by omega)]
    ·by_cases h4 : q < i
     ·rw [if_pos h4, if_pos (by omega)]
     ·rw [if_neg h4, if_neg (by omega)]
   ·rw [AA h0, Aq (by omega), Db (d := 0) (show i < a.length by omega), hbit.2, AE (by omega)]
    simp only [oS, zA9]
    cases hkb : k.testBit pl
    ·refine ⟨(a, pl + 1), rfl, by simp only; rw [hs, if_pos (by omega), a1], a2, fun q hq => ?_⟩
     simp only
     rw [a3 q hq]
     by_cases hqi : q = i
     ·subst hqi
      rw [if_neg (by omega), if_pos (by omega), Nh, ← a1, hkb]; simp
     ·by_cases h4 : q < i
      ·rw [if_pos h4, if_pos (by omega)]
      ·rw [if_neg h4, if_neg (by omega)]
    ·refine ⟨(a.set i (-1), pl + 1), rfl, by simp only; rw [hs, if_pos (by omega), a1], by simp [a2], fun q hq => ?_⟩
     simp only
     rw [Jg (by omega), a3 q hq]
     by_cases hqi : q = i
     ·subst hqi
      rw [if_pos rfl, if_pos (by omega), Nh, ← a1, if_pos ⟨by omega, hkb⟩]
     ·rw [if_neg hqi]
      by_cases h4 : q < i
      ·rw [if_pos h4, if_pos (by omega)]
      ·rw [if_neg h4, if_neg (by omega)])
  (fun n a _ => by
   rw [B2]
   simp only [Bc]
   rw [AA (by omega)]) N 0 (m.fa, 0) (zB2 _) (by omega) ⟨(I4 _).symm, rfl, fun q hq => by simp⟩
 have e' : B2 N m (acc, (k : Int)) j N (m.fa, 0, 0) = j x := e
 rw [e']
 congr 1
 simp only at h2 h3
 refine FM (by rw [MG, h2]) fun q hq => ?_
 rw [h2] at hq
 rw [h3 q hq, if_pos hq, Ry _ _ _ hq]
theorem Xf (N : Nat) (m : Ab) (hN : N ≤ 1000000) (h20 : 20 ≤ N) (hl : m.fa.length ≤ 6) (j : List Int → Option (List Ab × Int)) :
  ∃ o, D6 N m j N ([], 0) = j o ∧ WP m.fa o := by
 obtain ⟨o, e, h1, h2⟩ := Fk (A := List Int) (D6 N m j) (fun a k => (a, k)) m.fa.length j
  (fun i o => o.length = II m.fa i ∧ ∀ b, b < o.length → ∃ q : Nat, o.getD b 0 = (q : Int) ∧ q < m.fa.length ∧ 0 ≤ m.fa.getD q 0 ∧ II m.fa q = b)
  (fun n i o hi ho => by
   have hple := Ld m.fa i (by omega)
   have hs := HP m.fa i hi
   rw [D6]
   simp only [Bc]
   rw [AD (by omega), Db (d := 0) hi]
   simp only [oS]
   rw [AE (by omega)]
   by_cases h0 : 0 ≤ m.fa.getD i 0
   ·rw [AD h0, Aq (by rw [ho.1]; unfold Dw; simp; omega)]
    refine ⟨o ++ [(i : Int)], rfl, by rw [hs, if_pos h0, ← ho.1]; simp, ?_⟩
    rw [zD4]
    exact O2 (P := fun b y => ∃ q : Nat, y = (q : Int) ∧ q < m.fa.length ∧ 0 ≤ m.fa.getD q 0 ∧ II m.fa q = b) rfl ho.2 ⟨i, rfl, hi, h0, ho.1.symm⟩
   ·rw [AA h0]
    exact ⟨o, rfl, by rw [hs, if_neg h0, ho.1]; rfl, ho.2⟩)
  (fun n a _ => by
   rw [D6]
   simp only [Bc]
   rw [AA (by omega)]) N 0 [] (zB2 _) (by omega) ⟨(I4 _).symm, fun b hb => by simp at hb⟩
 exact ⟨o, e, h1, h2⟩
theorem L2 {n : Nat} (h : n ≤ 6) : 2 ^ n ≤ 64 := Nat.pow_le_pow_right (n := 2) (by omega) h
theorem Ok {n : Nat} (h : n ≤ 6) : Ee .i64 1 (n : Int) = ((2 ^ n : Nat) : Int) := XG ⟨n, by omega⟩
theorem KM {β : Type} (f : Nat → β) (n : Nat) : (zB1 (n + 1)).map f = (zB1 n).map f ++ [f n] := by
 rw [zG0, zI1]; rfl
theorem Px (N : Nat) (p : Aa) (m : Ab) (hN : N ≤ 1000000) (h20 : 100 ≤ N) (hw : LL JT m.fe) (hv : Do p m = 0) : Hd N p m = some (Gr m, 0) := by
 obtain ⟨hp, hm⟩ := Iq hw hv
 have hnv := hp.nv
 have hnt := hp.nt
 have hl : m.fa.length ≤ 6 := by rw [hm.next]; omega
 unfold Hd
 rw [HE N p m hN (by omega) hw, hv]
 simp only [oS, bne_self_eq_false, Am]
 obtain ⟨o, e, ho⟩ := Xf N m hN (by omega) hl (fun (v4 : (List Int)) =>
   (DT (0 ≤ (v4.length : Int))).bind fun _ =>
   C7 N m v4 (fun (v12 : (List Ab)) =>
    some (v12, 0)) N (([] : List Ab), 0))
 rw [e, Aq (by omega)]
 have hoL := ho.len
 have hol := Ld m.fa m.fa.length (zB4 _)
 have hpow := L2 (show II m.fa m.fa.length ≤ 6 by omega)
 obtain ⟨a, e2, h1⟩ := Fk (A := List Ab) (C7 N m o fun v12 => some (v12, 0)) (fun a k => (a, k)) (2 ^ II m.fa m.fa.length) (fun v12 => some (v12, 0))
  (fun i a => a = (zB1 i).map (Zg m))
  (fun n i a hi ha => by
   refine ⟨a ++ [Zg m i], ?_, by rw [KM, ha]⟩
   have hal : a.length = i := by rw [ha]; simp
   rw [C7]
   rw [hoL, Ok (n := II m.fa m.fa.length) (by omega), AD (by omega), J4 N m.fd (by have := hm.base; unfold Dw; omega), J4 N m.fa (by unfold Dw; omega), P4 N m.fe (by have := hm.held; unfold Dw; omega)]
   simp only [oS]
   rw [So N m.fa o i a hN (by omega) hl ho (by omega), Aq (by rw [hal]; unfold Dw; simp; omega), AE (by omega)]
   rfl)
  (fun n a _ => by
   rw [C7]
   rw [hoL, Ok (n := II m.fa m.fa.length) (by omega), AA (by simp)]) N 0 [] (zB2 _) (by omega) rfl
 have e2' : C7 N m o (fun v12 => some (v12, 0)) N ([], 0) = some (a, 0) := e2
 rw [e2', h1]; rfl
theorem TC (N : Nat) (m : Ab) (h1 : m.fd.length ≤ Dw) (h2 : m.fa.length ≤ Dw) (h3 : m.fe.length ≤ Dw) : Ew N m = some m := by
 unfold Ew
 rw [Aq (by simpa using h1), Aq (by simpa using h2), Aq (by simpa using h3)]; rfl
theorem TU (N : Nat) (m : Ab) (hN : N ≤ 1000000) (h20 : 100 ≤ N) (h1 : m.fd.length ≤ 100) (hl : m.fa.length ≤ 6) (h3 : m.fe.length ≤ 100) : EA N m = some (Gr m) := by
 unfold EA
 obtain ⟨c, e, hc⟩ := Fk (A := Nat) (CG N m (fun (v2 : Int) =>
  BC N m v2 (fun (v8 : (List Ab)) => some v8) N (([] : List Ab), 0))) (fun a k => ((a : Int), k)) m.fa.length (fun a => BC N m (a : Int) (fun (v8 : (List Ab)) => some v8) N (([] : List Ab), 0))
  (fun i a => a = II m.fa i)
  (fun n i a hi ha => by
   have hple := Ld m.fa i (by omega)
   have hs := HP m.fa i hi
   rw [CG]
   simp only [Bc]
   rw [AD (by omega), Db (d := 0) hi]
   simp only [oS]
   rw [AE (by omega), AE (by omega)]
   by_cases h0 : 0 ≤ m.fa.getD i 0
   ·rw [AD h0]
    exact ⟨a + 1, rfl, by rw [hs, if_pos h0, ha]⟩
   ·rw [AA h0]
    exact ⟨a, rfl, by rw [hs, if_neg h0, ha]; rfl⟩)
  (fun n a _ => by
   rw [CG]
   simp only [Bc]
   rw [AA (by omega)]) N 0 0 (zB2 _) (by omega) (I4 _).symm
 have e' : CG N m (fun (v2 : Int) => BC N m v2 (fun (v8 : (List Ab)) => some v8) N (([] : List Ab), 0)) N (0, 0) = _ := e
 rw [e', hc]
 have hol := Ld m.fa m.fa.length (zB4 _)
 have hpow := L2 (show II m.fa m.fa.length ≤ 6 by omega)
 obtain ⟨a, e2, h1⟩ := Fk (A := List Ab) (BC N m (II m.fa m.fa.length : Int) fun v8 => some v8) (fun a k => (a, k)) (2 ^ II m.fa m.fa.length) some
  (fun i a => a = (zB1 i).map (Zg m))
  (fun n i a hi ha => by
   refine ⟨a ++ [Zg m i], ?_, by rw [KM, ha]⟩
   have hal : a.length = i := by rw [ha]; simp
   rw [BC]
   rw [Aq (by omega), Ok (n := II m.fa m.fa.length) (by omega), AD (by omega), TC N m (by unfold Dw; omega) (by unfold Dw; omega) (by unfold Dw; omega)]
   simp only [oS]
   rw [Sk N m i a hN (by omega) hl (by omega), Aq (by rw [hal]; unfold Dw; simp; omega), AE (by omega)]
   rfl)
  (fun n a _ => by
   rw [BC]
   rw [Aq (by omega), Ok (n := II m.fa m.fa.length) (by omega), AA (by simp)]) N 0 [] (zB2 _) (by omega) rfl
 have e2' : BC N m (II m.fa m.fa.length : Int) (fun v8 => some v8) N ([], 0) = some a := e2
 rw [e2', h1]; rfl
theorem S9 (N : Nat) (p : Aa) (m : Ab) (hN : N ≤ 1000000) (h20 : 100 ≤ N) (hp : A2 p) (hm : BI p m) : EA N m = some (Gr m) := by
 have := hp.nv
 have := hp.nt
 exact TU N m hN h20 (by rw [hm.base]; omega) (by rw [hm.next]; omega) (by rw [hm.held]; omega)
theorem Kx {p : Aa} {m : Ab} (hm : BI p m) : LL JT m.fe := by
 intro x hx
 obtain ⟨q, hq⟩ := zA8.1 hx
 have h1 := (lI.1 hq).1
 have := hm.range q (by rw [← hm.held]; exact h1)
 rw [lD, hq] at this
 unfold JT
 simp only [zC9] at this
 simp [Lit.wf, IntKind.min, IntKind.max, IntKind.signed, IntKind.bits]
 omega
def JL (p : Aa) (x : Ab) : Option (Ab × Ad) := match DY p x with
 | [] => none
 | c :: _ => some (x, c)
def Iw (p : Aa) (m : Ab) : Option (Ab × Ad) := C3 (fun _ x => JL p x) 0 (Gr m)
def Hs : Ab := ⟨[], [], []⟩
def WG : Ad := ⟨0, 0, 0⟩
def Nv (p : Aa) (m : Ab) : Ab × Ad × Int := match Iw p m with
 | some (x, c) => (x, c, 0)
 | none => (Hs, WG, 15)
def BF (p : Aa) (m : Ab) : Bool := (Iw p m).isNone
theorem Pd {m : Ab} (hl : m.fa.length ≤ 6) : (Gr m).length ≤ 64 := by
 unfold Gr
 have hol := Ld m.fa m.fa.length (zB4 _)
 have hpow := L2 (show II m.fa m.fa.length ≤ 6 by omega)
 simpa using hpow
theorem Pk {α R R' : Type} (f : Nat → α → Option R) (g : R → R') : ∀ (i : Nat) (xs : List α), C3 (fun i x => (f i x).map g) i xs = (C3 f i xs).map g
 | _, [] => rfl
 | i, x :: xs => by
  rw [Gm, Gm]
  cases f i x
  ·exact Pk f g (i + 1) xs
  ·rfl
theorem Mi (N : Nat) (p : Aa) (m : Ab) (hN : N ≤ 1000000) (h20 : 100 ≤ N) (hw : LL JT m.fe) (hv : Do p m = 0) : GR N p m = some (Nv p m) := by
 obtain ⟨hp, hm⟩ := Iq hw hv
 have hnv := hp.nv
 unfold GR
 rw [Px N p m hN h20 hw hv]
 simp only [oS, bne_self_eq_false, Am]
 have hal := Pd (m := m) (by rw [hm.next]; omega)
 have := Di (EZ N p (Gr m, 0) fun _ => some (Hs, WG, 15)) (Gr m) (some (Hs, WG, 15)) (fun _ x => (JL p x).map fun y => (y.1, y.2, 0))
  (fun n i x hx => by
   have hi := (lI.1 hx).1
   have hx2 := Yy hp hm (OS.1 (lM hx))
   rw [EZ, AD (by simp only; omega)]
   simp only [AU, hx, oS]
   rw [Nb N p x hN (by omega) hp hx2, AE (by omega)]
   simp only [oS, JL]
   cases DY p x with
   | nil => rfl
   | cons c cs => rw [AD (by simp only [zC6]; omega)]; rfl)
  (fun n => by rw [EZ, AA (by simp)]) N 0 (zB2 _) (by omega)
 rw [zC0, Pk] at this
 exact this.trans (by
  unfold Nv Iw
  cases C3 (fun _ x => JL p x) 0 (Gr m) <;> rfl)
theorem LQ (N : Nat) (p : Aa) (m : Ab) (hN : N ≤ 1000000) (h20 : 100 ≤ N) (hw : LL JT m.fe) (hv : Do p m = 0) : EF N p m = some (BF p m, 0) := by
 unfold EF
 rw [Mi N p m hN h20 hw hv]
 unfold BF Nv
 cases Iw p m <;> rfl
theorem RI {α R : Type} {f : Nat → α → Option R} {i : Nat} {xs : List α} : (C3 f i xs).isNone = true ↔ ∀ j x, xs[j]? = some x → f (i + j) x = none := by
 constructor
 ·intro h
  exact Ff (Option.isNone_iff_eq_none.1 h)
 ·intro h
  rw [E4 h]; rfl
theorem SG {p : Aa} {x : Ab} : JL p x = none ↔ DY p x = [] := by
 unfold JL
 cases DY p x <;> simp
theorem RL (N : Nat) (p : Aa) (m : Ab) (hN : N ≤ 1000000) (h20 : 100 ≤ N) (hp : A2 p) (hm : BI p m) : Ev N p m = some (DY p m).isEmpty := by
 unfold Ev
 rw [Nm N p m hN (by omega) hp hm]
 simp only [oS]
 cases DY p m with
 | nil => rfl
 | cons c cs =>
  rw [beq_eq_false_iff_ne.2 (by simp only [zC6]; omega)]; rfl
theorem LJ (N : Nat) (p : Aa) (m : Ab) (hN : N ≤ 1000000) (h20 : 100 ≤ N) (hp : A2 p) (hm : BI p m) : Df N p m = some (BF p m) := by
 have hnv := hp.nv
 unfold Df
 rw [S9 N p m hN h20 hp hm]
 simp only [oS]
 have hal := Pd (m := m) (by rw [hm.next]; omega)
 have := Di (Cc N p (Gr m) fun _ => some true) (Gr m) (some true) (fun _ x => (JL p x).map fun _ => false)
  (fun n i x hx => by
   have hi := (lI.1 hx).1
   have hx2 := Yy hp hm (OS.1 (lM hx))
   rw [Cc, AD (by omega)]
   simp only [AU, hx, oS]
   rw [RL N p x hN h20 hp hx2, AE (by omega)]
   simp only [oS, JL]
   cases DY p x with
   | nil => rfl
   | cons c cs => rfl)
  (fun n => by rw [Cc, AA (by simp)]) N 0 (zB2 _) (by omega)
 rw [zC0, Pk] at this
 refine Eq.trans this ?_
 unfold BF Iw
 cases C3 (fun _ x => JL p x) 0 (Gr m) <;> rfl
theorem NV {N : Nat} {a b : Ab} (hN : N ≤ 1000000) (h1 : a.fd.length < N) (h2 : a.fa.length < N) (h3 : a.fe.length < N) (h4 : b.fe.length < N) (wa : LL JT a.fe) (wb : LL JT b.fe) : B3 N a b = some (GD a b) := by
 unfold B3
 rw [OO h1 hN, OO h2 hN, NQ h3 hN wa, NQ h4 hN wb]
 simp only [oS]
 rw [OO h3 hN]
 unfold GD PA
 by_cases h1 : EQ a.fd b.fd = 0
 ·simp only [h1, PA]
  by_cases h2 : EQ a.fa b.fa = 0
  ·simp only [h2]
   by_cases h3 : EQ a.fe b.fe = 0 <;> simp [h3]
  ·have : (EQ a.fa b.fa != 0) = true := by simpa using h2
   simp [h2, this]
 ·have : (EQ a.fd b.fd != 0) = true := by simpa using h1
  simp [h1, this]
theorem Rl (N : Nat) (a b : List Int) (hN : N ≤ 1000000) (h : a.length < N) : D2 N a b = some (a == b) := by
 unfold D2
 by_cases hl : a.length = b.length
 ·rw [hl, bne_self_eq_false, Am]
  have := Di (Ch N a b fun _ => some true) a (some true) (fun i x => if x = b.getD i 0 then none else some false)
   (fun n i x hx => by
    have hi := (lI.1 hx).1
    rw [Ch, AD (by omega), AU, hx, Db (d := 0) (by omega)]
    simp only [oS]
    rw [AE (by omega)]
    by_cases h : x = b.getD i 0
    ·rw [if_pos h, h, bne_self_eq_false]; rfl
    ·rw [if_neg h, bne_iff_ne.2 h]; rfl)
   (fun n => by rw [Ch, AA (by simp)]) N 0 (zB2 _) (by omega)
  refine this.trans ?_
  rw [zC0]
  cases hs : C3 (fun i x => if x = b.getD i 0 then none else some false) 0 a with
  | none =>
   have : a = b := FM hl fun q hq => by
    have hx : a[q]? = some (a.getD q 0) := by rw [lD]; simp [hq]
    have := Ff hs q _ hx
    rw [zA1] at this
    split at this
    ·assumption
    ·cases this
   rw [this, beq_self_eq_true]; rfl
  | some r =>
   obtain ⟨j, x, hx, hf⟩ := El hs
   rw [zA1] at hf
   split at hf
   ·cases hf
   ·rename_i hne
    cases hf
    have : (a == b) = false := beq_eq_false_iff_ne.2 fun e => hne (by rw [← e, lD, hx]; rfl)
    rw [this]; rfl
 ·have h1 : ((a.length : Int) != (b.length : Int)) = true := bne_iff_ne.2 (by omega)
  have h2 : (a == b) = false := beq_eq_false_iff_ne.2 fun e => hl (by rw [e])
  rw [h1, h2]; rfl
theorem QG (N : Nat) (a : List Int) (f : Int → Option Bool) (g : Int → Bool) (hN : N ≤ 1000000) (h : a.length < N) (hf : ∀ x, x ∈ a → f x = some (g x)) : CL N a f = some (a.any g) := by
 unfold CL D8
 have := Di (Bg N a f fun _ => some (-1)) a (some (-1)) (fun i x => if g x then some (i : Int) else none)
  (fun n i x hx => by
   have hi := (lI.1 hx).1
   rw [Bg, AD (by omega), AU, hx]
   simp only [oS]
   rw [hf x (lM hx), AE (by omega)]
   simp only [oS]
   cases g x <;> rfl)
  (fun n => by rw [Bg, AA (by simp)]) N 0 (zB2 _) (by omega)
 have e : Bg N a f (fun _ => some (-1)) N 0 = _ := this
 rw [e, zC0]
 cases hs : C3 (fun i x => if g x then some (i : Int) else none) 0 a with
 | none =>
  have : a.any g = false := by
   rw [List.any_eq_false]
   intro x hx
   obtain ⟨j, hj⟩ := zA8.1 hx
   have := Ff hs j x hj
   intro hg
   rw [hg] at this; cases this
  rw [this]; rfl
 | some r =>
  obtain ⟨j, x, hx, hf⟩ := El hs
  split at hf
  ·rename_i hg
   cases hf
   have : a.any g = true := zF0.2 ⟨x, lM hx, hg⟩
   rw [this]
   simp only [BR, oS]
   rw [decide_eq_true (by omega)]
  ·cases hf
def IF (p : Aa) (m : Ab) : Bool := Do p m == 0 && (m.fd == p.fi && m.fa.all (fun n => decide (n < 0)))
theorem Sx (N : Nat) (p : Aa) (m : Ab) (hN : N ≤ 1000000) (h20 : 100 ≤ N) (hw : LL JT m.fe) : Ht N p m = some (IF p m) := by
 unfold Ht IF
 rw [HE N p m hN (by omega) hw]
 simp only [Bc, oS]
 by_cases hv : Do p m = 0
 ·obtain ⟨hp, hm⟩ := Iq hw hv
  have := hp.nv
  rw [hv, Rl N _ _ hN (by rw [hm.base]; omega), QG N m.fa (fun x => G1 N x) (fun n => decide (0 ≤ n)) hN (by rw [hm.next]; omega) (fun x _ => rfl)]
  simp only [oS, beq_self_eq_true, AI, zF1]
  have : m.fa.all (fun n => decide (n < 0)) = !m.fa.any (fun n => decide (0 ≤ n)) := by
   rw [List.not_any_eq_all_not]
   congr 1; funext n
   by_cases h : 0 ≤ n
   ·rw [decide_eq_true h, decide_eq_false (by omega)]; rfl
   ·rw [decide_eq_false h, decide_eq_true (by omega)]; rfl
  rw [this]
  cases m.fd == p.fi <;> simp
 ·rw [beq_eq_false_iff_ne.2 hv]; rfl
theorem SM (N : Nat) (p : Aa) (m : Ab) (hN : N ≤ 1000000) (h20 : 100 ≤ N) (hw : LL JT m.fe) : E1 N p m = some (IF p m) := by
 unfold E1 IF
 rw [MW N p m hN (by omega)]
 simp only [oS]
 by_cases hv : Do p m = 0
 ·obtain ⟨hp, hm⟩ := Iq hw hv
  have h1 := hp.nv
  have h2 := hp.tgt
  have h3 := hm.base
  have h4 := hm.next
  rw [hv]
  simp only [bne_self_eq_false, Am, beq_self_eq_true, zF1]
  have := Di (CW N p m fun _ => some true) m.fd (some true) (fun i x => if 0 ≤ m.fa.getD i 0 ∨ x ≠ p.fi.getD i 0 then some false else none)
   (fun n i x hx => by
    have hi := (lI.1 hx).1
    rw [CW, AD (by omega)]
    simp only [Bc]
    rw [show Bx m.fd (i : Int) = some x from by rw [AU, hx], Db (d := 0) (by omega), Db (d := 0) (by omega)]
    simp only [oS]
    rw [AE (by omega)]
    by_cases k1 : 0 ≤ m.fa.getD i 0
    ·rw [AD k1, if_pos (.inl k1)]; rfl
    ·rw [AA k1]
     by_cases k2 : x = p.fi.getD i 0
     ·rw [if_neg (fun h => h.elim k1 (fun h => h k2)), k2, bne_self_eq_false]; rfl
     ·rw [if_pos (.inr k2), bne_iff_ne.2 k2]; rfl)
   (fun n => by rw [CW, AA (by simp)]) N 0 (zB2 _) (by omega)
  refine this.trans ?_
  rw [zC0]
  cases hs : C3 (fun i x => if 0 ≤ m.fa.getD i 0 ∨ x ≠ p.fi.getD i 0 then some false else none) 0 m.fd with
  | none =>
   have key : ∀ q, q < m.fd.length → m.fd.getD q 0 = p.fi.getD q 0 ∧ ¬ 0 ≤ m.fa.getD q 0 := by
    intro q hq
    have hx : m.fd[q]? = some (m.fd.getD q 0) := by rw [lD]; simp [hq]
    have := Ff hs q _ hx
    rw [zA1] at this
    split at this
    ·cases this
    ·rename_i h; exact ⟨Decidable.not_not.1 fun h' => h (.inr h'), fun h' => h (.inl h')⟩
   have e1 : m.fd = p.fi := FM (by omega) fun q hq => (key q hq).1
   have e2 : m.fa.all (fun n => decide (n < 0)) = true := by
    rw [zA5]
    intro n hn
    obtain ⟨q, hq⟩ := zA8.1 hn
    have hl := (lI.1 hq).1
    have := (key q (by omega)).2
    rw [lD, hq] at this
    simp only [zC9] at this
    simp only [decide_eq_true_eq]
    omega
   rw [e2, e1]; simp [BR]
  | some r =>
   obtain ⟨j, x, hx, hf⟩ := El hs
   rw [zA1] at hf
   have hj := (lI.1 hx).1
   split at hf
   ·rename_i h
    cases hf
    have : (m.fd == p.fi && m.fa.all (fun n => decide (n < 0))) = false := by
     rw [Bool.and_eq_false_iff]
     rcases h with h | h
     ·right
      rw [List.all_eq_false]
      refine ⟨m.fa.getD j 0, ?_, ?_⟩
      ·rw [lD, zB6 (by omega)]; exact zE9 _
      ·simp only [decide_eq_true_eq]; omega
     ·left
      exact beq_eq_false_iff_ne.2 fun e => h (by rw [← e, lD, hx]; rfl)
    rw [this]; rfl
   ·cases hf
 ·rw [bne_iff_ne.2 hv, beq_eq_false_iff_ne.2 hv]; rfl
open Go
structure Vk (x y : An) : Prop where
 k : y.ff = x.ff
 f : y.fg = x.fg
 t : y.fm = x.fm
 a : y.ft = x.ft
 r : y.fo = x.fo
 l : y.fk.length = x.fk.length
 o : ∀ (u : Nat) (row : List Bool), x.fk[u]? = some row → ∃ row', y.fk[u]? = some row' ∧ row'.length = row.length ∧ ∀ v : Nat, row[v]? = some true → row'[v]? = some true
structure Vp (p q : Aa) : Prop where
 v : q.fb = p.fb
 n : q.fh = p.fh
 t : q.fi = p.fi
 l : q.fc.length = p.fc.length
 o : ∀ (i : Nat) (x : An), p.fc[i]? = some x → ∃ y, q.fc[i]? = some y ∧ Vk x y
theorem Vk.st {x y : An} (h : Vk x y) : B5 y = B5 x := by unfold B5; rw [h.k]
theorem RQ {α R : Type} {f g : Nat → α → Option R} : ∀ {i : Nat} {xs ys : List α}, ys.length = xs.length → (∀ (j : Nat) x, xs[j]? = some x → ∃ y, ys[j]? = some y ∧ g (i + j) y = f (i + j) x) → C3 g i ys = C3 f i xs
 | _, [], [], _, _ => rfl
 | _, [], y :: ys, h, _ => by simp at h
 | _, x :: xs, [], h, _ => by simp at h
 | i, x :: xs, y :: ys, h, hh => by
  obtain ⟨y', e1, e2⟩ := hh 0 x rfl
  simp only [zI8, Option.some.injEq] at e1
  subst e1
  rw [Gm, Gm, show g i y = f i x from e2, RQ (by simpa using h) fun j x' hx => by
   obtain ⟨y', e1, e2⟩ := hh (j + 1) x' (by simpa using hx)
   exact ⟨y', by simpa using e1, by rwa [show i + (j + 1) = i + 1 + j from by omega] at e2⟩]
theorem XE {x y : An} (h : Vk x y) (m : Int) : (y.fk.all fun r => decide ((r.length : Int) = m)) = (x.fk.all fun r => decide ((r.length : Int) = m)) := by
 rw [zJ8, zA5, zA5]
 constructor
 ·intro hy r hr
  obtain ⟨u, hu⟩ := zA8.1 hr
  obtain ⟨r', e1, e2, _⟩ := h.o u r hu
  have := hy r' (lM e1)
  rwa [e2] at this
 ·intro hx r hr
  obtain ⟨u, hu⟩ := zA8.1 hr
  have hl := (lI.1 hu).1
  have hz : x.fk[u]? = some (x.fk[u]'(by rw [← h.l]; exact hl)) := by simp [show u < x.fk.length by rw [← h.l]; exact hl]
  obtain ⟨r', e1, e2, _⟩ := h.o u _ hz
  rw [hu] at e1; cases e1
  rw [e2]
  exact hx _ (lM hz)
theorem Zb {x y : An} (h : Vk x y) (n m : Int) : sq y.fk n m = sq x.fk n m := by
 unfold sq; rw [h.l, XE h]
theorem Tx {p q : Aa} (h : Vp p q) {x y : An} (hx : Vk x y) : DW q y = DW p x := by
 unfold DW
 simp only [h.v, hx.k, hx.f, hx.t, hx.a, hx.r, Zb hx]
theorem Ot {p q : Aa} (h : Vp p q) : By q = By p := by
 unfold By
 have e1 : C3 (KX q) 0 q.fc = C3 (KX p) 0 p.fc := RQ h.l fun j x hx => by
  obtain ⟨y, hy, ht⟩ := h.o j x hx
  exact ⟨y, hy, by unfold KX; rw [Tx h ht]⟩
 have e2 : FO q = FO p := by unfold FO; rw [h.n, h.t]
 rw [e1, e2, h.v, h.n, h.t, h.l]
theorem Tk {p q : Aa} (h : Vp p q) {m : Ab} (hc : DY p m = []) : DY q m = [] := by
 unfold DY at hc ⊢
 rw [JN] at hc ⊢
 intro i y hy
 have hi : i < p.fc.length := by rw [← h.l]; exact (lI.1 hy).1
 have hx : p.fc[i]? = some p.fc[i] := by simp [hi]
 obtain ⟨y', hy', ht⟩ := h.o i _ hx
 rw [hy] at hy'; cases hy'
 have hci := hc i _ hx
 unfold Js at hci ⊢
 rw [JN] at hci ⊢
 intro u row' hu'
 have hu : u < (p.fc[i]).fk.length := by rw [← ht.l]; exact (lI.1 hu').1
 have hr : (p.fc[i]).fk[u]? = some (p.fc[i]).fk[u] := by simp [hu]
 obtain ⟨r2, e1, e2, e3⟩ := ht.o u _ hr
 rw [hu'] at e1; cases e1
 have hcu := hci u _ hr
 have hw : SK m (0 + i) y (0 + u) = SK m (0 + i) p.fc[i] (0 + u) := by unfold SK; rw [ht.st, ht.f]
 rw [hw]
 cases hwb : SK m (0 + i) p.fc[i] (0 + u)
 ·rfl
 ·rw [hwb, if_pos rfl] at hcu
  rw [if_pos rfl]
  unfold JJ at hcu ⊢
  rw [List.append_eq_nil_iff] at hcu ⊢
  have hfalse : ∀ (v : Nat), row'[v]? = some false → (p.fc[i]).fk[u][v]? = some false := fun v hv => by
   have hvl : v < (p.fc[i]).fk[u].length := by rw [← e2]; exact (lI.1 hv).1
   have hz : (p.fc[i]).fk[u][v]? = some (p.fc[i]).fk[u][v] := by simp [hvl]
   cases hb : (p.fc[i]).fk[u][v]
   ·rw [hz, hb]
   ·rw [hb] at hz
    have := e3 v hz
    rw [hv] at this; cases this
  refine ⟨?_, ?_⟩
  ·have h1 := hcu.1
   rw [JN] at h1 ⊢
   intro v ok hv
   cases ok
   ·have := h1 v false (hfalse v hv)
    unfold gC at this ⊢
    rw [ht.t, ht.a]; exact this
   ·unfold gC; simp
  ·have h2 := hcu.2
   rw [ht.a]
   cases ha : (p.fc[i]).ft
   ·simp
   ·rw [ha] at h2
    cases hb : Lw (hC m p.fc[i]) 0 (p.fc[i]).fk[u]
    ·rw [hb] at h2; simp at h2
    ·obtain ⟨v, ok, hv, hh⟩ := OP.1 hb
     unfold hC at hh
     rw [zA4] at hh
     have hok : ok = true := hh.2
     subst hok
     have : Lw (hC m y) 0 row' = true := OP.2 ⟨v, true, e3 v hv, by unfold hC; rw [ht.t, hh.1]; rfl⟩
     rw [this]; simp
theorem MP {p q : Aa} (h : Vp p q) {m : Ab} (hr : BF p m = true) : BF q m = true := by
 unfold BF Iw at hr ⊢
 rw [RI] at hr ⊢
 intro j x hx
 have := hr j x hx
 rw [SG] at this ⊢
 exact Tk h this
structure ZS (p : Aa) (m x : Ab) : Prop where
 base : m.fd = x.fd
 next : m.fa = x.fa
 held : ∀ i, i < p.fc.length → ∀ v, DZ (m.fe.getD i 0) v = true → DZ (x.fe.getD i 0) v = true
theorem ZS.refl (p : Aa) (m : Ab) : ZS p m m := ⟨rfl, rfl, fun _ _ _ h => h⟩
theorem ZS.trans {p : Aa} {a b c : Ab} (h : ZS p a b) (g : ZS p b c) : ZS p a c := ⟨h.base.trans g.base, h.next.trans g.next, fun i hi v hv => g.held i hi v (h.held i hi v hv)⟩
structure Ng (xs ys : List An) : Prop where
 l : ys.length = xs.length
 o : ∀ (i : Nat) (x : An), xs[i]? = some x → ∃ y, ys[i]? = some y ∧ Vk x y
theorem Vk.refl (x : An) : Vk x x := ⟨rfl, rfl, rfl, rfl, rfl, rfl, fun _ row h => ⟨row, h, rfl, fun _ h => h⟩⟩
theorem Ng.refl (xs : List An) : Ng xs xs := ⟨rfl, fun _ x h => ⟨x, h, Vk.refl x⟩⟩
theorem Ng.set {xs ys : List An} (h : Ng xs ys) {i u v : Nat} {y : An} {row : List Bool} {b b0 : Bool} (hy : ys[i]? = some y) (hu : y.fk[u]? = some row) (hv : row[v]? = some b0) (hb : b0 = true → b = true) :
  Ng xs (ys.set i ⟨y.ff, y.fg, y.fm, y.ft, y.fk.set u (row.set v b), y.fo⟩) := by
 refine ⟨by rw [zF8]; exact h.l, fun k x hx => ?_⟩
 obtain ⟨z, hz, ht⟩ := h.o k x hx
 by_cases e : i = k
 ·subst e
  rw [hy] at hz; cases hz
  have hi := (lI.1 hy).1
  refine ⟨⟨y.ff, y.fg, y.fm, y.ft, y.fk.set u (row.set v b), y.fo⟩, by rw [zD8, if_pos rfl, if_pos hi], ⟨ht.k, ht.f, ht.t, ht.a, ht.r, by show (y.fk.set u (row.set v b)).length = _; rw [zF8]; exact ht.l, fun w r hw => ?_⟩⟩
  obtain ⟨r', e1, e2, e3⟩ := ht.o w r hw
  by_cases eu : u = w
  ·subst eu
   rw [hu] at e1; cases e1
   have hul := (lI.1 hu).1
   refine ⟨row.set v b, by show (y.fk.set u (row.set v b))[u]? = _; rw [zD8, if_pos rfl, if_pos hul], by rw [zF8]; exact e2, fun q hq => ?_⟩
   have h1 := e3 q hq
   rw [zD8]
   by_cases ev : v = q
   ·subst ev
    rw [hv] at h1; cases h1
    rw [if_pos rfl, if_pos (lI.1 hv).1, hb rfl]
   ·rw [if_neg ev]; exact h1
  ·exact ⟨r', by show (y.fk.set u (row.set v b))[w]? = _; rw [zD8, if_neg eu]; exact e1, e2, e3⟩
 ·exact ⟨z, by rw [zD8, if_neg e]; exact hz, ht⟩
theorem Ng.row {xs ys : List An} (h : Ng xs ys) {i u : Nat} {x : An} {row : List Bool} (hx : xs[i]? = some x) (hu : x.fk[u]? = some row) : ∃ y r, ys[i]? = some y ∧ y.fk[u]? = some r ∧ r.length = row.length := by
 obtain ⟨y, hy, ht⟩ := h.o i x hx
 obtain ⟨r, e1, e2, _⟩ := ht.o u row hu
 exact ⟨y, r, hy, e1, e2⟩
theorem Yg {p : Aa} {t : An} (hp : A2 p) (ht : NS p t) : t.fo.length ≤ 6 ∧ ∀ row, row ∈ t.fo → row.length ≤ 6 := by
 have h1 := Km hp.ver ht.from0.1 ht.from0.2
 refine ⟨?_, fun row hr => by have := ht.reR row hr; omega⟩
 by_cases hk : t.ff = 4
 ·have := ht.reL hk; omega
 ·rw [ht.reN hk]; simp
theorem OC {α : Type} : ∀ (i : Nat) (xs : List α), Cy (fun _ x => [x]) i xs = xs
 | _, [] => rfl
 | i, x :: xs => by rw [Cy, OC (i + 1) xs]; rfl
theorem OM {N : Nat} (h20 : 100 ≤ N) (l : List (List Bool)) (h1 : l.length ≤ 6) (h2 : ∀ row, row ∈ l → row.length ≤ 6) : Dd N l = some l := by
 unfold Dd
 rw [Fr (Cf N l _) (fun a i => (a, i)) l some (fun _ x => [x]) 1 1000
  (fun i x hx => by simp)
  (fun n i x a hx ha => by
   have hi := (lI.1 hx).1
   have hr := h2 x (lM hx)
   rw [Cf]
   simp only [AU, hx, oS]
   rw [AD (by omega), Aq (by simp only [zF7]; unfold Dw; omega), Aq (by simp only [zJ9] at ha ⊢; unfold Dw; omega), AE (by omega)]
   rfl)
  (fun n a => by
   rw [Cf, AA (by omega)]) N [] (by omega) (by simp only [zF7]; omega), OC]
 rfl
theorem SA {N : Nat} (hN : N ≤ 1000000) (h20 : 100 ≤ N) {p : Aa} (hv : By p = 0) : DS N p p.fh p.fi = some (p, 0) := by
 obtain ⟨hp, _⟩ := Cd hv
 have hnt := hp.nt
 have hnv := hp.nv
 have hnow := hp.now
 have htg := hp.tgt
 unfold DS
 rw [J7 N p hN (by omega)]
 simp only [oS, hv, bne_self_eq_false, Am]
 rw [Aq (by simp only [zF7]; unfold Dw; omega), Aq (by simp only [zF7]; unfold Dw; omega), Aq (by simp only [zF7]; unfold Dw; omega)]
 simp only [zG1]
 rw [Fr (B1 N p _) (fun a i => (a, i)) p.fc (fun v7 => (Bn N (Aa.mk p.fb p.fh p.fi v7)).bind fun v14 => AP (v14 != 0) (some (Aa.mk [] [] [] [], v14)) (some (Aa.mk p.fb p.fh p.fi v7, 0))) (fun _ x => [x]) 1 1000
  (fun i x hx => by simp)
  (fun n i x a hx ha => by
   have hi := (lI.1 hx).1
   have ht := Lb (hp.tab x (lM hx))
   have hl := Ll hp ht
   have hr := Yg hp ht
   rw [B1]
   simp only [AU, hx, oS]
   unfold EV
   rw [AD (by omega), OM h20 x.fk hl.1 hl.2, OM h20 x.fo hr.1 hr.2]
   simp only [oS]
   rw [Aq (by simp only [zJ9] at ha ⊢; unfold Dw; omega), AE (by omega)])
  (fun n a => by
   rw [B1, AA (by omega)]) N [] (by omega) (by simp only [zF7]; omega)]
 simp only [zG1, OC]
 rw [J7 N _ hN (by omega)]
 simp only [oS, hv, bne_self_eq_false, Am]
def Fz (p : Aa) (t : An) : Int := if B5 t = true then Ee .u8 1 (p.fh.getD t.fg.toNat 0) else 0
def Dt (p : Aa) : Ab := ⟨p.fh, zA2 p.fh.length (-1), p.fc.map (Fz p)⟩
theorem Vc (N : Nat) (h : 100 ≤ N) (n : Nat) (hn : n ≤ 6) : EG N [(-1)] (n : Int) = some (zA2 n (-1)) := by
 obtain ⟨k, rfl⟩ : ∃ k, N = k + 100 := ⟨N - 100, by omega⟩
 have : n = 0 ∨ n = 1 ∨ n = 2 ∨ n = 3 ∨ n = 4 ∨ n = 5 ∨ n = 6 := by omega
 rcases this with rfl | rfl | rfl | rfl | rfl | rfl | rfl
 all_goals (show _ = _; kernel_rfl)
theorem Sa (T : List Int) (i : Nat) (hi : i < T.length) : (T.take i ++ zA2 (T.length - i) 0).set i (T.getD i 0) = T.take (i + 1) ++ zA2 (T.length - (i + 1)) 0 := by
 have hl : (T.take i).length = i := by simp; omega
 rw [List.set_append_right _ _ (by omega), hl, Nat.sub_self, show T.length - i = (T.length - (i + 1)) + 1 from by omega, List.replicate_succ, List.set_cons_zero, zE4, zD2]
 have : T[i]? = some (T.getD i 0) := by rw [lD]; simp [hi]
 rw [this]; rfl
theorem Vi (T : List Int) (i : Nat) (hi : i < T.length) (h0 : T.getD i 0 = 0) : T.take i ++ zA2 (T.length - i) 0 = T.take (i + 1) ++ zA2 (T.length - (i + 1)) 0 := by
 rw [← Sa T i hi, h0, List.set_append_right _ _ (by rw [List.length_take]; omega)]
 congr 1
 have hl : (T.take i).length = i := by simp; omega
 rw [hl, Nat.sub_self, show T.length - i = (T.length - (i + 1)) + 1 from by omega, List.replicate_succ, List.set_cons_zero]
theorem TO {p : Aa} (hv : By p = 0) {t : An} (ht : t ∈ p.fc) : 0 ≤ t.fg ∧ t.fg.toNat < p.fh.length ∧ 0 ≤ p.fh.getD t.fg.toNat 0 ∧ p.fh.getD t.fg.toNat 0 < 6 ∧ p.fh.getD t.fg.toNat 0 < p.fb.getD t.fg.toNat 0 ∧ t.fg.toNat < p.fb.length := by
 obtain ⟨hp, hr⟩ := Cd hv
 have h1 := I2 (hp.tab t ht)
 have h2 := hr t.fg.toNat (by omega)
 have h3 := H8 hp (i := t.fg.toNat) (by omega)
 have := hp.now
 refine ⟨h1.1, by omega, h2.1, by omega, h2.2.1, by omega⟩
theorem J2 {p : Aa} {i : Nat} {t : An} (ht : p.fc[i]? = some t) : (p.fc.map (Fz p)).getD i 0 = Fz p t := by
 rw [lD, zA6, ht]; rfl
theorem Rb (N : Nat) (p : Aa) (hN : N ≤ 1000000) (h20 : 100 ≤ N) : GH N p = some (if By p = 0 then Dt p else ⟨[], [], []⟩, By p) := by
 unfold GH
 rw [Kl N p hN (by omega)]
 simp only [oS]
 by_cases hv : By p = 0
 ·rw [if_pos hv, hv]
  obtain ⟨hp, _⟩ := Cd hv
  have hnv := hp.nv
  have hnt := hp.nt
  have hnow := hp.now
  rw [bne_self_eq_false, Am, J4 N _ (by simp only [Dw]; omega)]
  simp only [oS]
  rw [Vc N h20 _ (by omega)]
  simp only [oS]
  rw [Aq (by simp only [Dw]; omega)]
  obtain ⟨a', e, ha⟩ := Fk (Es N p fun v7 => some (Ab.mk p.fh (zA2 p.fh.length (-1)) v7, 0)) (fun a i => (a, i)) p.fc.length (fun v7 => some (Ab.mk p.fh (zA2 p.fh.length (-1)) v7, 0))
   (fun i a => a = (p.fc.map (Fz p)).take i ++ zA2 ((p.fc.map (Fz p)).length - i) 0)
   (fun n i a hi ha => by
    have hx : p.fc[i]? = some p.fc[i] := by simp [hi]
    have hm : p.fc[i] ∈ p.fc := zE9 hi
    obtain ⟨n1, n2, n3, n4, _⟩ := TO hv hm
    rw [Es, AD (by simp only; omega)]
    simp only [Bc, AU, hx, oS, JG, AE (show i < 1000000 by omega)]
    have hal : i < (p.fc.map (Fz p)).length := by simpa using hi
    cases hs : B5 p.fc[i]
    ·rw [Am]
     refine ⟨a, rfl, ?_⟩
     rw [ha]
     exact Vi _ _ hal (by rw [J2 hx]; unfold Fz; rw [hs]; rfl)
    ·rw [AI]
     have e1 : Bx p.fh p.fc[i].fg = some (p.fh.getD p.fc[i].fg.toNat 0) := by
      obtain ⟨q, hq⟩ := zA7 n1
      rw [hq]; exact Db (by rw [hq] at n2; simpa using n2)
     rw [e1]
     simp only [oS]
     rw [Aq n3]
     have hl : i < a.length := by rw [ha]; simp; omega
     have e2 : a[i]? = some a[i] := by simp [hl]
     rw [e2]
     simp only [oS]
     refine ⟨_, rfl, ?_⟩
     rw [← Sa _ _ hal, J2 hx, ha]
     unfold Fz; rw [hs]; rfl)
   (fun n a ha => by rw [Es, AA (by simp)]) N 0 (zA2 p.fc.length 0) (zB2 _) (by omega) (by simp)
  have e' : Es N p (fun v7 => some (Ab.mk p.fh (zA2 p.fh.length (-1)) v7, 0)) N (zA2 ((p.fc.length : Int)).toNat (0 : Int), 0) = _ := e
  rw [e', ha]
  have e5 : (p.fc.map (Fz p)).take p.fc.length = p.fc.map (Fz p) := zJ5 (by simp)
  simp [Dt, e5]
 ·rw [if_neg hv, bne_iff_ne.2 hv, AI]
theorem QE (N : Nat) (p : Aa) (hN : N ≤ 1000000) (h20 : 100 ≤ N) : EM N p = some (if By p = 0 then Dt p else ⟨[], [], []⟩, By p) := by
 unfold EM
 rw [J7 N p hN (by omega)]
 simp only [oS]
 by_cases hv : By p = 0
 ·rw [if_pos hv, hv]
  obtain ⟨hp, _⟩ := Cd hv
  have hnv := hp.nv
  have hnt := hp.nt
  have hnow := hp.now
  rw [bne_self_eq_false, Am]
  obtain ⟨a', e, ha⟩ := Fk (Cl N p fun v4 => Bk N p (fun v10 => some (Ab.mk v4.1 v4.2 v10, 0)) N (([] : List Int), 0)) (fun a i => (a.1, a.2, i)) p.fb.length (fun v4 => Bk N p (fun v10 => some (Ab.mk v4.1 v4.2 v10, 0)) N (([] : List Int), 0))
   (fun i a => a = (p.fh.take i, zA2 i (-1)))
   (fun n i a hi ha => by
    subst ha
    rw [Cl, AD (by simp only; omega)]
    have hx : p.fh[i]? = some p.fh[i] := by simp [show i < p.fh.length from by omega]
    simp only [AU, hx, oS, AE (show i < 1000000 by omega)]
    rw [Aq (by simp [Dw]; omega), Aq (by simp [Dw]; omega)]
    refine ⟨(p.fh.take i ++ [p.fh[i]], zA2 i (-1) ++ [-1]), rfl, ?_⟩
    rw [zE4, hx, List.replicate_succ']; rfl)
   (fun n a ha => by rw [Cl, AA (by simp)]) N 0 ([], []) (zB2 _) (by omega) rfl
  have e' : Cl N p (fun v4 => Bk N p (fun v10 => some (Ab.mk v4.1 v4.2 v10, 0)) N (([] : List Int), 0)) N (([] : List Int), ([] : List Int), 0) = _ := e
  rw [e', ha]
  simp only
  obtain ⟨b', e2, hb⟩ := Fk (Bk N p fun v10 => some (Ab.mk (p.fh.take p.fb.length) (zA2 p.fb.length (-1)) v10, 0)) (fun a i => (a, i)) p.fc.length (fun v10 => some (Ab.mk (p.fh.take p.fb.length) (zA2 p.fb.length (-1)) v10, 0))
   (fun i a => a = (p.fc.map (Fz p)).take i)
   (fun n i a hi ha => by
    subst ha
    have hx : p.fc[i]? = some p.fc[i] := by simp [hi]
    have hm : p.fc[i] ∈ p.fc := zE9 hi
    obtain ⟨n1, n2, n3, n4, _⟩ := TO hv hm
    rw [Bk, AD (by simp only; omega)]
    simp only [Bc, AU, hx, oS, G6, AE (show i < 1000000 by omega)]
    have hT : (p.fc.map (Fz p))[i]? = some (Fz p p.fc[i]) := by rw [zA6, hx]; rfl
    have hlen : ((p.fc.map (Fz p)).take i).length + 1 ≤ Dw := by simp [Dw]; omega
    cases hs : B5 p.fc[i]
    ·rw [Am, Aq (by simpa using hlen)]
     refine ⟨_, rfl, ?_⟩
     rw [zE4, hT]
     unfold Fz; rw [hs]; rfl
    ·rw [AI]
     have e1 : Bx p.fh p.fc[i].fg = some (p.fh.getD p.fc[i].fg.toNat 0) := by
      obtain ⟨q, hq⟩ := zA7 n1
      rw [hq]; exact Db (by rw [hq] at n2; simpa using n2)
     rw [e1]
     simp only [oS]
     rw [Aq n3, Aq (by simpa using hlen)]
     refine ⟨_, rfl, ?_⟩
     rw [zE4, hT]
     unfold Fz; rw [hs]; rfl)
   (fun n a ha => by rw [Bk, AA (by simp)]) N 0 [] (zB2 _) (by omega) rfl
  have e3 : Bk N p (fun v10 => some (Ab.mk (p.fh.take p.fb.length) (zA2 p.fb.length (-1)) v10, 0)) N (([] : List Int), 0) = _ := e2
  rw [e3, hb]
  simp only [Dt, ← hnow, zI3]
  rw [show p.fc.length = (p.fc.map (Fz p)).length from by simp, zI3]
 ·rw [if_neg hv, bne_iff_ne.2 hv, AI]
theorem ME {p : Aa} (hv : By p = 0) : BI p (Dt p) := by
 obtain ⟨hp, hr⟩ := Cd hv
 have hnow := hp.now
 have hnx : ∀ i, i < p.fb.length → (zA2 p.fh.length (-1 : Int)).getD i 0 = -1 := fun i hi => by
  rw [lD, List.getElem?_replicate, if_pos (by omega)]; rfl
 have hone : ∀ (i : Nat) (t : An), p.fc[i]? = some t → ∃ b : Nat, b < 6 ∧ p.fh.getD t.fg.toNat 0 = (b : Int) ∧ (b : Int) < p.fb.getD t.fg.toNat 0 ∧ t.fg.toNat < p.fb.length := fun i t ht => by
  obtain ⟨n1, n2, n3, n4, n5, n6⟩ := TO hv (lM ht)
  obtain ⟨b, hb⟩ := zA7 n3
  exact ⟨b, by omega, hb, by omega, n6⟩
 have hbit : ∀ b : Nat, b < 8 → ∀ v, DZ (Ee .u8 1 (b : Int)) v = decide (b = v) := fun b hb v => by
  by_cases h : v < 8
  ·exact (Kf ⟨b, hb⟩ ⟨v, h⟩).1
  ·rw [Kp (Kf ⟨b, hb⟩ ⟨0, by omega⟩).2.2 (by omega)]
   symm; apply decide_eq_false; omega
 refine { base := hnow, next := by simp [Dt, hnow], held := by simp [Dt], b0 := fun i hi => ⟨(hr i hi).1, (hr i hi).2.1⟩, n0 := fun i hi => ?_, ne := fun i hi => ?_, range := fun i hi => ?_, low := fun i t ht hs v hv' => ?_, high := fun i t ht hs v hb => ?_, none := fun i t ht hs => ?_ }
 ·show -1 ≤ (zA2 p.fh.length (-1 : Int)).getD i 0 ∧ (zA2 p.fh.length (-1 : Int)).getD i 0 < _
  rw [hnx i hi]
  have := H8 hp hi
  omega
 ·show p.fh.getD i 0 ≠ (zA2 p.fh.length (-1 : Int)).getD i 0
  rw [hnx i hi]
  have := hr i hi
  omega
 ·have hx : p.fc[i]? = some p.fc[i] := by simp [hi]
  show 0 ≤ (p.fc.map (Fz p)).getD i 0 ∧ (p.fc.map (Fz p)).getD i 0 ≤ 255
  rw [J2 hx]
  unfold Fz
  split
  ·obtain ⟨b, h1, h2, _⟩ := hone i _ hx
   rw [h2]
   exact (Kf ⟨b, by omega⟩ ⟨0, by omega⟩).2
  ·omega
 ·show DZ ((p.fc.map (Fz p)).getD i 0) v = true
  obtain ⟨b, h1, h2, h3, h4⟩ := hone i t ht
  rw [J2 ht]
  unfold Fz
  rw [if_pos hs, h2, hbit b (by omega)]
  unfold IK at hv'
  have h5 : (Dt p).fd.getD t.fg.toNat 0 = (b : Int) := h2
  have h6 : (Dt p).fa.getD t.fg.toNat 0 = -1 := hnx _ h4
  rw [h5, h6, zF6, decide_eq_true_iff, decide_eq_true_iff] at hv'
  apply decide_eq_true; omega
 ·have hb : DZ ((p.fc.map (Fz p)).getD i 0) v = true := hb
  obtain ⟨b, h1, h2, h3, h4⟩ := hone i t ht
  rw [J2 ht] at hb
  unfold Fz at hb
  rw [if_pos hs, h2, hbit b (by omega), decide_eq_true_iff] at hb
  omega
 ·show (p.fc.map (Fz p)).getD i 0 = 0
  rw [J2 ht]; unfold Fz; rw [hs]; rfl
theorem N2 (x : BitVec 8) : wI .u8 (x.toNat : Int) = (x.toNat : Int) := by
 have := x.isLt
 simp [wI, IntKind.signed, IntKind.bits]
 omega
theorem SV (x : BitVec 8) : 0 ≤ (x.toNat : Int) ∧ (x.toNat : Int) ≤ 255 := by
 have := x.isLt
 omega
theorem Wq (x : BitVec 8) (v : Nat) : DZ (x.toNat : Int) v = x.getLsbD v := by
 unfold DZ; rw [zA9]; rfl
theorem Ra {a : Int} (ha : 0 ≤ a ∧ a ≤ 255) (v : Nat) : (BitVec.ofInt 8 a).getLsbD v = DZ a v := by
 obtain ⟨a, rfl⟩ := zA7 ha.1
 unfold BitVec.getLsbD DZ
 rw [Wz (by omega), zA9]
theorem Te {a b : Int} (ha : 0 ≤ a ∧ a ≤ 255) (hb : 0 ≤ b ∧ b ≤ 255) : (∀ v, DZ (DC .u8 a b) v = (DZ a v && !DZ b v)) ∧ 0 ≤ DC .u8 a b ∧ DC .u8 a b ≤ 255 := by
 have e : DC .u8 a b = ((BitVec.ofInt 8 a &&& ~~~BitVec.ofInt 8 b).toNat : Int) := N2 (BitVec.ofInt 8 a &&& ~~~BitVec.ofInt 8 b)
 rw [e]
 refine ⟨fun v => ?_, SV _⟩
 rw [Wq, BitVec.getLsbD_and, BitVec.getLsbD_not, Ra ha, Ra hb]
 by_cases h : v < 8
 ·simp [h]
 ·rw [Kp ha.2 (by omega)]; simp
theorem Tl {a b : Int} (ha : 0 ≤ a ∧ a ≤ 255) (hb : 0 ≤ b ∧ b ≤ 255) : (∀ v, DZ (Pw .u8 a b) v = (DZ a v || DZ b v)) ∧ 0 ≤ Pw .u8 a b ∧ Pw .u8 a b ≤ 255 := by
 have e : Pw .u8 a b = ((BitVec.ofInt 8 a ||| BitVec.ofInt 8 b).toNat : Int) := N2 (BitVec.ofInt 8 a ||| BitVec.ofInt 8 b)
 rw [e]
 refine ⟨fun v => ?_, SV _⟩
 rw [Wq, BitVec.getLsbD_or, Ra ha, Ra hb]
theorem Yf {b : Nat} (hb : b < 8) : (∀ v, DZ (Ee .u8 1 (b : Int)) v = decide (b = v)) ∧ 0 ≤ Ee .u8 1 (b : Int) ∧ Ee .u8 1 (b : Int) ≤ 255 := by
 refine ⟨fun v => ?_, (Kf ⟨b, hb⟩ ⟨0, by omega⟩).2⟩
 by_cases h : v < 8
 ·exact (Kf ⟨b, hb⟩ ⟨v, h⟩).1
 ·rw [Kp (Kf ⟨b, hb⟩ ⟨0, by omega⟩).2.2 (by omega)]
  symm; apply decide_eq_false; omega
theorem WA (N : Nat) {s : Int} {v : Nat} (hs : 0 ≤ s ∧ s ≤ 255) (hv : v < 8) : CD N s (v : Int) = some (DZ s v) := by
 unfold CD
 rw [Aq (by omega), Rt hs.1 hs.2 hv]
 cases DZ s v <;> rfl
def YI (v : Nat) : Nat := ((zB1 8).find? fun u => v.testBit u).getD 8
def aJ (v : Nat) : Nat := ((zB1 8).filter fun u => v.testBit u).length
theorem ZI : ∀ v : Fin 256, C4 0 (v.val : Int) = some (YI v.val : Int) := by decide +kernel
theorem bA (N : Nat) {v : Nat} (h : v < 256) : C4 N (v : Int) = some (YI v : Int) := ZI ⟨v, h⟩
theorem Yc : ∀ v : Fin 256, v.val ≠ 0 → YI v.val < 8 ∧ DZ (v.val : Int) (YI v.val) = true ∧ 0 ≤ GP .u8 (v.val : Int) (wI .u8 ((v.val : Int) - 1)) ∧ GP .u8 (v.val : Int) (wI .u8 ((v.val : Int) - 1)) ≤ 255 ∧
  aJ (GP .u8 (v.val : Int) (wI .u8 ((v.val : Int) - 1))).toNat + 1 = aJ v.val ∧
  ∀ u : Fin 8, DZ (GP .u8 (v.val : Int) (wI .u8 ((v.val : Int) - 1))) u.val = (DZ (v.val : Int) u.val && decide (u.val ≠ YI v.val)) := by decide +kernel
theorem bo (v : Nat) : aJ v ≤ 8 := by
 have := zH6 (fun u => v.testBit u) (zB1 8)
 simpa [aJ] using this
theorem SZ (N : Nat) (t : An) (b : Int) (rw_ : Nat → Bool) : ∀ (k n v : Nat), aJ v ≤ k → k < n → v < 256 →
  (∀ u, u < 8 → DZ (v : Int) u = true → ∃ row, Bx t.fo (u : Int) = some row ∧ Bx row b = some (rw_ u)) →
  DN N t b (fun _ => some true) n (v : Int) = some ((zB1 8).all fun u => !DZ (v : Int) u || rw_ u)
 | k, 0, v, _, h, _, _ => by omega
 | k, n + 1, v, hk, hn, hv, hr => by
  rw [DN]
  by_cases h0 : v = 0
  ·subst h0
   have : (((0 : Nat) : Int) != 0) = false := rfl
   rw [this, Am]
   congr 1
  ·have h1 : ((v : Int) != 0) = true := bne_iff_ne.2 (by omega)
   obtain ⟨l1, l2, l3, l4, l5, l6⟩ := Yc ⟨v, hv⟩ h0
   simp only at l1 l2 l3 l4 l5 l6
   obtain ⟨row, e1, e2⟩ := hr _ l1 l2
   rw [h1, AI, bA N hv]
   simp only [oS, e1, e2]
   obtain ⟨w, hw⟩ := zA7 l3
   rw [hw] at l4 l5 l6 ⊢
   rw [zA9] at l5
   cases hq : rw_ (YI v)
   ·rw [zE0, AI]
    congr 1
    symm
    rw [List.all_eq_false]
    exact ⟨YI v, by simpa using l1, by rw [l2, hq]; simp⟩
   ·rw [zB7, Am]
    match k, hk with
    | 0, hk => exfalso; omega
    | k + 1, hk =>
    rw [SZ N t b rw_ k n w (by omega) (by omega) (by omega) (fun u hu hb => hr u hu (by have := l6 ⟨u, hu⟩; simp only at this; rw [hb] at this; simpa using (zH0.1 this.symm).1))]
    congr 1
    rw [zJ8, zA5, zA5]
    refine ⟨fun h u hu => ?_, fun h u hu => ?_⟩
    ·have hu8 : u < 8 := by simpa using hu
     have h3 := h u hu
     have h4 := l6 ⟨u, hu8⟩
     simp only at h4
     rw [h4] at h3
     by_cases e : u = YI v
     ·rw [e, hq]; simp
     ·simpa [e] using h3
    ·have hu8 : u < 8 := by simpa using hu
     have h3 := h u hu
     have h4 := l6 ⟨u, hu8⟩
     simp only at h4
     rw [h4]
     cases hb : DZ (v : Int) u
     ·simp
     ·rw [hb] at h3; simp at h3; simp [h3]
theorem SW (N : Nat) (m : Ab) (s : Int) (h0 : 0 ≤ s) (h1 : s < (m.fd.length : Int)) (h2 : s < (m.fa.length : Int)) (hb : 0 ≤ m.fd.getD s.toNat 0) : Gk N m s = some (Hc m s.toNat) := by
 unfold Gk Hc
 rw [E5 (d := 0) h0 h1, E5 (d := 0) h0 h2]
 simp only [oS, Bf]
 rw [show DT (0 ≤ m.fd.getD s.toNat 0) = some () from by unfold DT; rw [if_pos hb]]
 simp only [oS]
 by_cases h : 0 ≤ m.fa.getD s.toNat 0
 ·rw [AD h, if_pos h, show DT (0 ≤ m.fa.getD s.toNat 0) = some () from by unfold DT; rw [if_pos h]]; rfl
 ·rw [AA h, if_neg h]
theorem Lf (N : Nat) (t : An) : FV N t = some (B5 t) := by
 unfold FV B5
 simp only [Bf]
 cases h : t.ff == 3 <;> simp
def FY (s : Ah) : Bool := decide (1 ≤ s.ff ∧ s.ff ≤ 4 ∧ 0 ≤ s.fj ∧ 0 ≤ s.fp) && (s.ff == 1 || s.fp == 0)
def Fa (p : Aa) (s : Ah) : Bool :=
 if s.ff = 3 then decide (s.fj < (p.fc.length : Int)) else decide (s.fj < (p.fb.length : Int)) && (s.ff != 1 || decide (s.fp < p.fb.getD s.fj.toNat 0))
theorem PN (N : Nat) (s : Ah) : G5 N s = some (FY s) := by
 unfold G5 FY WN
 simp only [Bf]
 by_cases h1 : (if s.fp < s.fj then s.fp else s.fj) < 0
 ·rw [AD h1, AI, decide_eq_false (by split at h1 <;> omega)]; rfl
 ·rw [AA h1]
  by_cases h2 : s.ff < 1
  ·rw [AD h2, AI, decide_eq_false (by omega)]; rfl
  ·rw [AA h2]
   by_cases h3 : 4 < s.ff
   ·rw [decide_eq_true h3, AI, decide_eq_false (by omega)]; rfl
   ·rw [decide_eq_false h3, Am, decide_eq_true (by split at h1 <;> omega), zF1]
    cases h4 : s.ff == 1 <;> simp
theorem QS (N : Nat) (s : Ah) : EI N s = some (FY s) := by
 unfold EI FY
 simp only [Bf]
 by_cases h1 : 1 ≤ s.ff
 ·rw [AD h1]
  by_cases h2 : s.ff ≤ 4
  ·rw [AD h2]
   by_cases h3 : 0 ≤ s.fj
   ·rw [AD h3]
    by_cases h4 : 0 ≤ s.fp
    ·rw [AD h4, decide_eq_true (by omega), zF1]
     cases h5 : s.ff == 1 <;> simp
    ·rw [AA h4, decide_eq_false (by omega)]; rfl
   ·rw [AA h3, decide_eq_false (by omega)]; rfl
  ·rw [AA h2, decide_eq_false (by omega)]; rfl
 ·rw [AA h1, decide_eq_false (by omega)]; rfl
theorem OZ (N : Nat) (p : Aa) (s : Ah) (hv : FY s = true) : GC N p s = some (Fa p s) := by
 have h0 : 0 ≤ s.fj := by
  unfold FY at hv
  rw [zA4, decide_eq_true_iff] at hv
  exact hv.1.2.2.1
 unfold GC Fa
 simp only [Bf]
 by_cases h1 : s.ff = 3
 ·rw [if_pos h1, beq_iff_eq.2 h1, AI]
 ·rw [if_neg h1, beq_eq_false_iff_ne.2 h1, Am]
  by_cases h2 : s.fj < (p.fb.length : Int)
  ·rw [AD h2, decide_eq_true h2, zF1]
   cases h3 : s.ff != 1
   ·rw [Am, E5 (d := 0) h0 h2, zH9]; rfl
   ·rw [AI]; rfl
  ·rw [AA h2, decide_eq_false h2]; rfl
def T0 (s : Ah) (t : An) : Bool := t.fg == s.fj && B5 t
def Sc (s : Ah) (i : Nat) (t : An) (a : List Int) : List Int := if T0 s t = true then a.set i (Pw .u8 (a.getD i 0) (Ee .u8 1 s.fp)) else a
def Gx (p : Aa) (s : Ah) (held : List Int) : List Int := Hr (Sc s) 0 p.fc held
theorem Oe {_R : Type} (N : Nat) (p : Aa) (s : Ah) (held : List Int) (hv : 0 ≤ s.fp) (hl : held.length = p.fc.length) (h12 : p.fc.length < N) (hN : N ≤ 1000000) (j : List Int → Option (Bool × List Int × List Int)) :
  D0 N p s j N (held, 0) = j (Gx p s held) ∧ (Gx p s held).length = p.fc.length := by
 have := IS (D0 N p s j) (fun a i => (a, i)) p.fc j (Sc s) (fun i a => a.length = p.fc.length)
  (fun n i x a hx ha => by
   have hi := (lI.1 hx).1
   rw [D0, AD (by simp only; omega)]
   simp only [Bc, AU, hx, oS, Lf, AE (show i < 1000000 by omega)]
   have e2 : a[i]? = some (a.getD i 0) := by rw [lD]; simp [show i < a.length from by omega]
   unfold Sc T0
   cases h1 : x.fg == s.fj
   ·rw [Am, Am, zK5, if_neg (by simp)]; exact ⟨rfl, ha⟩
   ·rw [AI, zF1]
    cases h2 : B5 x
    ·rw [Am, if_neg (by simp)]; exact ⟨rfl, ha⟩
    ·rw [AI, e2, if_pos rfl]
     simp only [oS]
     rw [Aq hv]
     exact ⟨rfl, by simpa using ha⟩)
  (fun n a ha => by rw [D0, AA (by simp)]) N 0 held (zB2 _) (by omega) hl
 rw [zC0] at this
 exact this
theorem OU (N : Nat) (p : Aa) (s : Ah) (held : List Int) (hv : 0 ≤ s.fp) (hl : held.length = p.fc.length) (h12 : p.fc.length < N) (hN : N ≤ 1000000) (j : List Int → Option (Ab × Bool)) :
  B7 N p s j N (held, 0) = j (Gx p s held) := by
 have := IS (B7 N p s j) (fun a i => (a, i)) p.fc j (Sc s) (fun i a => a.length = p.fc.length)
  (fun n i x a hx ha => by
   have hi := (lI.1 hx).1
   rw [B7, AD (by simp only; omega)]
   simp only [Bc, AU, hx, oS, G6, AE (show i < 1000000 by omega)]
   have e2 : a[i]? = some (a.getD i 0) := by rw [lD]; simp [show i < a.length from by omega]
   unfold Sc T0
   cases h1 : x.fg == s.fj
   ·rw [Am, Am, zK5, if_neg (by simp)]; exact ⟨rfl, ha⟩
   ·rw [AI, zF1]
    cases h2 : B5 x
    ·rw [Am, if_neg (by simp)]; exact ⟨rfl, ha⟩
    ·rw [AI, e2, if_pos rfl]
     simp only [oS]
     rw [Aq hv]
     exact ⟨rfl, by simpa using ha⟩)
  (fun n a ha => by rw [B7, AA (by simp)]) N 0 held (zB2 _) (by omega) hl
 rw [zC0] at this
 exact this.1
def KO (m : Ab) (t : An) (u : Nat) : Bool := (t.fo.getD u []).getD (m.fd.getD t.fg.toNat 0).toNat false
def N9 (m : Ab) (i : Nat) (t : An) (u : Nat) : Bool := DZ (m.fe.getD i 0) u && !IK m t.fg.toNat u
def Ho (_p : Aa) (m : Ab) (i : Nat) (t : An) : Bool := t.ff == 4 && (zB1 8).any fun u => N9 m i t u && !KO m t u
def Ez (p : Aa) (m : Ab) (s : Ah) : Option Ab :=
 let i := s.fj.toNat
 if s.ff = 1 then (if 0 ≤ m.fa.getD i 0 ∨ m.fd.getD i 0 = s.fp then none else some ⟨m.fd, m.fa.set i s.fp, Gx p s m.fe⟩)
 else if s.ff = 3 then match p.fc[i]? with
  | none => none
  | some t => if B5 t = false ∨ m.fe.getD i 0 = Hc m t.fg.toNat ∨ Ho p m i t = true then none else some ⟨m.fd, m.fa, m.fe.set i (Hc m t.fg.toNat)⟩
 else if m.fa.getD i 0 < 0 then none
 else some ⟨if s.ff = 2 then m.fd.set i (m.fa.getD i 0) else m.fd, m.fa.set i (-1), m.fe⟩
def A6 (p : Aa) (m : Ab) (s : Ah) : Ab × Int :=
 if FY s = false then (Hs, 1) else if Fa p s = false then (Hs, 4) else match Ez p m s with
  | none => (Hs, 11)
  | some x => (x, 0)
end Go.Lift
namespace Go.Lift
open Option renaming bind_some → oS
open List renaming mem_of_getElem? → lM
open List renaming getElem?_eq_some_iff → lI
open List renaming getD_eq_getElem?_getD → lD
open Go
section clear
variable {p : Aa} {m : Ab} {i : Nat} {t : An}
theorem WQ (hp : A2 p) (hm : BI p m) (ht : p.fc[i]? = some t) (hs : B5 t = true) {u : Nat} (h : DZ (m.fe.getD i 0) u = true) : (u : Int) < p.fb.getD t.fg.toNat 0 ∧ u < 6 ∧ t.fg.toNat < p.fb.length := by
 have h1 := hm.high i t ht hs u h
 have hin := I2 (hp.tab t (lM ht))
 have h2 := H8 hp (i := t.fg.toNat) (by omega)
 exact ⟨h1, by omega, by omega⟩
theorem Xg (hp : A2 p) (hm : BI p m) (ht : p.fc[i]? = some t) (hs : B5 t = true) (h4 : t.ff = 4) {u : Nat} (h : DZ (m.fe.getD i 0) u = true) :
  Bx t.fo (u : Int) = some (t.fo.getD u []) ∧ Bx (t.fo.getD u []) (m.fd.getD t.fg.toNat 0) = some (KO m t u) := by
 have hT := Lb (hp.tab t (lM ht))
 obtain ⟨h1, h2, h3⟩ := WQ hp hm ht hs h
 have hl := hT.reL h4
 have e : t.fo[u]? = some (t.fo.getD u []) := by rw [lD]; simp [show u < t.fo.length from by omega]
 have hr := hT.reR _ (lM e)
 have hb := hm.b0 t.fg.toNat h3
 refine ⟨by rw [AU, e], ?_⟩
 unfold KO
 obtain ⟨b, hb'⟩ := zA7 hb.1
 rw [hb'] at hb ⊢
 rw [zA9]
 exact Db (by omega)
theorem PL (N : Nat) (hN : N ≤ 1000000) (h20 : 100 ≤ N) (hp : A2 p) (hm : BI p m) (ht : p.fc[i]? = some t) :
  GZ N p m (i : Int) = some (if B5 t = false ∨ m.fe.getD i 0 = Hc m t.fg.toNat ∨ Ho p m i t = true then (false, m.fe) else (true, m.fe.set i (Hc m t.fg.toNat))) := by
 have hi := (lI.1 ht).1
 have hin := I2 (hp.tab t (lM ht))
 have hb := hm.base
 have hnx := hm.next
 have hh := hm.held
 have hr := Ih hp hm.toMixServ (s := t.fg.toNat) (by omega)
 have hrg := hm.range i hi
 have eh : Bx m.fe (i : Int) = some (m.fe.getD i 0) := Db (by omega)
 unfold GZ
 simp only [Bc, AU, ht, oS, Lf]
 have eh' : m.fe[i]? = some (m.fe.getD i 0) := by rw [← AU, eh]
 cases hs : B5 t
 ·rw [zE0, AI, if_pos (.inl rfl)]
 ·rw [zB7, Am, SW N m _ hin.1 (by omega) (by omega) (hm.b0 _ (by omega)).1]
  simp only [oS, eh']
  by_cases h1 : m.fe.getD i 0 = Hc m t.fg.toNat
  ·rw [beq_iff_eq.2 h1, AI, AI, if_pos (.inr (.inl h1))]
  ·rw [beq_eq_false_iff_ne.2 h1, Am]
   by_cases h4 : t.ff = 4
   ·rw [beq_iff_eq.2 h4, AI, E5 (d := 0) hin.1 (by omega)]
    simp only [oS]
    obtain ⟨a1, a2, a3⟩ := Te hrg hr.2
    obtain ⟨w, hw⟩ := zA7 a2
    unfold F6
    rw [hw] at a1 a3 ⊢
    rw [SZ N t _ (KO m t) 8 N w (bo _) (by omega) (by omega) (fun u hu hbu => by
     have := a1 u; rw [hbu] at this
     exact ⟨_, Xg hp hm ht hs h4 (zH0.1 this.symm).1⟩)]
    simp only [oS]
    have e : (!(zB1 8).all fun u => !DZ (w : Int) u || KO m t u) = Ho p m i t := by
     unfold Ho
     rw [beq_iff_eq.2 h4, zF1, List.not_all_eq_any_not]
     congr 1
     funext u
     rw [a1 u, hr.1 u]
     unfold N9
     cases DZ (m.fe.getD i 0) u <;> cases IK m t.fg.toNat u <;> cases KO m t u <;> rfl
    rw [e]
    cases hst : Ho p m i t
    ·rw [Am, if_neg (by rintro (h | h | h); cases h; exact h1 h; cases h)]; rfl
    ·rw [AI, if_pos (.inr (.inr rfl))]
   ·have e : Ho p m i t = false := by unfold Ho; rw [beq_eq_false_iff_ne.2 h4]; rfl
    rw [beq_eq_false_iff_ne.2 h4, Am, Am, e, if_neg (by rintro (h | h | h); cases h; exact h1 h; cases h)]; rfl
theorem ON (N : Nat) (hN : N ≤ 1000000) (h20 : 100 ≤ N) (hp : A2 p) (hm : BI p m) (ht : p.fc[i]? = some t) (hs : B5 t = true) (s : Ah) (hsi : s.fj = (i : Int)) (j : Option (Ab × Bool)) :
  BO N p m s t (Hc m t.fg.toNat) (fun _ => j) N 0 = if Ho p m i t = true then some (Hs, false) else j := by
 have hi := (lI.1 ht).1
 have hin := I2 (hp.tab t (lM ht))
 have hb := hm.base
 have hh := hm.held
 have hr := Ih hp hm.toMixServ (s := t.fg.toNat) (by omega)
 have hrg := hm.range i hi
 have hver := H8 hp (i := t.fg.toNat) (by omega)
 obtain ⟨nv, hnv⟩ := zA7 (show 0 ≤ p.fb.getD t.fg.toNat 0 by omega)
 have eh' : m.fe[i]? = some (m.fe.getD i 0) := by rw [lD]; simp [show i < m.fe.length from by omega]
 have := Di (BO N p m s t (Hc m t.fg.toNat) fun _ => j) (zB1 nv) j (fun u _ => if (N9 m i t u && (t.ff == 4 && !KO m t u)) = true then some (Hs, false) else none)
  (fun n u x hx => by
   have hu : u < nv := by
    have := (lI.1 hx).1
    simpa using this
   rw [BO, E5 (d := 0) hin.1 (by omega), hnv]
   simp only [oS]
   rw [AD (by omega)]
   simp only [Bc, hsi, AU, eh', oS]
   rw [WA N hrg (by omega), AE (by omega)]
   simp only [oS]
   cases h1 : DZ (m.fe.getD i 0) u
   ·have e : N9 m i t u = false := by unfold N9; rw [h1]; rfl
    rw [Am, Am, Am, e]; rfl
   ·rw [AI, WA N hr.2 (by omega), hr.1 u]
    simp only [oS]
    have e : N9 m i t u = !IK m t.fg.toNat u := by unfold N9; rw [h1]; rfl
    rw [← e]
    cases h2 : N9 m i t u
    ·rw [Am, Am]; rfl
    ·rw [AI]
     by_cases h4 : t.ff = 4
     ·obtain ⟨e1, e2⟩ := Xg hp hm ht hs h4 h1
      rw [AU] at e1
      rw [beq_iff_eq.2 h4, AI, e1, E5 (d := 0) hin.1 (by omega)]
      simp only [oS]
      rw [e2]
      simp only [oS]
      cases KO m t u <;> rfl
     ·rw [beq_eq_false_iff_ne.2 h4, Am, Am]; rfl)
  (fun n => by
   rw [BO, E5 (d := 0) hin.1 (by omega), hnv]
   simp only [oS, zG9]
   rw [AA (by omega)]) N 0 (zB2 _) (by simp; omega)
 have e0 : BO N p m s t (Hc m t.fg.toNat) (fun _ => j) N 0 = _ := this
 rw [e0, zC0]
 by_cases hst : Ho p m i t = true
 ·rw [if_pos hst]
  unfold Ho at hst
  rw [zA4, zF0] at hst
  obtain ⟨h4, u, hu, h5⟩ := hst
  rw [zA4] at h5
  have h6 : DZ (m.fe.getD i 0) u = true := by have := h5.1; unfold N9 at this; exact (zH0.1 this).1
  have h7 := WQ hp hm ht hs h6
  cases hsc : C3 (fun u (_ : Nat) => if (N9 m i t u && (t.ff == 4 && !KO m t u)) = true then some (Hs, false) else none) 0 (zB1 nv) with
  | some r =>
   obtain ⟨q, x, hx, hf⟩ := El hsc
   split at hf
   ·cases hf; rfl
   ·cases hf
  | none =>
   exfalso
   have hx : (zB1 nv)[u]? = some u := List.getElem?_range (by omega)
   have := Ff hsc u u hx
   rw [zA1, h5.1, h4, h5.2] at this
   cases this
 ·rw [if_neg hst]
  have : C3 (fun u (_ : Nat) => if (N9 m i t u && (t.ff == 4 && !KO m t u)) = true then some (Hs, false) else none) 0 (zB1 nv) = none := E4 fun q x hx => by
   rw [zA1]
   split
   ·rename_i h5
    exfalso; apply hst
    rw [zA4, zA4] at h5
    unfold Ho
    rw [h5.2.1, zF1, zF0]
    have hq : q < nv := by
     have := (lI.1 hx).1
     simpa using this
    exact ⟨q, zD9.2 (by omega), by rw [h5.1, h5.2.2]; rfl⟩
   ·rfl
  rw [this]; rfl
end clear
end Go.Lift
namespace Go.Lift
open Option renaming bind_some → oS
open List renaming mem_of_getElem? → lM
open Go
theorem H3 {s : Ah} (h : FY s = true) : 1 ≤ s.ff ∧ s.ff ≤ 4 ∧ 0 ≤ s.fj ∧ 0 ≤ s.fp ∧ (s.ff ≠ 1 → s.fp = 0) := by
 unfold FY at h
 rw [zA4, decide_eq_true_iff, zF6, beq_iff_eq, beq_iff_eq] at h
 exact ⟨h.1.1, h.1.2.1, h.1.2.2.1, h.1.2.2.2, fun hk => h.2.elim (fun e => (hk e).elim) id⟩
theorem IR {p : Aa} {s : Ah} (h : Fa p s = true) : (s.ff = 3 → s.fj < (p.fc.length : Int)) ∧ (s.ff ≠ 3 → s.fj < (p.fb.length : Int)) ∧ (s.ff = 1 → s.fp < p.fb.getD s.fj.toNat 0) := by
 unfold Fa at h
 split at h
 ·rename_i hk
  rw [decide_eq_true_iff] at h
  exact ⟨fun _ => h, fun hn => (hn hk).elim, fun h1 => by omega⟩
 ·rename_i hk
  rw [zA4, decide_eq_true_iff, zF6, decide_eq_true_iff, bne_iff_ne] at h
  exact ⟨fun h3 => (hk h3).elim, fun _ => h.1, fun h1 => h.2.elim (fun hn => (hn h1).elim) id⟩
theorem Vd (N : Nat) {p : Aa} {m : Ab} (hp : A2 p) (hm : BI p m) : Gz N m = some m := by
 have hnv := hp.nv
 have hnt := hp.nt
 have h1 := hm.base
 have h2 := hm.next
 have h3 := hm.held
 unfold Gz
 rw [J4 N _ (by simp only [Dw]; omega), J4 N _ (by simp only [Dw]; omega), P4 N _ (by simp only [Dw]; omega)]
 rfl
theorem LF (N : Nat) (hN : N ≤ 1000000) (h20 : 100 ≤ N) {p : Aa} {m : Ab} (hp : A2 p) (hm : BI p m) {s : Ah} (hv : FY s = true) (hx : Fa p s = true) :
  ∃ o, FQ N p m s = some (o, (Ez p m s).isSome) ∧ ∀ x, Ez p m s = some x → o = x := by
 obtain ⟨k1, k4, i0, v0, vk⟩ := H3 hv
 obtain ⟨x3, xn, x1⟩ := IR hx
 have hnv := hp.nv
 have hnt := hp.nt
 have hb := hm.base
 have hn := hm.next
 have hh := hm.held
 obtain ⟨i, hi⟩ := zA7 i0
 unfold FQ Ez
 rw [Vd N hp hm]
 simp only [oS, Bc]
 by_cases hk1 : s.ff = 1
 ·have hi1 : (i : Int) < p.fb.length := by have := xn (by omega); omega
  rw [beq_iff_eq.2 hk1, AI, if_pos hk1]
  unfold Ie
  simp only [Bc, hi, zA9]
  rw [Db (d := 0) (show i < m.fa.length by omega)]
  simp only [oS]
  by_cases c1 : 0 ≤ m.fa.getD i 0
  ·rw [AD c1, AI, if_pos (.inl c1)]
   exact ⟨_, rfl, fun x hx => by cases hx⟩
  ·rw [AA c1, Db (d := 0) (show i < m.fd.length by omega)]
   simp only [oS]
   by_cases c2 : m.fd.getD i 0 = s.fp
   ·rw [beq_iff_eq.2 c2, AI, if_pos (.inr c2)]
    exact ⟨_, rfl, fun x hx => by cases hx⟩
   ·rw [beq_eq_false_iff_ne.2 c2, Am, (Oe (_R := Unit) N p s m.fe v0 hh (by omega) hN _).1, if_neg (by rintro (h | h); exact c1 h; exact c2 h)]
    exact ⟨_, rfl, fun x hx => by cases hx; rfl⟩
 ·rw [beq_eq_false_iff_ne.2 hk1, Am, if_neg hk1]
  by_cases hk3 : s.ff = 3
  ·have hi3 : i < p.fc.length := by have := x3 hk3; omega
   have ht : p.fc[i]? = some p.fc[i] := by simp [hi3]
   rw [beq_iff_eq.2 hk3, AI, if_pos hk3, hi, PL N hN h20 hp hm ht]
   simp only [oS, zA9, ht]
   split
   ·exact ⟨_, rfl, fun x hx => by cases hx⟩
   ·exact ⟨_, rfl, fun x hx => by cases hx; rfl⟩
  ·have hi1 : (i : Int) < p.fb.length := by have := xn hk3; omega
   rw [beq_eq_false_iff_ne.2 hk3, Am, if_neg hk3, hi, Db (d := 0) (show i < m.fa.length by omega)]
   simp only [oS, zA9]
   by_cases c1 : m.fa.getD i 0 < 0
   ·rw [AD c1, if_pos c1]
    exact ⟨_, rfl, fun x hx => by cases hx⟩
   ·rw [AA c1, if_neg c1]
    by_cases hk2 : s.ff = 2
    ·rw [beq_iff_eq.2 hk2, AI, Db (d := 0) (show i < m.fd.length by omega), if_pos hk2]
     exact ⟨_, rfl, fun x hx => by cases hx; rfl⟩
    ·rw [beq_eq_false_iff_ne.2 hk2, Am, if_neg hk2]
     exact ⟨_, rfl, fun x hx => by cases hx; rfl⟩
theorem Py (N : Nat) (hN : N ≤ 1000000) (h20 : 100 ≤ N) {p : Aa} {m : Ab} (hp : A2 p) (hm : BI p m) (s : Ah) : Hf N p m s = some (A6 p m s) := by
 unfold Hf A6
 rw [PN]
 simp only [oS]
 cases hv : FY s
 ·rw [zE0, AI, if_pos rfl]; rfl
 ·rw [zB7, Am, if_neg (by simp), OZ N p s hv]
  simp only [oS]
  cases hx : Fa p s
  ·rw [zE0, AI, if_pos rfl]; rfl
  ·rw [zB7, Am, if_neg (by simp)]
   obtain ⟨o, e, ho⟩ := LF N hN h20 hp hm hv hx
   rw [e]
   simp only [oS]
   cases ha : Ez p m s with
   | none => rfl
   | some x => rw [ho x ha]; rfl
theorem Mw (N : Nat) (hN : N ≤ 1000000) (h20 : 100 ≤ N) {p : Aa} {m : Ab} (hp : A2 p) (hm : BI p m) {s : Ah} (hv : FY s = true) (hx : Fa p s = true) :
  CQ N p m s = some (match Ez p m s with | none => (Hs, false) | some x => (x, true)) := by
 obtain ⟨k1, k4, i0, v0, vk⟩ := H3 hv
 obtain ⟨x3, xn, x1⟩ := IR hx
 have hnv := hp.nv
 have hnt := hp.nt
 have hb := hm.base
 have hn := hm.next
 have hh := hm.held
 obtain ⟨i, hi⟩ := zA7 i0
 unfold CQ Ez
 rw [Aq (by simp [Dw]; omega), Aq (by simp [Dw]; omega), Aq (by simp [Dw]; omega)]
 simp only [Bc, zG1]
 by_cases hk1 : s.ff = 1
 ·have hi1 : (i : Int) < p.fb.length := by have := xn (by omega); omega
  rw [beq_iff_eq.2 hk1, AI, if_pos hk1]
  simp only [hi, zA9]
  rw [Db (d := 0) (show i < m.fa.length by omega)]
  simp only [oS]
  by_cases c1 : 0 ≤ m.fa.getD i 0
  ·rw [AD c1, AI, if_pos (.inl c1)]; rfl
  ·rw [AA c1, Db (d := 0) (show i < m.fd.length by omega)]
   simp only [oS]
   by_cases c2 : m.fd.getD i 0 = s.fp
   ·rw [beq_iff_eq.2 c2.symm, AI, if_pos (.inr c2)]; rfl
   ·rw [beq_eq_false_iff_ne.2 (fun h => c2 h.symm), Am, OU N p s m.fe v0 hh (by omega) hN _, if_neg (by rintro (h | h); exact c1 h; exact c2 h)]
 ·rw [beq_eq_false_iff_ne.2 hk1, Am, if_neg hk1]
  by_cases hk3 : s.ff = 3
  ·have hi3 : i < p.fc.length := by have := x3 hk3; omega
   have ht : p.fc[i]? = some p.fc[i] := by simp [hi3]
   have hin := I2 (hp.tab _ (lM ht))
   have eh' : Bx m.fe (i : Int) = some (m.fe.getD i 0) := Db (by omega)
   rw [beq_eq_false_iff_ne.2 (show s.ff ≠ 2 by omega), Am, beq_iff_eq.2 hk3, AI, if_pos hk3, hi, AU, ht]
   simp only [oS, G6, zA9, ht]
   cases hs : B5 p.fc[i]
   ·rw [zE0, AI, if_pos (.inl rfl)]; rfl
   ·rw [zB7, Am, Ke N m _ hin.1 (by omega) (by omega) (hm.b0 _ (by omega)).1, eh']
    simp only [oS]
    by_cases h1 : m.fe.getD i 0 = Hc m (p.fc[i]).fg.toNat
    ·rw [beq_iff_eq.2 h1, AI, if_pos (.inr (.inl h1))]; rfl
    ·rw [beq_eq_false_iff_ne.2 h1, Am]
     rw [ON N hN h20 hp hm ht hs s hi]
     cases hst : Ho p m i p.fc[i]
     ·rw [if_neg (by simp), if_neg (by rintro (h | h | h); cases h; exact h1 h; cases h)]
     ·rw [if_pos rfl, if_pos (.inr (.inr rfl))]
  ·have hi1 : (i : Int) < p.fb.length := by have := xn hk3; omega
   rw [if_neg hk3, hi, Db (d := 0) (show i < m.fa.length by omega)]
   simp only [oS, zA9]
   by_cases hk2 : s.ff = 2
   ·rw [beq_iff_eq.2 hk2, AI, if_pos hk2]
    by_cases c1 : m.fa.getD i 0 < 0
    ·rw [AD c1, if_pos c1]; rfl
    ·rw [AA c1, if_neg c1, Db (d := 0) (show i < m.fd.length by omega)]; rfl
   ·rw [beq_eq_false_iff_ne.2 hk2, Am, beq_eq_false_iff_ne.2 hk3, Am, if_neg hk2]
    by_cases c1 : m.fa.getD i 0 < 0
    ·rw [AD c1, if_pos c1]; rfl
    ·rw [AA c1, if_neg c1]
end Go.Lift
namespace Go.Lift
open Option renaming bind_some → oS
open List renaming mem_of_getElem? → lM
open List renaming getElem?_eq_some_iff → lI
open Go
theorem R4 (s : Ah) : ∀ (xs : List An) (i : Nat) (a : List Int), i + xs.length ≤ a.length → (Hr (Sc s) i xs a).length = a.length ∧ ∀ q, (Hr (Sc s) i xs a).getD q 0 = match (if i ≤ q then xs[q - i]? else none) with
  | some t => if T0 s t = true then Pw .u8 (a.getD q 0) (Ee .u8 1 s.fp) else a.getD q 0
  | none => a.getD q 0
 | [], i, a, _ => by
  refine ⟨rfl, fun q => ?_⟩
  split
  ·rename_i h; split at h
   ·simp at h
   ·cases h
  ·rfl
 | x :: xs, i, a, hl => by
  have hl' : i + (xs.length + 1) ≤ a.length := by simpa using hl
  have ha : (Sc s i x a).length = a.length := by unfold Sc; split <;> simp
  obtain ⟨ih1, ih2⟩ := R4 s xs (i + 1) (Sc s i x a) (by omega)
  refine ⟨by rw [Hr, ih1, ha], fun q => ?_⟩
  rw [Hr, ih2 q]
  have hu : (Sc s i x a).getD q 0 = if q = i ∧ T0 s x = true then Pw .u8 (a.getD q 0) (Ee .u8 1 s.fp) else a.getD q 0 := by
   unfold Sc
   by_cases hc : T0 s x = true
   ·rw [if_pos hc, Jg (by omega)]
    by_cases hq : q = i
    ·subst hq; rw [if_pos rfl, if_pos ⟨rfl, hc⟩]
    ·rw [if_neg hq, if_neg (fun h => hq h.1)]
   ·rw [if_neg hc, if_neg (fun h => hc h.2)]
  by_cases h1 : i + 1 ≤ q
  ·rw [if_pos h1, if_pos (show i ≤ q by omega), hu, if_neg (by omega)]
   rw [show (x :: xs)[q - i]? = xs[q - (i + 1)]? from by rw [show q - i = (q - (i + 1)) + 1 from by omega, List.getElem?_cons_succ]]
  ·rw [if_neg h1]
   by_cases h2 : q = i
   ·subst h2
    rw [if_pos (zB4 _), Nat.sub_self, hu]
    simp
   ·rw [if_neg (show ¬ i ≤ q by omega), hu, if_neg (by omega)]
theorem U0 {p : Aa} {s : Ah} {held : List Int} (hl : held.length = p.fc.length) : (Gx p s held).length = p.fc.length ∧ ∀ q t, p.fc[q]? = some t → (Gx p s held).getD q 0 = if T0 s t = true then Pw .u8 (held.getD q 0) (Ee .u8 1 s.fp) else held.getD q 0 := by
 obtain ⟨h1, h2⟩ := R4 s p.fc 0 held (by omega)
 refine ⟨h1.trans hl, fun q t ht => ?_⟩
 have := h2 q
 rw [if_pos (zB2 _), Nat.sub_zero, ht] at this
 exact this
theorem Pn {m : Ab} {s v : Nat} : IK m s v = true ↔ m.fd.getD s 0 = (v : Int) ∨ m.fa.getD s 0 = (v : Int) := by
 unfold IK; rw [zF6, decide_eq_true_iff, decide_eq_true_iff]
theorem V6 {p : Aa} {m x : Ab} (hp : A2 p) (hm : BI p m) {s : Ah} (hv : FY s = true) (hx : Fa p s = true) (h : Ez p m s = some x) : BI p x := by
 obtain ⟨k1, k4, i0, v0, vk⟩ := H3 hv
 obtain ⟨x3, xn, x1⟩ := IR hx
 obtain ⟨i, hi⟩ := zA7 i0
 have hb := hm.base
 have hn := hm.next
 have hh := hm.held
 unfold Ez at h
 simp only [hi, zA9] at h
 rw [hi, zA9] at x1
 split at h
 ·rename_i hk1
  have hi1 : i < p.fb.length := by have := xn (by omega); omega
  have hx1 := x1 hk1
  have hvi := H8 hp hi1
  split at h
  ·cases h
  rename_i hc
  cases h
  obtain ⟨u1, u2⟩ := U0 (s := s) hh
  obtain ⟨b, hbv⟩ := zA7 v0
  have hob := Yf (b := b) (by omega)
  have hN : ∀ q, (m.fa.set i s.fp).getD q 0 = if q = i then s.fp else m.fa.getD q 0 := fun q => Jg (by omega)
  refine { base := hb, next := by simpa using hn, held := u1, b0 := hm.b0, n0 := fun q hq => ?_, ne := fun q hq => ?_, range := fun q hq => ?_, low := fun q t ht hs v hr => ?_, high := fun q t ht hs v hbit => ?_, none := fun q t ht hs => ?_ }
  ·show -1 ≤ (m.fa.set i s.fp).getD q 0 ∧ (m.fa.set i s.fp).getD q 0 < _
   rw [hN q]
   split
   ·rename_i e; subst e; omega
   ·exact hm.n0 q hq
  ·show m.fd.getD q 0 ≠ (m.fa.set i s.fp).getD q 0
   rw [hN q]
   split
   ·rename_i e; subst e; exact fun h => hc (.inr h)
   ·exact hm.ne q hq
  ·have ht : p.fc[q]? = some p.fc[q] := by simp [hq]
   show 0 ≤ (Gx p s m.fe).getD q 0 ∧ (Gx p s m.fe).getD q 0 ≤ 255
   rw [u2 q _ ht, hbv]
   split
   ·exact (Tl (hm.range q hq) hob.2).2
   ·exact hm.range q hq
  ·have hq := (lI.1 ht).1
   show DZ ((Gx p s m.fe).getD q 0) v = true
   have hin := I2 (hp.tab t (lM ht))
   rw [Pn] at hr
   have hr : m.fd.getD t.fg.toNat 0 = (v : Int) ∨ (m.fa.set i s.fp).getD t.fg.toNat 0 = (v : Int) := hr
   rw [hN] at hr
   rw [u2 q t ht, hbv]
   have hlow := hm.low q t ht hs v
   rw [Pn] at hlow
   by_cases hf : t.fg.toNat = i
   ·have hup : T0 s t = true := by unfold T0; rw [hs, zJ6, beq_iff_eq, hi]; omega
    rw [if_pos hup, (Tl (hm.range q hq) hob.2).1, hob.1 v, zF6, decide_eq_true_iff]
    rw [if_pos hf] at hr
    rcases hr with h | h
    ·exact .inl (hlow (.inl h))
    ·right; omega
   ·rw [if_neg hf] at hr
    have hup : T0 s t = false := by unfold T0; rw [hs, zJ6, beq_eq_false_iff_ne, hi]; omega
    rw [hup, if_neg (by simp)]
    exact hlow hr
  ·have hq := (lI.1 ht).1
   have hbit : DZ ((Gx p s m.fe).getD q 0) v = true := hbit
   have hin := I2 (hp.tab t (lM ht))
   rw [u2 q t ht, hbv] at hbit
   split at hbit
   ·rename_i hup
    rw [(Tl (hm.range q hq) hob.2).1, hob.1 v, zF6, decide_eq_true_iff] at hbit
    rcases hbit with h | h
    ·exact hm.high q t ht hs v h
    ·unfold T0 at hup
     rw [hs, zJ6, beq_iff_eq, hi] at hup
     rw [hup, zA9]; omega
   ·exact hm.high q t ht hs v hbit
  ·show (Gx p s m.fe).getD q 0 = 0
   have hup : T0 s t = false := by unfold T0; rw [hs, Bool.and_false]
   rw [u2 q t ht, hup, if_neg (by simp)]
   exact hm.none q t ht hs
 ·rename_i hk1
  split at h
  ·rename_i hk3
   have hi3 : i < p.fc.length := by have := x3 hk3; omega
   have ht0 : p.fc[i]? = some p.fc[i] := by simp [hi3]
   rw [ht0] at h
   simp only at h
   split at h
   ·cases h
   rename_i hc
   cases h
   have hin0 := I2 (hp.tab _ (lM ht0))
   have hr0 := Ih hp hm.toMixServ (s := (p.fc[i]).fg.toNat) (by omega)
   have hs0 : B5 p.fc[i] = true := by
    cases hs : B5 p.fc[i]
    ·exact (hc (.inl hs)).elim
    ·rfl
   have hH : ∀ q, (m.fe.set i (Hc m (p.fc[i]).fg.toNat)).getD q 0 = if q = i then Hc m (p.fc[i]).fg.toNat else m.fe.getD q 0 := fun q => Jg (by omega)
   refine { base := hb, next := hn, held := by simpa using hh, b0 := hm.b0, n0 := hm.n0, ne := hm.ne, range := fun q hq => ?_, low := fun q t ht hs v hr => ?_, high := fun q t ht hs v hbit => ?_, none := fun q t ht hs => ?_ }
   ·show 0 ≤ (m.fe.set i (Hc m (p.fc[i]).fg.toNat)).getD q 0 ∧ (m.fe.set i (Hc m (p.fc[i]).fg.toNat)).getD q 0 ≤ 255
    rw [hH q]
    split
    ·exact hr0.2
    ·exact hm.range q hq
   ·show DZ ((m.fe.set i (Hc m (p.fc[i]).fg.toNat)).getD q 0) v = true
    have hr : IK m t.fg.toNat v = true := hr
    rw [hH q]
    split
    ·rename_i e; subst e
     rw [ht0] at ht; cases ht
     rw [hr0.1]; exact hr
    ·exact hm.low q t ht hs v hr
   ·have hbit : DZ ((m.fe.set i (Hc m (p.fc[i]).fg.toNat)).getD q 0) v = true := hbit
    rw [hH q] at hbit
    split at hbit
    ·rename_i e; subst e
     rw [ht0] at ht; cases ht
     rw [hr0.1] at hbit
     exact hm.high q _ ht0 hs0 v (hm.low q _ ht0 hs0 v hbit)
    ·exact hm.high q t ht hs v hbit
   ·show (m.fe.set i (Hc m (p.fc[i]).fg.toNat)).getD q 0 = 0
    rw [hH q, if_neg (fun e => by subst e; rw [ht0] at ht; cases ht; rw [hs0] at hs; cases hs)]
    exact hm.none q t ht hs
  ·rename_i hk3
   have hi1 : i < p.fb.length := by have := xn hk3; omega
   have hvi := H8 hp hi1
   split at h
   ·cases h
   rename_i hc
   cases h
   have hN : ∀ q, (m.fa.set i (-1)).getD q 0 = if q = i then -1 else m.fa.getD q 0 := fun q => Jg (by omega)
   have hB : ∀ q, (if s.ff = 2 then m.fd.set i (m.fa.getD i 0) else m.fd).getD q 0 = if s.ff = 2 ∧ q = i then m.fa.getD i 0 else m.fd.getD q 0 := fun q => by
    by_cases hk2 : s.ff = 2
    ·rw [if_pos hk2, Jg (by omega)]
     by_cases e : q = i
     ·rw [if_pos e, if_pos ⟨hk2, e⟩]
     ·rw [if_neg e, if_neg (fun h => e h.2)]
    ·rw [if_neg hk2, if_neg (fun h => hk2 h.1)]
   have hrun : ∀ q v, IK ⟨if s.ff = 2 then m.fd.set i (m.fa.getD i 0) else m.fd, m.fa.set i (-1), m.fe⟩ q v = true → IK m q v = true := fun q v hr => by
    rw [Pn] at hr ⊢
    simp only [hN q, hB q] at hr
    by_cases e : q = i
    ·subst e
     rw [if_pos rfl] at hr
     by_cases hk2 : s.ff = 2
     ·rw [if_pos ⟨hk2, rfl⟩] at hr; omega
     ·rw [if_neg (fun h => hk2 h.1)] at hr; omega
    ·rw [if_neg e, if_neg (fun h => e h.2)] at hr; exact hr
   refine { base := by simp only; split <;> simp [hb], next := by simpa using hn, held := hh, b0 := fun q hq => ?_, n0 := fun q hq => ?_, ne := fun q hq => ?_, range := hm.range, low := fun q t ht hs v hr => hm.low q t ht hs v (hrun _ _ hr), high := hm.high, none := hm.none }
   ·simp only [hB q]
    split
    ·rename_i e; obtain ⟨_, e⟩ := e; subst e
     have := hm.n0 q hq
     omega
    ·exact hm.b0 q hq
   ·simp only [hN q]
    split
    ·rename_i e; subst e; omega
    ·exact hm.n0 q hq
   ·simp only [hB q, hN q]
    have h1 := hm.b0 q hq
    by_cases e : q = i
    ·rw [if_pos e]
     split
     ·rename_i e2; obtain ⟨_, e2⟩ := e2; subst e2; omega
     ·omega
    ·rw [if_neg e, if_neg (fun h => e h.2)]; exact hm.ne q hq
theorem Rn (N : Nat) (hN : N ≤ 1000000) (h20 : 100 ≤ N) {p : Aa} {m : Ab} (hw : LL JT m.fe) (s : Ah) : EN N p m s = some (if Do p m = 0 then A6 p m s else (Hs, Do p m)) := by
 unfold EN A6
 rw [MW N p m hN (by omega)]
 simp only [oS, Bc]
 by_cases hval : Do p m = 0
 ·obtain ⟨hp, hm⟩ := Iq hw hval
  rw [if_pos hval, hval, bne_self_eq_false, Am, QS]
  simp only [oS]
  cases hv : FY s
  ·rw [zE0, AI, if_pos rfl]; rfl
  ·rw [zB7, Am, if_neg (by simp)]
   obtain ⟨k1, k4, i0, v0, vk⟩ := H3 hv
   have key : ∀ b : Bool, Fa p s = b → (if b = false then (Hs, (4 : Int)) else match Ez p m s with | none => (Hs, 11) | some x => (x, 0)) = (if b = false then (Hs, (4 : Int)) else match Ez p m s with | none => (Hs, 11) | some x => (x, 0)) := fun _ _ => rfl
   have tail : Fa p s = true → ((CQ N p m s).bind fun v15 => AP (!v15.2) (some (Ab.mk [] [] [], (11 : Int))) (some (v15.1, 0))) = some (match Ez p m s with | none => (Hs, 11) | some x => (x, 0)) := fun hx => by
    rw [Mw N hN h20 hp hm hv hx]
    cases Ez p m s <;> rfl
   have zz : (Ab.mk [] [] [], (4 : Int)) = (Hs, 4) := rfl
   by_cases hk3 : s.ff = 3
   ·rw [beq_iff_eq.2 hk3, AI, show (s.ff != 3) = false from by rw [hk3]; rfl]
    have hX : Fa p s = decide (s.fj < (p.fc.length : Int)) := by unfold Fa; rw [if_pos hk3]
    by_cases c : (p.fc.length : Int) ≤ s.fj
    ·rw [AD c, AI, hX, decide_eq_false (by omega), if_pos rfl]; rfl
    ·have hx : Fa p s = true := by rw [hX, decide_eq_true (by omega)]
     rw [AA c, Am, Am, beq_eq_false_iff_ne.2 (show s.ff ≠ 1 by omega), Am, Am, hx, if_neg (by simp)]
     exact tail hx
   ·rw [beq_eq_false_iff_ne.2 hk3, Am, bne_iff_ne.2 hk3, AI]
    have hX : Fa p s = (decide (s.fj < (p.fb.length : Int)) && (s.ff != 1 || decide (s.fp < p.fb.getD s.fj.toNat 0))) := by unfold Fa; rw [if_neg hk3]
    by_cases c : (p.fb.length : Int) ≤ s.fj
    ·rw [decide_eq_true c, AI, hX, decide_eq_false (show ¬ s.fj < (p.fb.length : Int) by omega), zK5, if_pos rfl]; rfl
    ·rw [decide_eq_false c, Am]
     by_cases hk1 : s.ff = 1
     ·rw [beq_iff_eq.2 hk1, AI, E5 (d := 0) i0 (by omega)]
      simp only [oS]
      by_cases c2 : p.fb.getD s.fj.toNat 0 ≤ s.fp
      ·rw [decide_eq_true c2, AI, hX, decide_eq_false (show ¬ s.fp < p.fb.getD s.fj.toNat 0 by omega), show (s.ff != 1) = false from by rw [hk1]; rfl, zH9, Bool.and_false, if_pos rfl]; rfl
      ·have hx : Fa p s = true := by rw [hX, decide_eq_true (by omega), decide_eq_true (by omega), zL6]; rfl
       rw [decide_eq_false c2, Am, hx, if_neg (by simp)]
       exact tail hx
     ·have hx : Fa p s = true := by rw [hX, decide_eq_true (by omega), bne_iff_ne.2 hk1]; rfl
      rw [beq_eq_false_iff_ne.2 hk1, Am, Am, hx, if_neg (by simp)]
      exact tail hx
 ·rw [if_neg hval, bne_iff_ne.2 hval, AI]; rfl
theorem LO (N : Nat) (hN : N ≤ 1000000) (h20 : 100 ≤ N) {p : Aa} {m : Ab} (hw : LL JT m.fe) (s : Ah) : FG N p m s = some (if Do p m = 0 then A6 p m s else (Hs, Do p m)) := by
 unfold FG
 rw [HE N p m hN (by omega) hw]
 simp only [oS]
 by_cases hval : Do p m = 0
 ·obtain ⟨hp, hm⟩ := Iq hw hval
  rw [if_pos hval, hval, bne_self_eq_false, Am, Py N hN h20 hp hm s]; rfl
 ·rw [if_neg hval, bne_iff_ne.2 hval, AI]; rfl
theorem Lm {p : Aa} {m : Ab} (hp : A2 p) (hm : BI p m) {s : Ah} (h : (A6 p m s).2 = 0) : BI p (A6 p m s).1 := by
 unfold A6 at h ⊢
 split at h
 ·cases h
 rename_i h1
 rw [if_neg h1]
 split at h
 ·cases h
 rename_i h2
 rw [if_neg h2]
 cases ha : Ez p m s with
 | none => rw [ha] at h; cases h
 | some x => exact V6 hp hm (by simpa using h1) (by simpa using h2) ha
end Go.Lift
namespace Go.Lift
open Go
section
variable {N : Nat} {p : Aa} {l : List Ah}
end
end Go.Lift
namespace Go.Lift
open Go
def Kw (p : Aa) (m : Ab) (s : Ah) : Option Ab := if (A6 p m s).2 = 0 ∧ s.ff ≠ 4 ∧ BF p (A6 p m s).1 = true then some (A6 p m s).1 else none
def KW (p : Aa) : Ab → List Ah → Option Ab
 | m, [] => some m
 | m, s :: l => (Kw p m s).bind fun x => KW p x l
theorem U4 {p : Aa} {m x : Ab} {s : Ah} : Kw p m s = some x ↔ FY s = true ∧ Fa p s = true ∧ Ez p m s = some x ∧ s.ff ≠ 4 ∧ BF p x = true := by
 unfold Kw A6
 cases h1 : FY s
 ·simp
 cases h2 : Fa p s
 ·simp
 cases h3 : Ez p m s with
 | none => simp
 | some y =>
  simp only [Bool.true_eq_false, if_false, true_and, Option.some.injEq]
  constructor
  ·intro h
   split at h
   ·rename_i hc; cases h; exact ⟨rfl, hc.1, hc.2⟩
   ·cases h
  ·rintro ⟨rfl, h4, h5⟩
   rw [if_pos ⟨h4, h5⟩]
theorem NZ (p : Aa) : ∀ (A B : List Ah) (m : Ab), KW p m (A ++ B) = (KW p m A).bind fun x => KW p x B
 | [], B, m => rfl
 | s :: A, B, m => by
  rw [zI2, KW, KW]
  cases Kw p m s with
  | none => rfl
  | some x => exact NZ p A B x
end Go.Lift
namespace Go.Lift
open IntKind renaming wrap → wI
open Go
def Gv (m : Ab) (i : Nat) (b : Int) : List Int := [wI .u8 b, wI .u8 (wI .i64 (m.fa.getD i 0 + 1))]
def Lz (m : Ab) : List Int := Cy (Gv m) 0 m.fd ++ m.fe
end Go.Lift
namespace Go.Lift
open IntKind renaming wrap → wI
open List renaming getElem?_eq_some_iff → lI
open List renaming getD_eq_getElem?_getD → lD
open Go
theorem TL (xs : List Int) : ∀ b : ByteArray, (xs.foldl (fun s n => s.push (UInt8.ofNat n.toNat)) b).data.toList = b.data.toList ++ xs.map fun n => UInt8.ofNat n.toNat := by
 induction xs with
 | nil => intro b; simp
 | cons x xs ih => intro b; rw [List.foldl_cons, ih]; simp [ByteArray.push]
theorem MJ (xs : List Int) : (CP xs).data.toList = xs.map fun n => UInt8.ofNat n.toNat := by
 unfold CP
 rw [TL]; rfl
theorem Zx {a b : Int} (ha : 0 ≤ a ∧ a ≤ 255) (hb : 0 ≤ b ∧ b ≤ 255) (h : UInt8.ofNat a.toNat = UInt8.ofNat b.toNat) : a = b := by
 have := congrArg UInt8.toNat h
 simp at this
 omega
theorem O6 : ∀ {xs ys : List Int}, (∀ x, x ∈ xs → 0 ≤ x ∧ x ≤ 255) → (∀ x, x ∈ ys → 0 ≤ x ∧ x ≤ 255) → (xs.map fun n => UInt8.ofNat n.toNat) = (ys.map fun n => UInt8.ofNat n.toNat) → xs = ys
 | [], [], _, _, _ => rfl
 | [], _ :: _, _, _, h => by cases h
 | _ :: _, [], _, _, h => by cases h
 | x :: xs, y :: ys, hx, hy, h => by
  rw [zC3, zC3, List.cons.injEq] at h
  rw [Zx (hx x (by simp)) (hy y (by simp)) h.1, O6 (fun z hz => hx z (zJ3 _ hz)) (fun z hz => hy z (zJ3 _ hz)) h.2]
theorem R7 {xs ys : List Int} (hx : ∀ x, x ∈ xs → 0 ≤ x ∧ x ≤ 255) (hy : ∀ x, x ∈ ys → 0 ≤ x ∧ x ≤ 255) (h : (CP xs == CP ys) = true) : xs = ys := by
 rw [JH, beq_iff_eq] at h
 have h := congrArg Array.toList h
 rw [MJ, MJ] at h
 exact O6 hx hy h
theorem QT (xs : List Int) : (CP xs == CP xs) = true := by rw [JH]; simp
theorem Qf {α β : Type} {g h : Nat → α → List β} {c : Nat} : ∀ {i : Nat} {xs ys : List α}, xs.length = ys.length → (∀ i x, (g i x).length = c) → (∀ i x, (h i x).length = c) → Cy g i xs = Cy h i ys → ∀ j x y, xs[j]? = some x → ys[j]? = some y → g (i + j) x = h (i + j) y
 | i, [], ys, _, _, _, _, j, x, y, hx, _ => by simp at hx
 | i, x :: xs, [], hl, _, _, _, _, _, _, _, _ => by simp at hl
 | i, x :: xs, y :: ys, hl, hg, hh, e, j, x', y', hx, hy => by
  rw [Cy, Cy] at e
  have e1 := List.append_inj e ((hg i x).trans (hh i y).symm)
  cases j with
  | zero => simp at hx hy; subst hx; subst hy; exact e1.1
  | succ j =>
   have := Qf (i := i + 1) (by simpa using hl) hg hh e1.2 j x' y' (by simpa using hx) (by simpa using hy)
   rwa [show i + 1 + j = i + (j + 1) from by omega] at this
theorem Qr {p : Aa} {m : Ab} (_hp : A2 p) (hm : BI p m) : ∀ x, x ∈ Lz m → 0 ≤ x ∧ x ≤ 255 := by
 intro x hx
 unfold Lz at hx
 rcases zC5.1 hx with h | h
 ·obtain ⟨j, b, hb, hk⟩ := D4.1 h
  have hw : ∀ n : Int, 0 ≤ wI .u8 n ∧ wI .u8 n ≤ 255 := fun n => by
   simp [wI, IntKind.signed, IntKind.bits]; omega
  unfold Gv at hk
  rcases zB0.1 hk with e | e
  ·subst e; exact hw _
  ·rcases zB0.1 e with e | e
   ·subst e; exact hw _
   ·cases e
 ·obtain ⟨j, hj⟩ := zA8.1 h
  have hl := (lI.1 hj).1
  have := hm.range j (by rw [← hm.held]; exact hl)
  rw [lD, hj] at this
  exact this
theorem Ia {n : Int} (h : 0 ≤ n ∧ n ≤ 255) : wI .u8 n = n := by
 simp [wI, IntKind.signed, IntKind.bits]; omega
theorem X3 {p : Aa} {m x : Ab} (hp : A2 p) (hm : BI p m) (hx : BI p x) (h : (CP (Lz m) == CP (Lz x)) = true) : m = x := by
 have e := R7 (Qr hp hm) (Qr hp hx) h
 unfold Lz at e
 have hbl : m.fd.length = x.fd.length := hm.base.trans hx.base.symm
 have hfl : ∀ y : Ab, (Cy (Gv y) 0 y.fd).length = 2 * y.fd.length := fun y => by
  have : ∀ (i : Nat) (l : List Int), (Cy (Gv y) i l).length = 2 * l.length := by
   intro i l
   induction l generalizing i with
   | nil => rfl
   | cons b l ih => rw [Cy, zD4, ih, zC6]; simp [Gv]; omega
  exact this 0 _
 obtain ⟨e1, e2⟩ := List.append_inj e (by rw [hfl, hfl, hbl])
 have key : ∀ j, j < p.fb.length → m.fd.getD j 0 = x.fd.getD j 0 ∧ m.fa.getD j 0 = x.fa.getD j 0 := fun j hj => by
  have h1 : m.fd[j]? = some (m.fd.getD j 0) := by rw [lD]; simp [hm.base, hj]
  have h2 : x.fd[j]? = some (x.fd.getD j 0) := by rw [lD]; simp [hx.base, hj]
  have h3 := Qf (c := 2) hbl (fun _ _ => by simp [Gv]) (fun _ _ => by simp [Gv]) e1 j _ _ h1 h2
  rw [zA1] at h3
  have v := H8 hp hj
  have b1 := hm.b0 j hj
  have b2 := hx.b0 j hj
  have n1 := hm.n0 j hj
  have n2 := hx.n0 j hj
  unfold Gv at h3
  rw [Dq (n := m.fa.getD j 0 + 1) (by omega) (by omega), Dq (n := x.fa.getD j 0 + 1) (by omega) (by omega), Ia (n := m.fd.getD j 0) (by omega), Ia (n := x.fd.getD j 0) (by omega), Ia (n := m.fa.getD j 0 + 1) (by omega), Ia (n := x.fa.getD j 0 + 1) (by omega), List.cons.injEq, List.cons.injEq] at h3
  exact ⟨h3.1, by omega⟩
 have hB : m.fd = x.fd := FM hbl fun q hq => (key q (by rw [← hm.base]; exact hq)).1
 have hN : m.fa = x.fa := FM (hm.next.trans hx.next.symm) fun q hq => (key q (by rw [← hm.next]; exact hq)).2
 cases m; cases x
 simp only at hB hN e2
 rw [hB, hN, e2]
end Go.Lift
namespace Go.Lift
open Option renaming bind_some → oS
open List renaming mem_of_getElem? → lM
open List renaming getElem?_eq_some_iff → lI
open Go
def Jj (i : Nat) (n : Int) : List Ah := (zB1 n.toNat).map fun v => ⟨1, (i : Int), ((v : Nat) : Int), ⟩
def EU (p : Aa) : List Ah := Cy Jj 0 p.fb ++ ((zB1 p.fb.length).map fun i => (⟨2, ((i : Nat) : Int), 0⟩ : Ah)) ++ ((zB1 p.fc.length).map fun i => (⟨3, ((i : Nat) : Int), 0⟩ : Ah))
def Eb (p : Aa) (m : Ab) : List Ah := (EU p).filter fun s => (A6 p m s).2 == 0
theorem MI {p : Aa} (hp : A2 p) : (EU p).length ≤ 54 := by
 have h1 : (Cy Jj 0 p.fb).length ≤ 6 * p.fb.length := Ft fun j x hx => by
  have := hp.ver x (lM hx)
  simp [Jj]; omega
 have := hp.nv
 have := hp.nt
 unfold EU
 simp only [zD4, zC2, zG9]
 omega
theorem RE (N : Nat) (hN : N ≤ 1000000) (h20 : 100 ≤ N) {p : Aa} (hp : A2 p) : It N p = some (EU p) := by
 have hnv := hp.nv
 have hnt := hp.nt
 unfold It
 have l1 := Fr (Dm N p fun v2 => Cv N p (fun v10 => Bw N p (fun v14 => some v14) N (v10, 0)) N (v2, 0)) (fun a i => (a, i)) p.fb (fun v2 => Cv N p (fun v10 => Bw N p (fun v14 => some v14) N (v10, 0)) N (v2, 0)) Jj 6 100
  (fun i x hx => by have := hp.ver x (lM hx); simp [Jj]; omega)
  (fun n i x a hx hl => by
   have hi := (lI.1 hx).1
   have hx6 := hp.ver x (lM hx)
   obtain ⟨k, hk⟩ := zA7 (show 0 ≤ x by omega)
   rw [Dm, AD (by simp only; omega)]
   simp only [AU, hx, oS, AE (show i < 1000000 by omega)]
   subst hk
   obtain ⟨a', e, ha⟩ := Fk (EP N (a, (i : Int)) (k : Int) fun v6 => Dm N p (fun v2 => Cv N p (fun v10 => Bw N p (fun v14 => some v14) N (v10, 0)) N (v2, 0)) n (v6, ((i + 1 : Nat) : Int))) (fun b v => (b, v)) k (fun v6 => Dm N p (fun v2 => Cv N p (fun v10 => Bw N p (fun v14 => some v14) N (v10, 0)) N (v2, 0)) n (v6, ((i + 1 : Nat) : Int)))
    (fun v b => b = a ++ (zB1 v).map fun v => (⟨1, (i : Int), ((v : Nat) : Int)⟩ : Ah))
    (fun n v b hv hb => by
     subst hb
     rw [EP, AD (by simp only; omega), Aq (by simp [Dw]; simp [Jj] at hl; omega), AE (by omega)]
     exact ⟨_, rfl, by rw [zG0, zI1, zD2]; rfl⟩)
    (fun n b hb => by rw [EP, AA (by simp)]) N 0 a (zB2 _) (by omega) (by simp)
   have e' : EP N (a, (i : Int)) (k : Int) (fun v6 => Dm N p (fun v2 => Cv N p (fun v10 => Bw N p (fun v14 => some v14) N (v10, 0)) N (v2, 0)) n (v6, ((i + 1 : Nat) : Int))) N (a, 0) = _ := e
   rw [e', ha]; rfl)
  (fun n a => by rw [Dm, AA (by simp)]) N [] (by omega) (by simp; omega)
 have l1' : Dm N p (fun v2 => Cv N p (fun v10 => Bw N p (fun v14 => some v14) N (v10, 0)) N (v2, 0)) N (([] : List Ah), 0) = _ := l1
 rw [l1', zG1]
 have hA : (Cy Jj 0 p.fb).length ≤ 6 * p.fb.length := Ft fun j x hx => by
  have := hp.ver x (lM hx)
  simp [Jj]; omega
 generalize hAe : Cy Jj 0 p.fb = A at hA
 obtain ⟨b', e2, hb⟩ := Fk (Cv N p fun v10 => Bw N p (fun v14 => some v14) N (v10, 0)) (fun b v => (b, v)) p.fb.length (fun v10 => Bw N p (fun v14 => some v14) N (v10, 0))
  (fun v b => b = A ++ (zB1 v).map fun i => (⟨2, ((i : Nat) : Int), 0⟩ : Ah))
  (fun n v b hv hb => by
   subst hb
   rw [Cv, AD (by simp only; omega), Aq (by simp [Dw]; omega), AE (by omega)]
   exact ⟨_, rfl, by rw [zG0, zI1, zD2]; rfl⟩)
  (fun n b hb => by rw [Cv, AA (by simp)]) N 0 A (zB2 _) (by omega) (by simp)
 have e2' : Cv N p (fun v10 => Bw N p (fun v14 => some v14) N (v10, 0)) N (A, 0) = _ := e2
 rw [e2', hb]
 generalize hBe : A ++ (zB1 p.fb.length).map (fun i => (⟨2, ((i : Nat) : Int), 0⟩ : Ah)) = B
 have hB : B.length ≤ 50 := by rw [← hBe]; simp; omega
 obtain ⟨c', e3, hc⟩ := Fk (Bw N p fun v14 => some v14) (fun b v => (b, v)) p.fc.length (fun v14 => some v14)
  (fun v b => b = B ++ (zB1 v).map fun i => (⟨3, ((i : Nat) : Int), 0⟩ : Ah))
  (fun n v b hv hb => by
   subst hb
   rw [Bw, AD (by simp only; omega), Aq (by simp [Dw]; omega), AE (by omega)]
   exact ⟨_, rfl, by rw [zG0, zI1, zD2]; rfl⟩)
  (fun n b hb => by rw [Bw, AA (by simp)]) N 0 B (zB2 _) (by omega) (by simp)
 have e3' : Bw N p (fun v14 => some v14) N (B, 0) = _ := e3
 rw [e3', hc, ← hBe, ← hAe]; rfl
end Go.Lift
namespace Go.Lift
open Option renaming bind_some → oS
open List renaming mem_of_getElem? → lM
open List renaming getElem?_eq_some_iff → lI
open List renaming getD_eq_getElem?_getD → lD
open Go
theorem M5 {p : Aa} (hp : A2 p) {s : Ah} (h : s ∈ EU p) : FY s = true ∧ Fa p s = true := by
 have hnv := hp.nv
 unfold EU at h
 rcases zC5.1 h with h | h
 ·rcases zC5.1 h with h | h
  ·obtain ⟨j, x, hx, hk⟩ := D4.1 h
   rw [zA1] at hk
   unfold Jj at hk
   obtain ⟨v, hv, rfl⟩ := zB8.1 hk
   have hx6 := hp.ver x (lM hx)
   have hv := zD9.1 hv
   have hj := (lI.1 hx).1
   refine ⟨by unfold FY; simp, ?_⟩
   unfold Fa
   have e : p.fb.getD j 0 = x := by rw [lD, hx]; rfl
   simp only
   rw [if_neg (by omega), decide_eq_true (by omega), zA9, e, decide_eq_true (by omega), zL6]; rfl
  ·obtain ⟨v, hv, rfl⟩ := zB8.1 h
   have hv := zD9.1 hv
   refine ⟨by unfold FY; simp, ?_⟩
   unfold Fa
   simp only
   rw [if_neg (by omega), decide_eq_true (by omega)]; rfl
 ·obtain ⟨v, hv, rfl⟩ := zB8.1 h
  have hv := zD9.1 hv
  refine ⟨by unfold FY; simp, ?_⟩
  unfold Fa
  simp only
  rw [if_pos trivial, decide_eq_true (by omega)]
theorem Wx {p : Aa} {m : Ab} {s : Ah} (hv : FY s = true) (hx : Fa p s = true) : ((A6 p m s).2 == 0) = (Ez p m s).isSome := by
 unfold A6
 rw [hv, hx, if_neg (by simp), if_neg (by simp)]
 cases Ez p m s <;> rfl
theorem R0 (N : Nat) (hN : N ≤ 1000000) (h20 : 100 ≤ N) {p : Aa} {m : Ab} (hp : A2 p) (hm : BI p m) {s : Ah} (h : s ∈ EU p) :
  DK N s p.fb p.fh p.fi p.fc m.fd m.fa m.fe = some (!((A6 p m s).2 == 0)) := by
 obtain ⟨hv, hx⟩ := M5 hp h
 unfold DK
 obtain ⟨o, e, _⟩ := LF N hN h20 hp hm hv hx
 have e' : FQ N ⟨p.fb, p.fh, p.fi, p.fc⟩ ⟨m.fd, m.fa, m.fe⟩ s = some (o, (Ez p m s).isSome) := e
 rw [e', Wx hv hx]; rfl
theorem TZ (N : Nat) (hN : N ≤ 1000000) (a : List Ah) (f : Ah → Option Bool) (g : Ah → Bool) (h : a.length < N) (hf : ∀ x, x ∈ a → f x = some (g x)) :
  BQ N a f = some ((C3 (fun i x => if g x = true then some (i : Int) else none) 0 a).getD (-1)) := by
 unfold BQ
 have := Di (AY N a f fun _ => some (-1)) a (some (-1)) (fun i x => if g x = true then some (i : Int) else none)
  (fun n i x hx => by
   have hi := (lI.1 hx).1
   rw [AY, AD (by omega), AU, hx]
   simp only [oS]
   rw [hf x (lM hx), AE (by omega)]
   simp only [oS]
   cases g x <;> rfl)
  (fun n => by rw [AY, AA (by simp)]) N 0 (zB2 _) (by omega)
 refine this.trans ?_
 rw [zC0]
 cases C3 (fun i x => if g x = true then some (i : Int) else none) 0 a <;> rfl
theorem Pz {α : Type} {l : List α} {i : Nat} {v : α} (h : i < l.length) : (l.set i v).take (i + 1) = l.take i ++ [v] := by
 rw [zE4, List.take_set_of_le (zB4 i)]
 congr 1
 simp [h]
theorem Sj (N : Nat) (hN : N ≤ 1000000) (a : List Ah) (f : Ah → Option Bool) (g : Ah → Bool) (h : a.length < N) (h9 : a.length ≤ 1000) (hf : ∀ x, x ∈ a → f x = some (g x)) :
  ∃ X n, BP N a f = some (n, X) ∧ n ≤ X.length ∧ X.take n = a.filter fun x => !g x := by
 unfold BP
 rw [TZ N hN a f g h hf]
 simp only [oS]
 cases hs : C3 (fun i x => if g x = true then some (i : Int) else none) 0 a with
 | none =>
  refine ⟨a, a.length, rfl, zB4 _, ?_⟩
  rw [zI3]
  symm
  rw [List.filter_eq_self]
  intro x hx
  obtain ⟨j, hj⟩ := zA8.1 hx
  have := Ff hs j x hj
  cases hg : g x
  ·rfl
  ·rw [hg] at this; cases this
 | some r =>
  obtain ⟨j, x, hx, hr⟩ := El hs
  rw [zA1] at hr
  split at hr
  ·rename_i hg
   cases hr
   have hj := (lI.1 hx).1
   have e0 : ((some (j : Int)).getD (-1) == (-1 : Int)) = false := beq_eq_false_iff_ne.2 (by simp only [zC9]; omega)
   rw [e0, Am]
   simp only [zC9]
   rw [AE (by omega)]
   -- what lies before the first that goes is kept
   have hpre : (a.take (j + 1)).filter (fun x => !g x) = a.take j := by
    rw [zE4, hx, zF2]
    have h1 : (a.take j).filter (fun x => !g x) = a.take j := by
     rw [List.filter_eq_self]
     intro y hy
     obtain ⟨q, hq⟩ := zA8.1 hy
     have hql := (lI.1 hq).1
     simp at hql
     rw [zC1 (by omega)] at hq
     cases hgy : g y
     ·rfl
     ·exfalso
      have : ∀ (xs : List Ah) (i j q : Nat) (y : Ah), C3 (fun i x => if g x = true then some (i : Int) else none) i xs = some ((i + j : Nat) : Int) → q < j → xs[q]? = some y → g y = true → False := by
       intro xs
       induction xs with
       | nil => intro i j q y _ _ hq; simp at hq
       | cons z zs ih =>
        intro i j q y hs hqj hq hgy
        rw [Gm] at hs
        cases hz : g z
        ·rw [hz] at hs
         cases q with
         | zero => simp at hq; subst hq; rw [hz] at hgy; cases hgy
         | succ q =>
          cases j with
          | zero => omega
          | succ j => exact ih (i + 1) j q y (by rw [show i + 1 + j = i + (j + 1) from by omega]; exact hs) (by omega) (by simpa using hq) hgy
        ·rw [hz] at hs
         have hs : (some (i : Int)) = some ((i + j : Nat) : Int) := hs
         have := Option.some.inj hs
         omega
      exact this a 0 j q y (by rw [zA1]; exact hs) (by omega) hq hgy
    rw [h1]
    simp [hg]
   obtain ⟨b, e, hb⟩ := Fk (AV N f fun v4 => (DT ((0 : Int) ≤ v4.2 ∧ (v4.2).toNat ≤ v4.1.length ∧ v4.1.length ≤ v4.1.length)).bind fun _ =>
     (DT ((0 : Int) ≤ v4.2 ∧ 0 ≤ (v4.2).toNat ∧ (v4.2).toNat ≤ (HY v4.1 ((v4.2).toNat) (zA2 ((v4.1.length - (v4.2).toNat)) ((Ah.mk 0 0 0)))).length)).bind fun _ =>
     some ((v4.2).toNat, HY v4.1 ((v4.2).toNat) (zA2 ((v4.1.length - (v4.2).toNat)) ((Ah.mk 0 0 0)))))
    (fun (b : List Ah × Nat) i => (b.1, ((b.2 : Nat) : Int), i)) a.length (fun b => (DT ((0 : Int) ≤ ((b.2 : Nat) : Int) ∧ (((b.2 : Nat) : Int)).toNat ≤ b.1.length ∧ b.1.length ≤ b.1.length)).bind fun _ =>
     (DT ((0 : Int) ≤ ((b.2 : Nat) : Int) ∧ 0 ≤ (((b.2 : Nat) : Int)).toNat ∧ (((b.2 : Nat) : Int)).toNat ≤ (HY b.1 ((((b.2 : Nat) : Int)).toNat) (zA2 ((b.1.length - (((b.2 : Nat) : Int)).toNat)) ((Ah.mk 0 0 0)))).length)).bind fun _ =>
     some ((((b.2 : Nat) : Int)).toNat, HY b.1 ((((b.2 : Nat) : Int)).toNat) (zA2 ((b.1.length - (((b.2 : Nat) : Int)).toNat)) ((Ah.mk 0 0 0)))))
    (fun i b => b.1.length = a.length ∧ b.2 ≤ i ∧ b.1.drop i = a.drop i ∧ b.1.take b.2 = (a.take i).filter fun x => !g x)
    (fun n i b hi hb => by
     obtain ⟨b1, b2, b3, b4⟩ := hb
     rw [AV, AD (by simp only; omega)]
     have hai : a[i]? = some a[i] := by simp [hi]
     have hbi : b.1[i]? = some a[i] := by
      have := congrArg (fun l => l[0]?) b3
      simp only [zD5, zF9] at this
      rw [this, hai]
     simp only [Bc, AU, hbi, oS]
     rw [hf a[i] (zE9 hi), AE (i := i) (by omega)]
     simp only [oS]
     have hnext : b.1.drop (i + 1) = a.drop (i + 1) := by
      have := congrArg (List.drop 1) b3
      rwa [zH5, zH5] at this
     cases hgi : g a[i]
     ·rw [zE0, AI]
      have hbj : b.1[b.2]? = some b.1[b.2] := by simp [show b.2 < b.1.length from by omega]
      rw [hbj, AE (i := b.2) (by omega)]
      refine ⟨(b.1.set b.2 a[i], b.2 + 1), rfl, by simpa using b1, by simp only; omega, ?_, ?_⟩
      ·simp only
       rw [List.drop_set_of_lt (by omega), hnext]
      ·simp only
       rw [Pz (by omega), b4, zE4, hai, zF2]
       simp [hgi]
     ·rw [zB7, Am]
      refine ⟨b, rfl, b1, by omega, hnext, ?_⟩
      rw [b4, zE4, hai, zF2]
      simp [hgi])
    (fun n b hb => by rw [AV, AA (by simp [hb.1])]) N (j + 1) (a, j) (by omega) (by omega) ⟨rfl, by simp only; omega, rfl, hpre.symm⟩
   obtain ⟨b1, b2, b3, b4⟩ := hb
   have e' : AV N f (fun v4 => (DT ((0 : Int) ≤ v4.2 ∧ (v4.2).toNat ≤ v4.1.length ∧ v4.1.length ≤ v4.1.length)).bind fun _ =>
     (DT ((0 : Int) ≤ v4.2 ∧ 0 ≤ (v4.2).toNat ∧ (v4.2).toNat ≤ (HY v4.1 ((v4.2).toNat) (zA2 ((v4.1.length - (v4.2).toNat)) ((Ah.mk 0 0 0)))).length)).bind fun _ =>
     some ((v4.2).toNat, HY v4.1 ((v4.2).toNat) (zA2 ((v4.1.length - (v4.2).toNat)) ((Ah.mk 0 0 0))))) N (a, (j : Int), ((j + 1 : Nat) : Int)) = _ := e
   rw [e']
   have hsl : (HY b.1 b.2 (zA2 (b.1.length - b.2) (Ah.mk 0 0 0))).length = b.1.length := Jc (by rw [List.length_replicate]; omega)
   simp only [zA9]
   rw [Aq ⟨by omega, by omega, zB4 _⟩, Aq ⟨by omega, by omega, by rw [hsl]; omega⟩]
   refine ⟨_, _, rfl, by rw [hsl]; omega, ?_⟩
   unfold HY
   rw [zD2, zK3 (by simp; omega), List.take_take, Nat.min_self, b4, zI3]
  ·cases hr
theorem OA (N : Nat) (hN : N ≤ 1000000) (h20 : 100 ≤ N) {p : Aa} {m : Ab} (hv : By p = 0) (hm : BI p m) : DV N p m = some (Eb p m, 0) := by
 obtain ⟨hp, _⟩ := Cd hv
 unfold DV
 rw [HE N p m hN (by omega) (Kx hm), Ij hv hm]
 simp only [oS, bne_self_eq_false, Am]
 rw [RE N hN h20 hp]
 simp only [oS]
 have hl := MI hp
 obtain ⟨X, n, e, h1, h2⟩ := Sj N hN (EU p) (fun x => DK N x p.fb p.fh p.fi p.fc m.fd m.fa m.fe) (fun s => !((A6 p m s).2 == 0)) (by omega) (by omega) (fun x hx => R0 N hN h20 hp hm hx)
 rw [e]
 simp only [oS]
 rw [Aq h1, h2]
 unfold Eb
 simp
theorem Ip {β : Type} (g : Nat → List β) : ∀ n : Nat, Cy (fun i (_ : Nat) => g i) 0 (zB1 n) = (zB1 n).flatMap g
 | 0 => rfl
 | n + 1 => by rw [zG0, Mp, Ip g n, zJ2]; simp [Cy]
def Xh (p : Aa) (m : Ab) (s : Ah) : Bool := (A6 p m s).2 == 0
def gS (p : Aa) (m : Ab) (k : Int) (i v : Nat) : List Ah := if Xh p m ⟨k, (i : Int), (v : Int)⟩ = true then [⟨k, (i : Int), (v : Int)⟩] else []
def bS (p : Aa) (m : Ab) (k : Int) (i : Nat) : List Ah := (zB1 6).flatMap (gS p m k i)
def T1 (p : Aa) : Nat := max p.fb.length p.fc.length
def kS (p : Aa) (m : Ab) (k : Int) : List Ah := (zB1 (T1 p)).flatMap (bS p m k)
theorem Lg {β : Type} (f : Nat → β) (q : β → Bool) : ∀ n : Nat, ((zB1 n).flatMap fun v => if q (f v) = true then [f v] else []) = ((zB1 n).map f).filter q
 | 0 => rfl
 | n + 1 => by
  rw [zG0, zJ2, Lg f q n, zI1, zF2]
  cases h : q (f n) <;> simp [h]
theorem KH {β : Type} (g : Nat → List β) (a : Nat) (h : ∀ v, a ≤ v → g v = []) : ∀ n, a ≤ n → (zB1 n).flatMap g = (zB1 a).flatMap g
 | 0, hn => by rw [Nat.le_zero.1 hn]
 | n + 1, hn => by
  by_cases h1 : a = n + 1
  ·rw [h1]
  ·rw [zG0, zJ2, KH g a h n (by omega)]
   simp [h n (by omega)]
theorem VK (p : Aa) (m : Ab) (k : Int) (i v : Nat) : (gS p m k i v).length ≤ 1 := by unfold gS; split <;> simp
theorem Vx (p : Aa) (m : Ab) (k : Int) (i : Nat) : (bS p m k i).length ≤ 6 := by
 unfold bS
 rw [← Ip]
 have := Ft (g := fun i' (_ : Nat) => gS p m k i i') (c := 1) (i := 0) (xs := zB1 6) fun j x _ => VK p m k i _
 simpa using this
theorem ZP {p : Aa} (hp : A2 p) (m : Ab) (k : Int) : (kS p m k).length ≤ 72 := by
 have h1 := hp.nv
 have h2 := hp.nt
 unfold kS
 rw [← Ip]
 have := Ft (g := fun i' (_ : Nat) => bS p m k i') (c := 6) (i := 0) (xs := zB1 (T1 p)) fun j x _ => Vx p m k _
 simp only [zG9] at this
 have h3 : T1 p ≤ 12 := by unfold T1; omega
 omega
theorem ZF {p : Aa} {m : Ab} {s : Ah} (h : Xh p m s = true) : FY s = true ∧ Fa p s = true := by
 unfold Xh A6 at h
 split at h
 ·cases h
 ·rename_i h1
  split at h
  ·cases h
  ·rename_i h2
   exact ⟨by simpa using h1, by simpa using h2⟩
theorem Mt {p : Aa} {m : Ab} {k : Int} {i v : Nat} (h : Xh p m ⟨k, (i : Int), (v : Int)⟩ = true) : (k = 3 → i < p.fc.length) ∧ (k ≠ 3 → i < p.fb.length) ∧ (k = 1 → (v : Int) < p.fb.getD i 0) ∧ (k ≠ 1 → v = 0) := by
 obtain ⟨h1, h2⟩ := ZF h
 obtain ⟨a1, a2, a3, a4, a5⟩ := H3 h1
 obtain ⟨b1, b2, b3⟩ := IR h2
 simp only [zA9] at *
 exact ⟨fun e => by have := b1 e; omega, fun e => by have := b2 e; omega, b3, fun e => by have := a5 e; omega⟩
theorem VJ {p : Aa} (hp : A2 p) (m : Ab) : kS p m 1 ++ kS p m 2 ++ kS p m 3 = Eb p m := by
 have hnv := hp.nv
 have hnt := hp.nt
 unfold Eb EU
 rw [zF2, zF2]
 have e1 : kS p m 1 = (Cy Jj 0 p.fb).filter fun s => (A6 p m s).2 == 0 := by
  unfold kS
  rw [KH (bS p m 1) p.fb.length (fun i hi => by
   unfold bS
   rw [zL5]
   intro v _
   unfold gS
   rw [if_neg]
   intro h
   have := (Mt h).2.1 (by decide)
   omega) (T1 p) (by unfold T1; omega)]
  have e : ∀ (xs : List Int) (i : Nat), (∀ j x, xs[j]? = some x → 1 ≤ x ∧ x ≤ 6 ∧ p.fb.getD (i + j) 0 = x) → ((zB1 xs.length).flatMap fun j => bS p m 1 (i + j)) = (Cy Jj i xs).filter fun s => (A6 p m s).2 == 0 := by
   intro xs
   induction xs with
   | nil => intro i _; rfl
   | cons x xs ih =>
    intro i hx
    rw [zC6, List.range_succ_eq_map, List.flatMap_cons, List.flatMap_map, Cy, zF2]
    have ih' := ih (i + 1) (fun j y hy => by
     have := hx (j + 1) y (by simpa using hy)
     rw [show i + 1 + j = i + (j + 1) from by omega]; exact this)
    have hx0 := hx 0 x rfl
    rw [zF9] at hx0
    congr 1
    ·rw [zF9]
     unfold bS Jj
     rw [KH (gS p m 1 i) x.toNat (fun v hv => by
      unfold gS
      rw [if_neg]
      intro h
      have := (Mt h).2.2.1 rfl
      rw [hx0.2.2] at this
      omega) 6 (by omega)]
     exact Lg (fun v => (⟨1, (i : Int), ((v : Nat) : Int)⟩ : Ah)) (Xh p m) x.toNat
    ·rw [← ih']
     congr 1
     funext j
     rw [show i + (j + 1) = i + 1 + j from by omega]
  have := e p.fb 0 (fun j x hx => by
   have h1 := hp.ver x (lM hx)
   refine ⟨h1.1, h1.2, ?_⟩
   rw [zA1, lD, hx]; rfl)
  simp only [zA1] at this
  exact this
 have e23 : ∀ (k : Int) (n : Nat), k ≠ 1 → n ≤ T1 p → (∀ i v, Xh p m ⟨k, ((i : Nat) : Int), ((v : Nat) : Int)⟩ = true → i < n) → kS p m k = (((zB1 n).map fun i => (⟨k, ((i : Nat) : Int), 0⟩ : Ah)).filter fun s => (A6 p m s).2 == 0) := by
  intro k n hk hn hi
  unfold kS
  rw [KH (bS p m k) n (fun i hi' => by
   unfold bS
   rw [zL5]
   intro v _
   unfold gS
   rw [if_neg]
   intro h
   have := hi i v h
   omega) (T1 p) hn]
  show _ = List.filter (Xh p m) _
  rw [← Lg (fun i => (⟨k, ((i : Nat) : Int), 0⟩ : Ah)) (Xh p m) n]
  congr 1
  funext i
  unfold bS
  rw [KH (gS p m k i) 1 (fun v hv => by
   unfold gS
   rw [if_neg]
   intro h
   have := (Mt h).2.2.2 hk
   omega) 6 (by omega)]
  simp [gS]
 rw [e1, e23 2 p.fb.length (by decide) (by unfold T1; omega) (fun i v h => (Mt h).2.1 (by decide)), e23 3 p.fc.length (by decide) (by unfold T1; omega) (fun i v h => (Mt h).1 rfl)]
theorem Sw (a b : Nat) : UY (a : Int) (b : Int) = ((max a b : Nat) : Int) := by
 unfold UY
 omega
theorem QZ (N : Nat) (hN : N ≤ 1000000) (h20 : 100 ≤ N) {p : Aa} {m : Ab} (hv : By p = 0) (hm : BI p m) : EO N p m = some (Eb p m) := by
 obtain ⟨hp, _⟩ := Cd hv
 have hnv := hp.nv
 have hnt := hp.nt
 have hmx : T1 p ≤ 12 := by unfold T1; omega
 unfold EO
 have hmix := Ij hv hm
 -- one number
 have inn : ∀ (k : Int) (c0 a : List Ah) (i : Nat) (d0 : List Ah) (j : List Ah → Option (List Ah)), a.length ≤ 1000 →
   Ck N p m (c0, k) (d0, (i : Int)) j N (a, 0) = j (a ++ bS p m k i) := by
  intro k c0 a i d0 j ha
  have := Fr (Ck N p m (c0, k) (d0, (i : Int)) j) (fun a i => (a, i)) (zB1 6) j (fun v _ => gS p m k i v) 1 2000
   (fun v x _ => VK _ _ _ _ _)
   (fun n v x a hx hl => by
    have hi := (lI.1 hx).1
    simp only [zG9] at hi
    rw [Ck, AD (by simp only; omega)]
    simp only [Bc]
    rw [Rn N hN h20 (Kx hm), if_pos hmix]
    simp only [oS, AE (show v < 1000000 by omega)]
    unfold gS Xh
    cases hq : (A6 p m ⟨k, (i : Int), (v : Int)⟩).2 == 0
    ·rw [Am, if_neg (by simp), zJ7]
    ·rw [AI, if_pos rfl, Aq (by simp [Dw]; unfold gS Xh at hl; rw [hq] at hl; simp at hl; omega)])
   (fun n a => by rw [Ck, AA (by simp)]) N a (by simp; omega) (by simp; omega)
  rw [Ip] at this
  exact this
 have mid : ∀ (k : Int) (c0 a : List Ah) (j : List Ah → Option (List Ah)), a.length ≤ 500 →
   Cm N p m (c0, k) j N (a, 0) = j (a ++ kS p m k) := by
  intro k c0 a j ha
  have := Fr (Cm N p m (c0, k) j) (fun a i => (a, i)) (zB1 (T1 p)) j (fun i _ => bS p m k i) 6 900
   (fun v x _ => Vx _ _ _ _)
   (fun n i x a hx hl => by
    have hi := (lI.1 hx).1
    simp only [zG9] at hi
    rw [Cm, AD (by simp only; rw [Sw]; unfold T1 at hi; omega)]
    rw [inn k c0 a i a _ (by omega)]
    simp only [AE (show i < 1000000 by omega)])
   (fun n a => by rw [Cm, AA (by simp [Sw, T1])]) N a (by simp; omega) (by simp; omega)
  rw [Ip] at this
  exact this
 have hk := ZP hp m
 have go : ∀ (k : Int) (n : Nat) (a : List Ah), k ≤ 3 → 1 ≤ k → a.length ≤ 300 → BA N p m (fun v2 => some v2) (n + 1) (a, k) = BA N p m (fun v2 => some v2) n (a ++ kS p m k, k + 1) := by
  intro k n a h1 h2 ha
  rw [BA, AD h1]
  rw [mid k a a _ (by omega), Dq (by omega) (by omega)]
 obtain ⟨N', hN'⟩ : ∃ q, N = q + 4 := ⟨N - 4, by omega⟩
 have e0 : BA N p m (fun v2 => some v2) N ([], 1) = BA N p m (fun v2 => some v2) (N' + 4) ([], 1) := by rw [hN']
 rw [e0, go 1 (N' + 3) [] (by decide) (by decide) (by simp), zG1]
 rw [show (1 : Int) + 1 = 2 from rfl, go 2 (N' + 2) _ (by decide) (by decide) (by have := hk 1; omega)]
 rw [show (2 : Int) + 1 = 3 from rfl, go 3 (N' + 1) _ (by decide) (by decide) (by have h1 := hk 1; have h2 := hk 2; rw [zD4]; omega)]
 rw [BA, AA (by simp), VJ hp]
end Go.Lift
namespace Go.Lift
open List renaming mem_of_getElem? → lM
open List renaming getElem?_eq_some_iff → lI
namespace Bfs
section
variable {α σ : Type}
def code (rk : σ → Nat) (K : Nat) (w : List σ) : Nat := w.foldl (fun c s => c * K + rk s) 0
theorem IU (rk : σ → Nat) (K : Nat) (w : List σ) (s : σ) : code rk K (w ++ [s]) = code rk K w * K + rk s := by
 simp [code]
theorem RG (rk : σ → Nat) (K : Nat) : code rk K ([] : List σ) = 0 := rfl
def bK (rk : σ → Nat) (K : Nat) (w : List σ) : Prop := ∀ s, s ∈ w → 1 ≤ rk s ∧ rk s ≤ K
theorem bK.snoc {rk : σ → Nat} {K : Nat} {w : List σ} {s : σ} (h : bK rk K w) (hs : 1 ≤ rk s ∧ rk s ≤ K) : bK rk K (w ++ [s]) := by
 intro x hx; rcases zC5.1 hx with h1 | h1
 ·exact h x h1
 ·rw [zE1.1 h1]; exact hs
theorem Uq {c d K a b : Nat} (h : c < d) (_ : 1 ≤ b) (ha : a ≤ K) : c * K + a < d * K + b := by
 have : c * K + K ≤ d * K := by rw [← zC7]; exact zA3 K h
 omega
theorem Yt {c d K a : Nat} (h : c ≤ d) : c * K + a ≤ d * K + a := Nat.add_le_add_right (zA3 K h) a
theorem Vb {β : Type} (l : List β) : l = [] ∨ ∃ u s, l = u ++ [s] := by
 cases h : l.reverse with
 | nil => exact .inl (List.reverse_eq_nil_iff.1 h)
 | cons s r => exact .inr ⟨r.reverse, s, by rw [← List.reverse_cons, ← h, List.reverse_reverse]⟩
abbrev Nd (α σ : Type) := α × Int × σ
def put [DecidableEq α] (i : Nat) (l : List (Nd α σ)) (q : σ × α) : List (Nd α σ) := if (l.any fun n => decide (n.1 = q.2)) = true then l else l ++ [(q.2, (i : Int), q.1)]
def inner [DecidableEq α] (most i : Nat) : List (σ × α) → List (Nd α σ) → Option (List (Nd α σ))
 | [], l => some l
 | q :: qs, l => if most < (put i l q).length then none else inner most i qs (put i l q)
def go [DecidableEq α] (nxt : α → List (σ × α)) (most : Nat) : Nat → Nat → List (Nd α σ) → Option (List (Nd α σ))
 | 0, _, _ => none
 | n + 1, i, l => match l[i]? with
  | none => some l
  | some nd => (inner most i (nxt nd.1) l).bind fun l' => go nxt most n (i + 1) l'
structure Inv (nxt : α → List (σ × α)) (rk : σ → Nat) (K : Nat) (root : α) (i : Nat) (done : List (σ × α)) (l : List (Nd α σ)) (ws : List (List σ)) : Prop where
 len : ws.length = l.length
 root : ∃ s, l[0]? = some (root, -1, s)
 root' : ws[0]? = some []
 par : ∀ (k : Nat) x f s, 0 < k → l[k]? = some (x, f, s) → ∃ (j : Nat) (y : α) (g : Int) (t : σ) (w : List σ), f = (j : Int) ∧ j < k ∧ l[j]? = some (y, g, t) ∧ (s, x) ∈ nxt y ∧ ws[j]? = some w ∧ ws[k]? = some (w ++ [s]) ∧ (j < i ∨ (j = i ∧ (s, x) ∈ done))
 nodup : ∀ (a b : Nat) x f s g t, l[a]? = some (x, f, s) → l[b]? = some (x, g, t) → a = b
 inc : ∀ (a b : Nat) u w, ws[a]? = some u → ws[b]? = some w → a < b → code rk K u < code rk K w
 dig : ∀ (k : Nat) w, ws[k]? = some w → bK rk K w
 closed : ∀ (j : Nat) x f s w, l[j]? = some (x, f, s) → ws[j]? = some w → ∀ q, (j < i ∧ q ∈ nxt x) ∨ (j = i ∧ q ∈ done) → ∃ (k : Nat) (f' : Int) (s' : σ) (w' : List σ), l[k]? = some (q.2, f', s') ∧ ws[k]? = some w' ∧ code rk K w' ≤ code rk K (w ++ [q.1])
theorem Jz {β : Type} {l : List β} {y x : β} {k : Nat} (h : (l ++ [y])[k]? = some x) : l[k]? = some x ∨ (k = l.length ∧ x = y) := by
 rcases Nat.lt_trichotomy k l.length with h1 | h1 | h1
 ·rw [zC4 h1] at h; exact .inl h
 ·subst h1; simp at h; exact .inr ⟨rfl, h.symm⟩
 ·rw [zB9 (by simp; omega)] at h; cases h
theorem get_app_of {β : Type} {l : List β} {y x : β} {k : Nat} (h : l[k]? = some x) : (l ++ [y])[k]? = some x := by
 rw [zC4 ((lI.1 h).1)]; exact h
theorem KQ {β : Type} {l : List β} {y : β} : (l ++ [y])[l.length]? = some y := by simp
theorem lt_get {β : Type} {l : List β} {k : Nat} {x : β} (h : l[k]? = some x) : k < l.length := (lI.1 h).1
theorem get_ex {β : Type} {l : List β} {k : Nat} (h : k < l.length) : ∃ x, l[k]? = some x := ⟨l[k], zB6 h⟩
theorem Yp [DecidableEq α] {nxt : α → List (σ × α)} {rk : σ → Nat} {K : Nat} {root : α} {i : Nat} {done : List (σ × α)} {l : List (Nd α σ)} {ws : List (List σ)} {x : α} {f : Int} {s : σ} {q : σ × α}
  (hI : Inv nxt rk K root i done l ws) (hx : l[i]? = some (x, f, s)) (hq : q ∈ nxt x) (hd : ∀ r, r ∈ done → rk r.1 < rk q.1) (hr : 1 ≤ rk q.1 ∧ rk q.1 ≤ K) :
  ∃ ws', Inv nxt rk K root i (done ++ [q]) (put i l q) ws' ∧ (∀ (k : Nat) w, ws[k]? = some w → ws'[k]? = some w) ∧ (∀ (k : Nat) n, l[k]? = some n → (put i l q)[k]? = some n) := by
 obtain ⟨w0, hw0⟩ := get_ex (l := ws) (k := i) (by rw [hI.len]; exact lt_get hx)
 unfold put
 by_cases hin : (l.any fun n => decide (n.1 = q.2)) = true
 ·rw [if_pos hin]
  refine ⟨ws, ⟨hI.len, hI.root, hI.root', ?_, hI.nodup, hI.inc, hI.dig, ?_⟩, fun _ _ h => h, fun _ _ h => h⟩
  ·intro k y g t hk hy
   obtain ⟨j, y', g', t', w, h1, h2, h3, h4, h5, h6, h7⟩ := hI.par k y g t hk hy
   exact ⟨j, y', g', t', w, h1, h2, h3, h4, h5, h6, h7.imp id fun h => ⟨h.1, zG6 _ h.2⟩⟩
  ·intro j y g t w hy hw r hr'
   by_cases hold : (j < i ∧ r ∈ nxt y) ∨ (j = i ∧ r ∈ done)
   ·exact hI.closed j y g t w hy hw r hold
   ·have hjr : j = i ∧ r = q := by
     rcases hr' with h | ⟨h1, h2⟩
     ·exact absurd (.inl h) hold
     ·rcases zC5.1 h2 with h3 | h3
      ·exact absurd (.inr ⟨h1, h3⟩) hold
      ·exact ⟨h1, zE1.1 h3⟩
    obtain ⟨rfl, rfl⟩ := hjr
    rw [hw0] at hw; cases hw
    obtain ⟨n, hn1, hn2⟩ := zF0.1 hin
    obtain ⟨k, hk⟩ := zA8.1 hn1
    obtain ⟨nx, nf, ns⟩ := n
    have hn2 : nx = r.2 := of_decide_eq_true hn2
    subst hn2
    obtain ⟨wk, hwk⟩ := get_ex (l := ws) (k := k) (by rw [hI.len]; exact lt_get hk)
    refine ⟨k, nf, ns, wk, hk, hwk, ?_⟩
    rw [IU]
    rcases zK1 k with rfl | hk0
    ·rw [hI.root'] at hwk; cases hwk; rw [RG]; omega
    ·obtain ⟨j', y', g', t', w, h1, h2, h3, h4, h5, h6, h7⟩ := hI.par k _ _ _ hk0 hk
     rw [h6] at hwk; cases hwk
     rw [IU]
     have hdg : 1 ≤ rk ns ∧ rk ns ≤ K := hI.dig k _ h6 ns (by simp)
     rcases h7 with h7 | ⟨h7, h8⟩
     ·exact Nat.le_of_lt (Uq (hI.inc _ _ _ _ h5 hw0 h7) hr.1 hdg.2)
     ·subst h7; rw [hw0] at h5; cases h5
      have := hd _ h8
      simp only at this; omega
 ·rw [if_neg hin]
  have hnew : ∀ (k : Nat) y g t, l[k]? = some (y, g, t) → y ≠ q.2 := fun k y g t hy e => hin (zF0.2 ⟨_, lM hy, decide_eq_true e⟩)
  have hbig : ∀ (k : Nat) u, ws[k]? = some u → code rk K u < code rk K (w0 ++ [q.1]) := by
   intro k u hu
   rw [IU]
   obtain ⟨⟨nx, nf, ns⟩, hk⟩ := get_ex (l := l) (k := k) (by rw [← hI.len]; exact lt_get hu)
   rcases zK1 k with rfl | hk0
   ·rw [hI.root'] at hu; cases hu; rw [RG]; omega
   ·obtain ⟨j', y', g', t', w, h1, h2, h3, h4, h5, h6, h7⟩ := hI.par k _ _ _ hk0 hk
    rw [h6] at hu; cases hu
    rw [IU]
    have hdg : 1 ≤ rk ns ∧ rk ns ≤ K := hI.dig k _ h6 ns (by simp)
    rcases h7 with h7 | ⟨h7, h8⟩
    ·exact Uq (hI.inc _ _ _ _ h5 hw0 h7) hr.1 hdg.2
    ·subst h7; rw [hw0] at h5; cases h5
     have := hd _ h8
     simp only at this; omega
  refine ⟨ws ++ [w0 ++ [q.1]], ⟨by simp [hI.len], ?_, get_app_of hI.root', ?_, ?_, ?_, ?_, ?_⟩, fun _ _ h => get_app_of h, fun _ _ h => get_app_of h⟩
  ·obtain ⟨s0, hs0⟩ := hI.root; exact ⟨s0, get_app_of hs0⟩
  ·intro k y g t hk hy
   rcases Jz hy with hy | ⟨hk1, hy⟩
   ·obtain ⟨j, y', g', t', w, h1, h2, h3, h4, h5, h6, h7⟩ := hI.par k y g t hk hy
    exact ⟨j, y', g', t', w, h1, h2, get_app_of h3, h4, get_app_of h5, get_app_of h6, h7.imp id fun h => ⟨h.1, zG6 _ h.2⟩⟩
   ·cases hy
    refine ⟨i, x, f, s, w0, rfl, by rw [hk1]; exact lt_get hx, get_app_of hx, hq, get_app_of hw0, by rw [hk1, ← hI.len]; exact KQ, .inr ⟨rfl, by simp⟩⟩
  ·intro a b y g t g' t' ha hb
   rcases Jz ha with ha | ⟨ha1, ha⟩ <;> rcases Jz hb with hb | ⟨hb1, hb⟩
   ·exact hI.nodup a b y g t g' t' ha hb
   ·cases hb; exact absurd rfl (hnew _ _ _ _ ha)
   ·cases ha; exact absurd rfl (hnew _ _ _ _ hb)
   ·omega
  ·intro a b u w ha hb hab
   rcases Jz ha with ha | ⟨ha1, ha⟩ <;> rcases Jz hb with hb | ⟨hb1, hb⟩
   ·exact hI.inc a b u w ha hb hab
   ·rw [hb]; exact hbig _ _ ha
   ·have := lt_get hb; omega
   ·omega
  ·intro k w hw
   rcases Jz hw with hw | ⟨hw1, hw⟩
   ·exact hI.dig k w hw
   ·rw [hw]; exact (hI.dig _ _ hw0).snoc hr
  ·intro j y g t w hy hw r hr'
   rcases Jz hy with hy1 | ⟨hy1, hy2⟩
   ·have hw1 : ws[j]? = some w := by
     rcases Jz hw with h | ⟨h, _⟩
     ·exact h
     ·have := lt_get hy1; rw [← hI.len] at this; omega
    by_cases hold : (j < i ∧ r ∈ nxt y) ∨ (j = i ∧ r ∈ done)
    ·obtain ⟨k, f', s', w', h1, h2, h3⟩ := hI.closed j y g t w hy1 hw1 r hold
     exact ⟨k, f', s', w', get_app_of h1, get_app_of h2, h3⟩
    ·have hjr : j = i ∧ r = q := by
      rcases hr' with h | ⟨h1, h2⟩
      ·exact absurd (.inl h) hold
      ·rcases zC5.1 h2 with h3 | h3
       ·exact absurd (.inr ⟨h1, h3⟩) hold
       ·exact ⟨h1, zE1.1 h3⟩
     obtain ⟨rfl, rfl⟩ := hjr
     rw [hw0] at hw1; cases hw1
     exact ⟨l.length, _, _, _, KQ, by rw [← hI.len]; exact KQ, zB4 _⟩
   ·have := lt_get hx
    rcases hr' with h | h <;> omega
theorem P3 [DecidableEq α] {nxt : α → List (σ × α)} {rk : σ → Nat} {K : Nat} {root : α} {i most : Nat} {x : α} {f : Int} {s : σ} (hP : (nxt x).Pairwise fun a b => rk a.1 < rk b.1) (hD : ∀ q, q ∈ nxt x → 1 ≤ rk q.1 ∧ rk q.1 ≤ K) :
  ∀ (qs done : List (σ × α)) (l l' : List (Nd α σ)) (ws : List (List σ)), done ++ qs = nxt x → Inv nxt rk K root i done l ws → l[i]? = some (x, f, s) → inner most i qs l = some l' →
   ∃ ws', Inv nxt rk K root i (nxt x) l' ws' ∧ (∀ (k : Nat) w, ws[k]? = some w → ws'[k]? = some w) ∧ (∀ (k : Nat) n, l[k]? = some n → l'[k]? = some n)
 | [], done, l, l', ws, he, hI, hx, h => by
  cases h; rw [zJ7] at he; subst he; exact ⟨ws, hI, fun _ _ h => h, fun _ _ h => h⟩
 | q :: qs, done, l, l', ws, he, hI, hx, h => by
  have hqm : q ∈ nxt x := by rw [← he]; simp
  have hlt : ∀ r, r ∈ done → rk r.1 < rk q.1 := fun r hr => by
   rw [← he] at hP
   exact (zG5.1 hP).2.2 r hr q (by simp)
  obtain ⟨ws1, h1, h2, h3⟩ := Yp hI hx hqm hlt (hD q hqm)
  simp only [inner] at h
  split at h
  ·cases h
  ·obtain ⟨ws2, g1, g2, g3⟩ := P3 hP hD qs (done ++ [q]) _ l' ws1 (by rw [zD2]; exact he) h1 (h3 _ _ hx) h
   exact ⟨ws2, g1, fun k w hw => g2 k w (h2 k w hw), fun k n hn => g3 k n (h3 k n hn)⟩
theorem Xc {nxt : α → List (σ × α)} {rk : σ → Nat} {K : Nat} {root : α} {i : Nat} {x : α} {f : Int} {s : σ} {l : List (Nd α σ)} {ws : List (List σ)} (h : Inv nxt rk K root i (nxt x) l ws) (hx : l[i]? = some (x, f, s)) : Inv nxt rk K root (i + 1) [] l ws := by
 refine ⟨h.len, h.root, h.root', ?_, h.nodup, h.inc, h.dig, ?_⟩
 ·intro k y g t hk hy
  obtain ⟨j, y', g', t', w, h1, h2, h3, h4, h5, h6, h7⟩ := h.par k y g t hk hy
  exact ⟨j, y', g', t', w, h1, h2, h3, h4, h5, h6, .inl (by rcases h7 with h7 | h7 <;> omega)⟩
 ·intro j y g t w hy hw r hr
  rcases hr with ⟨h1, h2⟩ | ⟨_, h2⟩
  ·refine h.closed j y g t w hy hw r ?_
   by_cases hj : j < i
   ·exact .inl ⟨hj, h2⟩
   ·have : j = i := by omega
    subst this; rw [hx] at hy; cases hy; exact .inr ⟨rfl, h2⟩
  ·cases h2
theorem inv_go [DecidableEq α] {nxt : α → List (σ × α)} {rk : σ → Nat} {K : Nat} {root : α} {most : Nat} (P : α → Prop) (hP : ∀ x, P x → (nxt x).Pairwise fun a b => rk a.1 < rk b.1) (hD : ∀ x, P x → ∀ q, q ∈ nxt x → (1 ≤ rk q.1 ∧ rk q.1 ≤ K) ∧ P q.2) (hroot : P root) :
  ∀ (n i : Nat) (l l' : List (Nd α σ)) (ws : List (List σ)), i ≤ l.length → Inv nxt rk K root i [] l ws → (∀ (k : Nat) x f s, l[k]? = some (x, f, s) → P x) → go nxt most n i l = some l' → ∃ ws', Inv nxt rk K root l'.length [] l' ws' ∧ (∀ (k : Nat) x f s, l'[k]? = some (x, f, s) → P x)
 | 0, i, l, l', ws, _, _, _, h => by cases h
 | n + 1, i, l, l', ws, hi, hI, hA, h => by
  simp only [go] at h
  split at h
  ·rename_i hn
   cases h
   have : i = l.length := by
    have := List.getElem?_eq_none_iff.1 hn; omega
   subst this
   exact ⟨ws, hI, hA⟩
  ·rename_i nd hn
   obtain ⟨x, f, s⟩ := nd
   cases hin : inner most i (nxt x) l with
   | none => rw [hin] at h; cases h
   | some l1 =>
    rw [hin] at h
    have hx := hA _ _ _ _ hn
    obtain ⟨ws1, h1, h2, h3⟩ := P3 (hP x hx) (fun q hq => (hD x hx q hq).1) (nxt x) [] l l1 ws rfl hI hn hin
    have hA1 : ∀ (k : Nat) y g t, l1[k]? = some (y, g, t) → P y := fun k y g t hy => by
     rcases zK1 k with rfl | hk
     ·obtain ⟨s0, hs0⟩ := h1.root; rw [hs0] at hy; cases hy; exact hroot
     ·obtain ⟨j, y', g', t', w, e1, e2, e3, e4, e5, e6, e7⟩ := h1.par k y g t hk hy
      have hj : P y' := by
       have hjl : j < l.length := by rcases e7 with h | h <;> have := lt_get hn <;> omega
       obtain ⟨⟨z, zf, zs⟩, hz⟩ := get_ex hjl
       have := h3 _ _ hz
       rw [e3] at this; cases this
       exact hA _ _ _ _ hz
      exact (hD y' hj _ e4).2
    exact inv_go P hP hD hroot n (i + 1) l1 l' ws1 (by have := lt_get (h3 _ _ hn); omega) (Xc h1 (h3 _ _ hn)) hA1 h
theorem inv_start {nxt : α → List (σ × α)} {rk : σ → Nat} {K : Nat} {root : α} {s : σ} : Inv nxt rk K root 0 [] [(root, -1, s)] [[]] := by
 refine ⟨rfl, ⟨s, rfl⟩, rfl, ?_, ?_, ?_, ?_, ?_⟩
 ·intro k x f s hk h; rw [zB9 (by simp; omega)] at h; cases h
 ·intro a b x f s g t ha hb; have := lt_get ha; have := lt_get hb; simp at *; omega
 ·intro a b u w ha hb hab; have := lt_get hb; simp at this; omega
 ·intro k w hw
  have := lt_get hw; simp at this; subst this; simp at hw; subst hw
  intro s hs; cases hs
 ·intro j x f s w _ _ q h
  rcases h with h | h
  ·omega
  ·cases h.2
def run (nxt : α → List (σ × α)) (x : α) : List σ → α → Prop
 | [], y => y = x
 | s :: w, y => ∃ z, (s, z) ∈ nxt x ∧ run nxt z w y
theorem F7 {nxt : α → List (σ × α)} : ∀ {u w : List σ} {x y : α}, run nxt x (u ++ w) y ↔ ∃ z, run nxt x u z ∧ run nxt z w y
 | [], w, x, y => by simp [run]
 | s :: u, w, x, y => by
  simp only [zI2, run]
  constructor
  ·rintro ⟨z, h1, h2⟩
   obtain ⟨z', h3, h4⟩ := F7.1 h2
   exact ⟨z', ⟨z, h1, h3⟩, h4⟩
  ·rintro ⟨z', ⟨z, h1, h3⟩, h4⟩
   exact ⟨z, h1, F7.2 ⟨z', h3, h4⟩⟩
theorem way_run {nxt : α → List (σ × α)} {rk : σ → Nat} {K : Nat} {root : α} {i : Nat} {l : List (Nd α σ)} {ws : List (List σ)} (h : Inv nxt rk K root i [] l ws) : ∀ (n k : Nat) {x : α} {f : Int} {s : σ} {w : List σ}, k < n → l[k]? = some (x, f, s) → ws[k]? = some w → run nxt root w x
 | 0, k, _, _, _, _, hk, _, _ => by omega
 | n + 1, k, x, f, s, w, hk, hx, hw => by
  rcases zK1 k with rfl | hk0
  ·obtain ⟨s0, hs0⟩ := h.root; rw [hs0] at hx; cases hx
   rw [h.root'] at hw; cases hw; rfl
  ·obtain ⟨j, y', g', t', w', e1, e2, e3, e4, e5, e6, e7⟩ := h.par k _ _ _ hk0 hx
   rw [e6] at hw; cases hw
   exact F7.2 ⟨y', way_run h n j (by omega) e3 e5, x, e4, rfl⟩
theorem reach_node {nxt : α → List (σ × α)} {rk : σ → Nat} {K : Nat} {root : α} {l : List (Nd α σ)} {ws : List (List σ)} (h : Inv nxt rk K root l.length [] l ws) : ∀ (n : Nat) {w : List σ} {y : α}, w.length = n → run nxt root w y → ∃ (k : Nat) (f : Int) (s : σ) (u : List σ), l[k]? = some (y, f, s) ∧ ws[k]? = some u ∧ code rk K u ≤ code rk K w
 | 0, w, y, hn, hr => by
  rw [List.length_eq_zero_iff.1 hn] at hr ⊢
  simp only [run] at hr; subst hr
  obtain ⟨s, hs⟩ := h.root
  exact ⟨0, _, _, _, hs, h.root', zB4 _⟩
 | n + 1, w, y, hn, hr => by
  rcases Vb w with rfl | ⟨w', s, rfl⟩
  ·simp at hn
  obtain ⟨z, h1, h2⟩ := F7.1 hr
  simp only [run] at h2
  obtain ⟨z', h2, rfl⟩ := h2
  simp only [zD4, zJ9] at hn
  obtain ⟨k, f, t, u, g1, g2, g3⟩ := reach_node h n (by omega) h1
  obtain ⟨k', f', s', u', e1, e2, e3⟩ := h.closed k z f t u g1 g2 (s, y) (.inl ⟨lt_get g1, h2⟩)
  refine ⟨k', f', s', u', e1, e2, zG4 e3 ?_⟩
  rw [IU, IU]
  exact Yt g3
theorem inner_len [DecidableEq α] {most i : Nat} : ∀ (qs : List (σ × α)) (l l' : List (Nd α σ)), l.length ≤ most → inner most i qs l = some l' → l'.length ≤ most
 | [], l, l', h0, h => by cases h; exact h0
 | q :: qs, l, l', h0, h => by
  simp only [inner] at h
  split at h
  ·cases h
  ·exact inner_len qs _ _ (by omega) h
theorem go_len [DecidableEq α] {nxt : α → List (σ × α)} {most : Nat} : ∀ (n i : Nat) (l l' : List (Nd α σ)), l.length ≤ most → go nxt most n i l = some l' → l'.length ≤ most
 | 0, i, l, l', _, h => by cases h
 | n + 1, i, l, l', h0, h => by
  simp only [go] at h
  split at h
  ·cases h; exact h0
  ·rename_i nd hn
   cases hin : inner most i (nxt nd.1) l with
   | none => rw [hin] at h; cases h
   | some l1 => rw [hin] at h; exact go_len n (i + 1) l1 l' (inner_len _ _ _ h0 hin) h
end
end Bfs
end Go.Lift
namespace Go.Lift
open Option renaming bind_some → oS
open List renaming mem_of_getElem? → lM
open List renaming getElem?_eq_some_iff → lI
open List renaming getD_eq_getElem?_getD → lD
open Go
theorem Pv : ∀ {l : List Int}, PA l = 0 → ∀ x, x ∈ l → x = 0
 | [], _, x, hx => by cases hx
 | y :: ys, h, x, hx => by
  unfold PA at h
  split at h
  ·rename_i hy
   rcases zB0.1 hx with rfl | hx
   ·exact hy
   ·exact Pv h x hx
  ·rename_i hy; exact absurd h hy
theorem H2 {a b : Ab} (h : GD a b = 0) : a = b := by
 have := Pv h
 have h1 := Oj _ _ (this (EQ a.fd b.fd) (by simp))
 have h2 := Oj _ _ (this (EQ a.fa b.fa) (by simp))
 have h3 := Oj _ _ (this (EQ a.fe b.fe) (by simp))
 cases a; cases b; simp only at h1 h2 h3; subst h1; subst h2; subst h3; rfl
instance cA : DecidableEq Ab := fun a b => if h : GD a b = 0 then isTrue (H2 h) else isFalse (fun e => h (by rw [e]; exact Lh b))
theorem WI (a b : Ab) : (GD a b == 0) = decide (a = b) := by
 by_cases h : a = b
 ·rw [decide_eq_true h, h, Lh]; rfl
 ·rw [decide_eq_false h]
  exact beq_eq_false_iff_ne.2 fun e => h (H2 e)
def S8 (p : Aa) (m : Ab) (ss : List Ah) : List (Ah × Ab) := ss.filterMap fun s => if BF p (A6 p m s).1 = true then some (s, (A6 p m s).1) else none
def IZ (p : Aa) (m : Ab) : List (Ah × Ab) := S8 p m (Eb p m)
def N1 (s : Ah) : Nat := if s.ff = 1 then 1 + 8 * s.fj.toNat + s.fp.toNat else if s.ff = 2 then 60 + s.fj.toNat else 70 + s.fj.toNat
theorem JY {p : Aa} {m : Ab} {s : Ah} (h : s ∈ Eb p m) : s ∈ EU p ∧ (A6 p m s).2 = 0 := by
 unfold Eb at h
 have := zK4.1 h
 exact ⟨this.1, by simpa using this.2⟩
theorem Ul {p : Aa} {m : Ab} {ss : List Ah} {q : Ah × Ab} : q ∈ S8 p m ss ↔ q.1 ∈ ss ∧ q.2 = (A6 p m q.1).1 ∧ BF p q.2 = true := by
 unfold S8
 rw [List.mem_filterMap]
 constructor
 ·rintro ⟨s, h1, h2⟩
  split at h2
  ·rename_i h3; cases h2; exact ⟨h1, rfl, h3⟩
  ·cases h2
 ·rintro ⟨h1, h2, h3⟩
  refine ⟨q.1, h1, ?_⟩
  rw [← h2, if_pos h3]
theorem Og {p : Aa} {m : Ab} {q : Ah × Ab} : q ∈ IZ p m ↔ q.1 ∈ Eb p m ∧ q.2 = (A6 p m q.1).1 ∧ BF p q.2 = true := Ul
theorem Ps {p : Aa} {m : Ab} (hp : A2 p) (hm : BI p m) {q : Ah × Ab} (h : q ∈ IZ p m) : BI p q.2 ∧ BF p q.2 = true := by
 obtain ⟨h1, h2, h3⟩ := Og.1 h
 exact ⟨by rw [h2]; exact Lm hp hm (JY h1).2, h3⟩
theorem R8 {p : Aa} (hp : A2 p) {s : Ah} (h : s ∈ EU p) : s.ff ≤ 3 ∧ 1 ≤ N1 s ∧ N1 s ≤ 100 := by
 obtain ⟨h1, h2⟩ := M5 hp h
 obtain ⟨a1, a2, a3, a4, a5⟩ := H3 h1
 obtain ⟨b1, b2, b3⟩ := IR h2
 have hnv := hp.nv
 have hnt := hp.nt
 have hk : s.ff ≤ 3 := by
  unfold EU at h
  rcases zC5.1 h with h | h
  ·rcases zC5.1 h with h | h
   ·obtain ⟨j, x, hx, hk⟩ := D4.1 h
    unfold Jj at hk
    obtain ⟨v, hv, rfl⟩ := zB8.1 hk
    exact (by decide : (1 : Int) ≤ 3)
   ·obtain ⟨v, hv, rfl⟩ := zB8.1 h
    exact (by decide : (2 : Int) ≤ 3)
  ·obtain ⟨v, hv, rfl⟩ := zB8.1 h
   exact (by decide : (3 : Int) ≤ 3)
 refine ⟨hk, ?_⟩
 unfold N1
 by_cases h1 : s.ff = 1
 ·rw [if_pos h1]
  have := b2 (by omega)
  have h3 := b3 h1
  have h4 := (H8 hp (i := s.fj.toNat) (by omega)).2
  omega
 ·rw [if_neg h1]
  by_cases h2 : s.ff = 2
  ·rw [if_pos h2]
   have := b2 (by omega)
   omega
  ·rw [if_neg h2]
   have := b1 (by omega)
   omega
theorem X8 (i : Nat) (n : Int) : (Jj i n).Pairwise fun a b => N1 a < N1 b := by
 unfold Jj
 rw [zK6]
 refine List.Pairwise.imp ?_ zJ4
 intro a b h
 simp [N1]; omega
theorem XA {p : Aa} (hp : A2 p) : (EU p).Pairwise fun a b => N1 a < N1 b := by
 have hnv := hp.nv
 have hnt := hp.nt
 have e1 : ∀ (xs : List Int) (i : Nat), (∀ x, x ∈ xs → x ≤ 6) → (Cy Jj i xs).Pairwise fun a b => N1 a < N1 b := by
  intro xs
  induction xs with
  | nil => intro i _; exact List.Pairwise.nil
  | cons x xs ih =>
   intro i hx
   rw [Cy, zG5]
   refine ⟨X8 i x, ih (i + 1) fun y hy => hx y (zJ3 _ hy), ?_⟩
   intro a ha b hb
   unfold Jj at ha
   obtain ⟨v, hv, rfl⟩ := zB8.1 ha
   obtain ⟨j, y, hy, hb⟩ := D4.1 hb
   unfold Jj at hb
   obtain ⟨w, hw, rfl⟩ := zB8.1 hb
   have := hx x (by simp)
   have := zD9.1 hv
   simp [N1]; omega
 unfold EU
 rw [zG5, zG5]
 refine ⟨⟨e1 _ 0 fun x hx => (hp.ver x hx).2, ?_, ?_⟩, ?_, ?_⟩
 ·rw [zK6]
  refine List.Pairwise.imp ?_ zJ4
  intro a b h
  simp [N1]; omega
 ·intro a ha b hb
  obtain ⟨w, hw, rfl⟩ := zB8.1 hb
  obtain ⟨j, y, hy, ha⟩ := D4.1 ha
  unfold Jj at ha
  obtain ⟨v, hv, rfl⟩ := zB8.1 ha
  have := zD9.1 hv
  have := (hp.ver y (lM hy)).2
  have := (lI.1 hy).1
  simp [N1]; omega
 ·rw [zK6]
  refine List.Pairwise.imp ?_ zJ4
  intro a b h
  simp [N1]; omega
 ·intro a ha b hb
  obtain ⟨w, hw, rfl⟩ := zB8.1 hb
  have hw := zD9.1 hw
  rcases zC5.1 ha with ha | ha
  ·obtain ⟨j, y, hy, ha⟩ := D4.1 ha
   unfold Jj at ha
   obtain ⟨v, hv, rfl⟩ := zB8.1 ha
   have := zD9.1 hv
   have := (hp.ver y (lM hy)).2
   have := (lI.1 hy).1
   simp [N1]; omega
  ·obtain ⟨v, hv, rfl⟩ := zB8.1 ha
   have := zD9.1 hv
   simp [N1]; omega
theorem ZR {p : Aa} {m : Ab} {ss : List Ah} (h : ss.Pairwise fun a b => N1 a < N1 b) : (S8 p m ss).Pairwise fun a b => N1 a.1 < N1 b.1 := by
 unfold S8
 rw [List.pairwise_filterMap]
 refine List.Pairwise.imp ?_ h
 intro a b hab x hx y hy
 split at hx
 ·cases hx
  split at hy
  ·cases hy; exact hab
  ·cases hy
 ·cases hx
theorem ZG {p : Aa} (hp : A2 p) (m : Ab) : (IZ p m).Pairwise fun a b => N1 a.1 < N1 b.1 := ZR ((XA hp).filter _)
theorem Q7 {p : Aa} {s : Ah} (hv : FY s = true) (hx : Fa p s = true) (hk : s.ff ≠ 4) : s ∈ EU p := by
 obtain ⟨a1, a2, a3, a4, a5⟩ := H3 hv
 obtain ⟨b1, b2, b3⟩ := IR hx
 obtain ⟨k, i, v⟩ := s
 simp only at *
 unfold EU
 obtain ⟨i, rfl⟩ := zA7 a3
 by_cases h1 : k = 1
 ·subst h1
  have h2 := b2 (by decide)
  have h3 := b3 rfl
  obtain ⟨v, rfl⟩ := zA7 a4
  refine zG6 _ (zG6 _ (D4.2 ⟨i, p.fb.getD i 0, ?_, ?_⟩))
  ·rw [lD]
   have hi : i < p.fb.length := by omega
   simp [hi]
  ·unfold Jj
   refine zB8.2 ⟨v, zD9.2 ?_, by simp⟩
   simp only [zA9] at h3
   omega
 ·have hv0 := a5 h1
  subst hv0
  by_cases h2 : k = 2
  ·subst h2
   have := b2 (by decide)
   exact zG6 _ (List.mem_append_right _ (zB8.2 ⟨i, zD9.2 (by omega), rfl⟩))
  ·have h3 : k = 3 := by omega
   subst h3
   have := b1 rfl
   exact List.mem_append_right _ (zB8.2 ⟨i, zD9.2 (by omega), rfl⟩)
theorem U9 {p : Aa} {m x : Ab} {s : Ah} : Kw p m s = some x → (s, x) ∈ IZ p m := by
 intro h
 obtain ⟨h1, h2, h3, h4, h5⟩ := U4.1 h
 unfold Kw at h
 split at h
 ·rename_i h6
  cases h
  refine Og.2 ⟨?_, rfl, h6.2.2⟩
  unfold Eb
  exact zK4.2 ⟨Q7 h1 h2 h4, by simpa using h6.1⟩
 ·cases h
theorem Qo {p : Aa} (hp : A2 p) {m x : Ab} {s : Ah} (h : (s, x) ∈ IZ p m) : Kw p m s = some x := by
 obtain ⟨h1, h2, h3⟩ := Og.1 h
 have h1 : s ∈ Eb p m := h1
 obtain ⟨h4, h5⟩ := JY h1
 have := (R8 hp h4).1
 have h2 : x = (A6 p m s).1 := h2
 have h3 : BF p x = true := h3
 unfold Kw
 rw [if_pos ⟨h5, by omega, by rw [← h2]; exact h3⟩, h2]
theorem Mg {p : Aa} (hp : A2 p) : ∀ {w : List Ah} {m x : Ab}, KW p m w = some x ↔ Bfs.run (IZ p) m w x
 | [], m, x => by simp only [KW, Bfs.run, Option.some.injEq]; exact eq_comm
 | s :: w, m, x => by
  simp only [KW, Bfs.run]
  constructor
  ·intro h
   cases hs : Kw p m s with
   | none => rw [hs] at h; cases h
   | some z => rw [hs] at h; exact ⟨z, U9 hs, (Mg hp).1 h⟩
  ·rintro ⟨z, h1, h2⟩
   rw [Qo hp h1]
   exact (Mg hp).2 h2
abbrev Ob := Bfs.Nd Ab Ah
def Ss : Ah := ⟨0, 0, 0⟩
theorem WM {N : Nat} {p : Aa} {a b : Ab} (hN : N ≤ 1000000) (h20 : 100 ≤ N) (hp : A2 p) (ha : BI p a) (hb : BI p b) : Dp N a b = some (decide (a = b)) := by
 have hnv := hp.nv
 have hnt := hp.nt
 unfold Dp
 rw [NV hN (by rw [ha.base]; omega) (by rw [ha.next]; omega) (by rw [ha.held]; omega) (by rw [hb.held]; omega) (Kx ha) (Kx hb)]
 simp only [oS]
 rw [WI]
theorem RS {i : Nat} {l : List Ob} {q : Ah × Ab} {k : Nat} {n : Ob} (h : l[k]? = some n) : (Bfs.put i l q)[k]? = some n := by
 unfold Bfs.put
 split
 ·exact h
 ·exact Bfs.get_app_of h
theorem Rq {i : Nat} {l : List Ob} {q : Ah × Ab} {n : Ob} (h : n ∈ Bfs.put i l q) : n ∈ l ∨ n.1 = q.2 := by
 unfold Bfs.put at h
 split at h
 ·exact .inl h
 ·rcases zC5.1 h with h | h
  ·exact .inl h
  ·rw [zE1.1 h]; exact .inr rfl
theorem RP {p : Aa} {m : Ab} {s : Ah} {ss : List Ah} : S8 p m (s :: ss) = if BF p (A6 p m s).1 = true then (s, (A6 p m s).1) :: S8 p m ss else S8 p m ss := by
 unfold S8
 rw [List.filterMap_cons]
 split <;> rename_i h
 ·split at h
  ·cases h
  ·rename_i h2; rw [if_neg h2]
 ·split at h
  ·rename_i h2; cases h; rw [if_pos h2]
  ·cases h
theorem J5 {p : Aa} {most i : Nat} : ∀ {qs : List (Ah × Ab)} {l l' : List Ob}, Bfs.inner most i qs l = some l' → (∀ q, q ∈ qs → BI p q.2 ∧ BF p q.2 = true) → (∀ n, n ∈ l → BI p n.1 ∧ BF p n.1 = true) → (∀ n, n ∈ l' → BI p n.1 ∧ BF p n.1 = true) ∧ (∀ (k : Nat) n, l[k]? = some n → l'[k]? = some n)
 | [], l, l', h, _, hA => by cases h; exact ⟨hA, fun _ _ h => h⟩
 | q :: qs, l, l', h, hq, hA => by
  simp only [Bfs.inner] at h
  split at h
  ·cases h
  ·obtain ⟨h1, h2⟩ := J5 h (fun q hq' => hq q (zJ3 _ hq')) (fun n hn => by
    rcases Rq hn with h | h
    ·exact hA n h
    ·rw [h]; exact hq q (by simp))
   exact ⟨h1, fun k n hn => h2 k n (RS hn)⟩
theorem QR (N : Nat) (hN : N ≤ 1000000) (h20 : 100 ≤ N) {p : Aa} {m : Ab} (hp : A2 p) (hm : BI p m) {s : Ah} (hs : s ∈ Eb p m) : ∃ b, CQ N p m s = some ((A6 p m s).1, b) := by
 obtain ⟨h1, h2⟩ := JY hs
 obtain ⟨h3, h4⟩ := M5 hp h1
 rw [Mw N hN h20 hp hm h3 h4]
 unfold A6 at h2 ⊢
 rw [h3, h4, if_neg (by simp), if_neg (by simp)] at h2 ⊢
 cases h : Ez p m s with
 | none => rw [h] at h2; cases h2
 | some x => exact ⟨true, rfl⟩
theorem MN {p : Aa} {m : Ab} (hm : BI p m) (hr : BF p m = true) : ∀ n, n ∈ ([(m, -1, Ss)] : List Ob) → BI p n.1 ∧ BF p n.1 = true := fun n hn => by
 rw [zE1.1 hn]; exact ⟨hm, hr⟩
theorem UV {p : Aa} (hp : A2 p) (m : Ab) : (Eb p m).length ≤ 54 := zG4 (zH6 _ _) (MI hp)
def LW (p : Aa) (m : Ab) (most n : Nat) : Option (List Ob) := Bfs.go (IZ p) most n 0 [(m, -1, Ss)]
structure YE (p : Aa) (m : Ab) (l : List Ob) (ws : List (List Ah)) : Prop where
 inv : Bfs.Inv (IZ p) N1 100 m l.length [] l ws
 ok : ∀ (k : Nat) x f s, l[k]? = some (x, f, s) → BI p x ∧ BF p x = true
theorem Tq {p : Aa} (hp : A2 p) {m : Ab} (hm : BI p m) (hr : BF p m = true) {most n : Nat} {l : List Ob} (h : LW p m most n = some l) : ∃ ws, YE p m l ws := by
 obtain ⟨ws, h1, h2⟩ := Bfs.inv_go (rk := N1) (K := 100) (fun x => BI p x ∧ BF p x = true) (fun x _ => ZG hp x) (fun x hx q hq => by
  refine ⟨?_, Ps hp hx.1 hq⟩
  exact (R8 hp (JY (Og.1 hq).1).1).2) ⟨hm, hr⟩ n 0 [(m, -1, Ss)] l [[]] (zB2 _) Bfs.inv_start (fun k x f s hk => by
   have := Bfs.lt_get hk
   simp at this; subst this
   cases hk; exact ⟨hm, hr⟩) h
 exact ⟨ws, h1, h2⟩
theorem Uj {p : Aa} (hp : A2 p) {m : Ab} {l : List Ob} {ws : List (List Ah)} (h : YE p m l ws) {k : Nat} {x : Ab} {f : Int} {s : Ah} {w : List Ah} (hx : l[k]? = some (x, f, s)) (hw : ws[k]? = some w) : KW p m w = some x :=
 (Mg hp).2 (Bfs.way_run h.inv (k + 1) k (Nat.lt_succ_self k) hx hw)
theorem P1 {p : Aa} (hp : A2 p) {m x : Ab} {l : List Ob} {ws : List (List Ah)} (h : YE p m l ws) {w : List Ah} (hw : KW p m w = some x) : ∃ (k : Nat) (f : Int) (s : Ah) (u : List Ah), l[k]? = some (x, f, s) ∧ ws[k]? = some u ∧ Bfs.code N1 100 u ≤ Bfs.code N1 100 w :=
 Bfs.reach_node h.inv w.length rfl ((Mg hp).1 hw)
def Ku (p : Aa) (m : Ab) (_ : Nat) (s : Ah) : List BD := match Iw p (A6 p m s).1 with
 | some (x, c) => [⟨s, x, c⟩]
 | none => []
def Mf (p : Aa) (m : Ab) : List BD := Cy (Ku p m) 0 (Eb p m)
theorem Pl (p : Aa) (m : Ab) (i : Nat) (s : Ah) : (Ku p m i s).length ≤ 1 := by
 unfold Ku; split <;> simp
theorem Ol {p : Aa} (hp : A2 p) (m : Ab) : (Eb p m).length ≤ 54 := zG4 (zH6 _ _) (MI hp)
theorem NX {p : Aa} (hp : A2 p) (m : Ab) : (Mf p m).length ≤ 54 := by
 have := Ft (g := Ku p m) (c := 1) (i := 0) (xs := Eb p m) fun j x _ => Pl p m _ x
 have h2 := Ol hp m
 unfold Mf; omega
theorem Vg {p : Aa} {m : Ab} {s : Ah} (h : s ∈ Eb p m) : s ∈ EU p ∧ (A6 p m s).2 = 0 := by
 unfold Eb at h
 have := zK4.1 h
 exact ⟨this.1, by simpa using this.2⟩
theorem Vh (p : Aa) (x : Ab) : ((Nv p x).2.2 == 0) = (Iw p x).isSome := by
 unfold Nv
 cases Iw p x with
 | none => rfl
 | some q => rfl
theorem Sg (N : Nat) (hN : N ≤ 1000000) (h20 : 100 ≤ N) {p : Aa} {m : Ab} (hw : LL JT m.fe) : DV N p m = some (if Do p m = 0 then (Eb p m, 0) else ([], Do p m)) := by
 by_cases h : Do p m = 0
 ·rw [if_pos h]
  have hv : By p = 0 := Decidable.byContradiction fun hc => by unfold Do at h; rw [if_pos hc] at h; exact hc h
  exact OA N hN h20 hv (Iq hw h).2
 ·rw [if_neg h]
  unfold DV
  rw [HE N p m hN (by omega) hw]
  simp only [oS]
  rw [bne_iff_ne.2 h, AI]
theorem SH {p : Aa} {m : Ab} (h : Do p m = 0) : By p = 0 := Decidable.byContradiction fun hc => by unfold Do at h; rw [if_pos hc] at h; exact hc h
theorem Ta (N : Nat) (hN : N ≤ 1000000) (h20 : 100 ≤ N) {p : Aa} {m : Ab} (hw : LL JT m.fe) : FC N p m = some (if Do p m = 0 then (Mf p m, 0) else ([], Do p m)) := by
 unfold FC
 rw [Sg N hN h20 hw]
 simp only [oS]
 by_cases h : Do p m = 0
 ·rw [if_pos h, if_pos h]
  have hv := SH h
  obtain ⟨hp, hm⟩ := Iq hw h
  have hl := Ol hp m
  simp only [bne_self_eq_false, Am]
  have := Fr (CR N p m (Eb p m, 0) fun v4 => some (v4, 0)) (fun a i => (a, i)) (Eb p m) (fun v4 => some (v4, 0)) (Ku p m) 1 1000
   (fun i s _ => Pl p m i s)
   (fun n i s a hs hl2 => by
    have hi := (lI.1 hs).1
    have hsm := lM hs
    have hst := (Vg hsm).2
    have hxo := Lm hp hm hst
    rw [CR, AD (by simp only; omega)]
    simp only [Bc, AU, hs, oS]
    rw [LO N hN h20 hw, if_pos h]
    simp only [oS]
    rw [Mi N p _ hN h20 (Kx hxo) (Ij hv hxo)]
    simp only [oS]
    rw [Vh, AE (by omega)]
    unfold Ku Nv
    cases hb : Iw p (A6 p m s).1 with
    | none => rw [Option.isSome_none, Am, zJ7]
    | some q =>
     rw [Option.isSome_some, AI]
     rw [Aq (by simp [Dw]; have := hl2; unfold Ku at this; rw [hb] at this; simp at this; omega)])
   (fun n a => by rw [CR, AA (by simp)]) N [] (by omega) (by simp; omega)
  have e : CR N p m (Eb p m, 0) (fun v4 => some (v4, 0)) N (([] : List BD), 0) = _ := this
  rw [e]; rfl
 ·rw [if_neg h, if_neg h]
  simp only
  rw [bne_iff_ne.2 h, AI]
def MD (p : Aa) (_ : Nat) (m : Ab) : Option Int := if Do p m = 0 then none else some (Do p m)
def MM (p : Aa) (l : List Ab) : Int := if By p ≠ 0 then By p else (C3 (MD p) 0 l).getD 0
theorem Xs {p : Aa} {l : List Ab} (h : MM p l = 0) : By p = 0 ∧ ∀ m, m ∈ l → Do p m = 0 := by
 unfold MM at h
 by_cases hv : By p = 0
 ·refine ⟨hv, fun m hm => ?_⟩
  rw [if_neg (by simp [hv])] at h
  obtain ⟨j, hj⟩ := zA8.1 hm
  cases hs : C3 (MD p) 0 l with
  | none =>
   have := Ff hs j m hj
   unfold MD at this
   split at this
   ·assumption
   ·cases this
  | some r =>
   rw [hs] at h
   obtain ⟨k, x, _, hr⟩ := El hs
   unfold MD at hr
   split at hr
   ·cases hr
   ·rename_i hne
    cases hr; exact absurd h hne
 ·rw [if_pos hv] at h; exact absurd h hv
theorem Y8 {p : Aa} {l : List Ab} (hv : By p = 0) (h : ∀ m, m ∈ l → Do p m = 0) : MM p l = 0 := by
 unfold MM
 rw [if_neg (by simp [hv]), E4 (fun j x hx => by
  unfold MD; rw [if_pos (h x (lM hx))])]; rfl
def HG (p : Aa) (l : List Ab) : List BD := Cy (fun _ m => Mf p m) 0 l
theorem NE {p : Aa} (hp : A2 p) (l : List Ab) : (HG p l).length ≤ 54 * l.length := Ft fun _ m _ => NX hp m
structure bt (N : Nat) (p : Aa) : Prop where
 v : p.fb.length < N
 n : p.fh.length < N
 t : p.fi.length < N
 s : p.fc.length < N
 m : ∀ t, t ∈ p.fc → t.fk.length < N ∧ (∀ row, row ∈ t.fk → row.length < N) ∧ t.fo.length < N ∧ ∀ row, row ∈ t.fo → row.length < N
theorem Yr {β : Type} {p q : Aa} (h : Vp p q) {f g : An → β} (hf : ∀ x y, Vk x y → g y = f x) : q.fc.map g = p.fc.map f := by
 apply List.ext_getElem?
 intro i
 rw [zA6, zA6]
 by_cases hi : i < p.fc.length
 ·have hx : p.fc[i]? = some p.fc[i] := by simp [hi]
  obtain ⟨y, hy, ht⟩ := h.o i _ hx
  rw [hx, hy, zE8, zE8, hf _ _ ht]
 ·rw [zB9 (by rw [h.l]; omega), zB9 (by omega)]; rfl
theorem Pu {p q : Aa} (h : Vp p q) : Dt q = Dt p := by
 unfold Dt
 rw [h.n, Yr h (f := Fz p) (g := Fz q) fun x y ht => by unfold Fz; rw [ht.st, ht.f, h.n]]
theorem TA {p q : Aa} (h : Vp p q) (s : Ah) (held : List Int) : Gx q s held = Gx p s held := by
 unfold Gx
 have : ∀ (xs ys : List An) (i : Nat) (a : List Int), ys.length = xs.length → (∀ (j : Nat) x, xs[j]? = some x → ∃ y, ys[j]? = some y ∧ Vk x y) → Hr (Sc s) i ys a = Hr (Sc s) i xs a := by
  intro xs
  induction xs with
  | nil => intro ys i a hl _; rw [List.length_eq_zero_iff.1 (by simpa using hl : ys.length = 0)]
  | cons x xs ih =>
   intro ys i a hl hh
   cases ys with
   | nil => simp at hl
   | cons y ys =>
    obtain ⟨y', e1, e2⟩ := hh 0 x rfl
    simp only [zI8, Option.some.injEq] at e1
    subst e1
    have : Sc s i y a = Sc s i x a := by unfold Sc T0; rw [e2.f, e2.st]
    rw [Hr, Hr, this]
    exact ih ys (i + 1) _ (by simpa using hl) fun j x' hx => by
     obtain ⟨y', e1, e2⟩ := hh (j + 1) x' (by simpa using hx)
     exact ⟨y', by simpa using e1, e2⟩
 exact this _ _ _ _ h.l h.o
theorem TP {p q : Aa} (h : Vp p q) (m : Ab) (s : Ah) : Ez q m s = Ez p m s := by
 unfold Ez
 simp only [TA h]
 by_cases hi : s.fj.toNat < p.fc.length
 ·have hx : p.fc[s.fj.toNat]? = some p.fc[s.fj.toNat] := by simp [hi]
  obtain ⟨y, hy, ht⟩ := h.o _ _ hx
  rw [hx, hy]
  have : Ho q m s.fj.toNat y = Ho p m s.fj.toNat p.fc[s.fj.toNat] := by
   unfold Ho N9 KO; rw [ht.k, ht.f, ht.r]
  simp only [this, ht.st, ht.f]
 ·rw [zB9 (by rw [h.l]; omega), zB9 (by omega)]
theorem Tg {p q : Aa} (h : Vp p q) (m : Ab) (s : Ah) : A6 q m s = A6 p m s := by
 unfold A6 Fa
 rw [h.v, h.l, TP h]
theorem P2 {p q : Aa} (h : Vp p q) : ∀ (l : List Ah) (m x : Ab), KW p m l = some x → KW q m l = some x
 | [], m, x, hh => hh
 | s :: l, m, x, hh => by
  rw [KW] at hh ⊢
  cases hs : Kw p m s with
  | none => rw [hs] at hh; cases hh
  | some y =>
   rw [hs] at hh
   have : Kw q m s = some y := by
    unfold Kw at hs ⊢
    rw [Tg h]
    split at hs
    ·rename_i hc
     rw [if_pos ⟨hc.1, hc.2.1, MP h hc.2.2⟩]; exact hs
    ·cases hs
   rw [this]
   exact P2 h l y x hh
end Go.Lift
namespace Go.Lift
open Go
structure Iy {α : Type} (c : α → α → Int) : Prop where
 anti : ∀ x y, c y x = - c x y
 le : ∀ x y z, c x y ≤ 0 → c y z ≤ 0 → c x z ≤ 0
namespace Iy
variable {α : Type} {c : α → α → Int}
theorem self (O : Iy c) (x : α) : c x x = 0 := by have := O.anti x x; omega
theorem lt1 (O : Iy c) {x y z : α} (h : c x y < 0) (h2 : c y z ≤ 0) : c x z < 0 := by
 have h3 := O.le x y z (by omega) h2
 by_cases h0 : c x z = 0
 ·have h4 := O.anti x z
  have h5 := O.le y z x h2 (by omega)
  have h6 := O.anti x y
  omega
 ·omega
theorem lt2 (O : Iy c) {x y z : α} (h : c x y ≤ 0) (h2 : c y z < 0) : c x z < 0 := by
 have h3 := O.le x y z h (by omega)
 by_cases h0 : c x z = 0
 ·have h4 := O.anti x z
  have h5 := O.le z x y (by omega) h
  have h6 := O.anti y z
  omega
 ·omega
theorem or {d : α → α → Int} (O : Iy c) (Q : Iy d) : Iy (fun x y => if c x y = 0 then d x y else c x y) := by
 refine ⟨fun x y => ?_, fun x y z => ?_⟩
 ·have := O.anti x y
  by_cases h : c x y = 0
  ·simp only [h, show c y x = 0 by omega, if_true]; exact Q.anti x y
  ·simp only [h, show ¬ c y x = 0 by omega, if_false]; exact this
 ·intro h1 h2
  have a1 : c x y ≤ 0 := by revert h1; split <;> omega
  have a2 : c y z ≤ 0 := by revert h2; split <;> omega
  have a3 := O.le x y z a1 a2
  by_cases h0 : c x z = 0
  ·have b1 : c x y = 0 := by
    by_cases q : c x y = 0
    ·exact q
    ·have := O.lt1 (show c x y < 0 by omega) a2; omega
   have b2 : c y z = 0 := by
    by_cases q : c y z = 0
    ·exact q
    ·have := O.lt2 a1 (show c y z < 0 by omega); omega
   simp only [b1, b2, h0, if_true] at h1 h2 ⊢
   exact Q.le x y z h1 h2
  ·simp only [h0, if_false]; exact a3
end Iy
section
variable {α : Type} {P : α → Prop} {cmp : α × α → Option Int} {bq : α → α → Bool} {c : α → α → Int}
theorem NA (O : Iy c) (hc : ∀ x y, P x → P y → cmp (x, y) = some (c x y)) {x : α} (hx : P x) : ∀ l : List α, (∀ y, y ∈ l → P y) → l.Pairwise (fun x y => c x y ≤ 0) → (Ti cmp x l).Pairwise (fun x y => c x y ≤ 0)
 | [], _, _ => by simp [Ti]
 | y :: ys, hl, hp => by
  obtain ⟨p1, p2⟩ := zD3.1 hp
  have hy := hl y (by simp)
  unfold Ti
  rw [hc x y hx hy]
  simp only
  split
  ·rename_i h
   refine zD3.2 ⟨fun z hz => ?_, hp⟩
   rcases zB0.1 hz with e | e
   ·subst e; exact h
   ·exact O.le _ _ _ h (p1 z e)
  ·refine zD3.2 ⟨fun z hz => ?_, NA O hc hx ys (fun z hz => hl z (by simp [hz])) p2⟩
   rcases zB0.1 ((Ns cmp x ys).mem_iff.1 hz) with e | e
   ·subst e; have := O.anti z y; omega
   ·exact p1 z e
theorem N0 (O : Iy c) (hc : ∀ x y, P x → P y → cmp (x, y) = some (c x y)) : ∀ l : List α, (∀ y, y ∈ l → P y) → (Tn cmp l).Pairwise (fun x y => c x y ≤ 0)
 | [], _ => List.Pairwise.nil
 | x :: l, hl => NA O hc (hl x (by simp)) _ (fun y hy => hl y (by simp [(Ln cmp l).mem_iff.1 hy])) (N0 O hc l fun y hy => hl y (by simp [hy]))
theorem WJ (O : Iy c) (hc : ∀ x y, P x → P y → cmp (x, y) = some (c x y)) (h0 : ∀ x y, P x → P y → c x y = 0 → bq x y = true) : ∀ l : List α, (∀ y, y ∈ l → P y) → l.Pairwise (fun x y => c x y ≤ 0) → ZT cmp bq l = true
 | [], _, _ => rfl
 | y :: ys, hl, hp => by
  obtain ⟨p1, p2⟩ := zD3.1 hp
  have hy := hl y (by simp)
  unfold ZT
  rw [hc y y hy hy, WJ O hc h0 ys (fun z hz => hl z (by simp [hz])) p2, zJ6, zA4, zA5]
  refine ⟨decide_eq_true (O.self y), fun z hz => ?_⟩
  have hz' := hl z (by simp [hz])
  unfold UG
  rw [hc y z hy hz', hc z y hz' hy]
  simp only
  have h1 := p1 z hz
  have h2 := O.anti y z
  by_cases h : c y z = 0
  ·rw [h0 y z hy hz' h, decide_eq_true h, decide_eq_true (show c z y = 0 by omega)]; simp
  ·rw [decide_eq_true (show c y z < 0 by omega), decide_eq_true (show 0 < c z y by omega)]; simp
theorem Qc (O : Iy c) (hc : ∀ x y, P x → P y → cmp (x, y) = some (c x y)) (h0 : ∀ x y, P x → P y → c x y = 0 → bq x y = true) (l : List α) (hl : l.length ≤ 1000000) (hP : ∀ x, x ∈ l → P x) :
  ∃ r : List α, OJ cmp bq l = some r ∧ r.Perm l ∧ r.Pairwise (fun x y => c x y ≤ 0) := by
 have hp := Ln cmp l
 have hs := N0 O hc l hP
 refine ⟨Tn cmp l, ?_, hp, hs⟩
 unfold OJ
 rw [WJ O hc h0 _ (fun y hy => hP y (hp.mem_iff.1 hy)) hs, decide_eq_true (show l.length < 4611686018427387904 by omega)]
 rfl
end
section
variable {α : Type} {c : α → α → Int}
abbrev Hm (c : α → α → Int) (l : List α) : Prop := l.Pairwise (fun x y => c x y < 0)
theorem Ox (O : Iy c) : ∀ (a b : List α), Hm c a → Hm c b → (∀ x, x ∈ a ↔ x ∈ b) → a = b
 | [], [], _, _, _ => rfl
 | [], y :: ys, _, _, h => by have := (h y).2 (by simp); simp at this
 | x :: xs, [], _, _, h => by have := (h x).1 (by simp); simp at this
 | x :: xs, y :: ys, ha, hb, h => by
  obtain ⟨a1, a2⟩ := zD3.1 ha
  obtain ⟨b1, b2⟩ := zD3.1 hb
  have exy : x = y := by
   rcases zB0.1 ((h x).1 (by simp)) with e | e
   ·exact e
   rcases zB0.1 ((h y).2 (by simp)) with f | f
   ·exact f.symm
   have := b1 x e
   have := a1 y f
   have := O.anti x y
   omega
  subst exy
  rw [Ox O xs ys a2 b2 fun z => ?_]
  constructor
  ·intro hz
   rcases zB0.1 ((h z).1 (by simp [hz])) with e | e
   ·subst e; have := a1 z hz; have := O.self z; omega
   ·exact e
  ·intro hz
   rcases zB0.1 ((h z).2 (by simp [hz])) with e | e
   ·subst e; have := b1 z hz; have := O.self z; omega
   ·exact e
theorem U7 (_O : Iy c) (h0 : ∀ x y, c x y = 0 → x = y) : ∀ (l : List α), l.Pairwise (fun x y => c x y ≤ 0) → l.Nodup → Hm c l := by
 intro l h hn
 exact List.Pairwise.imp₂ (fun x y h1 h2 => by
  by_cases q : c x y = 0
  ·exact absurd (h0 x y q) h2
  ·omega) h hn
end
theorem TJ : Iy EQ := ⟨fun a b => JV a b, Ub⟩
theorem Iy.pull {α β : Type} {c : α → α → Int} (O : Iy c) (f : β → α) : Iy (fun x y => c (f x) (f y)) := ⟨fun _x _y => O.anti _ _, fun _x _y _z => O.le _ _ _⟩
theorem VW : Iy (fun (x y : Int) => if x < y then -1 else if x = y then 0 else 1) := by
 refine ⟨fun x y => ?_, fun x y z => ?_⟩
 ·repeat' split
  all_goals omega
 ·repeat' split
  all_goals omega
theorem OX : Iy GD := by
 have := (TJ.pull Ab.fd).or ((TJ.pull Ab.fa).or (TJ.pull Ab.fe))
 have e : GD = fun (x y : Ab) => if EQ x.fd y.fd = 0 then (if EQ x.fa y.fa = 0 then EQ x.fe y.fe else EQ x.fa y.fa) else EQ x.fd y.fd := by
  funext x y
  unfold GD PA PA PA PA
  repeat' split
  all_goals (first | rfl | omega | simp_all)
 rw [e]; exact this
end Go.Lift
namespace Go.Lift
open IntKind renaming wrap → wI
open Go
variable {α : Type}
def Gs.compact_L11 (z : α) (N : Nat) (p0 : List α) (p1 : (α × α) → Option Bool) (v2 : Int) (j11 : ((List α) × Int) → Option (Nat × (List α))) : Nat → ((List α) × Int × Int) → Option (Nat × (List α))
 | 0, _ => none
 | n11 + 1, v11 =>
  AP ((decide (v11.2.2 < ((((p0.length - (v2).toNat)) : Nat) : Int))))
   (Bf (fun (v14 : (List α) × Int) =>
    Gs.compact_L11 z N p0 p1 v2 j11 n11 (v14.1, v14.2, (wI .i64 (v11.2.2 + 1))))
   fun j14 =>
   (DT (((v2).toNat) + ((p0.length - (v2).toNat)) ≤ v11.1.length)).bind fun _ =>
   (Bx (((v11.1.drop ((v2).toNat)).take ((p0.length - (v2).toNat)))) v11.2.2).bind fun v15 =>
   (Bx (((v11.1.drop ((v2).toNat)).take ((p0.length - (v2).toNat)))) ((wI .i64 (v11.2.2 - 1)))).bind fun v17 =>
   (p1 ((v15, v17))).bind fun v18 =>
   AP ((!v18))
    ((Bx (((v11.1.drop ((v2).toNat)).take ((p0.length - (v2).toNat)))) v11.2.2).bind fun v20 =>
    (Bx v11.1 v11.2.1).bind fun _ =>
    j14 (v11.1.set ((v11.2.1).toNat) v20, (wI .i64 (v11.2.1 + 1))))
    (j14 (v11.1, v11.2.1)))
   (j11 (v11.1, v11.2.1))
def Gs.compact_L2 (z : α) (N : Nat) (p0 : List α) (p1 : (α × α) → Option Bool) (j2 : Unit → Option (Nat × (List α))) : Nat → Int → Option (Nat × (List α))
 | 0, _ => none
 | n2 + 1, v2 =>
  AP ((decide (v2 < (p0.length : Int))))
   ((Bx p0 v2).bind fun v5 =>
   (Bx p0 ((wI .i64 (v2 - 1)))).bind fun v6 =>
   (p1 ((v5, v6))).bind fun v7 =>
   AP v7
    ((DT ((0 : Int) ≤ v2 ∧ (v2).toNat ≤ p0.length ∧ p0.length ≤ p0.length)).bind fun _ =>
    Gs.compact_L11 z N p0 p1 v2 (fun (v12 : (List α) × Int) =>
     (DT ((0 : Int) ≤ v12.2 ∧ (v12.2).toNat ≤ v12.1.length ∧ v12.1.length ≤ v12.1.length)).bind fun _ =>
     (DT ((0 : Int) ≤ v12.2 ∧ 0 ≤ (v12.2).toNat ∧ (v12.2).toNat ≤ (HY v12.1 ((v12.2).toNat) (zA2 ((v12.1.length - (v12.2).toNat)) (z))).length)).bind fun _ =>
     some ((v12.2).toNat, HY v12.1 ((v12.2).toNat) (zA2 ((v12.1.length - (v12.2).toNat)) (z)))) N (p0, v2, 1))
    (Gs.compact_L2 z N p0 p1 j2 n2 (wI .i64 (v2 + 1))))
   (j2 ())
def Gs.compact (z : α) (N : Nat) (p0 : List α) (p1 : (α × α) → Option Bool) : Option (Nat × (List α)) :=
 AP ((decide ((p0.length : Int) < 2)))
  (some (p0.length, p0))
  (Gs.compact_L2 z N p0 p1 (fun (_ : Unit) =>
   some (p0.length, p0)) N 1)
end Go.Lift
namespace Go.Lift
open Option renaming bind_some → oS
open List renaming mem_of_getElem? → lM
open Go
section
variable {α : Type} {c : α → α → Int}
def Gd (c : α → α → Int) (l : List α) (r : List α) (j : Nat) : Prop := Hm c r ∧ ∀ x, x ∈ r ↔ x ∈ l.take (j + 1)
theorem T6 {l r : List α} {j : Nat} (h : Gd c l r j) (hj : j + 1 < l.length) (e : l[j + 1] = l[j]) : Gd c l r (j + 1) := by
 refine ⟨h.1, fun x => ?_⟩
 rw [zF5 hj, zC5, ← h.2 x, zE1, e]
 constructor
 ·exact .inl
 ·rintro (h1 | rfl)
  ·exact h1
  ·exact (h.2 _).2 (zK9.2 ⟨j, by omega, rfl⟩)
theorem UJ (O : Iy c) (h0 : ∀ x y, c x y = 0 → x = y) {l r : List α} {j : Nat} (hs : l.Pairwise (fun x y => c x y ≤ 0)) (h : Gd c l r j) (hj : j + 1 < l.length) (e : l[j + 1] ≠ l[j]) : Gd c l (r ++ [l[j + 1]]) (j + 1) := by
 rw [zH7] at hs
 refine ⟨zG5.2 ⟨h.1, List.pairwise_singleton _ _, fun x hx y hy => ?_⟩, fun x => ?_⟩
 ·rw [zE1.1 hy]
  obtain ⟨i, hi, rfl⟩ := zK9.1 ((h.2 x).1 hx)
  have h1 : c l[j] l[j + 1] < 0 := by
   have := hs j (j + 1) (by omega) hj (by omega)
   by_cases q : c l[j] l[j + 1] = 0
   ·exact absurd (h0 _ _ q).symm e
   ·omega
  by_cases q : i = j
  ·subst q; exact h1
  ·exact O.lt2 (hs i j (by omega) (by omega) (by omega)) h1
 ·rw [zF5 hj, zC5, zC5, h.2 x]
variable {P : α → Prop} {eq : α × α → Option Bool} {b : α → α → Bool}
theorem Rv (O : Iy c) (h0 : ∀ x y, c x y = 0 → x = y) (z : α) (hc : ∀ x y, P x → P y → eq (x, y) = some (b x y)) (hb : ∀ x y, b x y = true ↔ x = y) (N : Nat) (l : List α) (hl : l.length ≤ 1000000) (hP : ∀ x, x ∈ l → P x) (hs : l.Pairwise (fun x y => c x y ≤ 0)) (i0 : Nat) (h1 : 1 ≤ i0) (h2 : i0 < l.length) (J : List α × Int → Option (Nat × List α)) :
  ∀ (n q k : Nat) (a : List α), l.length - q < n → i0 < q → q ≤ l.length → k + 1 ≤ q → a.length = l.length → Gd c l (a.take k) (q - 1) → a.drop (q - 1) = l.drop (q - 1) →
  ∃ (a' : List α) (k' : Nat), Gs.compact_L11 z N l eq (i0 : Int) J n (a, (k : Int), ((q - i0 : Nat) : Int)) = J (a', (k' : Int)) ∧ a'.length = l.length ∧ k' ≤ l.length ∧ Gd c l (a'.take k') (l.length - 1)
 | 0, q, k, a, h, _, _, _, _, _, _ => by omega
 | n + 1, q, k, a, h, hq, hql, hk, ha, hg, hd => by
  rw [Gs.compact_L11]
  simp only [Bc, zA9]
  have at_ : ∀ p, q - 1 ≤ p → p < l.length → a[p]? = l[p]? := by
   intro p hp hpl
   have : (a.drop (q - 1))[p - (q - 1)]? = (l.drop (q - 1))[p - (q - 1)]? := by rw [hd]
   rw [zD5, zD5, show q - 1 + (p - (q - 1)) = p by omega] at this
   exact this
  by_cases h3 : q < l.length
  ·rw [AD (by omega), Aq (by omega)]
   have hx : l[q]? = some l[q] := by simp [h3]
   have hy : l[q - 1]? = some l[q - 1] := by simp <;> omega
   have ix : ∀ p, i0 ≤ p → q - 1 ≤ p → p < l.length → Bx ((a.drop i0).take (l.length - i0)) ((p - i0 : Nat) : Int) = l[p]? := by
    intro p g1 g2 g3
    rw [AU, zC1 (by omega), zD5, show i0 + (p - i0) = p by omega]
    exact at_ p g2 g3
   rw [Dq (n := ((q - i0 : Nat) : Int) - 1) (by omega) (by omega), show (((q - i0 : Nat) : Int) - 1) = ((q - 1 - i0 : Nat) : Int) by omega, ix q (by omega) (by omega) h3, ix (q - 1) (by omega) (by omega) (by omega), hx, hy]
   simp only [oS]
   rw [hc _ _ (hP _ (lM hx)) (hP _ (lM hy))]
   simp only [oS]
   rw [Dq (n := ((q - i0 : Nat) : Int) + 1) (by omega) (by omega), show (((q - i0 : Nat) : Int) + 1) = ((q + 1 - i0 : Nat) : Int) by omega]
   have eq1 : q - 1 + 1 = q := by omega
   by_cases e : l[q] = l[q - 1]
   ·rw [(hb _ _).2 e, zB7, Am]
    refine Rv O h0 z hc hb N l hl hP hs i0 h1 h2 J n (q + 1) k a (by omega) (by omega) (by omega) (by omega) ha ?_ ?_
    ·have := T6 (j := q - 1) hg (by omega) (by simp only [eq1]; exact e)
     rw [eq1] at this; exact this
    ·show a.drop q = l.drop q
     rw [← eq1, ← zH5, ← zH5, hd]
   ·have hbf : b l[q] l[q - 1] = false := by
     cases hh : b l[q] l[q - 1] with
     | false => rfl
     | true => exact absurd ((hb _ _).1 hh) e
    rw [hbf, zE0, AI]
    rw [AU, show a[k]? = some a[k] from by simp <;> omega]
    simp only [oS]
    rw [AE (by omega)]
    refine Rv O h0 z hc hb N l hl hP hs i0 h1 h2 J n (q + 1) (k + 1) (a.set k l[q]) (by omega) (by omega) (by omega) (by omega) (by simp [ha]) ?_ ?_
    ·have := UJ O h0 hs (j := q - 1) hg (by omega) (by simp only [eq1]; exact e)
     simp only [eq1] at this
     rw [zF5 (by simp; omega), List.take_set_of_le (by omega), List.getElem_set_self]
     exact this
    ·show (a.set k l[q]).drop q = l.drop q
     rw [List.drop_set_of_lt (by omega), ← eq1, ← zH5, ← zH5, hd]
  ·rw [AA (by omega)]
   have : q = l.length := by omega
   subst this
   exact ⟨a, k, rfl, ha, by omega, hg⟩
theorem RA (O : Iy c) (h0 : ∀ x y, c x y = 0 → x = y) (z : α) (hc : ∀ x y, P x → P y → eq (x, y) = some (b x y)) (hb : ∀ x y, b x y = true ↔ x = y) (N : Nat) (l : List α) (hN : l.length + 10 ≤ N) (hl : l.length ≤ 1000000) (hP : ∀ x, x ∈ l → P x) (hs : l.Pairwise (fun x y => c x y ≤ 0)) :
  ∀ (n i : Nat), l.length - i < n → 1 ≤ i → i ≤ l.length → Gd c l (l.take i) (i - 1) →
  ∃ (k : Nat) (r : List α), Gs.compact_L2 z N l eq (fun _ => some (l.length, l)) n (i : Int) = some (k, r) ∧ k ≤ r.length ∧ Gd c l (r.take k) (l.length - 1)
 | 0, i, h, _, _, _ => by omega
 | n + 1, i, h, h1, h2, hg => by
  rw [Gs.compact_L2]
  by_cases h3 : i < l.length
  ·have hx : l[i]? = some l[i] := by simp [h3]
   have hy : l[i - 1]? = some l[i - 1] := by simp <;> omega
   have eq1 : i - 1 + 1 = i := by omega
   rw [AD (by omega), Dq (n := (i : Int) - 1) (by omega) (by omega), show ((i : Int) - 1) = ((i - 1 : Nat) : Int) by omega]
   simp only [AU, hx, hy, oS]
   rw [hc _ _ (hP _ (lM hx)) (hP _ (lM hy))]
   simp only [oS, zA9]
   by_cases e : l[i] = l[i - 1]
   ·rw [(hb _ _).2 e, AI, Aq (by omega)]
    have hg2 : Gd c l (l.take i) i := by
     have := T6 (j := i - 1) hg (by omega) (by simp only [eq1]; exact e)
     rw [eq1] at this; exact this
    obtain ⟨a', k', e1, e2, e3, e4⟩ := Rv O h0 z hc hb N l hl hP hs i h1 h3 (fun (v12 : (List α) × Int) =>
     (DT ((0 : Int) ≤ v12.2 ∧ (v12.2).toNat ≤ v12.1.length ∧ v12.1.length ≤ v12.1.length)).bind fun _ =>
     (DT ((0 : Int) ≤ v12.2 ∧ 0 ≤ (v12.2).toNat ∧ (v12.2).toNat ≤ (HY v12.1 ((v12.2).toNat) (zA2 ((v12.1.length - (v12.2).toNat)) (z))).length)).bind fun _ =>
     some ((v12.2).toNat, HY v12.1 ((v12.2).toNat) (zA2 ((v12.1.length - (v12.2).toNat)) (z)))) N (i + 1) i l (by omega) (by omega) (by omega) (by omega) rfl hg2 rfl
    rw [show ((i + 1 - i : Nat) : Int) = 1 by omega] at e1
    rw [e1]
    simp only [zA9]
    have hsp : (HY a' k' (zA2 (a'.length - k') z)).take k' = a'.take k' ∧ k' ≤ (HY a' k' (zA2 (a'.length - k') z)).length := by
     unfold HY
     constructor
     ·simp only [zD2]
      rw [zK3 (by simp; omega), List.take_take, Nat.min_self]
     ·simp; omega
    rw [Aq (by omega), Aq (by omega)]
    exact ⟨k', _, rfl, hsp.2, by rw [hsp.1]; exact e4⟩
   ·have hbf : b l[i] l[i - 1] = false := by
     cases hh : b l[i] l[i - 1] with
     | false => rfl
     | true => exact absurd ((hb _ _).1 hh) e
    rw [hbf, Am, AE (by omega)]
    refine RA O h0 z hc hb N l hN hl hP hs n (i + 1) (by omega) (by omega) (by omega) ?_
    have := UJ O h0 hs (j := i - 1) hg (by omega) (by simp only [eq1]; exact e)
    simp only [eq1] at this
    rw [zF5 h3]
    exact this
  ·rw [AA (by omega)]
   have : i = l.length := by omega
   subst this
   exact ⟨_, _, rfl, zB4 _, hg⟩
theorem Tb (O : Iy c) (h0 : ∀ x y, c x y = 0 → x = y) (z : α) (hc : ∀ x y, P x → P y → eq (x, y) = some (b x y)) (hb : ∀ x y, b x y = true ↔ x = y) {N : Nat} (l : List α) (hN : l.length + 10 ≤ N) (hl : l.length ≤ 1000000) (hP : ∀ x, x ∈ l → P x) (hs : l.Pairwise (fun x y => c x y ≤ 0)) :
  ∃ (k : Nat) (r : List α), Gs.compact z N l eq = some (k, r) ∧ k ≤ r.length ∧ Hm c (r.take k) ∧ ∀ x, x ∈ r.take k ↔ x ∈ l := by
 unfold Gs.compact
 match l, hN, hl, hP, hs with
 | [], _, _, _, _ => exact ⟨0, [], rfl, zB4 _, by simp, by simp⟩
 | [x], _, _, _, _ => exact ⟨1, [x], rfl, zB4 _, by simp, by simp⟩
 | x :: y :: l, hN, hl, hP, hs =>
  rw [AA (by simp; omega)]
  obtain ⟨k, r, e1, e2, e3, e4⟩ := RA O h0 z hc hb N (x :: y :: l) hN hl hP hs N 1 (by simp only [zC6] at hN ⊢; omega) (by omega) (by simp) ⟨by simp, by simp⟩
  refine ⟨k, r, e1, e2, e3, fun w => ?_⟩
  rw [e4 w, zJ5 (by simp)]
end
end Go.Lift
namespace Go.Lift
open Option renaming bind_some → oS
open List renaming mem_of_getElem? → lM
open Go
instance : Inhabited Ad := ⟨⟨0, 0, 0⟩⟩
theorem QX : A4 = fun N p => @Gs.compact Ad (Ad.mk 0 0 0) N p (fun x => some ((x.1.fr == x.2.fr) && ((x.1.fq == x.2.fq) && ((x.1.fu == x.2.fu) && true)))) := by kernel_rfl
def Mc (x y : Int) : Int := if x < y then -1 else if x = y then 0 else 1
theorem Rx (N : Nat) (x y : Int) : Cz N x y = some (Mc x y) := by
 unfold Cz Fb Mc
 simp only [oS, bne_self_eq_false, Am]
 by_cases h : x < y
 ·rw [AD h, if_pos h]
 ·rw [AA h, if_neg h]
  by_cases e : x = y
  ·rw [if_pos e, AA (by omega)]
  ·rw [if_neg e, AD (by omega)]
def SR (a b : Ad) : Int := PA [Mc a.fr b.fr, Mc a.fq b.fq, Mc a.fu b.fu]
theorem Yq (N : Nat) (hN : N ≤ 1000000) (h20 : 100 ≤ N) (a b : Ad) : Cn N a b = some (SR a b) := by
 unfold Cn
 rw [Rx, Rx, Rx]
 simp only [oS]
 rw [WX (by simp; omega) hN]; rfl
theorem TQ : Iy SR := by
 have := (VW.pull Ad.fr).or ((VW.pull Ad.fq).or (VW.pull Ad.fu))
 have e : SR = fun (x y : Ad) => if Mc x.fr y.fr = 0 then (if Mc x.fq y.fq = 0 then Mc x.fu y.fu else Mc x.fq y.fq) else Mc x.fr y.fr := by
  funext x y
  unfold SR PA PA PA PA
  repeat' split
  all_goals (first | rfl | omega | simp_all)
 rw [e]; exact this
theorem M8 {x y : Int} (h : Mc x y = 0) : x = y := by
 unfold Mc at h
 split at h
 ·cases h
 ·split at h
  ·assumption
  ·cases h
theorem Ql (a b : Ad) (h : SR a b = 0) : a = b := by
 have := Pv h
 have h1 := M8 (this (Mc a.fr b.fr) (by simp))
 have h2 := M8 (this (Mc a.fq b.fq) (by simp))
 have h3 := M8 (this (Mc a.fu b.fu) (by simp))
 cases a; cases b; simp only at h1 h2 h3; subst h1; subst h2; subst h3; rfl
def bP (a b : Ad) : Bool := (a.fr == b.fr) && ((a.fq == b.fq) && ((a.fu == b.fu) && true))
theorem Xk (x y : Ad) (_ : True) (_ : True) (h : SR x y = 0) : G7 x y = true := by rw [Ql x y h]; simp [G7]
theorem Q8 (a b : Ad) : bP a b = true ↔ a = b := by
 cases a; cases b
 simp [bP]
theorem NR (N : Nat) (hN : N ≤ 1000000) (h20 : 100 ≤ N) (p : Aa) (hp : A2 p) (l : List Ab) (hl : l.length ≤ 1000) (hw : ∀ m, m ∈ l → LL JT m.fe) : ∀ (n i : Nat) (a : List BD), i ≤ l.length → l.length - i < n → a.length ≤ 54 * i →
  DF N p l (fun v4 => some (v4, 0)) n (a, (i : Int)) = some (match C3 (MD p) i (l.drop i) with | none => (a ++ Cy (fun _ m => Mf p m) i (l.drop i), 0) | some e => ([], e))
 | 0, i, _, _, h, _ => by omega
 | n + 1, i, a, hi, h, ha => by
  rw [DF]
  by_cases h1 : i < l.length
  ·have hx : l[i]? = some l[i] := by simp [h1]
   rw [AD (by first | omega | (simp only; omega)), Dg hx]
   simp only [AU, hx, oS]
   rw [Ta N hN h20 (hw _ (lM hx))]
   simp only [oS]
   rw [C3, Cy]
   by_cases h0 : Do p l[i] = 0
   ·have hbl := NX hp l[i]
    rw [if_pos h0]
    simp only [bne_self_eq_false, Am]
    rw [Aq (by simp only [Dw]; omega), AE (by omega), NR N hN h20 p hp l hl hw n (i + 1) _ (by omega) (by omega) (by simp; omega)]
    rw [show MD p i l[i] = none from by unfold MD; rw [if_pos h0]]
    cases C3 (MD p) (i + 1) (l.drop (i + 1)) <;> simp
   ·rw [if_neg h0]
    simp only
    rw [bne_iff_ne.2 h0, AI, show MD p i l[i] = some (Do p l[i]) from by unfold MD; rw [if_neg h0]]
  ·rw [AA (by first | omega | (simp only; omega)), zB3 (by omega)]
   simp [C3, Cy]
theorem UX (N : Nat) (hN : N ≤ 1000000) (h20 : 100 ≤ N) (p : Aa) (l : List Ab) (hl : l.length < N) (hl2 : l.length ≤ 1000) (hw : ∀ m, m ∈ l → LL JT m.fe) : Fd N p l = some (if MM p l = 0 then (HG p l, 0) else ([], MM p l)) := by
 unfold Fd
 rw [Kl N p (by omega) (by omega)]
 simp only [oS]
 by_cases hv : By p = 0
 ·obtain ⟨hp, _⟩ := Cd hv
  rw [hv, bne_self_eq_false, Am]
  have := NR N hN h20 p hp l hl2 hw N 0 [] (zB2 _) (by omega) (by simp)
  have e : DF N p l (fun v4 => some (v4, 0)) N (([] : List BD), 0) = _ := this
  have hE : MM p l = (C3 (MD p) 0 l).getD 0 := by unfold MM; rw [if_neg (by simp [hv])]
  rw [e, zC0, hE]
  cases hs : C3 (MD p) 0 l with
  | none => rfl
  | some e =>
   obtain ⟨j, m, hm, he⟩ := El hs
   unfold MD at he
   split at he
   ·cases he
   ·rename_i hne
    cases he
    simp [hne]
 ·rw [bne_iff_ne.2 hv, AI]
  unfold MM
  rw [if_pos hv, if_neg hv]
theorem P9 (N : Nat) (hN : N ≤ 1000000) (l : List BD) (hl : l.length ≤ 100000) (e : Int) (J : List Ad → Option (List Ad × Int)) : ∀ (n i : Nat) (a : List Ad), i ≤ l.length → l.length - i < n → a.length = i →
  Dn N (l, e) J n (a, (i : Int)) = J (a ++ (l.drop i).map (·.fv))
 | 0, i, _, _, h, _ => by omega
 | n + 1, i, a, hi, h, ha => by
  rw [Dn]
  by_cases h1 : i < l.length
  ·have hx : l[i]? = some l[i] := by simp [h1]
   rw [AD (by first | omega | (simp only; omega)), Dg hx]
   simp only [AU, hx, oS]
   rw [Aq (by simp [Dw]; omega), AE (by omega), P9 N hN l hl e J n (i + 1) _ (by omega) (by omega) (by simp [ha])]
   rw [zC3, zD2]; rfl
  ·rw [AA (by first | omega | (simp only; omega)), zB3 (by omega)]
   simp
theorem ST (N : Nat) (hN : N ≤ 1000000) (h20 : 1010 ≤ N) (p : Aa) (l : List Ab) (hl : l.length ≤ 1000) (hlN : 54 * l.length + 10 ≤ N) (hw : ∀ m, m ∈ l → LL JT m.fe) : ∃ r : List Ad, EW N p l = some (r, MM p l) ∧ (MM p l = 0 → Hm SR r ∧ ∀ x, x ∈ r ↔ x ∈ (HG p l).map (·.fv)) ∧ (MM p l ≠ 0 → r = []) := by
 unfold EW
 rw [UX N hN (by omega) p l (by omega) (by omega) hw]
 simp only [oS]
 by_cases h0 : MM p l = 0
 ·rw [if_pos h0, h0]
  simp only [bne_self_eq_false, Am]
  have hp := (Cd (Xs h0).1).1
  have hbl := NE hp l
  have e := P9 N hN (HG p l) (by omega) 0 (fun (v4 : (List Ad)) =>
   (Bi N v4 ((fun (x : Ad × Ad) => Cn N x.1 x.2))).bind fun v8 =>
   (A4 N v8).bind fun v9 =>
   (DT (v9.1 ≤ v9.2.length)).bind fun _ =>
   some (v9.2.take v9.1, 0)) N 0 [] (zB2 _) (by omega) rfl
  rw [zC0, zG1] at e
  have e' : Dn N (HG p l, 0) (fun (v4 : (List Ad)) =>
   (Bi N v4 ((fun (x : Ad × Ad) => Cn N x.1 x.2))).bind fun v8 =>
   (A4 N v8).bind fun v9 =>
   (DT (v9.1 ≤ v9.2.length)).bind fun _ =>
   some (v9.2.take v9.1, 0)) N (([] : List Ad), 0) = _ := e
  rw [e']
  have hml : ((HG p l).map (·.fv)).length ≤ 54 * l.length := by simp; omega
  generalize (HG p l).map (·.fv) = cs at hml
  have hcmp : ∀ x y : Ad, True → True → (fun (x : Ad × Ad) => Cn N x.1 x.2) (x, y) = some (SR x y) := fun x y _ _ => Yq N hN (by omega) x y
  obtain ⟨r1, s1, s2, s3⟩ := Qc (cmp := fun x => Cn N x.1 x.2) TQ hcmp Xk cs (by omega) (fun _ _ => trivial)
  unfold Bi
  rw [s1]
  simp only [oS]
  rw [QX]
  have heq : ∀ x y : Ad, True → True → (fun (x : Ad × Ad) => (some ((x.1.fr == x.2.fr) && ((x.1.fq == x.2.fq) && ((x.1.fu == x.2.fu) && true))) : Option Bool)) (x, y) = some (bP x y) := fun x y _ _ => rfl
  obtain ⟨k, r, t1, t2, t3, t4⟩ := Tb (eq := fun x => some ((x.1.fr == x.2.fr) && ((x.1.fq == x.2.fq) && ((x.1.fu == x.2.fu) && true)))) TQ Ql (Ad.mk 0 0 0) heq Q8 (N := N) r1 (by rw [s2.length_eq]; omega) (by rw [s2.length_eq]; omega) (fun _ _ => trivial) s3
  simp only
  rw [t1]
  simp only [oS]
  rw [Aq t2]
  exact ⟨r.take k, rfl, fun _ => ⟨t3, fun x => (t4 x).trans s2.mem_iff⟩, fun h => absurd rfl h⟩
 ·rw [if_neg h0]
  simp only
  rw [bne_iff_ne.2 h0, AI]
  exact ⟨[], rfl, fun h => absurd h h0, fun _ => rfl⟩
instance bL : DecidableEq Ad := fun a b => if h : bP a b = true then isTrue ((Q8 a b).1 h) else isFalse fun e => h ((Q8 a b).2 e)
theorem Np {α : Type} [DecidableEq α] : ∀ (r cs : List α), r.Nodup → (∀ x, x ∈ r → x ∈ cs) → r.length ≤ cs.length
 | [], _, _, _ => zB2 _
 | x :: r, cs, hn, hs => by
  obtain ⟨h1, h2⟩ := zE7.1 hn
  have hx := hs x (by simp)
  have := Np r (cs.erase x) h2 fun y hy => (List.mem_erase_of_ne (show y ≠ x from fun e => h1 (by rw [← e]; exact hy))).2 (hs y (by simp [hy]))
  rw [List.length_erase_of_mem hx] at this
  have := List.length_pos_of_mem hx
  simp only [zC6]
  omega
end Go.Lift
