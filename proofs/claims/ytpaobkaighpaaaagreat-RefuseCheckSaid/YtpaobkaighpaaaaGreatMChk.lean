/- Lemmas for RefuseCheckSaid, which YtpaobkaighpaaaaGreatFinR9 proves. -/
import Derived.Test.YtpaobkaighpaaaaGreatDec
import Derived.KernelRfl
open Bool renaming and_eq_true → uV, and_eq_true_iff → zE1, and_true → zH9, eq_iff_iff → zF9, false_and → zH5, false_or → zE4, not_false → zA5, not_true → vM, or_eq_false_iff → zG2, or_eq_true → zC1, or_true → zI6, true_and → zA9
open Int renaming eq_ofNat_of_zero_le → uZ, ofNat_inj → zI3, tmod → vF, toNat_natCast → vJ
open List renaming all_cons → zC7, all_eq_true → uX, any_eq_true → zD2, append_assoc → zB1, cons_append → zF5, drop_eq_nil_of_le → vH, drop_zero → vS, eq_nil_of_length_eq_zero → zA4, filter_append → zC6, flatMap_append → zG5, flatMap_eq_nil_iff → zI5, getD_cons_succ → zG4, getD_cons_zero → zH2, getElem?_append_left → zA0, getElem?_append_right → zA3, getElem?_cons_succ → zI4, getElem?_drop → zB0, getElem?_eq_getElem → vP, getElem?_eq_none → zC0, getElem?_eq_none_iff → zH8, getElem?_map → vC, getElem?_take_of_lt → vX, getElem_mem → zB2, length_append → zA2, length_cons → vV, length_map → vT, length_range → zD9, length_replicate → zF3, map_append → zE9, mem_append → zB3, mem_cons → vI, mem_iff_getElem? → vO, mem_map → zA6, mem_or_eq_of_mem_set → zD8, mem_range → zF6, mem_singleton → zD1, nil_append → zE8, pairwise_cons → zC3, pairwise_iff_getElem → zE3, range → vK, range_succ → zD4, replicate → uY, take_add_one → zB9, take_append_of_le_length → zE5, take_length → zH0, take_of_length_le → zC5
open Nat renaming add_assoc → zC9, add_zero → zB6, le_refl → vN, le_trans → zG6, zero_add → uT, zero_le → vG
open Option renaming getD_some → vW
namespace Go.Lift
open IntKind renaming wrap → wI
open Option renaming bind_some → oS
open List renaming getElem?_eq_some_iff → lI
theorem AW {α : Type} (xs : List α) (i : Nat) : BB xs (i : Int) = xs[i]? := by
 unfold BB; simp
theorem CT {n : Int} (h0 : -9223372036854775808 ≤ n) (h1 : n ≤ 9223372036854775807) : wI .i64 n = n := by
 simp [wI, IntKind.signed, IntKind.bits]; omega
theorem AG {i : Nat} (h : i < 1000000) : wI .i64 ((i : Int) + 1) = ((i + 1 : Nat) : Int) := by
 rw [CT (by omega) (by omega)]; simp
@[simp] theorem AJ {α : Type} {a b : Option α} : AN true a b = a := rfl
@[simp] theorem An {α : Type} {a b : Option α} : AN false a b = b := rfl
theorem AD {α : Type} {p : Prop} [Decidable p] {a b : Option α} (h : p) : AN (decide p) a b = a := by simp [h]
theorem AB {α : Type} {p : Prop} [Decidable p] {a b : Option α} (h : ¬ p) : AN (decide p) a b = b := by simp [h]
def YI (a b : Int) : Int := if a < b then -1 else if b < a then 1 else 0
def ES : List Int → List Int → Int
 | [], [] => 0
 | [], _ :: _ => -1
 | _ :: _, [] => 1
 | a :: as1, b :: bs => if a < b then -1 else if b < a then 1 else ES as1 bs
theorem W9 (N : Nat) (a b : Int) : Dv N a b = some (YI a b) := by
 unfold Dv F2 YI
 by_cases h1 : a < b <;> by_cases h2 : b < a <;> simp [h1, h2]
theorem V6 (N : Nat) (a b : Int) : Ep N a b = some (YI a b) := by
 unfold Ep EV YI
 by_cases h1 : a < b <;> by_cases h2 : b < a <;> simp [h1, h2]
theorem Dg {α : Type} {xs : List α} {i : Nat} {x : α} (h : xs[i]? = some x) : xs.drop i = x :: xs.drop (i + 1) := by
 obtain ⟨hi, rfl⟩ := lI.1 h
 exact List.drop_eq_getElem_cons hi
theorem Rl (N : Nat) (a b : List Int) (hb : a.length < 1000000) : ∀ (n i : Nat), i ≤ a.length → i ≤ b.length → a.length - i < n →
  Cv N a b (fun _ => AN (decide ((a.length : Int) < (b.length : Int))) (some (-1)) (some 0)) n (i : Int) = some (ES (a.drop i) (b.drop i))
 | 0, i, _, _, h => by omega
 | n + 1, i, hi, hj, h => by
  unfold Cv
  by_cases h1 : i < a.length
  ·rw [AD (by omega), AW]
   have ha : a[i]? = some a[i] := by simp [h1]
   rw [ha, Dg ha]
   simp only [oS]
   by_cases h2 : i < b.length
   ·rw [AB (by omega), AW]
    have hbb : b[i]? = some b[i] := by simp [h2]
    rw [hbb, Dg hbb]
    simp only [oS, W9, ES, YI]
    rw [AG (by omega), Rl N a b hb n (i + 1) (by omega) (by omega) (by omega)]
    by_cases h3 : a[i] < b[i]
    ·simp [h3]
    ·by_cases h4 : b[i] < a[i]
     ·simp [h3, h4]
     ·simp [h3, h4]
   ·rw [AD (by omega), vH (by omega : b.length ≤ i)]
    simp [ES]
  ·rw [AB (by omega), vH (by omega : a.length ≤ i)]
   by_cases h2 : a.length < b.length
   ·rw [AD (by omega)]
    have hbb : b[i]? = some b[i] := by simp [show i < b.length from by omega]
    rw [Dg hbb]; simp [ES]
   ·rw [AB (by omega), vH (by omega : b.length ≤ i)]
    simp [ES]
theorem Pn (N : Nat) (a b : List Int) (hb : a.length < 1000000) : ∀ (n i : Nat), i ≤ a.length → i ≤ b.length → a.length - i < n →
  Bz N a b (fun _ => AN (decide ((a.length : Int) < (b.length : Int))) (some (-1)) (some 0)) n (i : Int) = some (ES (a.drop i) (b.drop i))
 | 0, i, _, _, h => by omega
 | n + 1, i, hi, hj, h => by
  unfold Bz
  by_cases h1 : i < a.length
  ·rw [AD (by omega), AW]
   have ha : a[i]? = some a[i] := by simp [h1]
   rw [ha, Dg ha]
   simp only [oS]
   by_cases h2 : i < b.length
   ·rw [AB (by omega), AW]
    have hbb : b[i]? = some b[i] := by simp [h2]
    rw [hbb, Dg hbb]
    simp only [oS, V6, ES, YI]
    rw [AG (by omega), Pn N a b hb n (i + 1) (by omega) (by omega) (by omega)]
    by_cases h3 : a[i] < b[i]
    ·simp [h3]
    ·by_cases h4 : b[i] < a[i]
     ·simp [h3, h4]
     ·simp [h3, h4]
   ·rw [AD (by omega), vH (by omega : b.length ≤ i)]
    simp [ES]
  ·rw [AB (by omega), vH (by omega : a.length ≤ i)]
   by_cases h2 : a.length < b.length
   ·rw [AD (by omega)]
    have hbb : b[i]? = some b[i] := by simp [show i < b.length from by omega]
    rw [Dg hbb]; simp [ES]
   ·rw [AB (by omega), vH (by omega : b.length ≤ i)]
    simp [ES]
theorem S7 (N : Nat) (a b : List Int) (hb : a.length < 1000000) : ∀ (n i : Nat), i ≤ a.length → i ≤ b.length → a.length - i < n →
  DG N a b (fun _ => AN (decide ((a.length : Int) < (b.length : Int))) (some (-1)) (AN (decide ((b.length : Int) < (a.length : Int))) (some 1) (some 0))) n (i : Int) = some (ES (a.drop i) (b.drop i))
 | 0, i, _, _, h => by omega
 | n + 1, i, hi, hj, h => by
  unfold DG
  simp only [Bc]
  by_cases h1 : i < a.length
  ·rw [AD (p := (i : Int) < (a.length : Int)) (by omega)]
   have ha : a[i]? = some a[i] := by simp [h1]
   rw [Dg ha]
   by_cases h2 : i < b.length
   ·have hbb : b[i]? = some b[i] := by simp [h2]
    rw [show decide ((i : Int) < (b.length : Int)) = true from decide_eq_true (by omega), AJ, AW, AW, ha, hbb, Dg hbb]
    simp only [oS, ES]
    rw [AG (by omega), S7 N a b hb n (i + 1) (by omega) (by omega) (by omega)]
    by_cases h3 : a[i] < b[i]
    ·simp [h3]
    ·by_cases h4 : b[i] < a[i]
     ·simp [h3, h4]
     ·simp [h3, h4]
   ·rw [show decide ((i : Int) < (b.length : Int)) = false from decide_eq_false (by omega), An, AB (by omega), AD (by omega), vH (by omega : b.length ≤ i)]
    simp [ES]
  ·rw [AB (p := (i : Int) < (a.length : Int)) (by omega), An, vH (by omega : a.length ≤ i)]
   by_cases h2 : a.length < b.length
   ·rw [AD (by omega)]
    have hbb : b[i]? = some b[i] := by simp [show i < b.length from by omega]
    rw [Dg hbb]; simp [ES]
   ·rw [AB (by omega), AB (by omega), vH (by omega : b.length ≤ i)]
    simp [ES]
theorem OG {N : Nat} {a b : List Int} (h : a.length < N) (hN : N ≤ 1000000) : C4 N a b = some (ES a b) := by
 have := Rl N a b (by omega) N 0 (by omega) (by omega) (by omega)
 simpa [C4] using this
theorem RE {N : Nat} {a b : List Int} (h : a.length < N) (hN : N ≤ 1000000) : Cr N a b = some (ES a b) := by
 have := Pn N a b (by omega) N 0 (by omega) (by omega) (by omega)
 simpa [Cr] using this
theorem Oq {N : Nat} {a b : List Int} (h : a.length < N) (hN : N ≤ 1000000) : DM N a b = some (ES a b) := by
 have := S7 N a b (by omega) N 0 (by omega) (by omega) (by omega)
 simpa [DM] using this
theorem PP : ∀ a : List Int, ES a a = 0
 | [] => rfl
 | a :: as1 => by simp [ES, PP as1]
theorem NL : ∀ a b : List Int, ES a b = 0 → a = b
 | [], [], _ => rfl
 | [], _ :: _, h => by simp [ES] at h
 | _ :: _, [], h => by simp [ES] at h
 | a :: as1, b :: bs, h => by
  unfold ES at h
  split at h
  ·omega
  ·split at h
   ·omega
   ·rw [NL as1 bs h, show a = b from by omega]
theorem J2 : ∀ a b : List Int, ES b a = - ES a b
 | [], [] => rfl
 | [], _ :: _ => rfl
 | _ :: _, [] => rfl
 | a :: as1, b :: bs => by
  have := J2 as1 bs
  unfold ES
  by_cases h1 : a < b
  ·simp [h1, show ¬ b < a from by omega]
  ·by_cases h2 : b < a
   ·simp [h1, h2]
   ·simp [h1, h2, this]
theorem Tz : ∀ a b c : List Int, ES a b ≤ 0 → ES b c ≤ 0 → ES a c ≤ 0
 | [], _, [], _, _ => by simp [ES]
 | [], _, _ :: _, _, _ => by simp [ES]
 | _ :: _, [], _, h, _ => by simp [ES] at h
 | _ :: _, _ :: _, [], _, h => by simp [ES] at h
 | a :: as1, b :: bs, c :: cs, h1, h2 => by
  have ih := Tz as1 bs cs
  unfold ES at h1 h2 ⊢
  split at h1 <;> split at h2 <;> (try split at h1) <;> (try split at h2) <;> split <;> (try split) <;> omega
def R6 : List Int → Int
 | [] => 0
 | x :: xs => if x = 0 then R6 xs else x
theorem bG (N : Nat) (a : List Int) (hb : a.length < 1000000) : ∀ (n i : Nat), i ≤ a.length → a.length - i < n →
  Ff N a (fun _ => some 0) n (i : Int) = some (R6 (a.drop i))
 | 0, i, _, h => by omega
 | n + 1, i, hi, h => by
  unfold Ff
  by_cases h1 : i < a.length
  ·have ha : a[i]? = some a[i] := by simp [h1]
   rw [AD (by omega), AW, ha, Dg ha]
   simp only [oS, R6]
   rw [AG (by omega), bG N a hb n (i + 1) (by omega) (by omega)]
   by_cases h3 : a[i] = 0
   ·simp [h3]
   ·have : (a[i] != 0) = true := by simpa using h3
    simp [h3, this]
  ·rw [AB (by omega), vH (by omega : a.length ≤ i)]
   simp [R6]
theorem Yh {N : Nat} {a : List Int} (h : a.length < N) (hN : N ≤ 1000000) : Gm N a = some (R6 a) := by
 have := bG N a (by omega) N 0 (by omega) (by omega)
 simpa [Gm] using this
theorem Zc (N : Nat) (a : List Int) (hb : a.length < 1000000) (hw : Ls JR a) : ∀ (n i : Nat), i ≤ a.length → a.length - i < n →
  C5 N a (fun v => some v) n (a.take i, (i : Int)) = some a
 | 0, i, _, h => by omega
 | n + 1, i, hi, h => by
  unfold C5
  by_cases h1 : i < a.length
  ·have ha : a[i]? = some a[i] := by simp [h1]
   rw [AD (by simpa using h1)]
   simp only
   rw [AW, ha]
   have hr : wI .i64 a[i] = a[i] := by
    have := hw a[i] (zB2 h1)
    unfold JR at this
    have h2 : 0 ≤ a[i] ∧ a[i] ≤ 255 := by simpa [Lit.wf, IntKind.min, IntKind.max, IntKind.signed, IntKind.bits] using this
    exact CT (by omega) (by omega)
   simp only [oS, hr]
   have hlen : (a.take i).length + ([a[i]] : List Int).length ≤ DC := by
    simp [DC]; omega
   rw [show DQ ((a.take i).length + ([a[i]] : List Int).length ≤ DC) = some () from by unfold DQ; rw [if_pos hlen]]
   simp only [oS]
   rw [AG (by omega), show a.take i ++ [a[i]] = a.take (i + 1) from by rw [zB9, ha]; rfl]
   exact Zc N a hb hw n (i + 1) (by omega) (by omega)
  ·rw [AB (by simpa using h1)]
   simp only
   rw [zC5 (by omega)]
theorem Nr {N : Nat} {a : List Int} (h : a.length < N) (hN : N ≤ 1000000) (hw : Ls JR a) : DE N a = some a := by
 have := Zc N a (by omega) hw N 0 (by omega) (by omega)
 simpa [DE] using this
def bI (a : Aa) : Prop := a.fd.length ≤ 8 ∧ a.fa.length ≤ 8 ∧ a.fc.length ≤ 14
def E6 (a b : Aa) : Int := R6 [ES a.fd b.fd, ES a.fa b.fa, ES a.fc b.fc]
theorem T6 (a b : Aa) : E6 b a = - E6 a b := by
 unfold E6
 rw [J2 a.fd b.fd, J2 a.fa b.fa, J2 a.fc b.fc]
 simp only [R6, Int.neg_eq_zero]
 split
 ·split
  ·split <;> simp_all
  ·rfl
 ·rfl
theorem Lc (a : Aa) : E6 a a = 0 := by unfold E6; simp [PP, R6]
def D2 {α R : Type} (f : Nat → α → Option R) : Nat → List α → Option R
 | _, [] => none
 | i, x :: xs => match f i x with
  | some r => some r
  | none => D2 f (i + 1) xs
theorem HF {α R : Type} (f : Nat → α → Option R) (i : Nat) (x : α) (xs : List α) : D2 f i (x :: xs) = match f i x with
  | some r => some r
  | none => D2 f (i + 1) xs := rfl
def BK {R : Type} (a : Option R) (b : Option R) : Option R := match a with
 | some r => some r
 | none => b
theorem Dq {α R : Type} (L : Nat → Int → Option R) (xs : List α) (j : Option R) (f : Nat → α → Option R)
  (hs : ∀ (n i : Nat) (x : α), xs[i]? = some x → L (n + 1) (i : Int) = BK (f i x) (L n ((i + 1 : Nat) : Int))) (he : ∀ n : Nat, L (n + 1) (xs.length : Int) = j) :
  ∀ n i : Nat, i ≤ xs.length → xs.length - i < n → L n (i : Int) = BK (D2 f i (xs.drop i)) j
 | 0, i, _, h => by omega
 | n + 1, i, hi, h => by
  by_cases h1 : i < xs.length
  ·have hx : xs[i]? = some xs[i] := by simp [h1]
   rw [hs n i _ hx, Dg hx, Dq L xs j f hs he n (i + 1) (by omega) (by omega)]
   rw [HF]
   cases f i xs[i] <;> rfl
  ·have : i = xs.length := by omega
   subst this
   rw [he n, vH (vN _)]
   rfl
theorem PE (N : Nat) (k n : Int) : EA N k n = some (decide (0 ≤ k) && decide (k < n)) := by
 unfold EA
 simp only [Bc]
 by_cases h : 0 ≤ k
 ·rw [AD h]; simp [h]
 ·rw [AB h]; simp [h]
theorem M4 (N : Nat) (t : AC) : A5 N t = some (t.ff == 3 || t.ff == 4) := by
 unfold A5
 simp only [Bc]
 cases h : t.ff == 3 <;> simp
def sq (l : List (List Bool)) (n m : Int) : Bool := decide ((l.length : Int) = n) && l.all fun r => decide ((r.length : Int) = m)
theorem OQ {α : Type} (p : α → Bool) {R : Type} (r : Nat → R) : ∀ (i : Nat) (xs : List α), (D2 (fun i x => if p x then none else some (r i)) i xs).isNone = xs.all p
 | i, [] => rfl
 | i, x :: xs => by
  unfold D2
  cases h : p x <;> simp [h, OQ p r (i + 1) xs]
theorem PW (N : Nat) (l : List (List Bool)) (n m : Int) (h : n < (N : Int)) (hN : N ≤ 1000000) : DT N l n m = some (sq l n m) := by
 unfold DT sq
 by_cases h1 : (l.length : Int) = n
 ·subst h1
  simp only [bne_self_eq_false, An, decide_true, zA9]
  have := Dq (CI N l (l.length : Int) m (fun _ => some true)) l (some true) (fun _ r => if decide ((r.length : Int) = m) then none else some false)
   (fun n i x hx => by
    have hi := (lI.1 hx).1
    rw [CI, AD (by omega), AW, hx]
    simp only [oS]
    rw [AG (by omega)]
    by_cases h2 : (x.length : Int) = m
    ·simp [h2, BK]
    ·have : ((x.length : Int) != m) = true := by simpa using h2
     simp [h2, this, BK])
   (fun n => by rw [CI, AB (by omega)]) N 0 (by omega) (by omega)
  simp only [Int.ofNat_zero, vS] at this
  rw [this]
  have h3 := OQ (fun r : List Bool => decide ((r.length : Int) = m)) (fun _ => false) 0 l
  cases hsc : D2 (fun (_ : Nat) (r : List Bool) => if decide ((r.length : Int) = m) = true then none else some false) 0 l with
  | none => rw [hsc] at h3; rw [← h3]; rfl
  | some b =>
   rw [hsc] at h3
   rw [← h3]
   have : ∀ (i : Nat) (xs : List (List Bool)) b, D2 (fun (_ : Nat) (r : List Bool) => if decide ((r.length : Int) = m) = true then none else some false) i xs = some b → b = false := by
    intro i xs
    induction xs generalizing i with
    | nil => intro b hb; cases hb
    | cons x xs ih =>
     intro b hb
     unfold D2 at hb
     split at hb
     ·rename_i r hr; cases hb; split at hr <;> simp at hr; exact hr
     ·exact ih _ b hb
   rw [this 0 l b hsc]; rfl
 ·have : ((l.length : Int) != n) = true := by simpa using h1
  simp [this, h1]
theorem PO (N : Nat) (l : List (List Bool)) (n m : Int) (h : n < (N : Int)) (hN : N ≤ 1000000) : Fw N l n m = some (sq l n m) := by
 unfold Fw sq
 simp only [Bc]
 by_cases h1 : (l.length : Int) = n
 ·subst h1
  simp only [beq_self_eq_true, AJ, decide_true, zA9]
  have := Dq (Bv N l (fun x => Ej N x m) (fun _ => some (-1))) l (some (-1)) (fun i r => if decide ((r.length : Int) = m) then none else some (i : Int))
   (fun n i x hx => by
    have hi := (lI.1 hx).1
    rw [Bv, AD (by omega), AW, hx]
    simp only [oS, Ej]
    rw [AG (by omega)]
    by_cases h2 : (x.length : Int) = m
    ·simp [h2, BK]
    ·have : ((x.length : Int) != m) = true := by simpa using h2
     simp [h2, this, BK])
   (fun n => by rw [Bv, AB (by omega)]) N 0 (by omega) (by omega)
  simp only [Int.ofNat_zero, vS] at this
  unfold Dn DN
  rw [this]
  have h3 := OQ (fun r : List Bool => decide ((r.length : Int) = m)) (fun i : Nat => (i : Int)) 0 l
  cases hsc : D2 (fun (i : Nat) (r : List Bool) => if decide ((r.length : Int) = m) = true then none else some (i : Int)) 0 l with
  | none => rw [hsc] at h3; rw [← h3]; rfl
  | some b =>
   rw [hsc] at h3
   rw [← h3]
   have : ∀ (i : Nat) (xs : List (List Bool)) b, D2 (fun (i : Nat) (r : List Bool) => if decide ((r.length : Int) = m) = true then none else some (i : Int)) i xs = some b → 0 ≤ b := by
    intro i xs
    induction xs generalizing i with
    | nil => intro b hb; cases hb
    | cons x xs ih =>
     intro b hb
     rw [HF] at hb
     split at hb
     ·rename_i r hr
      cases hb
      split at hr
      ·cases hr
      ·cases hr; omega
     ·exact ih _ b hb
   have := this 0 l b hsc
   simp [BK, this]
 ·have : ((l.length : Int) == n) = false := by simpa using h1
  simp [this, h1]
open List renaming mem_of_getElem? → lM
open List renaming getD_eq_getElem?_getD → lD
def Jk (l : List (List Bool)) : Option Int := D2 (fun i row => if row.getD i false then none else some 1) 0 l
theorem Q5 {row : List Bool} {i : Nat} (h : i < row.length) : BB row (i : Int) = some (row.getD i false) := by
 rw [AW, lD]; simp [h]
theorem WJ (N : Nat) (t : AC) (h : t.fo.length < N) (hN : N ≤ 1000000) (hsq : ∀ row, row ∈ t.fo → row.length = t.fo.length) (j : Option Int) :
  Cg N t (fun _ => j) N 0 = BK (Jk t.fo) j := by
 have := Dq (Cg N t (fun _ => j)) t.fo j (fun i row => if row.getD i false then none else some 1)
  (fun n i x hx => by
   have hi := (lI.1 hx).1
   have hl := hsq x (lM hx)
   rw [Cg, AD (by omega), AW, hx]
   simp only [oS]
   rw [Q5 (by omega), AG (by omega)]
   simp only [oS]
   cases x.getD i false <;> rfl)
  (fun n => by rw [Cg, AB (by omega)]) N 0 (by omega) (by omega)
 simpa [Jk] using this
theorem Ps (N : Nat) (t : AC) (h : t.fo.length < N) (hN : N ≤ 1000000) (hsq : ∀ row, row ∈ t.fo → row.length = t.fo.length) (j : Option Int) :
  DB N t (fun _ => j) N 0 = BK (Jk t.fo) j := by
 have := Dq (DB N t (fun _ => j)) t.fo j (fun i row => if row.getD i false then none else some 1)
  (fun n i x hx => by
   have hi := (lI.1 hx).1
   have hl := hsq x (lM hx)
   rw [DB, AD (by omega), AW, hx]
   simp only [oS]
   rw [Q5 (by omega), AG (by omega)]
   simp only [oS]
   cases x.getD i false <;> rfl)
  (fun n => by rw [DB, AB (by omega)]) N 0 (by omega) (by omega)
 simpa [Jk] using this
theorem NO {l : List (List Bool)} {n m : Int} (h : sq l n m = true) : (l.length : Int) = n ∧ ∀ row, row ∈ l → (row.length : Int) = m := by
 unfold sq at h
 simp only [uV, decide_eq_true_eq, uX] at h
 exact h
def EC (p : Ab) (t : AC) : Int :=
 if t.ff < 1 ∨ 4 < t.ff ∨ (t.fp = true ∧ (t.ff = 3 ∨ t.ff = 4)) then 1
 else if t.fg < 0 ∨ (p.fb.length : Int) ≤ t.fg ∨ t.fk < 0 ∨ (p.fb.length : Int) ≤ t.fk then 4
 else
  let f := p.fb.getD t.fg.toNat 0
  let g := p.fb.getD t.fk.toNat 0
  if sq t.fq f g = false then 6
  else if t.ff = 4 then (if sq t.fo f f = false then 6 else (Jk t.fo).getD 0)
  else if t.fo.length = 0 then 0 else 6
theorem E7 {α : Type} {xs : List α} {i : Int} {d : α} (h0 : 0 ≤ i) (h1 : i < (xs.length : Int)) : BB xs i = some (xs.getD i.toNat d) := by
 obtain ⟨k, rfl⟩ := uZ h0
 rw [AW, lD, vJ]
 simp [show k < xs.length from by omega]
theorem U8 {t : AC} (A B : Option Int) (hk : ¬ (t.fp = true ∧ (t.ff = 3 ∨ t.ff = 4))) : AN t.fp (AN (t.ff == 3 || t.ff == 4) A B) B = B := by
 cases ha : t.fp
 ·rfl
 ·have : (t.ff == 3 || t.ff == 4) = false := by
   rw [zG2]
   constructor
   ·simp only [beq_eq_false_iff_ne]; intro h; exact hk ⟨ha, .inl h⟩
   ·simp only [beq_eq_false_iff_ne]; intro h; exact hk ⟨ha, .inr h⟩
  rw [this]; rfl
theorem K4 {p : Ab} {i : Int} (hv : ∀ v, v ∈ p.fb → 1 ≤ v ∧ v ≤ 6) (h0 : 0 ≤ i) (h1 : i < (p.fb.length : Int)) : 1 ≤ p.fb.getD i.toNat 0 ∧ p.fb.getD i.toNat 0 ≤ 6 := by
 refine hv _ ?_
 rw [lD, vP (by omega)]
 exact zB2 _
theorem TS (N : Nat) (p : Ab) (t : AC) (hN : N ≤ 1000000) (h6 : 7 ≤ N) (hv : ∀ v, v ∈ p.fb → 1 ≤ v ∧ v ≤ 6) : EX N p t = some (EC p t) := by
 unfold EX EC
 simp only [Bc, M4, oS]
 by_cases k1 : t.ff < 1
 ·simp [k1]
 by_cases k2 : 4 < t.ff
 ·simp [k1, k2]
 rw [AB k1, AB k2]
 by_cases hk : t.fp = true ∧ (t.ff = 3 ∨ t.ff = 4)
 ·obtain ⟨ha, k | k⟩ := hk <;> simp [ha, k]
 rw [An, U8 _ _ hk, if_neg (fun h => h.elim k1 fun h => h.elim k2 hk)]
 by_cases f1 : t.fg < 0
 ·simp [f1]
 by_cases f2 : (p.fb.length : Int) ≤ t.fg
 ·simp [f1, f2]
 by_cases f3 : t.fk < 0
 ·simp [f1, f2, f3]
 by_cases f4 : (p.fb.length : Int) ≤ t.fk
 ·simp [f1, f2, f3, f4]
 rw [AB f1, AB f2, AB f3, if_neg (fun h => h.elim f1 fun h => h.elim f2 fun h => h.elim f3 f4)]
 have hf := K4 hv (i := t.fg) (by omega) (by omega)
 rw [decide_eq_false f4, An, E7 (d := 0) (by omega : 0 ≤ t.fg) (by omega), E7 (d := 0) (by omega : 0 ≤ t.fk) (by omega)]
 simp only [oS]
 generalize p.fb.getD t.fg.toNat 0 = f at *
 generalize p.fb.getD t.fk.toNat 0 = g at *
 rw [PW N t.fq f g (by omega) hN, PW N t.fo f f (by omega) hN]
 simp only [oS]
 cases hq : sq t.fq f g
 ·rfl
 simp only [vM, An]
 by_cases k4 : t.ff = 4
 ·have : (t.ff != 4) = false := by simp [k4]
  rw [this, An]
  simp only [k4, if_true]
  cases hr : sq t.fo f f
  ·rfl
  ·have h7 := NO hr
   simp only [vM, An]
   rw [WJ N t (by omega) hN (fun row hm => by have := h7.2 row hm; omega)]
   cases Jk t.fo <;> simp [BK]
 ·have : (t.ff != 4) = true := by simpa using k4
  rw [this, AJ]
  simp only [k4, if_false]
  by_cases hr : t.fo.length = 0
  ·simp [hr]
  ·have : ((t.fo.length : Int) != 0) = true := bne_iff_ne.2 (by omega)
   rw [this]; simp [hr]
theorem WU (N : Nat) (k : Int) (a : Bool) : Hc N k a = some (k == 1 || (k == 2 || ((k == 3 || k == 4) && !a))) := by
 unfold Hc
 simp only [Bc]
 cases h1 : k == 1 <;> cases h2 : k == 2 <;> cases h3 : k == 3 <;> cases h4 : k == 4 <;> cases a <;> rfl
theorem OL (N : Nat) (p : Ab) (t : AC) (hN : N ≤ 1000000) (h6 : 7 ≤ N) (hv : ∀ v, v ∈ p.fb → 1 ≤ v ∧ v ≤ 6) : GD N p t = some (EC p t) := by
 unfold GD EC
 simp only [Bc, WU, PE, oS]
 by_cases hb : t.ff < 1 ∨ 4 < t.ff ∨ (t.fp = true ∧ (t.ff = 3 ∨ t.ff = 4))
 ·have : (t.ff == 1 || (t.ff == 2 || ((t.ff == 3 || t.ff == 4) && !t.fp))) = false := by
   rcases hb with h | h | ⟨ha, h | h⟩
   ·rw [beq_eq_false_iff_ne.2 (by omega : t.ff ≠ 1), beq_eq_false_iff_ne.2 (by omega : t.ff ≠ 2), beq_eq_false_iff_ne.2 (by omega : t.ff ≠ 3), beq_eq_false_iff_ne.2 (by omega : t.ff ≠ 4)]; rfl
   ·rw [beq_eq_false_iff_ne.2 (by omega : t.ff ≠ 1), beq_eq_false_iff_ne.2 (by omega : t.ff ≠ 2), beq_eq_false_iff_ne.2 (by omega : t.ff ≠ 3), beq_eq_false_iff_ne.2 (by omega : t.ff ≠ 4)]; rfl
   ·simp [ha, h]
   ·simp [ha, h]
  rw [this, if_pos hb]; rfl
 ·have : (t.ff == 1 || (t.ff == 2 || ((t.ff == 3 || t.ff == 4) && !t.fp))) = true := by
   have hk : t.ff = 1 ∨ t.ff = 2 ∨ t.ff = 3 ∨ t.ff = 4 := by
    have h1 : ¬ t.ff < 1 := fun h => hb (.inl h)
    have h2 : ¬ 4 < t.ff := fun h => hb (.inr (.inl h))
    omega
   rcases hk with h | h | h | h
   ·simp [h]
   ·simp [h]
   ·cases ha : t.fp
    ·simp [h]
    ·exact (hb (.inr (.inr ⟨ha, .inl h⟩))).elim
   ·cases ha : t.fp
    ·simp [h]
    ·exact (hb (.inr (.inr ⟨ha, .inr h⟩))).elim
  rw [this, if_neg hb]
  simp only [vM, An]
  by_cases f1 : t.fg < 0
  ·simp [f1, show ¬ (0 ≤ t.fg) from by omega]
  by_cases f2 : (p.fb.length : Int) ≤ t.fg
  ·simp [f2, show ¬ (t.fg < (p.fb.length : Int)) from by omega]
  by_cases f3 : t.fk < 0
  ·simp [f3, show 0 ≤ t.fg from by omega, show t.fg < (p.fb.length : Int) from by omega, show ¬ (0 ≤ t.fk) from by omega]
  by_cases f4 : (p.fb.length : Int) ≤ t.fk
  ·simp [f4, show 0 ≤ t.fg from by omega, show t.fg < (p.fb.length : Int) from by omega, show ¬ (t.fk < (p.fb.length : Int)) from by omega]
  rw [if_neg (fun h => h.elim f1 fun h => h.elim f2 fun h => h.elim f3 f4)]
  have hf := K4 hv (i := t.fg) (by omega) (by omega)
  have hg := K4 hv (i := t.fk) (by omega) (by omega)
  rw [decide_eq_true (by omega : 0 ≤ t.fg), decide_eq_true (by omega : t.fg < (p.fb.length : Int)), decide_eq_true (by omega : 0 ≤ t.fk), decide_eq_true (by omega : t.fk < (p.fb.length : Int)), E7 (d := 0) (by omega : 0 ≤ t.fg) (by omega), E7 (d := 0) (by omega : 0 ≤ t.fk) (by omega)]
  simp only [Bool.and_self, vM, An, oS]
  generalize p.fb.getD t.fg.toNat 0 = f at *
  generalize p.fb.getD t.fk.toNat 0 = g at *
  rw [PO N t.fq f g (by omega) hN, PO N t.fo f f (by omega) hN]
  simp only [oS]
  cases hq : sq t.fq f g
  ·rfl
  simp only [vM, An]
  by_cases k4 : t.ff = 4
  ·simp only [k4, beq_self_eq_true, AJ, if_true]
   cases hr : sq t.fo f f
   ·rfl
   ·have h7 := NO hr
    simp only [vM, An]
    rw [Ps N t (by omega) hN (fun row hm => by have := h7.2 row hm; omega)]
    cases Jk t.fo <;> simp [BK]
  ·have : (t.ff == 4) = false := beq_eq_false_iff_ne.2 k4
   rw [this, An]
   simp only [k4, if_false, zA5, AJ]
   by_cases hr : t.fo.length = 0
   ·rw [Ps N t (by omega) hN (fun row hm => by rw [zA4 hr] at hm; cases hm), zA4 hr]
    simp [Jk, D2, BK]
   ·rw [decide_eq_true (by omega : 0 < (t.fo.length : Int))]
    simp [hr]
def Gn (p : Ab) (i : Nat) (v : Int) : Option Int :=
 if v < 1 ∨ 6 < v ∨ p.fi.getD i 0 < 0 ∨ v ≤ p.fi.getD i 0 ∨ p.fj.getD i 0 < 0 ∨ v ≤ p.fj.getD i 0 then some 7 else none
def Mi (p : Ab) (_ : Nat) (t : AC) : Option Int := if EC p t = 0 then none else some (EC p t)
def De (p : Ab) : Int :=
 if 6 < p.fb.length ∨ 12 < p.fe.length then 3
 else if p.fi.length ≠ p.fb.length ∨ p.fj.length ≠ p.fb.length then 6
 else ((BK (D2 (Gn p) 0 p.fb) (D2 (Mi p) 0 p.fe)).getD 0)
theorem FY {α R : Type} {f : Nat → α → Option R} : ∀ {i : Nat} {xs : List α}, D2 f i xs = none → ∀ j x, xs[j]? = some x → f (i + j) x = none
 | _, [], _, j, x, hx => by simp at hx
 | i, y :: ys, h, j, x, hx => by
  rw [HF] at h
  split at h
  ·cases h
  ·rename_i h0
   cases j with
   | zero => simp at hx; subst hx; exact h0
   | succ j =>
    have := FY h j x (by simpa using hx)
    rwa [show i + 1 + j = i + (j + 1) from by omega] at this
theorem OR {p : Ab} (h : D2 (Gn p) 0 p.fb = none) : ∀ v, v ∈ p.fb → 1 ≤ v ∧ v ≤ 6 := by
 intro v hv
 obtain ⟨i, hi⟩ := vO.1 hv
 have := FY h i v hi
 unfold Gn at this
 split at this
 ·cases this
 ·rename_i hn
  constructor
  ·exact Int.not_lt.1 fun h => hn (.inl h)
  ·exact Int.not_lt.1 fun h => hn (.inr (.inl h))
theorem Dc {α : Type} {xs : List α} {i : Nat} {d : α} (h : i < xs.length) : BB xs (i : Int) = some (xs.getD i d) := by
 rw [AW, lD]; simp [h]
theorem SG (N : Nat) (p : Ab) (hN : N ≤ 1000000) (h1 : p.fb.length < N) (h2 : p.fi.length = p.fb.length) (h3 : p.fj.length = p.fb.length) (j : Option Int) :
  Bj N p (fun _ => j) N 0 = BK (D2 (Gn p) 0 p.fb) j := by
 have := Dq (Bj N p (fun _ => j)) p.fb j (Gn p)
  (fun n i x hx => by
   have hi := (lI.1 hx).1
   rw [Bj, AD (by omega), AW, hx]
   simp only [oS, Bc]
   rw [Dc (d := 0) (by omega), Dc (d := 0) (by omega), AG (by omega)]
   simp only [oS]
   unfold Gn
   generalize p.fi.getD i 0 = a
   generalize p.fj.getD i 0 = b
   by_cases k1 : x < 1 <;> by_cases k2 : 6 < x <;> by_cases k3 : a < 0 <;> by_cases k4 : x ≤ a <;> by_cases k5 : b < 0 <;> by_cases k6 : x ≤ b <;> simp [k1, k2, k3, k4, k5, k6, BK])
  (fun n => by rw [Bj, AB (by omega)]) N 0 (by omega) (by omega)
 simpa using this
theorem QR (N : Nat) (p : Ab) (hN : N ≤ 1000000) (h1 : p.fb.length < N) (h2 : p.fi.length = p.fb.length) (h3 : p.fj.length = p.fb.length) (j : Option Int) :
  Cb N p (fun _ => j) N 0 = BK (D2 (Gn p) 0 p.fb) j := by
 have := Dq (Cb N p (fun _ => j)) p.fb j (Gn p)
  (fun n i x hx => by
   have hi := (lI.1 hx).1
   rw [Cb, AD (by omega), AW, hx]
   simp only [oS, Bc, PE]
   rw [Dc (d := 0) (by omega), Dc (d := 0) (by omega), AG (by omega)]
   simp only [oS]
   unfold Gn
   generalize p.fi.getD i 0 = a
   generalize p.fj.getD i 0 = b
   have e1 : decide (0 ≤ a) = !decide (a < 0) := by rw [← decide_not]; congr 1; simp
   have e2 : decide (a < x) = !decide (x ≤ a) := by rw [← decide_not]; congr 1; simp
   have e3 : decide (0 ≤ b) = !decide (b < 0) := by rw [← decide_not]; congr 1; simp
   have e4 : decide (b < x) = !decide (x ≤ b) := by rw [← decide_not]; congr 1; simp
   rw [e1, e2, e3, e4]
   by_cases k1 : x < 1 <;> by_cases k2 : 6 < x <;> by_cases k3 : a < 0 <;> by_cases k4 : x ≤ a <;> by_cases k5 : b < 0 <;> by_cases k6 : x ≤ b <;> simp [k1, k2, k3, k4, k5, k6, BK])
  (fun n => by rw [Cb, AB (by omega)]) N 0 (by omega) (by omega)
 simpa using this
theorem Vx (N : Nat) (p : Ab) (hN : N ≤ 1000000) (h6 : 7 ≤ N) (h1 : p.fe.length < N) (hv : ∀ v, v ∈ p.fb → 1 ≤ v ∧ v ≤ 6) (j : Option Int) :
  Bg N p (fun _ => j) N 0 = BK (D2 (Mi p) 0 p.fe) j := by
 have := Dq (Bg N p (fun _ => j)) p.fe j (Mi p)
  (fun n i x hx => by
   have hi := (lI.1 hx).1
   rw [Bg, AD (by omega), AW, hx]
   simp only [oS]
   rw [TS N p x hN h6 hv, AG (by omega)]
   simp only [oS]
   unfold Mi
   by_cases k : EC p x = 0
   ·simp [k, BK]
   ·rw [bne_iff_ne.2 k, if_neg k]; rfl)
  (fun n => by rw [Bg, AB (by omega)]) N 0 (by omega) (by omega)
 simpa using this
theorem Sc (N : Nat) (p : Ab) (hN : N ≤ 1000000) (h6 : 7 ≤ N) (h1 : p.fe.length < N) (hv : ∀ v, v ∈ p.fb → 1 ≤ v ∧ v ≤ 6) (j : Option Int) :
  B8 N p (fun _ => j) N 0 = BK (D2 (Mi p) 0 p.fe) j := by
 have := Dq (B8 N p (fun _ => j)) p.fe j (Mi p)
  (fun n i x hx => by
   have hi := (lI.1 hx).1
   rw [B8, AD (by omega), AW, hx]
   simp only [oS]
   rw [OL N p x hN h6 hv, AG (by omega)]
   simp only [oS]
   unfold Mi
   by_cases k : EC p x = 0
   ·simp [k, BK]
   ·rw [bne_iff_ne.2 k, if_neg k]; rfl)
  (fun n => by rw [B8, AB (by omega)]) N 0 (by omega) (by omega)
 simpa using this
theorem Ou (N : Nat) (p : Ab) (hN : N ≤ 1000000) (h : 20 ≤ N) : CK N p = some (De p) := by
 unfold CK De
 simp only [Bc]
 by_cases k1 : 6 < p.fb.length
 ·rw [AD (by omega)]; simp [k1]
 rw [AB (by omega)]
 by_cases k2 : 12 < p.fe.length
 ·rw [decide_eq_true (by omega : (12 : Int) < (p.fe.length : Int))]; simp [k2]
 rw [decide_eq_false (by omega : ¬ (12 : Int) < (p.fe.length : Int)), An, if_neg (by omega)]
 by_cases k3 : p.fi.length = p.fb.length
 ·by_cases k4 : p.fj.length = p.fb.length
  ·rw [k3, k4]
   simp only [bne_self_eq_false, An, ne_eq, not_true_eq_false, or_self, if_false]
   rw [SG N p hN (by omega) k3 k4]
   cases hs : D2 (Gn p) 0 p.fb with
   | some r => rfl
   | none =>
    simp only [BK]
    rw [Vx N p hN (by omega) (by omega) (OR hs)]
    cases D2 (Mi p) 0 p.fe <;> rfl
  ·have : ((p.fj.length : Int) != (p.fb.length : Int)) = true := bne_iff_ne.2 (by omega)
   rw [this, k3]; simp [k4]
 ·have : ((p.fi.length : Int) != (p.fb.length : Int)) = true := bne_iff_ne.2 (by omega)
  rw [this]; simp [k3]
theorem Mn (N : Nat) (p : Ab) (hN : N ≤ 1000000) (h : 20 ≤ N) : CO N p = some (De p) := by
 unfold CO De
 simp only [Bc]
 by_cases k1 : 6 < p.fb.length
 ·rw [AD (by omega)]; simp [k1]
 rw [AB (by omega)]
 by_cases k2 : 12 < p.fe.length
 ·rw [decide_eq_true (by omega : (12 : Int) < (p.fe.length : Int))]; simp [k2]
 rw [decide_eq_false (by omega : ¬ (12 : Int) < (p.fe.length : Int)), An, if_neg (by omega)]
 by_cases k3 : p.fi.length = p.fb.length
 ·by_cases k4 : p.fj.length = p.fb.length
  ·rw [k3, k4]
   simp only [bne_self_eq_false, An, ne_eq, not_true_eq_false, or_self, if_false]
   rw [QR N p hN (by omega) k3 k4]
   cases hs : D2 (Gn p) 0 p.fb with
   | some r => rfl
   | none =>
    simp only [BK]
    rw [Sc N p hN (by omega) (by omega) (OR hs)]
    cases D2 (Mi p) 0 p.fe <;> rfl
  ·have : ((p.fj.length : Int) != (p.fb.length : Int)) = true := bne_iff_ne.2 (by omega)
   rw [this, k3]; simp [k4]
 ·have : ((p.fi.length : Int) != (p.fb.length : Int)) = true := bne_iff_ne.2 (by omega)
  rw [this]; simp [k3]
theorem Iu {n : Int} (h : JR n) : 0 ≤ n ∧ n ≤ 255 := by
 unfold JR at h
 simpa [Lit.wf, IntKind.min, IntKind.max, IntKind.signed, IntKind.bits] using h
theorem Pb : ∀ k : Fin 256, DH .u8 0 (k.val : Int) = 0 := by decide +kernel
theorem OW : ∀ k : Fin 256, DH .u8 (k.val : Int) 0 = (k.val : Int) := by decide +kernel
theorem UO {n : Int} (h : JR n) : DH .u8 0 n = 0 := by
 have := Iu h
 obtain ⟨k, rfl⟩ := uZ this.1
 exact Pb ⟨k, by omega⟩
theorem Vy {n : Int} (h : JR n) : DH .u8 n 0 = n := by
 have := Iu h
 obtain ⟨k, rfl⟩ := uZ this.1
 exact OW ⟨k, by omega⟩
theorem EL {α R : Type} {f : Nat → α → Option R} : ∀ {i : Nat} {xs : List α} {r : R}, D2 f i xs = some r → ∃ j x, xs[j]? = some x ∧ f (i + j) x = some r
 | _, [], _, h => by cases h
 | i, y :: ys, r, h => by
  rw [HF] at h
  split at h
  ·rename_i r' h0
   cases h
   exact ⟨0, y, rfl, h0⟩
  ·obtain ⟨j, x, h1, h2⟩ := EL h
   exact ⟨j + 1, x, by simpa using h1, by rwa [show i + (j + 1) = i + 1 + j from by omega]⟩
structure B0 (p : Ab) : Prop where
 nv : p.fb.length ≤ 6
 nt : p.fe.length ≤ 12
 now : p.fi.length = p.fb.length
 tgt : p.fj.length = p.fb.length
 ver : ∀ v, v ∈ p.fb → 1 ≤ v ∧ v ≤ 6
 tab : ∀ t, t ∈ p.fe → EC p t = 0
theorem So (l : List (List Bool)) : (Jk l).getD 0 = 0 ∨ (Jk l).getD 0 = 1 := by
 cases h : Jk l with
 | none => exact .inl rfl
 | some r =>
  obtain ⟨j, x, _, h⟩ := EL h
  split at h
  ·cases h
  ·cases h; exact .inr rfl
theorem Qr (p : Ab) (t : AC) : EC p t = 0 ∨ EC p t = 1 ∨ EC p t = 4 ∨ EC p t = 6 := by
 unfold EC
 split
 ·exact .inr (.inl rfl)
 split
 ·exact .inr (.inr (.inl rfl))
 simp only
 split
 ·exact .inr (.inr (.inr rfl))
 split
 ·split
  ·exact .inr (.inr (.inr rfl))
  ·rcases So t.fo with h | h
   ·exact .inl h
   ·exact .inr (.inl h)
 ·split
  ·exact .inl rfl
  ·exact .inr (.inr (.inr rfl))
theorem HR (p : Ab) : (De p = 0 ∧ B0 p) ∨ (De p = 1 ∨ De p = 3 ∨ De p = 4 ∨ De p = 6 ∨ De p = 7) := by
 unfold De
 split
 ·simp
 rename_i k1
 split
 ·simp
 rename_i k2
 cases hs : D2 (Gn p) 0 p.fb with
 | some r =>
  obtain ⟨j, x, _, h⟩ := EL hs
  unfold Gn at h
  split at h
  ·cases h; simp [BK]
  ·cases h
 | none =>
  cases ht : D2 (Mi p) 0 p.fe with
  | some r =>
   obtain ⟨j, t, _, h⟩ := EL ht
   unfold Mi at h
   split at h
   ·cases h
   ·rename_i hne
    cases h
    simp only [BK, vW]
    right
    rcases Qr p t with h | h | h | h
    ·exact (hne h).elim
    ·exact .inl h
    ·exact .inr (.inr (.inl h))
    ·exact .inr (.inr (.inr (.inl h)))
  | none =>
   left
   refine ⟨rfl, by omega, by omega, by omega, by omega, OR hs, fun t hm => ?_⟩
   obtain ⟨j, hj⟩ := vO.1 hm
   have := FY ht j t hj
   unfold Mi at this
   split at this
   ·assumption
   ·cases this
def GW (m : Aa) (s : Nat) : Int :=
 if 0 ≤ m.fa.getD s 0 then MG .u8 (D7 .u8 1 (m.fd.getD s 0)) (D7 .u8 1 (m.fa.getD s 0)) else D7 .u8 1 (m.fd.getD s 0)
def KZ (m : Aa) (i : Nat) (v : Int) : Option Int :=
 if m.fd.getD i 0 < 0 ∨ v ≤ m.fd.getD i 0 ∨ m.fa.getD i 0 < -1 ∨ v ≤ m.fa.getD i 0 then some 7
 else if m.fd.getD i 0 = m.fa.getD i 0 then some 1 else none
def BM (t : AC) : Bool := t.ff == 3 || t.ff == 4
def WV (p : Ab) (t : AC) : Int := wI .u8 (D7 .u8 1 (p.fb.getD t.fg.toNat 0) - 1)
def IH (p : Ab) (m : Aa) (i : Nat) (t : AC) : Option Int :=
 if BM t = true then (if DH .u8 (GW m t.fg.toNat) (m.fc.getD i 0) ≠ 0 ∨ DH .u8 (m.fc.getD i 0) (WV p t) ≠ 0 then some 1 else none)
 else if m.fc.getD i 0 ≠ 0 then some 1 else none
def BX (p : Ab) (m : Aa) : Int :=
 if De p ≠ 0 then De p
 else if m.fd.length ≠ p.fb.length ∨ m.fa.length ≠ p.fb.length ∨ m.fc.length ≠ p.fe.length then 6
 else (BK (D2 (KZ m) 0 p.fb) (D2 (IH p m) 0 p.fe)).getD 0
theorem Jq {p : Ab} {t : AC} (h : EC p t = 0) : 0 ≤ t.fg ∧ t.fg < (p.fb.length : Int) ∧ 0 ≤ t.fk ∧ t.fk < (p.fb.length : Int) := by
 unfold EC at h
 split at h
 ·cases h
 ·split at h
  ·cases h
  ·omega
theorem LF (N : Nat) (m : Aa) (s : Int) (h0 : 0 ≤ s) (h1 : s < (m.fd.length : Int)) (h2 : s < (m.fa.length : Int)) (hb : 0 ≤ m.fd.getD s.toNat 0) : Fh N m s = some (GW m s.toNat) := by
 unfold Fh GW
 rw [E7 (d := 0) h0 h1, E7 (d := 0) h0 h2]
 simp only [oS, Bc]
 rw [show DQ (0 ≤ m.fd.getD s.toNat 0) = some () from by unfold DQ; rw [if_pos hb]]
 simp only [oS]
 by_cases h : 0 ≤ m.fa.getD s.toNat 0
 ·rw [AD h, if_pos h, show DQ (0 ≤ m.fa.getD s.toNat 0) = some () from by unfold DQ; rw [if_pos h]]; rfl
 ·rw [AB h, if_neg h]
theorem Ji (N : Nat) (m : Aa) (s : Int) (h0 : 0 ≤ s) (h1 : s < (m.fd.length : Int)) (h2 : s < (m.fa.length : Int)) (hb : 0 ≤ m.fd.getD s.toNat 0) : BQ N m s = some (GW m s.toNat) := by
 unfold BQ GW
 rw [E7 (d := 0) h0 h1, E7 (d := 0) h0 h2]
 simp only [oS, Bc]
 rw [show DQ (0 ≤ m.fd.getD s.toNat 0) = some () from by unfold DQ; rw [if_pos hb]]
 simp only [oS]
 by_cases h : 0 ≤ m.fa.getD s.toNat 0
 ·rw [AD h, if_pos h, show DQ (0 ≤ m.fa.getD s.toNat 0) = some () from by unfold DQ; rw [if_pos h]]; rfl
 ·rw [AB h, if_neg h]
theorem Qq (N : Nat) (p : Ab) (m : Aa) (hN : N ≤ 1000000) (h1 : p.fb.length < N) (h2 : m.fd.length = p.fb.length) (h3 : m.fa.length = p.fb.length) (j : Option Int) :
  Ez N p m (fun _ => j) N 0 = BK (D2 (KZ m) 0 p.fb) j := by
 have := Dq (Ez N p m (fun _ => j)) p.fb j (KZ m)
  (fun n i x hx => by
   have hi := (lI.1 hx).1
   rw [Ez, AD (by omega), AW, hx]
   simp only [oS, Bc]
   rw [Dc (d := 0) (by omega), Dc (d := 0) (by omega), AG (by omega)]
   simp only [oS]
   unfold KZ
   generalize m.fd.getD i 0 = a
   generalize m.fa.getD i 0 = b
   by_cases k7 : a = b
   ·subst k7
    by_cases k3 : a < 0 <;> by_cases k4 : x ≤ a <;> by_cases k5 : a < -1 <;> simp [k3, k4, k5, BK]
   ·have k8 : (a == b) = false := beq_eq_false_iff_ne.2 k7
    by_cases k3 : a < 0 <;> by_cases k4 : x ≤ a <;> by_cases k5 : b < -1 <;> by_cases k6 : x ≤ b <;> simp [k3, k4, k5, k6, k7, k8, BK])
  (fun n => by rw [Ez, AB (by omega)]) N 0 (by omega) (by omega)
 simpa using this
theorem Qd (N : Nat) (p : Ab) (m : Aa) (hN : N ≤ 1000000) (h1 : p.fb.length < N) (h2 : m.fd.length = p.fb.length) (h3 : m.fa.length = p.fb.length) (j : Option Int) :
  Cn N p m (fun _ => j) N 0 = BK (D2 (KZ m) 0 p.fb) j := by
 have := Dq (Cn N p m (fun _ => j)) p.fb j (KZ m)
  (fun n i x hx => by
   have hi := (lI.1 hx).1
   rw [Cn, AD (by omega), show BB p.fb (i : Int) = some x from by rw [AW, hx]]
   simp only [oS, Bc]
   rw [Dc (d := 0) (by omega), Dc (d := 0) (by omega), AG (by omega)]
   simp only [oS]
   unfold KZ
   generalize m.fd.getD i 0 = a
   generalize m.fa.getD i 0 = b
   by_cases k7 : a = b
   ·subst k7
    by_cases k3 : a < 0 <;> by_cases k4 : x ≤ a <;> by_cases k5 : a < -1 <;> simp [k3, k4, k5, BK]
   ·have k8 : (a == b) = false := beq_eq_false_iff_ne.2 k7
    by_cases k3 : a < 0 <;> by_cases k4 : x ≤ a <;> by_cases k5 : b < -1 <;> by_cases k6 : x ≤ b <;> simp [k3, k4, k5, k6, k7, k8, BK])
  (fun n => by rw [Cn, AB (by omega)]) N 0 (by omega) (by omega)
 simpa using this
structure MixServ (p : Ab) (m : Aa) : Prop where
 base : m.fd.length = p.fb.length
 next : m.fa.length = p.fb.length
 held : m.fc.length = p.fe.length
 b0 : ∀ i, i < p.fb.length → 0 ≤ m.fd.getD i 0 ∧ m.fd.getD i 0 < p.fb.getD i 0
 n0 : ∀ i, i < p.fb.length → -1 ≤ m.fa.getD i 0 ∧ m.fa.getD i 0 < p.fb.getD i 0
 ne : ∀ i, i < p.fb.length → m.fd.getD i 0 ≠ m.fa.getD i 0
theorem QP {p : Ab} {m : Aa} (h2 : m.fd.length = p.fb.length) (h3 : m.fa.length = p.fb.length) (h4 : m.fc.length = p.fe.length) (h : D2 (KZ m) 0 p.fb = none) : MixServ p m := by
 have key : ∀ i, i < p.fb.length → ¬ (m.fd.getD i 0 < 0 ∨ p.fb.getD i 0 ≤ m.fd.getD i 0 ∨ m.fa.getD i 0 < -1 ∨ p.fb.getD i 0 ≤ m.fa.getD i 0) ∧ ¬ m.fd.getD i 0 = m.fa.getD i 0 := by
  intro i hi
  have hx : p.fb[i]? = some (p.fb.getD i 0) := by rw [lD]; simp [hi]
  have := FY h i _ hx
  rw [uT] at this
  unfold KZ at this
  split at this
  ·cases this
  ·split at this
   ·cases this
   ·rename_i k1 k2; exact ⟨k1, k2⟩
 exact ⟨h2, h3, h4, fun i hi => by have := (key i hi).1; omega, fun i hi => by have := (key i hi).1; omega, fun i hi => (key i hi).2⟩
theorem Rx {m : Aa} (hw : Ls JR m.fc) {i : Nat} (h : i < m.fc.length) : JR (m.fc.getD i 0) := by
 refine hw _ ?_
 rw [lD, vP h]
 exact zB2 _
theorem JI (N : Nat) (t : AC) : FN N t = some (BM t) := by
 unfold FN BM
 simp only [Bc]
 cases h : t.ff == 3 <;> simp
theorem FL (N : Nat) (t : AC) : A5 N t = some (BM t) := M4 N t
theorem Sb (N : Nat) (p : Ab) (m : Aa) (hN : N ≤ 1000000) (h1 : p.fe.length < N) (hp : B0 p) (hm : MixServ p m) (hw : Ls JR m.fc) (j : Option Int) :
  Ea N p m (fun _ => j) N 0 = BK (D2 (IH p m) 0 p.fe) j := by
 have := Dq (Ea N p m (fun _ => j)) p.fe j (IH p m)
  (fun n i x hx => by
   have hi := (lI.1 hx).1
   have hin := Jq (hp.tab x (lM hx))
   have hheld := Rx hw (show i < m.fc.length from by rw [hm.held]; exact hi)
   have hv := K4 hp.ver hin.1 hin.2.1
   rw [Ea, AD (by omega), AW, hx]
   simp only [oS, Bc, JI]
   rw [LF N m x.fg hin.1 (by rw [hm.base]; exact hin.2.1) (by rw [hm.next]; exact hin.2.1) (hm.b0 _ (by omega)).1, E7 (d := 0) hin.1 hin.2.1, Dc (d := 0) (show i < m.fc.length from by rw [hm.held]; exact hi), AG (by omega)]
   simp only [oS]
   rw [show DQ (0 ≤ p.fb.getD x.fg.toNat 0) = some () from by unfold DQ; rw [if_pos (by omega)]]
   simp only [oS]
   unfold IH WV
   rw [UO hheld, Vy hheld]
   generalize DH .u8 (GW m x.fg.toNat) (m.fc.getD i 0) = A
   generalize DH .u8 (m.fc.getD i 0) (wI .u8 (D7 .u8 1 (p.fb.getD x.fg.toNat 0) - 1)) = B
   generalize m.fc.getD i 0 = H
   cases BM x
   ·simp only [An, bne_self_eq_false]
    by_cases k : H = 0
    ·simp [k, BK]
    ·have : (H != 0) = true := bne_iff_ne.2 k
     simp [k, this, BK]
   ·simp only [AJ]
    by_cases k : A = 0
    ·by_cases k2 : B = 0
     ·simp [k, k2, BK]
     ·have : (B != 0) = true := bne_iff_ne.2 k2
      simp [k, k2, this, BK]
    ·have : (A != 0) = true := bne_iff_ne.2 k
     simp [k, this, BK])
  (fun n => by rw [Ea, AB (by omega)]) N 0 (by omega) (by omega)
 simpa using this
theorem Sk (N : Nat) (p : Ab) (m : Aa) (hN : N ≤ 1000000) (h1 : p.fe.length < N) (hp : B0 p) (hm : MixServ p m) (j : Option Int) :
  Cd N p m (fun _ => j) N 0 = BK (D2 (IH p m) 0 p.fe) j := by
 have := Dq (Cd N p m (fun _ => j)) p.fe j (IH p m)
  (fun n i x hx => by
   have hi := (lI.1 hx).1
   have hin := Jq (hp.tab x (lM hx))
   have hv := K4 hp.ver hin.1 hin.2.1
   rw [Cd, AD (by omega), AW, hx]
   simp only [oS, Bc, FL]
   rw [Ji N m x.fg hin.1 (by rw [hm.base]; exact hin.2.1) (by rw [hm.next]; exact hin.2.1) (hm.b0 _ (by omega)).1, E7 (d := 0) hin.1 hin.2.1, Dc (d := 0) (show i < m.fc.length from by rw [hm.held]; exact hi), AG (by omega)]
   simp only [oS]
   rw [show DQ (0 ≤ p.fb.getD x.fg.toNat 0) = some () from by unfold DQ; rw [if_pos (by omega)]]
   simp only [oS]
   unfold IH WV
   generalize DH .u8 (GW m x.fg.toNat) (m.fc.getD i 0) = A
   generalize DH .u8 (m.fc.getD i 0) (wI .u8 (D7 .u8 1 (p.fb.getD x.fg.toNat 0) - 1)) = B
   generalize m.fc.getD i 0 = H
   cases BM x
   ·simp only [zA5, AJ, An]
    by_cases k : H = 0
    ·simp [k, BK]
    ·have : (H != 0) = true := bne_iff_ne.2 k
     simp [k, this, BK]
   ·simp only [vM, An, AJ]
    by_cases k : A = 0
    ·by_cases k2 : B = 0
     ·simp [k, k2, BK]
     ·have : (B != 0) = true := bne_iff_ne.2 k2
      simp [k, k2, this, BK]
    ·have : (A != 0) = true := bne_iff_ne.2 k
     by_cases k2 : B = 0
     ·simp [k, k2, this, BK]
     ·have h5 : (B != 0) = true := bne_iff_ne.2 k2
      simp [k, h5, BK])
  (fun n => by rw [Cd, AB (by omega)]) N 0 (by omega) (by omega)
 simpa using this
theorem HX (N : Nat) (p : Ab) (m : Aa) (hN : N ≤ 1000000) (h : 20 ≤ N) (hw : Ls JR m.fc) : E9 N p m = some (BX p m) := by
 unfold E9 BX
 rw [Mn N p hN h]
 simp only [oS, Bc]
 by_cases k0 : De p = 0
 ·have hp : B0 p := by
   rcases HR p with h | h
   ·exact h.2
   ·omega
  have hnv := hp.nv
  have hnt := hp.nt
  rw [k0]
  simp only [bne_self_eq_false, An, ne_eq, not_true_eq_false, if_false]
  by_cases k1 : m.fd.length = p.fb.length
  ·by_cases k2 : m.fa.length = p.fb.length
   ·by_cases k3 : m.fc.length = p.fe.length
    ·rw [k1, k2, k3]
     simp only [bne_self_eq_false, An, not_true_eq_false, or_self, if_false]
     rw [Qq N p m hN (by omega) k1 k2]
     cases hs : D2 (KZ m) 0 p.fb with
     | some r => rfl
     | none =>
      simp only [BK]
      rw [Sb N p m hN (by omega) hp (QP k1 k2 k3 hs) hw]
      cases D2 (IH p m) 0 p.fe <;> rfl
    ·have : ((m.fc.length : Int) != (p.fe.length : Int)) = true := bne_iff_ne.2 (by omega)
     rw [this, k1, k2]; simp [k3]
   ·have : ((m.fa.length : Int) != (p.fb.length : Int)) = true := bne_iff_ne.2 (by omega)
    rw [this, k1]; simp [k2]
  ·have : ((m.fd.length : Int) != (p.fb.length : Int)) = true := bne_iff_ne.2 (by omega)
   rw [this]; simp [k1]
 ·rw [bne_iff_ne.2 k0]; simp [k0]
theorem Kb (N : Nat) (p : Ab) (m : Aa) (hN : N ≤ 1000000) (h : 20 ≤ N) : Dx N p m = some (BX p m) := by
 unfold Dx BX
 rw [Ou N p hN h]
 simp only [oS, Bc]
 by_cases k0 : De p = 0
 ·have hp : B0 p := by
   rcases HR p with h | h
   ·exact h.2
   ·omega
  have hnv := hp.nv
  have hnt := hp.nt
  rw [k0]
  simp only [bne_self_eq_false, An, ne_eq, not_true_eq_false, if_false]
  by_cases k1 : m.fd.length = p.fb.length
  ·by_cases k2 : m.fa.length = p.fb.length
   ·by_cases k3 : m.fc.length = p.fe.length
    ·rw [k1, k2, k3]
     simp only [bne_self_eq_false, An, not_true_eq_false, or_self, if_false]
     rw [Qd N p m hN (by omega) k1 k2]
     cases hs : D2 (KZ m) 0 p.fb with
     | some r => rfl
     | none =>
      simp only [BK]
      rw [Sk N p m hN (by omega) hp (QP k1 k2 k3 hs)]
      cases D2 (IH p m) 0 p.fe <;> rfl
    ·have : ((m.fc.length : Int) != (p.fe.length : Int)) = true := bne_iff_ne.2 (by omega)
     rw [this, k1, k2]; simp [k3]
   ·have : ((m.fa.length : Int) != (p.fb.length : Int)) = true := bne_iff_ne.2 (by omega)
    rw [this, k1]; simp [k2]
  ·have : ((m.fd.length : Int) != (p.fb.length : Int)) = true := bne_iff_ne.2 (by omega)
   rw [this]; simp [k1]
 ·rw [bne_iff_ne.2 k0]; simp [k0]
theorem QA (p : Ab) (m : Aa) : BX p m = 0 ∨ BX p m = 1 ∨ BX p m = 3 ∨ BX p m = 4 ∨ BX p m = 6 ∨ BX p m = 7 := by
 unfold BX
 split
 ·rename_i h
  rcases HR p with h1 | h1
  ·exact (h h1.1).elim
  ·exact .inr h1
 split
 ·simp
 cases hs : D2 (KZ m) 0 p.fb with
 | some r =>
  obtain ⟨j, x, _, h⟩ := EL hs
  unfold KZ at h
  split at h
  ·cases h; simp [BK]
  ·split at h
   ·cases h; simp [BK]
   ·cases h
 | none =>
  cases ht : D2 (IH p m) 0 p.fe with
  | some r =>
   obtain ⟨j, x, _, h⟩ := EL ht
   unfold IH at h
   split at h
   ·split at h
    ·cases h; simp [BK]
    ·cases h
   ·split at h
    ·cases h; simp [BK]
    ·cases h
  | none => simp [BK]
@[simp] theorem A8 {α β : Type} (k : α) (f : α → β) : Bc k f = f k := rfl
@[simp] theorem Um {p : Prop} [Decidable p] (h : p) : DQ p = some () := by unfold DQ; rw [if_pos h]
theorem Ap {β : Type} {p : Prop} [Decidable p] (h : p) (f : Unit → Option β) : (DQ p).bind f = f () := by rw [Um h]; rfl
def EO {α β : Type} (g : Nat → α → List β) : Nat → List α → List β
 | _, [] => []
 | i, x :: xs => g i x ++ EO g (i + 1) xs
def ID {α A : Type} (f : Nat → α → A → A) : Nat → List α → A → A
 | _, [], a => a
 | i, x :: xs, a => ID f (i + 1) xs (f i x a)
theorem Mq {α β : Type} (g : Nat → α → List β) : ∀ (i : Nat) (xs ys : List α), EO g i (xs ++ ys) = EO g i xs ++ EO g (i + xs.length) ys
 | i, [], ys => by simp [EO]
 | i, x :: xs, ys => by
  rw [zF5, EO, EO, Mq g (i + 1) xs ys, zB1, vV, zC9, Nat.add_comm 1]
theorem PJ {α β : Type} {g : Nat → α → List β} {y : β} : ∀ {i : Nat} {xs : List α}, y ∈ EO g i xs ↔ ∃ j x, xs[j]? = some x ∧ y ∈ g (i + j) x
 | _, [] => by simp [EO]
 | i, x :: xs => by
  rw [EO, zB3, PJ]
  constructor
  ·rintro (h | ⟨j, z, hz, h⟩)
   ·exact ⟨0, x, rfl, h⟩
   ·exact ⟨j + 1, z, by simpa using hz, by rwa [show i + (j + 1) = i + 1 + j from by omega]⟩
  ·rintro ⟨j, z, hz, h⟩
   cases j with
   | zero => simp at hz; subst hz; exact .inl h
   | succ j => exact .inr ⟨j, z, by simpa using hz, by rwa [show i + 1 + j = i + (j + 1) from by omega]⟩
theorem GG {α β : Type} {g : Nat → α → List β} {c : Nat} : ∀ {i : Nat} {xs : List α}, (∀ j x, xs[j]? = some x → (g (i + j) x).length ≤ c) → (EO g i xs).length ≤ c * xs.length
 | _, [], _ => by simp [EO]
 | i, x :: xs, h => by
  have h1 := h 0 x rfl
  have h2 := GG (g := g) (c := c) (i := i + 1) (xs := xs) fun j y hy => by
   have := h (j + 1) y (by simpa using hy)
   rwa [show i + (j + 1) = i + 1 + j from by omega] at this
  rw [EO, zA2, vV, Nat.mul_add]
  simp only [zB6] at h1
  omega
theorem IV {α A S R : Type} (L : Nat → S → Option R) (mk : A → Int → S) (xs : List α) (j : A → Option R) (f : Nat → α → A → A) (I : Nat → A → Prop)
  (hs : ∀ (n i : Nat) (x : α) (a : A), xs[i]? = some x → I i a → L (n + 1) (mk a (i : Int)) = L n (mk (f i x a) ((i + 1 : Nat) : Int)) ∧ I (i + 1) (f i x a))
  (he : ∀ (n : Nat) (a : A), I xs.length a → L (n + 1) (mk a (xs.length : Int)) = j a) :
  ∀ (n i : Nat) (a : A), i ≤ xs.length → xs.length - i < n → I i a → L n (mk a (i : Int)) = j (ID f i (xs.drop i) a) ∧ I xs.length (ID f i (xs.drop i) a)
 | 0, i, _, _, h, _ => by omega
 | n + 1, i, a, hi, h, ha => by
  by_cases h1 : i < xs.length
  ·have hx : xs[i]? = some xs[i] := by simp [h1]
   obtain ⟨e1, e2⟩ := hs n i _ a hx ha
   rw [e1, Dg hx, ID]
   exact IV L mk xs j f I hs he n (i + 1) _ (by omega) (by omega) e2
  ·have : i = xs.length := by omega
   subst this
   rw [vH (vN _), ID]
   exact ⟨he n a ha, ha⟩
theorem N1 {α β : Type} (g : Nat → α → List β) : ∀ (i : Nat) (xs : List α) (acc : List β), ID (fun i x a => a ++ g i x) i xs acc = acc ++ EO g i xs
 | _, [], acc => by simp [ID, EO]
 | i, x :: xs, acc => by rw [ID, N1 g (i + 1) xs, EO, zB1]
theorem If {α β S R : Type} (L : Nat → S → Option R) (mk : List β → Int → S) (xs : List α) (j : List β → Option R) (g : Nat → α → List β) (c B : Nat)
  (hg : ∀ i x, xs[i]? = some x → (g i x).length ≤ c)
  (hs : ∀ (n i : Nat) (x : α) (a : List β), xs[i]? = some x → a.length + (g i x).length ≤ B → L (n + 1) (mk a (i : Int)) = L n (mk (a ++ g i x) ((i + 1 : Nat) : Int)))
  (he : ∀ (n : Nat) (a : List β), L (n + 1) (mk a (xs.length : Int)) = j a) (n : Nat) (a : List β) (hn : xs.length < n) (ha : a.length + c * xs.length ≤ B) :
  L n (mk a 0) = j (a ++ EO g 0 xs) := by
 have := IV L mk xs j (fun i x a => a ++ g i x) (fun i b => i ≤ xs.length ∧ b.length ≤ a.length + c * i)
  (fun n i x b hx hb => by
   have h1 := hg i x hx
   have hi := (lI.1 hx).1
   have h2 : c * (i + 1) ≤ c * xs.length := Nat.mul_le_mul_left c hi
   have h3 : c * (i + 1) = c * i + c := Nat.mul_succ c i
   refine ⟨hs n i x b hx (by have := hb.2; omega), hi, ?_⟩
   rw [zA2]
   have := hb.2
   omega)
  (fun n b _ => he n b) n 0 a (vG _) (by omega) ⟨vG _, by omega⟩
 have h2 := this.1
 rw [vS, N1] at h2
 exact h2
def Dh (s : Int) (v : Nat) : Bool := s.toNat.testBit v
def H7 (m : Aa) (s v : Nat) : Bool := decide (m.fd.getD s 0 = (v : Int)) || decide (m.fa.getD s 0 = (v : Int))
theorem Wk : ∀ (s : Fin 256) (v : Fin 8), F5 .u8 (Fo .u8 (s.val : Int) (v.val : Int)) 1 = if Dh (s.val : Int) v.val then 1 else 0 := by decide +kernel
theorem QE {s : Int} {v : Nat} (h0 : 0 ≤ s) (h1 : s ≤ 255) (hv : v < 8) : F5 .u8 (Fo .u8 s (v : Int)) 1 = if Dh s v then 1 else 0 := by
 obtain ⟨k, rfl⟩ := uZ h0
 exact Wk ⟨k, by omega⟩ ⟨v, hv⟩
theorem QZ {s : Int} {v : Nat} (h0 : 0 ≤ s) (h1 : s ≤ 255) (hv : v < 8) : (F5 .u8 (Fo .u8 s (v : Int)) 1 == 0) = !Dh s v := by
 rw [QE h0 h1 hv]; cases Dh s v <;> rfl
theorem R3 {s : Int} {v : Nat} (h0 : 0 ≤ s) (h1 : s ≤ 255) (hv : v < 8) : (F5 .u8 (Fo .u8 s (v : Int)) 1 == 1) = Dh s v := by
 rw [QE h0 h1 hv]; cases Dh s v <;> rfl
theorem Kc {s : Int} {v : Nat} (h1 : s ≤ 255) (hv : 8 ≤ v) : Dh s v = false := by
 unfold Dh
 apply Nat.testBit_lt_two_pow
 have : (2 : Nat) ^ 8 ≤ 2 ^ v := Nat.pow_le_pow_right (by omega) hv
 omega
theorem Kr : ∀ (b : Fin 8) (v : Fin 8), Dh (D7 .u8 1 (b.val : Int)) v.val = decide (b.val = v.val) ∧ 0 ≤ D7 .u8 1 (b.val : Int) ∧ D7 .u8 1 (b.val : Int) ≤ 255 := by decide +kernel
theorem Xe : ∀ (b n : Fin 8) (v : Fin 8), Dh (MG .u8 (D7 .u8 1 (b.val : Int)) (D7 .u8 1 (n.val : Int))) v.val = (decide (b.val = v.val) || decide (n.val = v.val))
  ∧ 0 ≤ MG .u8 (D7 .u8 1 (b.val : Int)) (D7 .u8 1 (n.val : Int)) ∧ MG .u8 (D7 .u8 1 (b.val : Int)) (D7 .u8 1 (n.val : Int)) ≤ 255 := by decide +kernel
theorem RV {m : Aa} {s : Nat} (hb0 : 0 ≤ m.fd.getD s 0) (hb1 : m.fd.getD s 0 < 8) (hn1 : m.fa.getD s 0 < 8) :
  (∀ v, Dh (GW m s) v = H7 m s v) ∧ 0 ≤ GW m s ∧ GW m s ≤ 255 := by
 unfold GW H7
 obtain ⟨b, hb⟩ := uZ hb0
 rw [hb] at hb1 ⊢
 by_cases h : 0 ≤ m.fa.getD s 0
 ·obtain ⟨n, hn⟩ := uZ h
  rw [hn] at hn1 ⊢
  rw [if_pos (by omega)]
  have h1 := Xe ⟨b, by omega⟩ ⟨n, by omega⟩
  refine ⟨fun v => ?_, (h1 0).2⟩
  by_cases hv : v < 8
  ·rw [(h1 ⟨v, hv⟩).1]
   simp only [zI3]
  ·rw [Kc (h1 0).2.2 (by omega)]
   simp; omega
 ·rw [if_neg h]
  have h1 := Kr ⟨b, by omega⟩
  refine ⟨fun v => ?_, (h1 0).2⟩
  have h3 : decide (m.fa.getD s 0 = (v : Int)) = false := decide_eq_false (by omega)
  rw [h3, Bool.or_false]
  by_cases hv : v < 8
  ·rw [(h1 ⟨v, hv⟩).1]
   simp only [zI3]
  ·rw [Kc (h1 0).2.2 (by omega)]
   simp; omega
theorem Tf {a : Nat} (h : a < 256) : (BitVec.ofInt 8 (a : Int)).toNat = a := by
 simp; omega
theorem NX {a b : Int} (ha : 0 ≤ a ∧ a ≤ 255) (hb : 0 ≤ b ∧ b ≤ 255) : DH .u8 a b = 0 ↔ ∀ v, Dh a v = true → Dh b v = true := by
 obtain ⟨a, rfl⟩ := uZ ha.1
 obtain ⟨b, rfl⟩ := uZ hb.1
 have hA := Tf (a := a) (by omega)
 have hB := Tf (a := b) (by omega)
 unfold DH Dh
 simp only [IntKind.bits, vJ]
 have hx : ∀ x : BitVec 8, wI .u8 (x.toNat : Int) = (x.toNat : Int) := by
  intro x
  have := x.isLt
  simp [wI, IntKind.signed, IntKind.bits]
  omega
 rw [hx]
 constructor
 ·intro h v hv
  have h0 : (BitVec.ofInt 8 (a : Int) &&& ~~~BitVec.ofInt 8 (b : Int)) = (BitVec.ofNat 8 0) := by
   apply BitVec.eq_of_toNat_eq
   simp only [BitVec.toNat_ofNat, Nat.zero_mod]
   exact zI3.1 h
  by_cases hv8 : v < 8
  ·have h1 : (BitVec.ofInt 8 (a : Int) &&& ~~~BitVec.ofInt 8 (b : Int)).getLsbD v = false := by rw [h0]; simp
   rw [BitVec.getLsbD_and, BitVec.getLsbD_not] at h1
   have e1 : (BitVec.ofInt 8 (a : Int)).getLsbD v = a.testBit v := by unfold BitVec.getLsbD; rw [hA]
   have e2 : (BitVec.ofInt 8 (b : Int)).getLsbD v = b.testBit v := by unfold BitVec.getLsbD; rw [hB]
   rw [e1, e2, hv] at h1
   simpa [hv8] using h1
  ·have := Kc (s := (a : Int)) (v := v) (by omega) (by omega)
   unfold Dh at this
   rw [vJ, hv] at this
   cases this
 ·intro h
  have h0 : (BitVec.ofInt 8 (a : Int) &&& ~~~BitVec.ofInt 8 (b : Int)) = (BitVec.ofNat 8 0) := by
   apply BitVec.eq_of_getLsbD_eq
   intro i hi
   rw [BitVec.getLsbD_and, BitVec.getLsbD_not]
   have e1 : (BitVec.ofInt 8 (a : Int)).getLsbD i = a.testBit i := by unfold BitVec.getLsbD; rw [hA]
   have e2 : (BitVec.ofInt 8 (b : Int)).getLsbD i = b.testBit i := by unfold BitVec.getLsbD; rw [hB]
   rw [e1, e2]
   have := h i
   cases h3 : a.testBit i
   ·simp
   ·rw [this h3]; simp
  have h2 : ∀ x : BitVec 8, x = (BitVec.ofNat 8 0) → (x.toNat : Int) = 0 := fun x hx => by rw [hx]; rfl
  exact h2 _ h0
theorem Wx : ∀ n : Fin 9, (∀ v : Fin 8, Dh (wI .u8 (D7 .u8 1 (n.val : Int) - 1)) v.val = decide (v.val < n.val)) ∧ 0 ≤ wI .u8 (D7 .u8 1 (n.val : Int) - 1) ∧ wI .u8 (D7 .u8 1 (n.val : Int) - 1) ≤ 255 := by decide +kernel
theorem Tm {n : Int} (h0 : 0 ≤ n) (h1 : n ≤ 8) : (∀ v, Dh (wI .u8 (D7 .u8 1 n - 1)) v = decide ((v : Int) < n)) ∧ 0 ≤ wI .u8 (D7 .u8 1 n - 1) ∧ wI .u8 (D7 .u8 1 n - 1) ≤ 255 := by
 obtain ⟨n, rfl⟩ := uZ h0
 have h := Wx ⟨n, by omega⟩
 refine ⟨fun v => ?_, h.2⟩
 by_cases hv : v < 8
 ·rw [h.1 ⟨v, hv⟩]; simp
 ·rw [Kc h.2.2 (by omega)]
  symm; apply decide_eq_false; omega
structure CG (p : Ab) (m : Aa) : Prop extends MixServ p m where
 range : ∀ i, i < p.fe.length → 0 ≤ m.fc.getD i 0 ∧ m.fc.getD i 0 ≤ 255
 low : ∀ i t, p.fe[i]? = some t → BM t = true → ∀ v, H7 m t.fg.toNat v = true → Dh (m.fc.getD i 0) v = true
 high : ∀ i t, p.fe[i]? = some t → BM t = true → ∀ v, Dh (m.fc.getD i 0) v = true → (v : Int) < p.fb.getD t.fg.toNat 0
 none : ∀ i t, p.fe[i]? = some t → BM t = false → m.fc.getD i 0 = 0
theorem Ic {p : Ab} (hp : B0 p) {i : Nat} (hi : i < p.fb.length) : 1 ≤ p.fb.getD i 0 ∧ p.fb.getD i 0 ≤ 6 := by
 have := K4 (i := (i : Int)) hp.ver (by omega) (by omega)
 simpa using this
theorem Im {p : Ab} {m : Aa} (hp : B0 p) (hm : MixServ p m) {s : Nat} (hs : s < p.fb.length) :
  (∀ v, Dh (GW m s) v = H7 m s v) ∧ 0 ≤ GW m s ∧ GW m s ≤ 255 := by
 have h1 := hm.b0 s hs
 have h2 := hm.n0 s hs
 have h3 := Ic hp hs
 exact RV h1.1 (by omega) (by omega)
theorem RT {p : Ab} {m : Aa} (hp : B0 p) (hm : MixServ p m) {i : Nat} {t : AC} (ht : p.fe[i]? = some t) (hr : 0 ≤ m.fc.getD i 0 ∧ m.fc.getD i 0 ≤ 255) :
  IH p m i t = none ↔ ((BM t = true → (∀ v, H7 m t.fg.toNat v = true → Dh (m.fc.getD i 0) v = true) ∧ (∀ v, Dh (m.fc.getD i 0) v = true → (v : Int) < p.fb.getD t.fg.toNat 0)) ∧ (BM t = false → m.fc.getD i 0 = 0)) := by
 have hin := Jq (hp.tab t (lM ht))
 have hrun := Im hp hm (s := t.fg.toNat) (by omega)
 have hver := Ic hp (i := t.fg.toNat) (by omega)
 have hall := Tm (n := p.fb.getD t.fg.toNat 0) (by omega) (by omega)
 unfold IH WV
 have e1 := NX hrun.2 hr
 have e2 := NX hr hall.2
 cases hst : BM t
 ·simp
 ·simp only [if_true, true_implies, Bool.true_eq_false, false_implies, and_true, ite_eq_right_iff, reduceCtorEq, imp_false, not_or, Decidable.not_not]
  rw [e1, e2]
  simp only [hrun.1, hall.1, decide_eq_true_eq]
theorem In {p : Ab} {m : Aa} (hw : Ls JR m.fc) (h : BX p m = 0) : B0 p ∧ CG p m := by
 unfold BX at h
 split at h
 ·rename_i k; exact (k h).elim
 ·rename_i k0
  have hp : B0 p := by
   rcases HR p with h | h
   ·exact h.2
   ·omega
  split at h
  ·cases h
  ·rename_i k1
   have b1 : m.fd.length = p.fb.length := Decidable.not_not.1 fun h => k1 (.inl h)
   have b2 : m.fa.length = p.fb.length := Decidable.not_not.1 fun h => k1 (.inr (.inl h))
   have b3 : m.fc.length = p.fe.length := Decidable.not_not.1 fun h => k1 (.inr (.inr h))
   cases hs : D2 (KZ m) 0 p.fb with
   | some r =>
    obtain ⟨j, x, _, he⟩ := EL hs
    rw [hs] at h
    unfold KZ at he
    simp only [BK, vW] at h
    split at he
    ·cases he; cases h
    ·split at he
     ·cases he; cases h
     ·cases he
   | none =>
    have hm := QP b1 b2 b3 hs
    rw [hs] at h
    simp only [BK] at h
    cases ht : D2 (IH p m) 0 p.fe with
    | some r =>
     obtain ⟨j, x, _, he⟩ := EL ht
     rw [ht] at h
     simp only [vW] at h
     subst h
     unfold IH at he
     split at he
     ·split at he <;> cases he
     ·split at he <;> cases he
    | none =>
     have hr : ∀ i, i < p.fe.length → 0 ≤ m.fc.getD i 0 ∧ m.fc.getD i 0 ≤ 255 := fun i hi => Iu (Rx hw (by omega))
     have key : ∀ i t, p.fe[i]? = some t → _ := fun i t hi => (RT hp hm hi (hr i (lI.1 hi).1)).1 (by have := FY ht i t hi; rwa [uT] at this)
     exact ⟨hp, hm, hr, fun i t hi hst => ((key i t hi).1 hst).1, fun i t hi hst => ((key i t hi).1 hst).2, fun i t hi hst => (key i t hi).2 hst⟩
theorem Gd {α R : Type} {f : Nat → α → Option R} : ∀ {i : Nat} {xs : List α}, (∀ j x, xs[j]? = some x → f (i + j) x = none) → D2 f i xs = none
 | _, [], _ => rfl
 | i, y :: ys, h => by
  rw [HF, show f i y = none from h 0 y rfl]
  exact Gd fun j x hx => by
   have := h (j + 1) x (by simpa using hx)
   rwa [show i + (j + 1) = i + 1 + j from by omega] at this
theorem Ql {p : Ab} (hp : B0 p) (hr : ∀ i, i < p.fb.length → 0 ≤ p.fi.getD i 0 ∧ p.fi.getD i 0 < p.fb.getD i 0 ∧ 0 ≤ p.fj.getD i 0 ∧ p.fj.getD i 0 < p.fb.getD i 0) : De p = 0 := by
 have := hp.nv
 have := hp.nt
 have := hp.now
 have := hp.tgt
 unfold De
 rw [if_neg (by omega), if_neg (by omega)]
 have h1 : D2 (Gn p) 0 p.fb = none := Gd fun j x hx => by
  have hj := (lI.1 hx).1
  have h1 := hr j hj
  have h2 := Ic hp hj
  have e : p.fb.getD j 0 = x := by rw [lD, hx]; rfl
  rw [e] at h1 h2
  unfold Gn
  rw [uT, if_neg (by omega)]
 have h2 : D2 (Mi p) 0 p.fe = none := Gd fun j x hx => by
  unfold Mi
  rw [if_pos (hp.tab x (lM hx))]
 rw [h1, h2]; rfl
theorem Eo {p : Ab} (h : De p = 0) : B0 p ∧ ∀ i, i < p.fb.length → 0 ≤ p.fi.getD i 0 ∧ p.fi.getD i 0 < p.fb.getD i 0 ∧ 0 ≤ p.fj.getD i 0 ∧ p.fj.getD i 0 < p.fb.getD i 0 := by
 have hp : B0 p := by
  rcases HR p with h | h
  ·exact h.2
  ·omega
 refine ⟨hp, fun i hi => ?_⟩
 have h1 := hp.nv
 have h2 := hp.nt
 have h3 := hp.now
 have h4 := hp.tgt
 unfold De at h
 rw [if_neg (by omega), if_neg (by omega)] at h
 cases hs : D2 (Gn p) 0 p.fb with
 | some r =>
  obtain ⟨j, x, _, he⟩ := EL hs
  rw [hs] at h
  unfold Gn at he
  split at he
  ·cases he; cases h
  ·cases he
 | none =>
  have hx : p.fb[i]? = some (p.fb.getD i 0) := by rw [lD]; simp [hi]
  have := FY hs i _ hx
  rw [uT] at this
  unfold Gn at this
  split at this
  ·cases this
  ·rename_i hn; omega
theorem KL {p : Ab} {m : Aa} (hv : De p = 0) (hm : CG p m) : BX p m = 0 := by
 obtain ⟨hp, _⟩ := Eo hv
 unfold BX
 rw [hv, if_neg (by simp), if_neg (by have := hm.base; have := hm.next; have := hm.held; omega)]
 have h1 : D2 (KZ m) 0 p.fb = none := Gd fun j x hx => by
  have hj := (lI.1 hx).1
  have e : p.fb.getD j 0 = x := by rw [lD, hx]; rfl
  have h1 := hm.b0 j hj
  have h2 := hm.n0 j hj
  have h3 := hm.ne j hj
  rw [e] at h1 h2
  unfold KZ
  rw [uT, if_neg (by omega), if_neg h3]
 have h2 : D2 (IH p m) 0 p.fe = none := Gd fun j x hx => by
  have hj := (lI.1 hx).1
  rw [uT]
  exact (RT hp hm.toMixServ hx (hm.range j hj)).2 ⟨fun hst => ⟨hm.low j x hx hst, hm.high j x hx hst⟩, fun hst => hm.none j x hx hst⟩
 rw [h1, h2]; rfl
def OF {α : Type} (g : Nat → α → Bool) : Nat → List α → Bool
 | _, [] => false
 | i, x :: xs => g i x || OF g (i + 1) xs
theorem LG {α β : Type} (g : Nat → α → List β) (h : Nat → α → Bool) : ∀ (i : Nat) (xs : List α) (a : List β) (b : Bool),
  ID (fun i x (s : List β × Bool) => (s.1 ++ g i x, s.2 || h i x)) i xs (a, b) = (a ++ EO g i xs, b || OF h i xs)
 | _, [], a, b => by simp [ID, EO, OF]
 | i, x :: xs, a, b => by rw [ID, LG g h, EO, OF, zB1, Bool.or_assoc]
def gC (i u : Nat) (m : Aa) (t : AC) (v : Nat) (ok : Bool) : List Ad :=
 if H7 m t.fk.toNat v && (!ok && !t.fp) then [⟨(i : Int), (u : Int), (v : Int)⟩] else []
def hC (m : Aa) (t : AC) (v : Nat) (ok : Bool) : Bool := H7 m t.fk.toNat v && ok
def Kg (i : Nat) (m : Aa) (t : AC) (u : Nat) (row : List Bool) : List Ad :=
 EO (gC i u m t) 0 row ++ if t.fp && !OF (hC m t) 0 row then [⟨(i : Int), (u : Int), -1⟩] else []
def T5 (m : Aa) (i : Nat) (t : AC) (u : Nat) : Bool := if BM t then Dh (m.fc.getD i 0) u else H7 m t.fg.toNat u
def J7 (m : Aa) (i : Nat) (t : AC) : List Ad := EO (fun u row => if T5 m i t u then Kg i m t u row else []) 0 t.fq
def Hr (p : Ab) (m : Aa) : List Ad := EO (J7 m) 0 p.fe
structure NT (p : Ab) (t : AC) : Prop where
 kind : 1 ≤ t.ff ∧ t.ff ≤ 4
 aware : t.fp = true → BM t = false
 from0 : 0 ≤ t.fg ∧ t.fg < (p.fb.length : Int)
 to0 : 0 ≤ t.fk ∧ t.fk < (p.fb.length : Int)
 okL : (t.fq.length : Int) = p.fb.getD t.fg.toNat 0
 okR : ∀ row, row ∈ t.fq → (row.length : Int) = p.fb.getD t.fk.toNat 0
 reL : t.ff = 4 → (t.fo.length : Int) = p.fb.getD t.fg.toNat 0
 reR : ∀ row, row ∈ t.fo → (row.length : Int) = p.fb.getD t.fg.toNat 0
 reD : t.ff = 4 → Jk t.fo = none
 reN : t.ff ≠ 4 → t.fo = []
theorem KJ {p : Ab} {t : AC} (h : EC p t = 0) : NT p t := by
 unfold EC at h
 split at h
 ·cases h
 rename_i h1
 split at h
 ·cases h
 rename_i h2
 simp only at h
 split at h
 ·cases h
 rename_i h3
 have h3 : sq t.fq (p.fb.getD t.fg.toNat 0) (p.fb.getD t.fk.toNat 0) = true := by simpa using h3
 have h3 := NO h3
 have ha : t.fp = true → BM t = false := by
  intro ha
  unfold BM
  rw [zG2, beq_eq_false_iff_ne, beq_eq_false_iff_ne]
  exact ⟨fun hk => h1 (.inr (.inr ⟨ha, .inl hk⟩)), fun hk => h1 (.inr (.inr ⟨ha, .inr hk⟩))⟩
 split at h
 ·rename_i h4
  split at h
  ·cases h
  rename_i h5
  have h5 : sq t.fo (p.fb.getD t.fg.toNat 0) (p.fb.getD t.fg.toNat 0) = true := by simpa using h5
  have h5 := NO h5
  refine ⟨by omega, ha, by omega, by omega, h3.1, h3.2, fun _ => h5.1, h5.2, fun _ => ?_, fun h => (h h4).elim⟩
  cases hd : Jk t.fo with
  | none => rfl
  | some r =>
   obtain ⟨j, x, _, hx⟩ := EL hd
   rw [hd] at h
   split at hx
   ·cases hx
   ·cases hx; cases h
 ·rename_i h4
  split at h
  ·rename_i h5
   have h5 := zA4 h5
   refine ⟨by omega, ha, by omega, by omega, h3.1, h3.2, fun h => (h4 h).elim, fun row hr => ?_, fun h => (h4 h).elim, fun _ => h5⟩
   rw [h5] at hr; cases hr
  ·cases h
theorem La {R : Type} (b : Bool) (acc : List Ad) (x : Ad) (j : List Ad → Option R) (h : acc.length + 1 ≤ DC) :
  AN b ((DQ (acc.length + ([x] : List Ad).length ≤ DC)).bind fun _ => j (acc ++ [x])) (j acc) = j (acc ++ if b then [x] else []) := by
 cases b
 ·simp
 ·rw [AJ, Ap (by simpa using h)]; rfl
theorem Rg (N : Nat) (m : Aa) (t : AC) (i u : Nat) (row : List Bool) (R : Int) (b1 b2 acc : List Ad) (j : List Ad × Bool → Option (List Ad))
  (hN : N ≤ 1000000) (h8 : 8 ≤ N) (hrow : row.length ≤ 6) (hacc : acc.length + 6 ≤ DC) (hR0 : 0 ≤ R) (hR1 : R ≤ 255) (hRb : ∀ v, Dh R v = H7 m t.fk.toNat v) :
  Ce N (b1, (i : Int)) t R (b2, (u : Int)) row j N (acc, false, 0) = j (acc ++ EO (gC i u m t) 0 row, OF (hC m t) 0 row) := by
 have := IV (A := List Ad × Bool) (Ce N (b1, (i : Int)) t R (b2, (u : Int)) row j) (fun a k => (a.1, a.2, k)) row (fun a => j a) (fun v ok s => (s.1 ++ gC i u m t v ok, s.2 || hC m t v ok))
  (fun v a => v ≤ row.length ∧ a.1.length ≤ acc.length + v)
  (fun n v ok a hx ha => by
   have hv := (lI.1 hx).1
   obtain ⟨c, f⟩ := a
   simp only at ha
   refine ⟨?_, by omega, ?_⟩
   ·rw [Ce]
    simp only [A8]
    rw [AD (by omega), AW, hx]
    simp only [oS]
    rw [Ap (by omega), QZ hR0 hR1 (by omega), hRb, AG (by omega), La _ _ _ (fun l => Ce N (b1, (i : Int)) t R (b2, (u : Int)) row j n (l, true, ((v + 1 : Nat) : Int))) (by omega)]
    unfold gC hC
    rw [La _ _ _ (fun l => Ce N (b1, (i : Int)) t R (b2, (u : Int)) row j n (l, ok, ((v + 1 : Nat) : Int))) (by omega)]
    cases H7 m t.fk.toNat v
    ·simp
    ·cases ok <;> cases f <;> cases t.fp <;> simp
   ·simp only [gC, zA2]
    split <;> simp <;> omega)
  (fun n a _ => by
   rw [Ce]
   simp only [A8]
   rw [AB (by omega)]) N 0 (acc, false) (by omega) (by omega) ⟨by omega, by simp⟩
 have h2 := this.1
 rw [vS, LG, zE4] at h2
 exact h2
theorem NJ {p : Ab} {t : AC} (hp : B0 p) (ht : NT p t) : t.fq.length ≤ 6 ∧ ∀ row, row ∈ t.fq → row.length ≤ 6 := by
 have h1 := K4 hp.ver ht.from0.1 ht.from0.2
 have h2 := K4 hp.ver ht.to0.1 ht.to0.2
 have h3 := ht.okL
 exact ⟨by omega, fun row hr => by have := ht.okR row hr; omega⟩
theorem SB (i u : Nat) (m : Aa) (t : AC) (v : Nat) (ok : Bool) : (gC i u m t v ok).length ≤ 1 := by
 unfold gC; split <;> simp
theorem Si (i : Nat) (m : Aa) (t : AC) (u : Nat) (row : List Bool) (h : row.length ≤ 6) : (Kg i m t u row).length ≤ 7 := by
 unfold Kg
 rw [zA2]
 have := GG (g := gC i u m t) (c := 1) (i := 0) (xs := row) (fun j x _ => SB _ _ _ _ _ _)
 split <;> simp <;> omega
theorem SC (i : Nat) (m : Aa) (t : AC) (u : Nat) (row : List Bool) (h : row.length ≤ 6) : (if T5 m i t u = true then Kg i m t u row else []).length ≤ 7 := by
 have := Si i m t u row h
 split <;> simp <;> omega
theorem Nm {p : Ab} {t : AC} (hp : B0 p) (ht : NT p t) (i : Nat) (m : Aa) : (J7 m i t).length ≤ 42 := by
 have h1 := NJ hp ht
 have := GG (g := fun u row => if T5 m i t u = true then Kg i m t u row else []) (c := 7) (i := 0) (xs := t.fq) (fun j x hx => SC i m t _ x (h1.2 x (lM hx)))
 unfold J7
 omega
theorem Mg (N : Nat) (p : Ab) (m : Aa) (t : AC) (i : Nat) (W R : Int) (b1 acc : List Ad) (j : List Ad → Option (List Ad))
  (hN : N ≤ 1000000) (h8 : 8 ≤ N) (hp : B0 p) (ht : NT p t) (hacc : acc.length + 42 ≤ 10000) (hR0 : 0 ≤ R) (hR1 : R ≤ 255) (hRb : ∀ v, Dh R v = H7 m t.fk.toNat v) (hW0 : 0 ≤ W) (hW1 : W ≤ 255) (hWb : ∀ v, Dh W v = T5 m i t v) :
  CC N (b1, (i : Int)) t R W j N (acc, 0) = j (acc ++ J7 m i t) := by
 have hl := NJ hp ht
 exact If (CC N (b1, (i : Int)) t R W j) (fun a k => (a, k)) t.fq j (fun u row => if T5 m i t u then Kg i m t u row else []) 7 10000
  (fun u row hx => SC i m t u row (hl.2 row (lM hx)))
  (fun n u row a hx ha => by
   have hu := (lI.1 hx).1
   have hrow := hl.2 row (lM hx)
   rw [CC]
   simp only [A8]
   rw [AD (by omega), Ap (by omega), QZ hW0 hW1 (by omega), hWb, AW, hx]
   simp only [oS]
   rw [Rg N m t i u row R b1 a a _ hN h8 hrow (by unfold DC; omega) hR0 hR1 hRb, AG (by omega)]
   cases hw : T5 m i t u
   ·simp
   ·simp only [vM, An, if_true, Kg]
    have h1 := GG (g := gC i u m t) (c := 1) (i := 0) (xs := row) (fun j x _ => SB _ _ _ _ _ _)
    have := La (R := List Ad) (t.fp && !OF (hC m t) 0 row) (a ++ EO (gC i u m t) 0 row) ⟨(i : Int), (u : Int), -1⟩ (fun l => CC N (b1, (i : Int)) t R W j n (l, ((u + 1 : Nat) : Int))) (by rw [zA2]; unfold DC; rw [hw, if_pos rfl] at ha; omega)
    rw [← zB1, ← this]
    cases t.fp <;> cases OF (hC m t) 0 row <;> rfl)
  (fun n a => by
   rw [CC]
   simp only [A8]
   rw [AB (by omega)]) N acc (by omega) (by omega)
theorem RW (N : Nat) (p : Ab) (m : Aa) (t : AC) (i u : Nat) (row : List Bool) (b1 b2 acc : List Ad) (j : List Ad × Bool → Option (List Ad))
  (hN : N ≤ 1000000) (h8 : 8 ≤ N) (hp : B0 p) (hm : MixServ p m) (ht : NT p t) (hu : t.fq[u]? = some row) (hacc : acc.length + 6 ≤ DC) :
  Bu N p m (b1, (i : Int)) t (b2, (u : Int)) j N (acc, false, 0) = j (acc ++ EO (gC i u m t) 0 row, OF (hC m t) 0 row) := by
 have hrow := (NJ hp ht).2 row (lM hu)
 have hR := Im hp hm (s := t.fk.toNat) (by have := ht.to0; omega)
 have hlen := ht.okR row (lM hu)
 have hto := ht.to0
 have := IV (A := List Ad × Bool) (Bu N p m (b1, (i : Int)) t (b2, (u : Int)) j) (fun a k => (a.1, a.2, k)) row (fun a => j a) (fun v ok s => (s.1 ++ gC i u m t v ok, s.2 || hC m t v ok))
  (fun v a => v ≤ row.length ∧ a.1.length ≤ acc.length + v)
  (fun n v ok a hx ha => by
   have hv := (lI.1 hx).1
   obtain ⟨c, f⟩ := a
   simp only at ha
   refine ⟨?_, by omega, ?_⟩
   ·rw [Bu]
    simp only [A8]
    rw [E7 (d := 0) hto.1 hto.2, Ji N m t.fk hto.1 (by rw [hm.base]; exact hto.2) (by rw [hm.next]; exact hto.2) (hm.b0 _ (by omega)).1, AW, hu]
    simp only [oS]
    unfold CH
    rw [AD (by omega), AW, hx, Ap (by omega), R3 hR.2.1 hR.2.2 (by omega), hR.1]
    simp only [oS]
    rw [AG (by omega), La _ _ _ (fun l => Bu N p m (b1, (i : Int)) t (b2, (u : Int)) j n (l, true, ((v + 1 : Nat) : Int))) (by omega)]
    unfold gC hC
    rw [La _ _ _ (fun l => Bu N p m (b1, (i : Int)) t (b2, (u : Int)) j n (l, ok, ((v + 1 : Nat) : Int))) (by omega)]
    cases H7 m t.fk.toNat v
    ·simp
    ·cases ok <;> cases f <;> cases t.fp <;> simp
   ·simp only [gC, zA2]
    split <;> simp <;> omega)
  (fun n a _ => by
   rw [Bu]
   simp only [A8]
   rw [E7 (d := 0) hto.1 hto.2]
   simp only [oS]
   rw [AB (by omega)]) N 0 (acc, false) (by omega) (by omega) ⟨by omega, by simp⟩
 have h2 := this.1
 rw [vS, LG, zE4] at h2
 exact h2
theorem LW (N : Nat) (p : Ab) (m : Aa) (t : AC) (i : Nat) (W : Int) (b1 acc : List Ad) (j : List Ad → Option (List Ad))
  (hN : N ≤ 1000000) (h8 : 8 ≤ N) (hp : B0 p) (hm : MixServ p m) (ht : NT p t) (hacc : acc.length + 42 ≤ 10000) (hW0 : 0 ≤ W) (hW1 : W ≤ 255) (hWb : ∀ v, Dh W v = T5 m i t v) :
  BS N p m (b1, (i : Int)) t W j N (acc, 0) = j (acc ++ J7 m i t) := by
 have hl := NJ hp ht
 have hfr := ht.from0
 have hok := ht.okL
 exact If (BS N p m (b1, (i : Int)) t W j) (fun a k => (a, k)) t.fq j (fun u row => if T5 m i t u then Kg i m t u row else []) 7 10000
  (fun u row hx => SC i m t u row (hl.2 row (lM hx)))
  (fun n u row a hx ha => by
   have hu := (lI.1 hx).1
   have hrow := hl.2 row (lM hx)
   rw [BS]
   simp only [A8]
   rw [E7 (d := 0) hfr.1 hfr.2]
   simp only [oS]
   unfold CH
   rw [AD (by omega), Ap (by omega), R3 hW0 hW1 (by omega), hWb]
   simp only [oS]
   rw [RW N p m t i u row b1 a a _ hN h8 hp hm ht hx (by unfold DC; omega), AG (by omega)]
   cases hw : T5 m i t u
   ·simp
   ·simp only [vM, An, if_true, Kg]
    have h1 := GG (g := gC i u m t) (c := 1) (i := 0) (xs := row) (fun j x _ => SB _ _ _ _ _ _)
    have := La (R := List Ad) (t.fp && !OF (hC m t) 0 row) (a ++ EO (gC i u m t) 0 row) ⟨(i : Int), (u : Int), -1⟩ (fun l => BS N p m (b1, (i : Int)) t W j n (l, ((u + 1 : Nat) : Int))) (by rw [zA2]; unfold DC; rw [hw, if_pos rfl] at ha; omega)
    rw [← zB1, ← this]
    cases t.fp <;> cases OF (hC m t) 0 row <;> rfl)
  (fun n a => by
   rw [BS]
   simp only [A8]
   rw [E7 (d := 0) hfr.1 hfr.2]
   simp only [oS]
   rw [AB (by omega)]) N acc (by omega) (by omega)
theorem M9 (N : Nat) (p : Ab) (m : Aa) (hN : N ≤ 1000000) (h20 : 20 ≤ N) (hp : B0 p) (hm : CG p m) : F3 N p m = some (Hr p m) := by
 unfold F3
 have hnt := hp.nt
 rw [If (DK N p m _) (fun a k => (a, k)) p.fe some (J7 m) 42 9000
  (fun i t hx => Nm hp (KJ (hp.tab t (lM hx))) i m)
  (fun n i t a hx ha => by
   have hi := (lI.1 hx).1
   have ht := KJ (hp.tab t (lM hx))
   have hto := ht.to0
   have hfr := ht.from0
   have hR := Im hp hm.toMixServ (s := t.fk.toNat) (by omega)
   have hF := Im hp hm.toMixServ (s := t.fg.toNat) (by omega)
   have hH := hm.range i hi
   rw [DK]
   simp only [A8]
   rw [AD (by omega), AW, hx]
   simp only [oS, JI]
   rw [LF N m t.fg hfr.1 (by rw [hm.base]; exact hfr.2) (by rw [hm.next]; exact hfr.2) (hm.b0 _ (by omega)).1, LF N m t.fk hto.1 (by rw [hm.base]; exact hto.2) (by rw [hm.next]; exact hto.2) (hm.b0 _ (by omega)).1, Dc (d := 0) (by rw [hm.held]; exact hi), AG (by omega)]
   simp only [oS]
   cases hs : BM t
   ·rw [An, Mg N p m t i _ _ a a _ hN (by omega) hp ht (by omega) hR.2.1 hR.2.2 hR.1 hF.2.1 hF.2.2 (fun v => by unfold T5; rw [hs, hF.1]; rfl)]
   ·rw [AJ, Mg N p m t i _ _ a a _ hN (by omega) hp ht (by omega) hR.2.1 hR.2.2 hR.1 hH.1 hH.2 (fun v => by unfold T5; rw [hs]; rfl)])
  (fun n a => by
   rw [DK]
   simp only [A8]
   rw [AB (by omega)]) N [] (by omega) (by simp; omega)]
 rfl
theorem MR (N : Nat) (p : Ab) (m : Aa) (hN : N ≤ 1000000) (h20 : 20 ≤ N) (hp : B0 p) (hm : CG p m) : EW N p m = some (Hr p m) := by
 unfold EW
 have hnt := hp.nt
 rw [If (CR N p m _) (fun a k => (a, k)) p.fe some (J7 m) 42 9000
  (fun i t hx => Nm hp (KJ (hp.tab t (lM hx))) i m)
  (fun n i t a hx ha => by
   have hi := (lI.1 hx).1
   have ht := KJ (hp.tab t (lM hx))
   have hto := ht.to0
   have hfr := ht.from0
   have hF := Im hp hm.toMixServ (s := t.fg.toNat) (by omega)
   have hH := hm.range i hi
   rw [CR]
   simp only [A8]
   rw [AD (by omega), AW, hx]
   simp only [oS, FL]
   rw [Ji N m t.fg hfr.1 (by rw [hm.base]; exact hfr.2) (by rw [hm.next]; exact hfr.2) (hm.b0 _ (by omega)).1, Dc (d := 0) (by rw [hm.held]; exact hi), AG (by omega)]
   simp only [oS]
   cases hs : BM t
   ·rw [An, LW N p m t i _ a a _ hN (by omega) hp hm.toMixServ ht (by omega) hF.2.1 hF.2.2 (fun v => by unfold T5; rw [hs, hF.1]; rfl)]
   ·rw [AJ, LW N p m t i _ a a _ hN (by omega) hp hm.toMixServ ht (by omega) hH.1 hH.2 (fun v => by unfold T5; rw [hs]; rfl)])
  (fun n a => by
   rw [CR]
   simp only [A8]
   rw [AB (by omega)]) N [] (by omega) (by simp; omega)]
 rfl
theorem E0 {A S R : Type} (L : Nat → S → Option R) (mk : A → Int → S) (len : Nat) (j : A → Option R) (I : Nat → A → Prop)
  (hs : ∀ (n i : Nat) (a : A), i < len → I i a → ∃ a', L (n + 1) (mk a (i : Int)) = L n (mk a' ((i + 1 : Nat) : Int)) ∧ I (i + 1) a')
  (he : ∀ (n : Nat) (a : A), I len a → L (n + 1) (mk a (len : Int)) = j a) :
  ∀ (n i : Nat) (a : A), i ≤ len → len - i < n → I i a → ∃ a', L n (mk a (i : Int)) = j a' ∧ I len a'
 | 0, i, _, _, h, _ => by omega
 | n + 1, i, a, hi, h, ha => by
  by_cases h1 : i < len
  ·obtain ⟨a', e1, e2⟩ := hs n i a h1 ha
   rw [e1]
   exact E0 L mk len j I hs he n (i + 1) _ (by omega) (by omega) e2
  ·have : i = len := by omega
   subst this
   exact ⟨a, he n a ha, ha⟩
theorem JE {α : Type} {xs ys : List α} {i : Nat} {d : α} (h : i < xs.length) : (xs ++ ys).getD i d = xs.getD i d := by
 rw [lD, lD, zA0 h]
theorem JA {α : Type} {xs : List α} {y : α} {i : Nat} {d : α} (h : i = xs.length) : (xs ++ [y]).getD i d = y := by
 subst h; rw [lD, zA3 (vN _)]; simp
theorem GA {α : Type} {P : Nat → α → Prop} {xs : List α} {y : α} {d : α} {n : Nat} (hn : xs.length = n) (h : ∀ k, k < n → P k (xs.getD k d)) (hy : P n y) : ∀ k, k < n + 1 → P k ((xs ++ [y]).getD k d) := by
 intro k hk
 by_cases h1 : k < n
 ·rw [JE (by omega)]; exact h k h1
 ·have : k = n := by omega
  subst this
  rw [JA hn.symm]; exact hy
theorem Ts (x : BitVec 8) : wI .u8 (x.toNat : Int) = (x.toNat : Int) := by
 have := x.isLt
 simp [wI, IntKind.signed, IntKind.bits]
 omega
theorem Ux {a : Int} (h : 0 ≤ a ∧ a ≤ 255) : wI .u8 a = a := by
 simp [wI, IntKind.signed, IntKind.bits]
 omega
theorem Kf {a : Nat} (h : a < 256) (i : Nat) : (BitVec.ofInt 8 (a : Int)).toNat.testBit i = a.testBit i := by rw [Tf h]
theorem WW {a b : Int} (ha : 0 ≤ a ∧ a ≤ 255) (hb : 0 ≤ b ∧ b ≤ 255) : (∀ v, Dh (MG .u8 a b) v = (Dh a v || Dh b v)) ∧ 0 ≤ MG .u8 a b ∧ MG .u8 a b ≤ 255 := by
 obtain ⟨a, rfl⟩ := uZ ha.1
 obtain ⟨b, rfl⟩ := uZ hb.1
 have e : MG .u8 (a : Int) (b : Int) = ((BitVec.ofInt 8 (a : Int) ||| BitVec.ofInt 8 (b : Int)).toNat : Int) := Ts _
 have hlt := (BitVec.ofInt 8 (a : Int) ||| BitVec.ofInt 8 (b : Int)).isLt
 rw [e]
 refine ⟨fun v => ?_, by omega, by omega⟩
 unfold Dh
 simp only [vJ, BitVec.toNat_or, Nat.testBit_or]
 rw [Kf (by omega), Kf (by omega)]
theorem UW {a b : Int} (ha : 0 ≤ a ∧ a ≤ 255) (hb : 0 ≤ b ∧ b ≤ 255) : (∀ v, Dh (F5 .u8 a b) v = (Dh a v && Dh b v)) ∧ 0 ≤ F5 .u8 a b ∧ F5 .u8 a b ≤ 255 := by
 obtain ⟨a, rfl⟩ := uZ ha.1
 obtain ⟨b, rfl⟩ := uZ hb.1
 have e : F5 .u8 (a : Int) (b : Int) = ((BitVec.ofInt 8 (a : Int) &&& BitVec.ofInt 8 (b : Int)).toNat : Int) := Ts _
 have hlt := (BitVec.ofInt 8 (a : Int) &&& BitVec.ofInt 8 (b : Int)).isLt
 rw [e]
 refine ⟨fun v => ?_, by omega, by omega⟩
 unfold Dh
 simp only [vJ, BitVec.toNat_and, Nat.testBit_and]
 rw [Kf (by omega), Kf (by omega)]
theorem Lq {l : List Int} (hw : Ls JR l) (i : Nat) : 0 ≤ l.getD i 0 ∧ l.getD i 0 ≤ 255 := by
 by_cases h : i < l.length
 ·have : l.getD i 0 ∈ l := by rw [lD, vP h]; exact zB2 _
  exact Iu (hw _ this)
 ·rw [lD, zC0 (by omega)]
  exact ⟨by decide, by decide⟩
theorem MI (N : Nat) {l : List Int} (hw : Ls JR l) (i : Nat) : DL N l (i : Int) = some (l.getD i 0) := by
 unfold DL
 have h2 := Lq hw i
 by_cases h : i < l.length
 ·rw [AD (by omega), Dc (d := 0) h]
  simp only [oS]
  rw [CT (by omega) (by omega)]
 ·rw [AB (by omega), lD, zC0 (by omega)]; rfl
theorem PC (N : Nat) {l : List Int} (hw : Ls JR l) (i : Nat) : Eu N l (i : Int) = some (l.getD i 0) := by
 unfold Eu
 have h2 := Lq hw i
 by_cases h : i < l.length
 ·rw [AD (by omega), Dc (d := 0) h]
  simp only [oS]
  rw [CT (by omega) (by omega)]
 ·rw [AB (by omega), lD, zC0 (by omega)]; rfl
def Xr (n b : Int) : Int := vF b n
def XE (n b k : Int) : Int := if 0 < vF k n then vF (vF b n + vF k n) n else -1
theorem Fj {a n : Int} (ha : 0 ≤ a) (hn : 0 < n) : 0 ≤ vF a n ∧ vF a n < n := ⟨Int.tmod_nonneg n ha, Int.tmod_lt_of_pos a hn⟩
theorem Vq {n b k : Int} (hn : 0 < n) (hb : 0 ≤ b) (hk : 0 ≤ k) : (0 ≤ Xr n b ∧ Xr n b < n) ∧ (-1 ≤ XE n b k ∧ XE n b k < n) ∧ Xr n b ≠ XE n b k := by
 unfold Xr XE
 have h1 := Fj hb hn
 have h2 := Fj hk hn
 split
 ·rename_i h
  have h3 := Fj (a := vF b n + vF k n) (by omega) hn
  refine ⟨h1, by omega, fun he => ?_⟩
  generalize vF b n = x at *
  generalize vF k n = y at *
  rw [Int.tmod_eq_emod_of_nonneg (by omega)] at he
  by_cases hxy : x + y < n
  ·rw [Int.emod_eq_of_lt (by omega) hxy] at he; omega
  ·have : (x + y) % n = x + y - n := by
    rw [← Int.emod_eq_of_lt (show 0 ≤ x + y - n by omega) (show x + y - n < n by omega)]
    simp
   omega
 ·exact ⟨h1, by omega, by omega⟩
structure ba (p : Ab) (x : By) (m : Aa) : Prop where
 bl : m.fd.length = p.fb.length
 nl : m.fa.length = p.fb.length
 hl : m.fc.length = p.fe.length
 b : ∀ k, k < p.fb.length → m.fd.getD k 0 = Xr (p.fb.getD k 0) (x.fd.getD k 0)
 n : ∀ k, k < p.fb.length → m.fa.getD k 0 = XE (p.fb.getD k 0) (x.fd.getD k 0) (x.fa.getD k 0)
 r : ∀ k, k < p.fe.length → 0 ≤ m.fc.getD k 0 ∧ m.fc.getD k 0 ≤ 255
 s : ∀ k t, p.fe[k]? = some t → BM t = true → ∀ v, Dh (m.fc.getD k 0) v = (H7 m t.fg.toNat v || (Dh (x.fc.getD k 0) v && decide ((v : Int) < p.fb.getD t.fg.toNat 0)))
 z : ∀ k t, p.fe[k]? = some t → BM t = false → m.fc.getD k 0 = 0
def VC (p : Ab) (x : By) (bs ns : List Int) (k : Nat) (y : Int) : Prop :=
 ∀ t, p.fe[k]? = some t → BM t = true → ∀ v, Dh y v = (H7 ⟨bs, ns, []⟩ t.fg.toNat v || (Dh (x.fc.getD k 0) v && decide ((v : Int) < p.fb.getD t.fg.toNat 0)))
def VQ (p : Ab) (k : Nat) (y : Int) : Prop := ∀ t, p.fe[k]? = some t → BM t = false → y = 0
theorem aH (N : Nat) (p : Ab) (x : By) (hN : N ≤ 1000000) (h20 : 20 ≤ N) (hp : B0 p) (hw : HO x) : ∃ m, E1 N p x = some m ∧ ba p x m ∧ CG p m := by
 obtain ⟨w1, w2, w3, _⟩ := hw
 have hnv := hp.nv
 have hnt := hp.nt
 unfold E1
 obtain ⟨⟨bs, ns⟩, e, h1, h2, h3, h4⟩ := E0 (A := List Int × List Int) (C2 N p x fun v2 => Bq N p x v2 (fun v15 => some (Aa.mk v2.1 v2.2 v15)) N ([], 0)) (fun a k => (a.1, a.2, k)) p.fb.length
  (fun v2 => Bq N p x v2 (fun v15 => some (Aa.mk v2.1 v2.2 v15)) N ([], 0))
  (fun i a => a.1.length = i ∧ a.2.length = i ∧ (∀ k, k < i → a.1.getD k 0 = Xr (p.fb.getD k 0) (x.fd.getD k 0)) ∧ (∀ k, k < i → a.2.getD k 0 = XE (p.fb.getD k 0) (x.fd.getD k 0) (x.fa.getD k 0)))
  (fun n i a hi ha => by
   obtain ⟨bs, ns⟩ := a
   obtain ⟨h1, h2, h3, h4⟩ := ha
   simp only at h1 h2 h3 h4
   have hv := Ic hp hi
   have hb := Lq w1 i
   have hk := Lq w2 i
   have m1 := Fj (n := p.fb.getD i 0) hb.1 (by omega)
   have m2 := Fj (n := p.fb.getD i 0) hk.1 (by omega)
   refine ⟨(bs ++ [Xr (p.fb.getD i 0) (x.fd.getD i 0)], ns ++ [XE (p.fb.getD i 0) (x.fd.getD i 0) (x.fa.getD i 0)]), ?_, ?_⟩
   ·rw [C2]
    simp only [A8]
    rw [AD (by omega), Dc (d := 0) hi, MI N w1, MI N w2]
    simp only [oS]
    rw [Ap (by omega), AG (by omega), CT (n := _ + _) (by omega) (by omega)]
    simp only [Ap (show p.fb.getD i 0 ≠ 0 by omega)]
    have l1 : bs.length + ([vF (x.fd.getD i 0) (p.fb.getD i 0)] : List Int).length ≤ DC := by rw [h1]; unfold DC; simp; omega
    have l2 : ∀ y : Int, ns.length + ([y] : List Int).length ≤ DC := by intro y; rw [h2]; unfold DC; simp; omega
    simp only [Ap l1, Ap (l2 _)]
    unfold Xr XE
    by_cases h : 0 < vF (x.fa.getD i 0) (p.fb.getD i 0)
    ·rw [AD h, if_pos h]
    ·rw [AB h, if_neg h]
   ·refine ⟨by simp [h1], by simp [h2], GA (P := fun k y => y = _) h1 h3 rfl, GA (P := fun k y => y = _) h2 h4 rfl⟩)
  (fun n a _ => by
   rw [C2]
   simp only [A8]
   rw [AB (by omega)]) N 0 ([], []) (vG _) (by omega) ⟨rfl, rfl, fun k hk => by omega, fun k hk => by omega⟩
 simp only at h1 h2 h3 h4
 have e' : C2 N p x (fun v2 => Bq N p x v2 (fun v15 => some (Aa.mk v2.1 v2.2 v15)) N ([], 0)) N ([], [], 0) = _ := e
 rw [e']
 have hrng : ∀ k, k < p.fb.length → (0 ≤ bs.getD k 0 ∧ bs.getD k 0 < p.fb.getD k 0) ∧ (-1 ≤ ns.getD k 0 ∧ ns.getD k 0 < p.fb.getD k 0) ∧ bs.getD k 0 ≠ ns.getD k 0 := by
  intro k hk
  rw [h3 k hk, h4 k hk]
  exact Vq (by have := Ic hp hk; omega) (Lq w1 k).1 (Lq w2 k).1
 obtain ⟨hs, e2, g1, g2, g3, g4⟩ := E0 (A := List Int) (Bq N p x (bs, ns) (fun v15 => some (Aa.mk bs ns v15))) (fun a k => (a, k)) p.fe.length (fun v15 => some (Aa.mk bs ns v15))
  (fun i a => a.length = i ∧ (∀ k, k < i → 0 ≤ a.getD k 0 ∧ a.getD k 0 ≤ 255) ∧
   (∀ k, k < i → VC p x bs ns k (a.getD k 0)) ∧
   (∀ k, k < i → VQ p k (a.getD k 0)))
  (fun n i a hi ha => by
   obtain ⟨k1, k2, k3, k4⟩ := ha
   have hx : p.fe[i]? = some p.fe[i] := by simp [hi]
   generalize p.fe[i] = t at hx
   have ht := KJ (hp.tab t (lM hx))
   have hfr := ht.from0
   have hv := Ic hp (i := t.fg.toNat) (by omega)
   have hr := hrng t.fg.toNat (by omega)
   have hrun := RV (m := ⟨bs, ns, a⟩) (s := t.fg.toNat) hr.1.1 (show bs.getD _ 0 < 8 by omega) (show ns.getD _ 0 < 8 by omega)
   have hall := Tm (n := p.fb.getD t.fg.toNat 0) (by omega) (by omega)
   have hh := Lq w3 i
   have e1 := UW hh hall.2
   have e2 := WW hrun.2 e1.2
   cases hst : BM t
   ·refine ⟨a ++ [0], ?_, by simp [k1], GA (P := fun _ y => 0 ≤ y ∧ y ≤ 255) k1 k2 (by omega), GA (P := VC p x bs ns) k1 k3 (fun t' ht' hs' => by rw [hx] at ht'; cases ht'; rw [hst] at hs'; cases hs'), GA (P := VQ p) k1 k4 (fun _ _ _ => rfl)⟩
    rw [Bq]
    simp only [A8]
    rw [AD (by omega), AW, hx]
    simp only [oS, FL, hst, An]
    rw [Ap (by rw [k1]; unfold DC; simp; omega), AG (by omega)]
   ·refine ⟨a ++ [MG .u8 (GW ⟨bs, ns, a⟩ t.fg.toNat) (F5 .u8 (x.fc.getD i 0) (wI .u8 (D7 .u8 1 (p.fb.getD t.fg.toNat 0) - 1)))], ?_, by simp [k1], GA (P := fun _ y => 0 ≤ y ∧ y ≤ 255) k1 k2 e2.2, GA (P := VC p x bs ns) k1 k3 (fun t' ht' _ v => by
      rw [hx] at ht'; cases ht'
      rw [e2.1, e1.1, hall.1, hrun.1]; rfl), GA (P := VQ p) k1 k4 (fun t' ht' hs' => by rw [hx] at ht'; cases ht'; rw [hst] at hs'; cases hs')⟩
    rw [Bq]
    simp only [A8]
    rw [AD (by omega), AW, hx]
    simp only [oS, FL, hst, AJ]
    rw [E7 (d := 0) hfr.1 hfr.2]
    simp only [oS]
    rw [Ap (by omega), Ji N ⟨bs, ns, a⟩ t.fg hfr.1 (show _ < (bs.length : Int) by omega) (show _ < (ns.length : Int) by omega) hr.1.1, MI N w3]
    simp only [oS]
    rw [Ap (by rw [k1]; unfold DC; simp; omega), AG (by omega), Ux hh])
  (fun n a _ => by
   rw [Bq]
   simp only [A8]
   rw [AB (by omega)]) N 0 [] (vG _) (by omega) ⟨rfl, fun k hk => by omega, fun k hk => by omega, fun k hk => by omega⟩
 have e2' : Bq N p x (bs, ns) (fun v15 => some (Aa.mk bs ns v15)) N ([], 0) = _ := e2
 refine ⟨⟨bs, ns, hs⟩, e2', ⟨h1, h2, g1, h3, h4, g2, fun k t ht hst => g3 k (lI.1 ht).1 t ht hst, fun k t ht hst => g4 k (lI.1 ht).1 t ht hst⟩, ?_⟩
 refine ⟨⟨h1, h2, g1, fun i hi => (hrng i hi).1, fun i hi => (hrng i hi).2.1, fun i hi => (hrng i hi).2.2⟩, g2, ?_, ?_, fun k t ht hst => g4 k (lI.1 ht).1 t ht hst⟩
 ·intro k t ht hst v hv
  rw [g3 k (lI.1 ht).1 t ht hst v]
  rw [show H7 ⟨bs, ns, []⟩ t.fg.toNat v = true from hv]; rfl
 ·intro k t ht hst v hv
  have hin := (KJ (hp.tab t (lM ht))).from0
  have hr := hrng t.fg.toNat (by omega)
  have hv : Dh (hs.getD k 0) v = true := hv
  rw [g3 k (lI.1 ht).1 t ht hst v] at hv
  simp only [zC1, uV, decide_eq_true_eq, H7] at hv
  rcases hv with (h | h) | h
  ·omega
  ·omega
  ·exact h.2
theorem Xq {l : List (List Bool)} {n m : Int} (h1 : (l.length : Int) = n) (h2 : ∀ row, row ∈ l → (row.length : Int) = m) : sq l n m = true := by
 unfold sq
 simp only [uV, decide_eq_true_eq, uX]
 exact ⟨h1, h2⟩
theorem Ym {p : Ab} {t : AC} (h : NT p t) : EC p t = 0 := by
 have hk := h.kind
 have hf := h.from0
 have ht := h.to0
 unfold EC
 rw [if_neg, if_neg (by omega)]
 ·simp only [Xq h.okL h.okR]
  rw [if_neg (by simp)]
  by_cases h4 : t.ff = 4
  ·rw [if_pos h4, Xq (h.reL h4) h.reR, if_neg (by simp), h.reD h4]; rfl
  ·rw [if_neg h4, h.reN h4]; rfl
 ·rintro (h1 | h1 | ⟨h1, h2⟩)
  ·omega
  ·omega
  ·have := h.aware h1
   unfold BM at this
   rw [zG2, beq_eq_false_iff_ne, beq_eq_false_iff_ne] at this
   omega
theorem U6 (N : Nat) (m bad : Int) (diag : Bool) (i : Nat) (acc : List (List Bool)) {_R : Type} (j : List Bool → Option (List (List Bool))) (hN : N ≤ 1000000) (h20 : 20 ≤ N) (hm : 0 ≤ m ∧ m ≤ 6) (hi : i < 6) :
  ∃ row, CA N m bad diag (acc, (i : Int)) j N ([], 0) = j row ∧ (row.length : Int) = m ∧ (diag = true → (i : Int) < m → row.getD i false = true) := by
 obtain ⟨M, rfl⟩ := uZ hm.1
 obtain ⟨row, e, h1, h2⟩ := E0 (A := List Bool) (CA N (M : Int) bad diag (acc, (i : Int)) j) (fun a k => (a, k)) M j
  (fun k a => a.length = k ∧ ∀ q, q < k → diag = true → q = i → a.getD q false = true)
  (fun n k a hk ha => by
   refine ⟨a ++ [(diag && decide (i = k)) || (vF (Fo .u16 bad ((3 * i + k : Nat) : Int)) 2 == 0)], ?_, by simp [ha.1], GA (P := fun q y => diag = true → q = i → y = true) ha.1 ha.2 (fun h1 h2 => by simp [h1, h2])⟩
   rw [CA]
   simp only [A8]
   rw [AD (by omega), AG (by omega), CT (n := 3 * (i : Int)) (by omega) (by omega), CT (n := 3 * (i : Int) + (k : Int)) (by omega) (by omega)]
   have l1 : ∀ y : Bool, a.length + ([y] : List Bool).length ≤ DC := by intro y; rw [ha.1]; unfold DC; simp; omega
   simp only [Ap (l1 _), Ap (show (0 : Int) ≤ 3 * (i : Int) + (k : Int) by omega)]
   have e1 : ((3 * i + k : Nat) : Int) = 3 * (i : Int) + (k : Int) := by omega
   rw [e1]
   have e2 : (((i : Nat) : Int) == ((k : Nat) : Int)) = decide (i = k) := by
    by_cases h : i = k
    ·simp [h]
    ·rw [decide_eq_false h]; exact beq_eq_false_iff_ne.2 (by omega)
   rw [e2]
   cases diag <;> cases decide (i = k) <;> rfl)
  (fun n a _ => by
   rw [CA]
   simp only [A8]
   rw [AB (by omega)]) N 0 [] (vG _) (by omega) ⟨rfl, fun q hq => by omega⟩
 exact ⟨row, e, by omega, fun hd hlt => h2 i (by omega) hd rfl⟩
theorem S4 (N : Nat) (n m bad : Int) (diag : Bool) (hN : N ≤ 1000000) (h20 : 20 ≤ N) (hn : 0 ≤ n ∧ n ≤ 6) (hm : 0 ≤ m ∧ m ≤ 6) :
  ∃ l, Ew N n m bad diag = some l ∧ (l.length : Int) = n ∧ (∀ row, row ∈ l → (row.length : Int) = m) ∧ (diag = true → n = m → Jk l = none) := by
 obtain ⟨M, rfl⟩ := uZ hn.1
 unfold Ew
 obtain ⟨l, e, h1, h2⟩ := E0 (A := List (List Bool)) (Cy N (M : Int) m bad diag (fun v => some v)) (fun a k => (a, k)) M some
  (fun k a => a.length = k ∧ ∀ q, q < k → (((a.getD q []).length : Nat) : Int) = m ∧ (diag = true → (q : Int) < m → (a.getD q []).getD q false = true))
  (fun n k a hk ha => by
   obtain ⟨row, e, h1, h2⟩ := U6 (_R := Unit) N m bad diag k a (fun (v5 : List Bool) =>
    (DQ (a.length + (([v5] : List (List Bool))).length ≤ DC)).bind fun _ =>
    Cy N (M : Int) m bad diag (fun v => some v) n (a ++ (([v5] : List (List Bool))), (wI .i64 ((k : Int) + 1)))) hN h20 hm (by omega)
   refine ⟨a ++ [row], ?_, by simp [ha.1], GA (P := fun q y => ((y.length : Nat) : Int) = m ∧ (diag = true → (q : Int) < m → y.getD q false = true)) ha.1 ha.2 ⟨h1, h2⟩⟩
   rw [Cy]
   simp only
   rw [AD (by omega), e, Ap (by rw [ha.1]; unfold DC; simp; omega), AG (by omega)])
  (fun n a _ => by
   rw [Cy]
   simp only
   rw [AB (by omega)]) N 0 [] (vG _) (by omega) ⟨rfl, fun q hq => by omega⟩
 have key : ∀ q row, l[q]? = some row → l.getD q [] = row := fun q row hq => by rw [lD, hq]; rfl
 refine ⟨l, e, by omega, fun row hr => ?_, fun hd hnm => ?_⟩
 ·obtain ⟨q, hq⟩ := vO.1 hr
  have := (h2 q (by have := (lI.1 hq).1; omega)).1
  rwa [key q row hq] at this
 ·unfold Jk
  refine Gd fun q row hq => ?_
  have hlt := (lI.1 hq).1
  have := (h2 q (by omega)).2 hd (by omega)
  rw [key q row hq] at this
  rw [uT, this]; rfl
structure Xz (p : Ab) : Prop where
 valid : De p = 0
 nv : p.fb.length ≤ 3
 nt : p.fe.length ≤ 4
 v3 : ∀ v, v ∈ p.fb → v ≤ 3
theorem TV {p q : Ab} (h : p.fb = q.fb) (t : AC) : EC p t = EC q t := by
 unfold EC; rw [h]
theorem bz (N : Nat) (d : BN) (hN : N ≤ 1000000) (h20 : 20 ≤ N) (hw : FF d) : ∃ p ok, Fz N d = some (p, ok) ∧ (ok = true → Xz p) := by
 obtain ⟨w1, w2, w3, w4, _⟩ := hw
 unfold Fz
 simp only [A8]
 by_cases k1 : 3 < d.fb.length
 ·rw [AD (by omega)]; exact ⟨_, false, rfl, fun h => by cases h⟩
 by_cases k2 : 4 < d.fy.length
 ·rw [AB (by omega), decide_eq_true (by omega : (4 : Int) < (d.fy.length : Int))]; exact ⟨_, false, rfl, fun h => by cases h⟩
 rw [AB (by omega), decide_eq_false (by omega : ¬ (4 : Int) < (d.fy.length : Int)), An]
 obtain ⟨⟨vs, ns, ts⟩, e, h1, h2, h3, h4⟩ := E0 (A := List Int × List Int × List Int) (C1 N d fun v5 => BH N d v5 (fun v16 => some (Ab.mk v5.1 v5.2.1 v5.2.2 v16, true)) N ([], 0)) (fun a k => (a.1, a.2.1, a.2.2, k)) d.fb.length
  (fun v5 => BH N d v5 (fun v16 => some (Ab.mk v5.1 v5.2.1 v5.2.2 v16, true)) N ([], 0))
  (fun i a => a.1.length = i ∧ a.2.1.length = i ∧ a.2.2.length = i ∧ (∀ k, k < i → (1 ≤ a.1.getD k 0 ∧ a.1.getD k 0 ≤ 3) ∧ (0 ≤ a.2.1.getD k 0 ∧ a.2.1.getD k 0 < a.1.getD k 0) ∧ (0 ≤ a.2.2.getD k 0 ∧ a.2.2.getD k 0 < a.1.getD k 0)))
  (fun n i a hi ha => by
   obtain ⟨vs, ns, ts⟩ := a
   obtain ⟨h1, h2, h3, h4⟩ := ha
   simp only at h1 h2 h3 h4
   have hv := Lq w1 i
   have hb := Lq w2 i
   have hk := Lq w3 i
   have hm := Fj (n := 3) hv.1 (by omega)
   obtain ⟨v, hvd⟩ : ∃ v, v = 1 + vF (d.fb.getD i 0) 3 := ⟨_, rfl⟩
   have m1 := Fj (n := v) hb.1 (by omega)
   have m2 := Fj (n := v) hk.1 (by omega)
   refine ⟨(vs ++ [v], ns ++ [vF (d.fi.getD i 0) v], ts ++ [vF (d.fj.getD i 0) v]), ?_, by simp [h1], by simp [h2], by simp [h3], ?_⟩
   ·rw [C1]
    simp only
    rw [AD (by omega), Dc (d := 0) hi, PC N w2, PC N w3]
    simp only [oS]
    rw [CT (n := vF _ _) (by omega) (by omega), CT (n := 1 + _) (by omega) (by omega), ← hvd, AG (by omega)]
    have l1 : ∀ y : Int, vs.length + ([y] : List Int).length ≤ DC := by intro y; rw [h1]; unfold DC; simp; omega
    have l2 : ∀ y : Int, ns.length + ([y] : List Int).length ≤ DC := by intro y; rw [h2]; unfold DC; simp; omega
    have l3 : ∀ y : Int, ts.length + ([y] : List Int).length ≤ DC := by intro y; rw [h3]; unfold DC; simp; omega
    simp only [Ap (l1 _), Ap (l2 _), Ap (l3 _), Ap (show v ≠ 0 by omega)]
   ·intro k hk
    simp only
    by_cases hki : k < i
    ·rw [JE (by omega), JE (by omega), JE (by omega)]; exact h4 k hki
    ·have : k = i := by omega
     subst this
     rw [JA h1.symm, JA h2.symm, JA h3.symm]
     omega)
  (fun n a _ => by
   rw [C1]
   simp only
   rw [AB (by omega)]) N 0 ([], [], []) (vG _) (by omega) ⟨rfl, rfl, rfl, fun k hk => by omega⟩
 simp only at h1 h2 h3 h4
 have e' : C1 N d (fun v5 => BH N d v5 (fun v16 => some (Ab.mk v5.1 v5.2.1 v5.2.2 v16, true)) N ([], 0)) N ([], [], [], 0) = _ := e
 rw [e']
 have hvs : ∀ v, v ∈ vs → 1 ≤ v ∧ v ≤ 3 := by
  intro v hv
  obtain ⟨q, hq⟩ := vO.1 hv
  have := (h4 q (by have := (lI.1 hq).1; omega)).1
  rwa [lD, hq] at this
 have fin : ∀ Oy : List AC, Oy.length ≤ 4 → (∀ t, t ∈ Oy → EC ⟨vs, ns, ts, []⟩ t = 0) → Xz ⟨vs, ns, ts, Oy⟩ := by
  intro Oy ht h
  have hp : B0 ⟨vs, ns, ts, Oy⟩ := ⟨show vs.length ≤ 6 by omega, show Oy.length ≤ 12 by omega, show ns.length = vs.length by omega, show ts.length = vs.length by omega, fun v hv => by have := hvs v hv; omega, fun t ht => by rw [← h t ht]; exact TV rfl t⟩
  exact ⟨Ql hp fun i hi => by have := h4 i (by have : i < vs.length := hi; omega); simp only; omega, show vs.length ≤ 3 by omega, ht, fun v hv => (hvs v hv).2⟩
 by_cases k3 : vs.length = 0
 ·refine ⟨_, true, ?_, fun _ => fin [] (by simp) (fun t ht => by cases ht)⟩
  obtain ⟨M, rfl⟩ : ∃ M, N = M + 1 := ⟨N - 1, by omega⟩
  rw [BH]
  simp only [A8]
  rw [k3]
  by_cases k4 : (0 : Int) < (d.fy.length : Int)
  ·rw [AD k4]; rfl
  ·rw [AB k4]; rfl
 obtain ⟨Oy, e2, g1, g2⟩ := E0 (A := List AC) (BH N d (vs, ns, ts) (fun v16 => some (Ab.mk vs ns ts v16, true))) (fun a k => (a, k)) d.fy.length (fun v16 => some (Ab.mk vs ns ts v16, true))
  (fun i a => a.length = i ∧ ∀ t, t ∈ a → EC ⟨vs, ns, ts, []⟩ t = 0)
  (fun n i a hi ha => by
   have hx : d.fy[i]? = some d.fy[i] := by simp [hi]
   generalize d.fy[i] = l at hx
   obtain ⟨u1, u2, u3, _, u5, u6, _⟩ := w4 l (lM hx)
   have u1 := Iu u1
   have u2 := Iu u2
   have u3 := Iu u3
   have mk := Fj (n := 4) u1.1 (by omega)
   have hL : (0 : Int) < (vs.length : Int) := by omega
   have mf := Fj (n := (vs.length : Int)) u2.1 hL
   have mt := Fj (n := (vs.length : Int)) u3.1 hL
   rw [BH]
   simp only [A8]
   rw [AD (by omega), decide_eq_true hL, AJ, AW, hx]
   simp only [oS]
   rw [Ap (by omega), Ap (by omega), CT (n := l.fg) (by omega) (by omega), CT (n := l.fk) (by omega) (by omega), CT (n := vF l.ff 4) (by omega) (by omega), CT (n := 1 + _) (by omega) (by omega), AG (by omega)]
   simp only [M4, oS]
   rw [E7 (d := 0) mf.1 mf.2, E7 (d := 0) mt.1 mt.2]
   simp only [oS]
   have hA : ∀ q : Int, 0 ≤ q → q < (vs.length : Int) → 1 ≤ vs.getD q.toNat 0 ∧ vs.getD q.toNat 0 ≤ 3 := fun q h0 h1 => (h4 q.toNat (by omega)).1
   have hf := hA _ mf.1 mf.2
   have ht := hA _ mt.1 mt.2
   obtain ⟨A, eA, a1, a2, _⟩ := S4 N (vs.getD (vF l.fg (vs.length : Int)).toNat 0) (vs.getD (vF l.fk (vs.length : Int)).toNat 0) l.fC false hN h20 (by omega) (by omega)
   obtain ⟨B, eB, b1, b2, b3⟩ := S4 N (vs.getD (vF l.fg (vs.length : Int)).toNat 0) (vs.getD (vF l.fg (vs.length : Int)).toNat 0) l.fD true hN h20 (by omega) (by omega)
   rw [eA, eB]
   simp only [oS]
   have l1 : ∀ y : AC, a.length + ([y] : List AC).length ≤ DC := by intro y; rw [ha.1]; unfold DC; simp; omega
   simp only [Ap (l1 _)]
   obtain ⟨kd, hkd⟩ : ∃ kd, kd = 1 + vF l.ff 4 := ⟨_, rfl⟩
   rw [← hkd]
   have fin2 : ∀ (aw : Bool) (re : List (List Bool)), (aw = true → (kd == 3 || kd == 4) = false) → ((kd = 4 → re = B) ∧ (kd ≠ 4 → re = [])) →
     EC ⟨vs, ns, ts, []⟩ (AC.mk kd (vF l.fg (vs.length : Int)) (vF l.fk (vs.length : Int)) aw A re) = 0 := by
    intro aw re haw hre
    refine Ym ⟨show 1 ≤ kd ∧ kd ≤ 4 by omega, haw, mf, mt, a1, a2, fun h => by rw [hre.1 h]; exact b1, fun row hr => ?_, fun h => by rw [hre.1 h]; exact b3 rfl rfl, fun h => hre.2 h⟩
    by_cases h4 : kd = 4
    ·simp only at hr; rw [hre.1 h4] at hr; exact b2 row hr
    ·simp only at hr; rw [hre.2 h4] at hr; cases hr
   have app : ∀ t, EC ⟨vs, ns, ts, []⟩ t = 0 → (a ++ [t]).length = i + 1 ∧ ∀ t', t' ∈ a ++ [t] → EC ⟨vs, ns, ts, []⟩ t' = 0 := by
    intro t ht
    refine ⟨by simp [ha.1], fun t' ht' => ?_⟩
    rcases zB3.1 ht' with h | h
    ·exact ha.2 t' h
    ·rw [zD1.1 h]; exact ht
   by_cases h4 : kd = 4
   ·have e4 : (kd == 4) = true := beq_iff_eq.2 h4
    have hre : (kd = 4 → B = B) ∧ (kd ≠ 4 → B = []) := ⟨fun _ => rfl, fun h => (h h4).elim⟩
    rw [e4]
    simp only [AJ, zI6, vM]
    cases l.fp
    ·exact ⟨_, rfl, app _ (fin2 false B (fun h => by cases h) hre)⟩
    ·exact ⟨_, rfl, app _ (fin2 false B (fun h => by cases h) hre)⟩
   ·have e4 : (kd == 4) = false := beq_eq_false_iff_ne.2 h4
    have hre : (kd = 4 → ([] : List (List Bool)) = B) ∧ (kd ≠ 4 → ([] : List (List Bool)) = []) := ⟨fun h => (h4 h).elim, fun _ => rfl⟩
    rw [e4]
    simp only [An, Bool.or_false]
    cases l.fp
    ·exact ⟨_, rfl, app _ (fin2 false [] (fun h => by cases h) hre)⟩
    ·cases e3 : kd == 3
     ·exact ⟨_, rfl, app _ (fin2 true [] (fun _ => by rw [e3, e4]; rfl) hre)⟩
     ·exact ⟨_, rfl, app _ (fin2 false [] (fun h => by cases h) hre)⟩)
  (fun n a _ => by
   rw [BH]
   simp only [A8]
   rw [AB (by omega), An]) N 0 [] (vG _) (by omega) ⟨rfl, fun t ht => by cases ht⟩
 exact ⟨_, true, e2, fun _ => fin Oy (by omega) g2⟩
def IR : List Int → Nat → Nat
 | [], _ => 0
 | _, 0 => 0
 | n :: ns, q + 1 => (if 0 ≤ n then 1 else 0) + IR ns q
theorem Jn (l : List Int) : IR l 0 = 0 := by cases l <;> rfl
theorem H0 : ∀ (l : List Int) (q : Nat), q < l.length → IR l (q + 1) = IR l q + if 0 ≤ l.getD q 0 then 1 else 0
 | [], q, h => by simp at h
 | n :: ns, 0, _ => by simp [IR, Jn]
 | n :: ns, q + 1, h => by
  rw [IR, H0 ns q (by simpa using h), IR, zG4, zC9]
theorem OU (l : List Int) {a b : Nat} (h : a ≤ b) (hb : b ≤ l.length) : IR l a ≤ IR l b := by
 induction b with
 | zero => rw [Nat.le_zero.1 h]; exact vN _
 | succ b ih =>
  by_cases h1 : a = b + 1
  ·rw [h1]; exact vN _
  ·have := ih (by omega) (by omega)
   rw [H0 l b (by omega)]; omega
theorem KR (l : List Int) : ∀ q, q ≤ l.length → IR l q ≤ q
 | 0, _ => by rw [Jn]; exact vN _
 | q + 1, h => by
  have := KR l q (by omega)
  rw [H0 l q h]
  split <;> omega
def MZ (l : List Int) (k q : Nat) : Int := if 0 ≤ l.getD q 0 ∧ k.testBit (IR l q) = true then -1 else l.getD q 0
def V4 (l : List Int) (k : Nat) : List Int := (vK l.length).map (MZ l k)
def Yw (m : Aa) (k : Nat) : Aa := ⟨m.fd, V4 m.fa k, m.fc⟩
def Gq (m : Aa) : List Aa := (vK (2 ^ IR m.fa m.fa.length)).map (Yw m)
theorem L2 (l : List Int) (k : Nat) : (V4 l k).length = l.length := by simp [V4]
theorem Qa (l : List Int) (k q : Nat) (h : q < l.length) : (V4 l k).getD q 0 = MZ l k q := by
 unfold V4; rw [lD, vC, List.getElem?_range h]; rfl
theorem G9 {l1 l2 : List Int} (h1 : l1.length = l2.length) (h : ∀ q, q < l1.length → l1.getD q 0 = l2.getD q 0) : l1 = l2 := by
 apply List.ext_getElem h1
 intro q h2 h3
 have := h q h2
 rw [lD, lD, vP h2, vP h3] at this
 exact this
theorem Th : ∀ (k : Fin 64) (b : Fin 7), F5 .i64 (Fo .i64 (k.val : Int) (b.val : Int)) 1 = (if k.val.testBit b.val then 1 else 0) ∧ vF (Fo .i64 (k.val : Int) (b.val : Int)) 2 = (if k.val.testBit b.val then 1 else 0) := by decide +kernel
theorem V7 : ∀ n : Fin 7, D7 .i64 1 (n.val : Int) = ((2 ^ n.val : Nat) : Int) := by decide +kernel
structure O5 (m x : Aa) : Prop where
 base : x.fd = m.fd
 held : x.fc = m.fc
 len : x.fa.length = m.fa.length
 next : ∀ q, q < m.fa.length → x.fa.getD q 0 = m.fa.getD q 0 ∨ (0 ≤ m.fa.getD q 0 ∧ x.fa.getD q 0 = -1)
theorem O5.refl (m : Aa) : O5 m m := ⟨rfl, rfl, rfl, fun _ _ => .inl rfl⟩
theorem O5.trans {a b c : Aa} (h1 : O5 a b) (h2 : O5 b c) : O5 a c :=
 ⟨h2.base.trans h1.base, h2.held.trans h1.held, h2.len.trans h1.len, fun q hq => by
  have e1 := h1.next q hq
  have e2 := h2.next q (by rw [h1.len]; exact hq)
  omega⟩
theorem UY (m : Aa) (k : Nat) : O5 m (Yw m k) :=
 ⟨rfl, rfl, L2 _ _, fun q hq => by
  show (V4 m.fa k).getD q 0 = _ ∨ _ ∧ (V4 m.fa k).getD q 0 = _
  rw [Qa _ _ _ hq]; unfold MZ
  split
  ·rename_i h; exact .inr ⟨h.1, rfl⟩
  ·exact .inl rfl⟩
theorem Tr : ∀ (l x : List Int), x.length = l.length → (∀ q, q < l.length → x.getD q 0 = l.getD q 0 ∨ (0 ≤ l.getD q 0 ∧ x.getD q 0 = -1)) → ∃ k, k < 2 ^ IR l l.length ∧ ∀ q, q < l.length → x.getD q 0 = MZ l k q
 | [], x, h, _ => ⟨0, by simp [IR], fun q hq => by simp at hq⟩
 | n :: ns, [], h, _ => by simp at h
 | n :: ns, y :: ys, h, hq => by
  obtain ⟨k, hk, hk2⟩ := Tr ns ys (by simpa using h) (fun q hq' => by have := hq (q + 1) (by simpa using hq'); simpa using this)
  have h0 := hq 0 (by simp)
  simp only [zH2] at h0
  by_cases hn : 0 ≤ n
  ·refine ⟨2 * k + if y = n then 0 else 1, ?_, ?_⟩
   ·rw [vV, IR, if_pos hn, Nat.pow_add]
    split <;> omega
   ·intro q hq'
    cases q with
    | zero =>
     simp only [zH2, MZ, Jn]
     by_cases hy : y = n
     ·simp [hy]
     ·rw [if_neg hy, if_pos ⟨hn, by simp⟩]; omega
    | succ q =>
     have := hk2 q (by simpa using hq')
     simp only [zG4, MZ, IR, if_pos hn] at this ⊢
     rw [this, Nat.add_comm 1, Nat.testBit_succ]
     have : (2 * k + if y = n then 0 else 1) / 2 = k := by split <;> omega
     rw [this]
  ·refine ⟨k, ?_, ?_⟩
   ·rw [vV, IR, if_neg hn, uT]; exact hk
   ·intro q hq'
    cases q with
    | zero =>
     simp only [zH2, MZ, Jn]
     rw [if_neg (fun h => hn h.1)]
     omega
    | succ q =>
     have := hk2 q (by simpa using hq')
     simp only [zG4, MZ, IR, if_neg hn, uT] at this ⊢
     exact this
theorem Og {m x : Aa} : x ∈ Gq m ↔ O5 m x := by
 unfold Gq
 rw [zA6]
 constructor
 ·rintro ⟨k, _, rfl⟩; exact UY m k
 ·intro h
  obtain ⟨k, hk, hq⟩ := Tr m.fa x.fa h.len h.next
  refine ⟨k, zF6.2 hk, ?_⟩
  have : V4 m.fa k = x.fa := G9 (by rw [L2, h.len]) fun q hq' => by
   rw [L2] at hq'
   rw [Qa _ _ _ hq', hq q hq']
  unfold Yw
  rw [this, ← h.base, ← h.held]
theorem XU {m x : Aa} (h : O5 m x) {s : Nat} (hs : s < m.fa.length) {v : Nat} (hv : H7 x s v = true) : H7 m s v = true := by
 unfold H7 at hv ⊢
 rw [h.base] at hv
 have := h.next s hs
 simp only [zC1, decide_eq_true_eq] at hv ⊢
 omega
theorem Xm {p : Ab} {m x : Aa} (hp : B0 p) (hm : CG p m) (h : O5 m x) : CG p x := by
 refine ⟨⟨by rw [h.base]; exact hm.base, by rw [h.len]; exact hm.next, by rw [h.held]; exact hm.held, fun i hi => by rw [h.base]; exact hm.b0 i hi, fun i hi => ?_, fun i hi => ?_⟩, fun i hi => by rw [h.held]; exact hm.range i hi, fun i t ht hs v hv => ?_, fun i t ht hs v hv => ?_, fun i t ht hs => by rw [h.held]; exact hm.none i t ht hs⟩
 ·have h1 := hm.n0 i hi
  have h2 := h.next i (by rw [hm.next]; exact hi)
  have h3 := Ic hp hi
  omega
 ·have h1 := hm.ne i hi
  have h2 := h.next i (by rw [hm.next]; exact hi)
  have h3 := hm.b0 i hi
  rw [h.base]
  omega
 ·have hin := (KJ (hp.tab t (lM ht))).from0
  rw [h.held]
  exact hm.low i t ht hs v (XU h (by rw [hm.next]; omega) hv)
 ·rw [h.held] at hv
  exact hm.high i t ht hs v hv
theorem J0 (N : Nat) (l : List Int) (h : l.length ≤ DC) : Bm N l = some l := by
 unfold Bm
 rw [Ap (by simpa using h)]; rfl
theorem Pw (N : Nat) (l : List Int) (h : l.length ≤ DC) : BD N l = some l := by
 unfold BD
 rw [Ap (by simpa using h)]; rfl
theorem Jf {l : List Int} {i q : Nat} {y : Int} (hi : i < l.length) : (l.set i y).getD q 0 = if q = i then y else l.getD q 0 := by
 rw [lD, lD, List.getElem?_set]
 by_cases h : i = q
 ·subst h; simp [hi]
 ·rw [if_neg h, if_neg (fun e => h e.symm)]
theorem Wg {l : List Int} {a b : Nat} (ha : a < l.length) (hb : b < l.length) (h1 : 0 ≤ l.getD a 0) (h2 : 0 ≤ l.getD b 0) (h : IR l a = IR l b) : a = b := by
 rcases Nat.lt_trichotomy a b with h3 | h3 | h3
 ·have := OU l (a := a + 1) (b := b) h3 (by omega)
  rw [H0 l a ha, if_pos h1] at this; omega
 ·exact h3
 ·have := OU l (a := b + 1) (b := a) h3 (by omega)
  rw [H0 l b hb, if_pos h2] at this; omega
structure Va (l : List Int) (o : List Int) : Prop where
 len : o.length = IR l l.length
 at_ : ∀ b, b < o.length → ∃ i : Nat, o.getD b 0 = (i : Int) ∧ i < l.length ∧ 0 ≤ l.getD i 0 ∧ IR l i = b
theorem Q3 (N : Nat) (l o : List Int) (k : Nat) (acc : List Aa) (hN : N ≤ 1000000) (h20 : 20 ≤ N) (hl : l.length ≤ 6) (ho : Va l o) (hk : k < 64) (j : List Int → Option (List Aa × Int)) :
  Dk N o (acc, (k : Int)) j N (l, 0) = j (V4 l k) := by
 have hol := KR l l.length (vN _)
 have hoL := ho.len
 obtain ⟨x, e, h1, h2⟩ := E0 (A := List Int) (Dk N o (acc, (k : Int)) j) (fun a k => (a, k)) o.length j
  (fun b a => a.length = l.length ∧ ∀ q, q < l.length → a.getD q 0 = if 0 ≤ l.getD q 0 ∧ IR l q < b ∧ k.testBit (IR l q) = true then -1 else l.getD q 0)
  (fun n b a hb ha => by
   obtain ⟨i, hi1, hi2, hi3, hi4⟩ := ho.at_ b hb
   have hbit := Th ⟨k, hk⟩ ⟨b, by omega⟩
   rw [Dk]
   simp only [A8]
   rw [AD (by omega), Dc (d := 0) hb]
   simp only [oS]
   rw [Ap (by omega), hi1, hbit.1, Dc (d := 0) (show i < a.length by rw [ha.1]; exact hi2), AG (by omega)]
   simp only [oS, vJ]
   cases hkb : k.testBit b
   ·refine ⟨a, rfl, ha.1, fun q hq => ?_⟩
    rw [ha.2 q hq]
    by_cases hqb : IR l q = b
    ·rw [hqb, hkb]; simp
    ·by_cases h3 : IR l q < b
     ·have : IR l q < b + 1 := by omega
      simp [h3, this]
     ·have : ¬ IR l q < b + 1 := by omega
      simp [h3, this]
   ·refine ⟨a.set i (-1), rfl, by simp [ha.1], fun q hq => ?_⟩
    rw [Jf (by rw [ha.1]; exact hi2), ha.2 q hq]
    by_cases hqi : q = i
    ·subst hqi
     rw [if_pos rfl, if_pos ⟨hi3, by omega, by rw [hi4]; exact hkb⟩]
    ·rw [if_neg hqi]
     by_cases h0 : 0 ≤ l.getD q 0
     ·have hne : IR l q ≠ b := fun h => hqi (Wg hq hi2 h0 hi3 (by omega))
      by_cases h3 : IR l q < b
      ·have : IR l q < b + 1 := by omega
       simp [h3, this]
      ·have : ¬ IR l q < b + 1 := by omega
       simp [h3, this]
     ·rw [if_neg (fun h => h0 h.1), if_neg (fun h => h0 h.1)])
  (fun n a _ => by
   rw [Dk]
   simp only [A8]
   rw [AB (by omega)]) N 0 l (vG _) (by omega) ⟨rfl, fun q hq => by simp⟩
 have e' : Dk N o (acc, (k : Int)) j N (l, 0) = j x := e
 rw [e']
 congr 1
 refine G9 (by rw [L2, h1]) fun q hq => ?_
 rw [h1] at hq
 rw [h2 q hq, Qa _ _ _ hq, MZ]
 by_cases h0 : 0 ≤ l.getD q 0
 ·have h3 := OU l (a := q + 1) (b := l.length) hq (vN _)
  rw [H0 l q hq, if_pos h0] at h3
  have : IR l q < o.length := by omega
  simp [this]
 ·rw [if_neg (fun h => h0 h.1), if_neg (fun h => h0 h.1)]
theorem RI (N : Nat) (m : Aa) (k : Nat) (acc : List Aa) (hN : N ≤ 1000000) (h20 : 20 ≤ N) (hl : m.fa.length ≤ 6) (hk : k < 64) (j : List Int → Option (List Aa)) :
  Ca N m (acc, (k : Int)) j N (m.fa, 0, 0) = j (V4 m.fa k) := by
 obtain ⟨⟨x, pl⟩, e, h1, h2, h3⟩ := E0 (A := List Int × Nat) (Ca N m (acc, (k : Int)) j) (fun a k => (a.1, (a.2 : Int), k)) m.fa.length (fun a => j a.1)
  (fun i a => a.2 = IR m.fa i ∧ a.1.length = m.fa.length ∧ ∀ q, q < m.fa.length → a.1.getD q 0 = if q < i then MZ m.fa k q else m.fa.getD q 0)
  (fun n i a hi ha => by
   obtain ⟨a, pl⟩ := a
   obtain ⟨a1, a2, a3⟩ := ha
   simp only at a1 a2 a3
   have hple := KR m.fa i (by omega)
   have hbit := Th ⟨k, hk⟩ ⟨pl, by omega⟩
   have hs := H0 m.fa i hi
   rw [Ca]
   simp only [A8]
   rw [AD (by omega), Dc (d := 0) hi]
   simp only [oS]
   rw [AG (by omega)]
   by_cases h0 : m.fa.getD i 0 < 0
   ·rw [AD h0]
    refine ⟨(a, pl), rfl, by simp only; rw [hs, if_neg (by omega), a1]; rfl, a2, fun q hq => ?_⟩
    simp only
    rw [a3 q hq]
    by_cases hqi : q = i
    ·subst hqi
     rw [if_neg (by omega), if_pos (by omega), MZ, if_neg (by omega)]
    ·by_cases h4 : q < i
     ·rw [if_pos h4, if_pos (by omega)]
     ·rw [if_neg h4, if_neg (by omega)]
   ·rw [AB h0, Ap (by omega), Dc (d := 0) (show i < a.length by omega), hbit.2, AG (by omega)]
    simp only [oS, vJ]
    cases hkb : k.testBit pl
    ·refine ⟨(a, pl + 1), rfl, by simp only; rw [hs, if_pos (by omega), a1], a2, fun q hq => ?_⟩
     simp only
     rw [a3 q hq]
     by_cases hqi : q = i
     ·subst hqi
      rw [if_neg (by omega), if_pos (by omega), MZ, ← a1, hkb]; simp
     ·by_cases h4 : q < i
      ·rw [if_pos h4, if_pos (by omega)]
      ·rw [if_neg h4, if_neg (by omega)]
    ·refine ⟨(a.set i (-1), pl + 1), rfl, by simp only; rw [hs, if_pos (by omega), a1], by simp [a2], fun q hq => ?_⟩
     simp only
     rw [Jf (by omega), a3 q hq]
     by_cases hqi : q = i
     ·subst hqi
      rw [if_pos rfl, if_pos (by omega), MZ, ← a1, if_pos ⟨by omega, hkb⟩]
     ·rw [if_neg hqi]
      by_cases h4 : q < i
      ·rw [if_pos h4, if_pos (by omega)]
      ·rw [if_neg h4, if_neg (by omega)])
  (fun n a _ => by
   rw [Ca]
   simp only [A8]
   rw [AB (by omega)]) N 0 (m.fa, 0) (vG _) (by omega) ⟨(Jn _).symm, rfl, fun q hq => by simp⟩
 have e' : Ca N m (acc, (k : Int)) j N (m.fa, 0, 0) = j x := e
 rw [e']
 congr 1
 simp only at h2 h3
 refine G9 (by rw [L2, h2]) fun q hq => ?_
 rw [h2] at hq
 rw [h3 q hq, if_pos hq, Qa _ _ _ hq]
theorem UD (N : Nat) (m : Aa) (hN : N ≤ 1000000) (h20 : 20 ≤ N) (hl : m.fa.length ≤ 6) (j : List Int → Option (List Aa × Int)) :
  ∃ o, Ed N m j N ([], 0) = j o ∧ Va m.fa o := by
 obtain ⟨o, e, h1, h2⟩ := E0 (A := List Int) (Ed N m j) (fun a k => (a, k)) m.fa.length j
  (fun i o => o.length = IR m.fa i ∧ ∀ b, b < o.length → ∃ q : Nat, o.getD b 0 = (q : Int) ∧ q < m.fa.length ∧ 0 ≤ m.fa.getD q 0 ∧ IR m.fa q = b)
  (fun n i o hi ho => by
   have hple := KR m.fa i (by omega)
   have hs := H0 m.fa i hi
   rw [Ed]
   simp only [A8]
   rw [AD (by omega), Dc (d := 0) hi]
   simp only [oS]
   rw [AG (by omega)]
   by_cases h0 : 0 ≤ m.fa.getD i 0
   ·rw [AD h0, Ap (by rw [ho.1]; unfold DC; simp; omega)]
    refine ⟨o ++ [(i : Int)], rfl, by rw [hs, if_pos h0, ← ho.1]; simp, ?_⟩
    rw [zA2]
    exact GA (P := fun b y => ∃ q : Nat, y = (q : Int) ∧ q < m.fa.length ∧ 0 ≤ m.fa.getD q 0 ∧ IR m.fa q = b) rfl ho.2 ⟨i, rfl, hi, h0, ho.1.symm⟩
   ·rw [AB h0]
    exact ⟨o, rfl, by rw [hs, if_neg h0, ho.1]; rfl, ho.2⟩)
  (fun n a _ => by
   rw [Ed]
   simp only [A8]
   rw [AB (by omega)]) N 0 [] (vG _) (by omega) ⟨(Jn _).symm, fun b hb => by simp at hb⟩
 exact ⟨o, e, h1, h2⟩
theorem LC {n : Nat} (h : n ≤ 6) : 2 ^ n ≤ 64 := Nat.pow_le_pow_right (n := 2) (by omega) h
theorem NQ {n : Nat} (h : n ≤ 6) : D7 .i64 1 (n : Int) = ((2 ^ n : Nat) : Int) := V7 ⟨n, by omega⟩
theorem KK {β : Type} (f : Nat → β) (n : Nat) : (vK (n + 1)).map f = (vK n).map f ++ [f n] := by
 rw [zD4, zE9]; rfl
theorem O9 (N : Nat) (p : Ab) (m : Aa) (hN : N ≤ 1000000) (h20 : 100 ≤ N) (hw : Ls JR m.fc) (hv : BX p m = 0) : FP N p m = some (Gq m, 0) := by
 obtain ⟨hp, hm⟩ := In hw hv
 have hnv := hp.nv
 have hnt := hp.nt
 have hl : m.fa.length ≤ 6 := by rw [hm.next]; omega
 unfold FP
 rw [HX N p m hN (by omega) hw, hv]
 simp only [oS, bne_self_eq_false, An]
 obtain ⟨o, e, ho⟩ := UD N m hN (by omega) hl (fun (v4 : (List Int)) =>
   (DQ (0 ≤ (v4.length : Int))).bind fun _ =>
   Dm N m v4 (fun (v12 : (List Aa)) =>
    some (v12, 0)) N (([] : List Aa), 0))
 rw [e, Ap (by omega)]
 have hoL := ho.len
 have hol := KR m.fa m.fa.length (vN _)
 have hpow := LC (show IR m.fa m.fa.length ≤ 6 by omega)
 obtain ⟨a, e2, h1⟩ := E0 (A := List Aa) (Dm N m o fun v12 => some (v12, 0)) (fun a k => (a, k)) (2 ^ IR m.fa m.fa.length) (fun v12 => some (v12, 0))
  (fun i a => a = (vK i).map (Yw m))
  (fun n i a hi ha => by
   refine ⟨a ++ [Yw m i], ?_, by rw [KK, ha]⟩
   have hal : a.length = i := by rw [ha]; simp
   rw [Dm]
   rw [hoL, NQ (n := IR m.fa m.fa.length) (by omega), AD (by omega), J0 N m.fd (by have := hm.base; unfold DC; omega), J0 N m.fa (by unfold DC; omega), Pw N m.fc (by have := hm.held; unfold DC; omega)]
   simp only [oS]
   rw [Q3 N m.fa o i a hN (by omega) hl ho (by omega), Ap (by rw [hal]; unfold DC; simp; omega), AG (by omega)]
   rfl)
  (fun n a _ => by
   rw [Dm]
   rw [hoL, NQ (n := IR m.fa m.fa.length) (by omega), AB (by simp)]) N 0 [] (vG _) (by omega) rfl
 have e2' : Dm N m o (fun v12 => some (v12, 0)) N ([], 0) = some (a, 0) := e2
 rw [e2', h1]; rfl
theorem SQ (N : Nat) (m : Aa) (h1 : m.fd.length ≤ DC) (h2 : m.fa.length ≤ DC) (h3 : m.fc.length ≤ DC) : EF N m = some m := by
 unfold EF
 rw [Ap (by simpa using h1), Ap (by simpa using h2), Ap (by simpa using h3)]; rfl
theorem SP (N : Nat) (m : Aa) (hN : N ≤ 1000000) (h20 : 100 ≤ N) (h1 : m.fd.length ≤ 100) (hl : m.fa.length ≤ 6) (h3 : m.fc.length ≤ 100) : EK N m = some (Gq m) := by
 unfold EK
 obtain ⟨c, e, hc⟩ := E0 (A := Nat) (CN N m (fun (v2 : Int) =>
  BJ N m v2 (fun (v8 : (List Aa)) => some v8) N (([] : List Aa), 0))) (fun a k => ((a : Int), k)) m.fa.length (fun a => BJ N m (a : Int) (fun (v8 : (List Aa)) => some v8) N (([] : List Aa), 0))
  (fun i a => a = IR m.fa i)
  (fun n i a hi ha => by
   have hple := KR m.fa i (by omega)
   have hs := H0 m.fa i hi
   rw [CN]
   simp only [A8]
   rw [AD (by omega), Dc (d := 0) hi]
   simp only [oS]
   rw [AG (by omega), AG (by omega)]
   by_cases h0 : 0 ≤ m.fa.getD i 0
   ·rw [AD h0]
    exact ⟨a + 1, rfl, by rw [hs, if_pos h0, ha]⟩
   ·rw [AB h0]
    exact ⟨a, rfl, by rw [hs, if_neg h0, ha]; rfl⟩)
  (fun n a _ => by
   rw [CN]
   simp only [A8]
   rw [AB (by omega)]) N 0 0 (vG _) (by omega) (Jn _).symm
 have e' : CN N m (fun (v2 : Int) => BJ N m v2 (fun (v8 : (List Aa)) => some v8) N (([] : List Aa), 0)) N (0, 0) = _ := e
 rw [e', hc]
 have hol := KR m.fa m.fa.length (vN _)
 have hpow := LC (show IR m.fa m.fa.length ≤ 6 by omega)
 obtain ⟨a, e2, h1⟩ := E0 (A := List Aa) (BJ N m (IR m.fa m.fa.length : Int) fun v8 => some v8) (fun a k => (a, k)) (2 ^ IR m.fa m.fa.length) some
  (fun i a => a = (vK i).map (Yw m))
  (fun n i a hi ha => by
   refine ⟨a ++ [Yw m i], ?_, by rw [KK, ha]⟩
   have hal : a.length = i := by rw [ha]; simp
   rw [BJ]
   rw [Ap (by omega), NQ (n := IR m.fa m.fa.length) (by omega), AD (by omega), SQ N m (by unfold DC; omega) (by unfold DC; omega) (by unfold DC; omega)]
   simp only [oS]
   rw [RI N m i a hN (by omega) hl (by omega), Ap (by rw [hal]; unfold DC; simp; omega), AG (by omega)]
   rfl)
  (fun n a _ => by
   rw [BJ]
   rw [Ap (by omega), NQ (n := IR m.fa m.fa.length) (by omega), AB (by simp)]) N 0 [] (vG _) (by omega) rfl
 have e2' : BJ N m (IR m.fa m.fa.length : Int) (fun v8 => some v8) N ([], 0) = some a := e2
 rw [e2', h1]; rfl
theorem SR (N : Nat) (p : Ab) (m : Aa) (hN : N ≤ 1000000) (h20 : 100 ≤ N) (hp : B0 p) (hm : CG p m) : EK N m = some (Gq m) := by
 have := hp.nv
 have := hp.nt
 exact SP N m hN h20 (by rw [hm.base]; omega) (by rw [hm.next]; omega) (by rw [hm.held]; omega)
theorem L0 {p : Ab} {m : Aa} (hm : CG p m) : Ls JR m.fc := by
 intro x hx
 obtain ⟨q, hq⟩ := vO.1 hx
 have h1 := (lI.1 hq).1
 have := hm.range q (by rw [← hm.held]; exact h1)
 rw [lD, hq] at this
 unfold JR
 simp only [vW] at this
 simp [Lit.wf, IntKind.min, IntKind.max, IntKind.signed, IntKind.bits]
 omega
def LB (p : Ab) (x : Aa) : Option (Aa × Ad) := match Hr p x with
 | [] => none
 | c :: _ => some (x, c)
def Oc (p : Ab) (m : Aa) : Option (Aa × Ad) := D2 (fun _ x => LB p x) 0 (Gq m)
def Hg : Aa := ⟨[], [], []⟩
def Tl : Ad := ⟨0, 0, 0⟩
def SM (p : Ab) (m : Aa) : Aa × Ad × Int := match Oc p m with
 | some (x, c) => (x, c, 0)
 | none => (Hg, Tl, 15)
def BG (p : Ab) (m : Aa) : Bool := (Oc p m).isNone
theorem Ok {m : Aa} (hl : m.fa.length ≤ 6) : (Gq m).length ≤ 64 := by
 unfold Gq
 have hol := KR m.fa m.fa.length (vN _)
 have hpow := LC (show IR m.fa m.fa.length ≤ 6 by omega)
 simpa using hpow
theorem Or {α R R' : Type} (f : Nat → α → Option R) (g : R → R') : ∀ (i : Nat) (xs : List α), D2 (fun i x => (f i x).map g) i xs = (D2 f i xs).map g
 | _, [] => rfl
 | i, x :: xs => by
  rw [HF, HF]
  cases f i x
  ·exact Or f g (i + 1) xs
  ·rfl
theorem QN (N : Nat) (p : Ab) (m : Aa) (hN : N ≤ 1000000) (h20 : 100 ≤ N) (hw : Ls JR m.fc) (hv : BX p m = 0) : FC N p m = some (SM p m) := by
 obtain ⟨hp, hm⟩ := In hw hv
 have hnv := hp.nv
 unfold FC
 rw [O9 N p m hN h20 hw hv]
 simp only [oS, bne_self_eq_false, An]
 have hal := Ok (m := m) (by rw [hm.next]; omega)
 have := Dq (E3 N p (Gq m, 0) fun _ => some (Hg, Tl, 15)) (Gq m) (some (Hg, Tl, 15)) (fun _ x => (LB p x).map fun y => (y.1, y.2, 0))
  (fun n i x hx => by
   have hi := (lI.1 hx).1
   have hx2 := Xm hp hm (Og.1 (lM hx))
   rw [E3, AD (by simp only; omega)]
   simp only [AW, hx, oS]
   rw [M9 N p x hN (by omega) hp hx2, AG (by omega)]
   simp only [oS, LB]
   cases Hr p x with
   | nil => rfl
   | cons c cs => rw [AD (by simp only [vV]; omega)]; rfl)
  (fun n => by rw [E3, AB (by simp)]) N 0 (vG _) (by omega)
 rw [vS, Or] at this
 exact this.trans (by
  unfold SM Oc
  cases D2 (fun _ x => LB p x) 0 (Gq m) <;> rfl)
theorem JJ (N : Nat) (p : Ab) (m : Aa) (hN : N ≤ 1000000) (h20 : 100 ≤ N) (hw : Ls JR m.fc) (hv : BX p m = 0) : DY N p m = some (BG p m, 0) := by
 unfold DY
 rw [QN N p m hN h20 hw hv]
 unfold BG SM
 cases Oc p m <;> rfl
theorem RG (N : Nat) (p : Ab) (m : Aa) (hN : N ≤ 1000000) (h20 : 100 ≤ N) (hp : B0 p) (hm : CG p m) : EE N p m = some (Hr p m).isEmpty := by
 unfold EE
 rw [MR N p m hN (by omega) hp hm]
 simp only [oS]
 cases Hr p m with
 | nil => rfl
 | cons c cs =>
  rw [beq_eq_false_iff_ne.2 (by simp only [vV]; omega)]; rfl
theorem G7 (N : Nat) (p : Ab) (m : Aa) (hN : N ≤ 1000000) (h20 : 100 ≤ N) (hp : B0 p) (hm : CG p m) : BE N p m = some (BG p m) := by
 have hnv := hp.nv
 unfold BE
 rw [SR N p m hN h20 hp hm]
 simp only [oS]
 have hal := Ok (m := m) (by rw [hm.next]; omega)
 have := Dq (Cj N p (Gq m) fun _ => some true) (Gq m) (some true) (fun _ x => (LB p x).map fun _ => false)
  (fun n i x hx => by
   have hi := (lI.1 hx).1
   have hx2 := Xm hp hm (Og.1 (lM hx))
   rw [Cj, AD (by omega)]
   simp only [AW, hx, oS]
   rw [RG N p x hN h20 hp hx2, AG (by omega)]
   simp only [oS, LB]
   cases Hr p x with
   | nil => rfl
   | cons c cs => rfl)
  (fun n => by rw [Cj, AB (by simp)]) N 0 (vG _) (by omega)
 rw [vS, Or] at this
 refine Eq.trans this ?_
 unfold BG Oc
 cases D2 (fun _ x => LB p x) 0 (Gq m) <;> rfl
theorem Ng {N : Nat} {a b : Aa} (hN : N ≤ 1000000) (h1 : a.fd.length < N) (h2 : a.fa.length < N) (h3 : a.fc.length < N) (h4 : b.fc.length < N) (wa : Ls JR a.fc) (wb : Ls JR b.fc) : AY N a b = some (E6 a b) := by
 unfold AY
 rw [Oq h1 hN, Oq h2 hN, Nr h3 hN wa, Nr h4 hN wb]
 simp only [oS]
 rw [Oq h3 hN]
 unfold E6 R6
 by_cases h1 : ES a.fd b.fd = 0
 ·simp only [h1, R6]
  by_cases h2 : ES a.fa b.fa = 0
  ·simp only [h2]
   by_cases h3 : ES a.fc b.fc = 0 <;> simp [h3]
  ·have : (ES a.fa b.fa != 0) = true := by simpa using h2
   simp [h2, this]
 ·have : (ES a.fd b.fd != 0) = true := by simpa using h1
  simp [h1, this]
theorem Qm (N : Nat) (a b : List Int) (hN : N ≤ 1000000) (h : a.length < N) : Ec N a b = some (a == b) := by
 unfold Ec
 by_cases hl : a.length = b.length
 ·rw [hl, bne_self_eq_false, An]
  have := Dq (Ck N a b fun _ => some true) a (some true) (fun i x => if x = b.getD i 0 then none else some false)
   (fun n i x hx => by
    have hi := (lI.1 hx).1
    rw [Ck, AD (by omega), AW, hx, Dc (d := 0) (by omega)]
    simp only [oS]
    rw [AG (by omega)]
    by_cases h : x = b.getD i 0
    ·rw [if_pos h, h, bne_self_eq_false]; rfl
    ·rw [if_neg h, bne_iff_ne.2 h]; rfl)
   (fun n => by rw [Ck, AB (by simp)]) N 0 (vG _) (by omega)
  refine this.trans ?_
  rw [vS]
  cases hs : D2 (fun i x => if x = b.getD i 0 then none else some false) 0 a with
  | none =>
   have : a = b := G9 hl fun q hq => by
    have hx : a[q]? = some (a.getD q 0) := by rw [lD]; simp [hq]
    have := FY hs q _ hx
    rw [uT] at this
    split at this
    ·assumption
    ·cases this
   rw [this, beq_self_eq_true]; rfl
  | some r =>
   obtain ⟨j, x, hx, hf⟩ := EL hs
   rw [uT] at hf
   split at hf
   ·cases hf
   ·rename_i hne
    cases hf
    have : (a == b) = false := beq_eq_false_iff_ne.2 fun e => hne (by rw [← e, lD, hx]; rfl)
    rw [this]; rfl
 ·have h1 : ((a.length : Int) != (b.length : Int)) = true := bne_iff_ne.2 (by omega)
  have h2 : (a == b) = false := beq_eq_false_iff_ne.2 fun e => hl (by rw [e])
  rw [h1, h2]; rfl
theorem P7 (N : Nat) (a : List Int) (f : Int → Option Bool) (g : Int → Bool) (hN : N ≤ 1000000) (h : a.length < N) (hf : ∀ x, x ∈ a → f x = some (g x)) : CS N a f = some (a.any g) := by
 unfold CS Ef
 have := Dq (Bk N a f fun _ => some (-1)) a (some (-1)) (fun i x => if g x then some (i : Int) else none)
  (fun n i x hx => by
   have hi := (lI.1 hx).1
   rw [Bk, AD (by omega), AW, hx]
   simp only [oS]
   rw [hf x (lM hx), AG (by omega)]
   simp only [oS]
   cases g x <;> rfl)
  (fun n => by rw [Bk, AB (by simp)]) N 0 (vG _) (by omega)
 have e : Bk N a f (fun _ => some (-1)) N 0 = _ := this
 rw [e, vS]
 cases hs : D2 (fun i x => if g x then some (i : Int) else none) 0 a with
 | none =>
  have : a.any g = false := by
   rw [List.any_eq_false]
   intro x hx
   obtain ⟨j, hj⟩ := vO.1 hx
   have := FY hs j x hj
   intro hg
   rw [hg] at this; cases this
  rw [this]; rfl
 | some r =>
  obtain ⟨j, x, hx, hf⟩ := EL hs
  split at hf
  ·rename_i hg
   cases hf
   have : a.any g = true := zD2.2 ⟨x, lM hx, hg⟩
   rw [this]
   simp only [BK, oS]
   rw [decide_eq_true (by omega)]
  ·cases hf
def Ir (p : Ab) (m : Aa) : Bool := BX p m == 0 && (m.fd == p.fj && m.fa.all (fun n => decide (n < 0)))
theorem RU (N : Nat) (p : Ab) (m : Aa) (hN : N ≤ 1000000) (h20 : 100 ≤ N) (hw : Ls JR m.fc) : HH N p m = some (Ir p m) := by
 unfold HH Ir
 rw [HX N p m hN (by omega) hw]
 simp only [A8, oS]
 by_cases hv : BX p m = 0
 ·obtain ⟨hp, hm⟩ := In hw hv
  have := hp.nv
  rw [hv, Qm N _ _ hN (by rw [hm.base]; omega), P7 N m.fa (fun x => Hf N x) (fun n => decide (0 ≤ n)) hN (by rw [hm.next]; omega) (fun x _ => rfl)]
  simp only [oS, beq_self_eq_true, AJ, zA9]
  have : m.fa.all (fun n => decide (n < 0)) = !m.fa.any (fun n => decide (0 ≤ n)) := by
   rw [List.not_any_eq_all_not]
   congr 1; funext n
   by_cases h : 0 ≤ n
   ·rw [decide_eq_true h, decide_eq_false (by omega)]; rfl
   ·rw [decide_eq_false h, decide_eq_true (by omega)]; rfl
  rw [this]
  cases m.fd == p.fj <;> simp
 ·rw [beq_eq_false_iff_ne.2 hv]; rfl
theorem Nq (N : Nat) (p : Ab) (m : Aa) (hN : N ≤ 1000000) (h20 : 100 ≤ N) (hw : Ls JR m.fc) : DJ N p m = some (Ir p m) := by
 unfold DJ Ir
 rw [Kb N p m hN (by omega)]
 simp only [oS]
 by_cases hv : BX p m = 0
 ·obtain ⟨hp, hm⟩ := In hw hv
  have h1 := hp.nv
  have h2 := hp.tgt
  have h3 := hm.base
  have h4 := hm.next
  rw [hv]
  simp only [bne_self_eq_false, An, beq_self_eq_true, zA9]
  have := Dq (C7 N p m fun _ => some true) m.fd (some true) (fun i x => if 0 ≤ m.fa.getD i 0 ∨ x ≠ p.fj.getD i 0 then some false else none)
   (fun n i x hx => by
    have hi := (lI.1 hx).1
    rw [C7, AD (by omega)]
    simp only [A8]
    rw [show BB m.fd (i : Int) = some x from by rw [AW, hx], Dc (d := 0) (by omega), Dc (d := 0) (by omega)]
    simp only [oS]
    rw [AG (by omega)]
    by_cases k1 : 0 ≤ m.fa.getD i 0
    ·rw [AD k1, if_pos (.inl k1)]; rfl
    ·rw [AB k1]
     by_cases k2 : x = p.fj.getD i 0
     ·rw [if_neg (fun h => h.elim k1 (fun h => h k2)), k2, bne_self_eq_false]; rfl
     ·rw [if_pos (.inr k2), bne_iff_ne.2 k2]; rfl)
   (fun n => by rw [C7, AB (by simp)]) N 0 (vG _) (by omega)
  refine this.trans ?_
  rw [vS]
  cases hs : D2 (fun i x => if 0 ≤ m.fa.getD i 0 ∨ x ≠ p.fj.getD i 0 then some false else none) 0 m.fd with
  | none =>
   have key : ∀ q, q < m.fd.length → m.fd.getD q 0 = p.fj.getD q 0 ∧ ¬ 0 ≤ m.fa.getD q 0 := by
    intro q hq
    have hx : m.fd[q]? = some (m.fd.getD q 0) := by rw [lD]; simp [hq]
    have := FY hs q _ hx
    rw [uT] at this
    split at this
    ·cases this
    ·rename_i h; exact ⟨Decidable.not_not.1 fun h' => h (.inr h'), fun h' => h (.inl h')⟩
   have e1 : m.fd = p.fj := G9 (by omega) fun q hq => (key q hq).1
   have e2 : m.fa.all (fun n => decide (n < 0)) = true := by
    rw [uX]
    intro n hn
    obtain ⟨q, hq⟩ := vO.1 hn
    have hl := (lI.1 hq).1
    have := (key q (by omega)).2
    rw [lD, hq] at this
    simp only [vW] at this
    simp only [decide_eq_true_eq]
    omega
   rw [e2, e1]; simp [BK]
  | some r =>
   obtain ⟨j, x, hx, hf⟩ := EL hs
   rw [uT] at hf
   have hj := (lI.1 hx).1
   split at hf
   ·rename_i h
    cases hf
    have : (m.fd == p.fj && m.fa.all (fun n => decide (n < 0))) = false := by
     rw [Bool.and_eq_false_iff]
     rcases h with h | h
     ·right
      rw [List.all_eq_false]
      refine ⟨m.fa.getD j 0, ?_, ?_⟩
      ·rw [lD, vP (by omega)]; exact zB2 _
      ·simp only [decide_eq_true_eq]; omega
     ·left
      exact beq_eq_false_iff_ne.2 fun e => h (by rw [← e, lD, hx]; rfl)
    rw [this]; rfl
   ·cases hf
 ·rw [bne_iff_ne.2 hv, beq_eq_false_iff_ne.2 hv]; rfl
open Go
structure bF (x y : AC) : Prop where
 k : y.ff = x.ff
 f : y.fg = x.fg
 t : y.fk = x.fk
 a : y.fp = x.fp
 r : y.fo = x.fo
 l : y.fq.length = x.fq.length
 o : ∀ (u : Nat) (row : List Bool), x.fq[u]? = some row → ∃ row', y.fq[u]? = some row' ∧ row'.length = row.length ∧ ∀ v : Nat, row[v]? = some true → row'[v]? = some true
theorem bF.st {x y : AC} (h : bF x y) : BM y = BM x := by unfold BM; rw [h.k]
structure YH (p : Ab) (m x : Aa) : Prop where
 base : m.fd = x.fd
 next : m.fa = x.fa
 held : ∀ i, i < p.fe.length → ∀ v, Dh (m.fc.getD i 0) v = true → Dh (x.fc.getD i 0) v = true
theorem YH.refl (p : Ab) (m : Aa) : YH p m m := ⟨rfl, rfl, fun _ _ _ h => h⟩
theorem YH.trans {p : Ab} {a b c : Aa} (h : YH p a b) (g : YH p b c) : YH p a c := ⟨h.base.trans g.base, h.next.trans g.next, fun i hi v hv => g.held i hi v (h.held i hi v hv)⟩
def F9 (p : Ab) (t : AC) : Int := if BM t = true then D7 .u8 1 (p.fi.getD t.fg.toNat 0) else 0
def E4 (p : Ab) : Aa := ⟨p.fi, uY p.fi.length (-1), p.fe.map (F9 p)⟩
theorem T1 (N : Nat) (h : 100 ≤ N) (n : Nat) (hn : n ≤ 6) : EP N [(-1)] (n : Int) = some (uY n (-1)) := by
 obtain ⟨k, rfl⟩ : ∃ k, N = k + 100 := ⟨N - 100, by omega⟩
 have : n = 0 ∨ n = 1 ∨ n = 2 ∨ n = 3 ∨ n = 4 ∨ n = 5 ∨ n = 6 := by omega
 rcases this with rfl | rfl | rfl | rfl | rfl | rfl | rfl
 all_goals (show _ = _; kernel_rfl)
theorem RZ (T : List Int) (i : Nat) (hi : i < T.length) : (T.take i ++ uY (T.length - i) 0).set i (T.getD i 0) = T.take (i + 1) ++ uY (T.length - (i + 1)) 0 := by
 have hl : (T.take i).length = i := by simp; omega
 rw [List.set_append_right _ _ (by omega), hl, Nat.sub_self, show T.length - i = (T.length - (i + 1)) + 1 from by omega, List.replicate_succ, List.set_cons_zero, zB9, zB1]
 have : T[i]? = some (T.getD i 0) := by rw [lD]; simp [hi]
 rw [this]; rfl
theorem TQ (T : List Int) (i : Nat) (hi : i < T.length) (h0 : T.getD i 0 = 0) : T.take i ++ uY (T.length - i) 0 = T.take (i + 1) ++ uY (T.length - (i + 1)) 0 := by
 rw [← RZ T i hi, h0, List.set_append_right _ _ (by rw [List.length_take]; omega)]
 congr 1
 have hl : (T.take i).length = i := by simp; omega
 rw [hl, Nat.sub_self, show T.length - i = (T.length - (i + 1)) + 1 from by omega, List.replicate_succ, List.set_cons_zero]
theorem SJ {p : Ab} (hv : De p = 0) {t : AC} (ht : t ∈ p.fe) : 0 ≤ t.fg ∧ t.fg.toNat < p.fi.length ∧ 0 ≤ p.fi.getD t.fg.toNat 0 ∧ p.fi.getD t.fg.toNat 0 < 6 ∧ p.fi.getD t.fg.toNat 0 < p.fb.getD t.fg.toNat 0 ∧ t.fg.toNat < p.fb.length := by
 obtain ⟨hp, hr⟩ := Eo hv
 have h1 := Jq (hp.tab t ht)
 have h2 := hr t.fg.toNat (by omega)
 have h3 := Ic hp (i := t.fg.toNat) (by omega)
 have := hp.now
 refine ⟨h1.1, by omega, h2.1, by omega, h2.2.1, by omega⟩
theorem JZ {p : Ab} {i : Nat} {t : AC} (ht : p.fe[i]? = some t) : (p.fe.map (F9 p)).getD i 0 = F9 p t := by
 rw [lD, vC, ht]; rfl
theorem P6 (N : Nat) (p : Ab) (hN : N ≤ 1000000) (h20 : 100 ≤ N) : GN N p = some (if De p = 0 then E4 p else ⟨[], [], []⟩, De p) := by
 unfold GN
 rw [Mn N p hN (by omega)]
 simp only [oS]
 by_cases hv : De p = 0
 ·rw [if_pos hv, hv]
  obtain ⟨hp, _⟩ := Eo hv
  have hnv := hp.nv
  have hnt := hp.nt
  have hnow := hp.now
  rw [bne_self_eq_false, An, J0 N _ (by simp only [DC]; omega)]
  simp only [oS]
  rw [T1 N h20 _ (by omega)]
  simp only [oS]
  rw [Ap (by simp only [DC]; omega)]
  obtain ⟨a', e, ha⟩ := E0 (EB N p fun v7 => some (Aa.mk p.fi (uY p.fi.length (-1)) v7, 0)) (fun a i => (a, i)) p.fe.length (fun v7 => some (Aa.mk p.fi (uY p.fi.length (-1)) v7, 0))
   (fun i a => a = (p.fe.map (F9 p)).take i ++ uY ((p.fe.map (F9 p)).length - i) 0)
   (fun n i a hi ha => by
    have hx : p.fe[i]? = some p.fe[i] := by simp [hi]
    have hm : p.fe[i] ∈ p.fe := zB2 hi
    obtain ⟨n1, n2, n3, n4, _⟩ := SJ hv hm
    rw [EB, AD (by simp only; omega)]
    simp only [A8, AW, hx, oS, JI, AG (show i < 1000000 by omega)]
    have hal : i < (p.fe.map (F9 p)).length := by simpa using hi
    cases hs : BM p.fe[i]
    ·rw [An]
     refine ⟨a, rfl, ?_⟩
     rw [ha]
     exact TQ _ _ hal (by rw [JZ hx]; unfold F9; rw [hs]; rfl)
    ·rw [AJ]
     have e1 : BB p.fi p.fe[i].fg = some (p.fi.getD p.fe[i].fg.toNat 0) := by
      obtain ⟨q, hq⟩ := uZ n1
      rw [hq]; exact Dc (by rw [hq] at n2; simpa using n2)
     rw [e1]
     simp only [oS]
     rw [Ap n3]
     have hl : i < a.length := by rw [ha]; simp; omega
     have e2 : a[i]? = some a[i] := by simp [hl]
     rw [e2]
     simp only [oS]
     refine ⟨_, rfl, ?_⟩
     rw [← RZ _ _ hal, JZ hx, ha]
     unfold F9; rw [hs]; rfl)
   (fun n a ha => by rw [EB, AB (by simp)]) N 0 (uY p.fe.length 0) (vG _) (by omega) (by simp)
  have e' : EB N p (fun v7 => some (Aa.mk p.fi (uY p.fi.length (-1)) v7, 0)) N (uY ((p.fe.length : Int)).toNat (0 : Int), 0) = _ := e
  rw [e', ha]
  have e5 : (p.fe.map (F9 p)).take p.fe.length = p.fe.map (F9 p) := zC5 (by simp)
  simp [E4, e5]
 ·rw [if_neg hv, bne_iff_ne.2 hv, AJ]
theorem Mf (N : Nat) (p : Ab) (hN : N ≤ 1000000) (h20 : 100 ≤ N) : D5 N p = some (if De p = 0 then E4 p else ⟨[], [], []⟩, De p) := by
 unfold D5
 rw [Ou N p hN (by omega)]
 simp only [oS]
 by_cases hv : De p = 0
 ·rw [if_pos hv, hv]
  obtain ⟨hp, _⟩ := Eo hv
  have hnv := hp.nv
  have hnt := hp.nt
  have hnow := hp.now
  rw [bne_self_eq_false, An]
  obtain ⟨a', e, ha⟩ := E0 (Co N p fun v4 => Bn N p (fun v10 => some (Aa.mk v4.1 v4.2 v10, 0)) N (([] : List Int), 0)) (fun a i => (a.1, a.2, i)) p.fb.length (fun v4 => Bn N p (fun v10 => some (Aa.mk v4.1 v4.2 v10, 0)) N (([] : List Int), 0))
   (fun i a => a = (p.fi.take i, uY i (-1)))
   (fun n i a hi ha => by
    subst ha
    rw [Co, AD (by simp only; omega)]
    have hx : p.fi[i]? = some p.fi[i] := by simp [show i < p.fi.length from by omega]
    simp only [AW, hx, oS, AG (show i < 1000000 by omega)]
    rw [Ap (by simp [DC]; omega), Ap (by simp [DC]; omega)]
    refine ⟨(p.fi.take i ++ [p.fi[i]], uY i (-1) ++ [-1]), rfl, ?_⟩
    rw [zB9, hx, List.replicate_succ']; rfl)
   (fun n a ha => by rw [Co, AB (by simp)]) N 0 ([], []) (vG _) (by omega) rfl
  have e' : Co N p (fun v4 => Bn N p (fun v10 => some (Aa.mk v4.1 v4.2 v10, 0)) N (([] : List Int), 0)) N (([] : List Int), ([] : List Int), 0) = _ := e
  rw [e', ha]
  simp only
  obtain ⟨b', e2, hb⟩ := E0 (Bn N p fun v10 => some (Aa.mk (p.fi.take p.fb.length) (uY p.fb.length (-1)) v10, 0)) (fun a i => (a, i)) p.fe.length (fun v10 => some (Aa.mk (p.fi.take p.fb.length) (uY p.fb.length (-1)) v10, 0))
   (fun i a => a = (p.fe.map (F9 p)).take i)
   (fun n i a hi ha => by
    subst ha
    have hx : p.fe[i]? = some p.fe[i] := by simp [hi]
    have hm : p.fe[i] ∈ p.fe := zB2 hi
    obtain ⟨n1, n2, n3, n4, _⟩ := SJ hv hm
    rw [Bn, AD (by simp only; omega)]
    simp only [A8, AW, hx, oS, FL, AG (show i < 1000000 by omega)]
    have hT : (p.fe.map (F9 p))[i]? = some (F9 p p.fe[i]) := by rw [vC, hx]; rfl
    have hlen : ((p.fe.map (F9 p)).take i).length + 1 ≤ DC := by simp [DC]; omega
    cases hs : BM p.fe[i]
    ·rw [An, Ap (by simpa using hlen)]
     refine ⟨_, rfl, ?_⟩
     rw [zB9, hT]
     unfold F9; rw [hs]; rfl
    ·rw [AJ]
     have e1 : BB p.fi p.fe[i].fg = some (p.fi.getD p.fe[i].fg.toNat 0) := by
      obtain ⟨q, hq⟩ := uZ n1
      rw [hq]; exact Dc (by rw [hq] at n2; simpa using n2)
     rw [e1]
     simp only [oS]
     rw [Ap n3, Ap (by simpa using hlen)]
     refine ⟨_, rfl, ?_⟩
     rw [zB9, hT]
     unfold F9; rw [hs]; rfl)
   (fun n a ha => by rw [Bn, AB (by simp)]) N 0 [] (vG _) (by omega) rfl
  have e3 : Bn N p (fun v10 => some (Aa.mk (p.fi.take p.fb.length) (uY p.fb.length (-1)) v10, 0)) N (([] : List Int), 0) = _ := e2
  rw [e3, hb]
  simp only [E4, ← hnow, zH0]
  rw [show p.fe.length = (p.fe.map (F9 p)).length from by simp, zH0]
 ·rw [if_neg hv, bne_iff_ne.2 hv, AJ]
theorem Me {p : Ab} (hv : De p = 0) : CG p (E4 p) := by
 obtain ⟨hp, hr⟩ := Eo hv
 have hnow := hp.now
 have hnx : ∀ i, i < p.fb.length → (uY p.fi.length (-1 : Int)).getD i 0 = -1 := fun i hi => by
  rw [lD, List.getElem?_replicate, if_pos (by omega)]; rfl
 have hone : ∀ (i : Nat) (t : AC), p.fe[i]? = some t → ∃ b : Nat, b < 6 ∧ p.fi.getD t.fg.toNat 0 = (b : Int) ∧ (b : Int) < p.fb.getD t.fg.toNat 0 ∧ t.fg.toNat < p.fb.length := fun i t ht => by
  obtain ⟨n1, n2, n3, n4, n5, n6⟩ := SJ hv (lM ht)
  obtain ⟨b, hb⟩ := uZ n3
  exact ⟨b, by omega, hb, by omega, n6⟩
 have hbit : ∀ b : Nat, b < 8 → ∀ v, Dh (D7 .u8 1 (b : Int)) v = decide (b = v) := fun b hb v => by
  by_cases h : v < 8
  ·exact (Kr ⟨b, hb⟩ ⟨v, h⟩).1
  ·rw [Kc (Kr ⟨b, hb⟩ ⟨0, by omega⟩).2.2 (by omega)]
   symm; apply decide_eq_false; omega
 refine { base := hnow, next := by simp [E4, hnow], held := by simp [E4], b0 := fun i hi => ⟨(hr i hi).1, (hr i hi).2.1⟩, n0 := fun i hi => ?_, ne := fun i hi => ?_, range := fun i hi => ?_, low := fun i t ht hs v hv' => ?_, high := fun i t ht hs v hb => ?_, none := fun i t ht hs => ?_ }
 ·show -1 ≤ (uY p.fi.length (-1 : Int)).getD i 0 ∧ (uY p.fi.length (-1 : Int)).getD i 0 < _
  rw [hnx i hi]
  have := Ic hp hi
  omega
 ·show p.fi.getD i 0 ≠ (uY p.fi.length (-1 : Int)).getD i 0
  rw [hnx i hi]
  have := hr i hi
  omega
 ·have hx : p.fe[i]? = some p.fe[i] := by simp [hi]
  show 0 ≤ (p.fe.map (F9 p)).getD i 0 ∧ (p.fe.map (F9 p)).getD i 0 ≤ 255
  rw [JZ hx]
  unfold F9
  split
  ·obtain ⟨b, h1, h2, _⟩ := hone i _ hx
   rw [h2]
   exact (Kr ⟨b, by omega⟩ ⟨0, by omega⟩).2
  ·omega
 ·show Dh ((p.fe.map (F9 p)).getD i 0) v = true
  obtain ⟨b, h1, h2, h3, h4⟩ := hone i t ht
  rw [JZ ht]
  unfold F9
  rw [if_pos hs, h2, hbit b (by omega)]
  unfold H7 at hv'
  have h5 : (E4 p).fd.getD t.fg.toNat 0 = (b : Int) := h2
  have h6 : (E4 p).fa.getD t.fg.toNat 0 = -1 := hnx _ h4
  rw [h5, h6, zC1, decide_eq_true_iff, decide_eq_true_iff] at hv'
  apply decide_eq_true; omega
 ·have hb : Dh ((p.fe.map (F9 p)).getD i 0) v = true := hb
  obtain ⟨b, h1, h2, h3, h4⟩ := hone i t ht
  rw [JZ ht] at hb
  unfold F9 at hb
  rw [if_pos hs, h2, hbit b (by omega), decide_eq_true_iff] at hb
  omega
 ·show (p.fe.map (F9 p)).getD i 0 = 0
  rw [JZ ht]; unfold F9; rw [hs]; rfl
theorem NB (x : BitVec 8) : wI .u8 (x.toNat : Int) = (x.toNat : Int) := by
 have := x.isLt
 simp [wI, IntKind.signed, IntKind.bits]
 omega
theorem RD (x : BitVec 8) : 0 ≤ (x.toNat : Int) ∧ (x.toNat : Int) ≤ 255 := by
 have := x.isLt
 omega
theorem UZ (x : BitVec 8) (v : Nat) : Dh (x.toNat : Int) v = x.getLsbD v := by
 unfold Dh; rw [vJ]; rfl
theorem Qy {a : Int} (ha : 0 ≤ a ∧ a ≤ 255) (v : Nat) : (BitVec.ofInt 8 a).getLsbD v = Dh a v := by
 obtain ⟨a, rfl⟩ := uZ ha.1
 unfold BitVec.getLsbD Dh
 rw [Tf (by omega), vJ]
theorem SF {a b : Int} (ha : 0 ≤ a ∧ a ≤ 255) (hb : 0 ≤ b ∧ b ≤ 255) : (∀ v, Dh (DH .u8 a b) v = (Dh a v && !Dh b v)) ∧ 0 ≤ DH .u8 a b ∧ DH .u8 a b ≤ 255 := by
 have e : DH .u8 a b = ((BitVec.ofInt 8 a &&& ~~~BitVec.ofInt 8 b).toNat : Int) := NB (BitVec.ofInt 8 a &&& ~~~BitVec.ofInt 8 b)
 rw [e]
 refine ⟨fun v => ?_, RD _⟩
 rw [UZ, BitVec.getLsbD_and, BitVec.getLsbD_not, Qy ha, Qy hb]
 by_cases h : v < 8
 ·simp [h]
 ·rw [Kc ha.2 (by omega)]; simp
theorem Sf {a b : Int} (ha : 0 ≤ a ∧ a ≤ 255) (hb : 0 ≤ b ∧ b ≤ 255) : (∀ v, Dh (MG .u8 a b) v = (Dh a v || Dh b v)) ∧ 0 ≤ MG .u8 a b ∧ MG .u8 a b ≤ 255 := by
 have e : MG .u8 a b = ((BitVec.ofInt 8 a ||| BitVec.ofInt 8 b).toNat : Int) := NB (BitVec.ofInt 8 a ||| BitVec.ofInt 8 b)
 rw [e]
 refine ⟨fun v => ?_, RD _⟩
 rw [UZ, BitVec.getLsbD_or, Qy ha, Qy hb]
theorem W8 {b : Nat} (hb : b < 8) : (∀ v, Dh (D7 .u8 1 (b : Int)) v = decide (b = v)) ∧ 0 ≤ D7 .u8 1 (b : Int) ∧ D7 .u8 1 (b : Int) ≤ 255 := by
 refine ⟨fun v => ?_, (Kr ⟨b, hb⟩ ⟨0, by omega⟩).2⟩
 by_cases h : v < 8
 ·exact (Kr ⟨b, hb⟩ ⟨v, h⟩).1
 ·rw [Kc (Kr ⟨b, hb⟩ ⟨0, by omega⟩).2.2 (by omega)]
  symm; apply decide_eq_false; omega
theorem UU (N : Nat) {s : Int} {v : Nat} (hs : 0 ≤ s ∧ s ≤ 255) (hv : v < 8) : CH N s (v : Int) = some (Dh s v) := by
 unfold CH
 rw [Ap (by omega), QE hs.1 hs.2 hv]
 cases Dh s v <;> rfl
def Xj (v : Nat) : Nat := ((vK 8).find? fun u => v.testBit u).getD 8
def Y8 (v : Nat) : Nat := ((vK 8).filter fun u => v.testBit u).length
theorem YA : ∀ v : Fin 256, Dj 0 (v.val : Int) = some (Xj v.val : Int) := by decide +kernel
theorem Zo (N : Nat) {v : Nat} (h : v < 256) : Dj N (v : Int) = some (Xj v : Int) := YA ⟨v, h⟩
theorem Ws : ∀ v : Fin 256, v.val ≠ 0 → Xj v.val < 8 ∧ Dh (v.val : Int) (Xj v.val) = true ∧ 0 ≤ F5 .u8 (v.val : Int) (wI .u8 ((v.val : Int) - 1)) ∧ F5 .u8 (v.val : Int) (wI .u8 ((v.val : Int) - 1)) ≤ 255 ∧
  Y8 (F5 .u8 (v.val : Int) (wI .u8 ((v.val : Int) - 1))).toNat + 1 = Y8 v.val ∧
  ∀ u : Fin 8, Dh (F5 .u8 (v.val : Int) (wI .u8 ((v.val : Int) - 1))) u.val = (Dh (v.val : Int) u.val && decide (u.val ≠ Xj v.val)) := by decide +kernel
theorem Z4 (v : Nat) : Y8 v ≤ 8 := by
 have := List.length_filter_le (fun u => v.testBit u) (vK 8)
 simpa [Y8] using this
theorem Q1 (N : Nat) (t : AC) (b : Int) (rw_ : Nat → Bool) : ∀ (k n v : Nat), Y8 v ≤ k → k < n → v < 256 →
  (∀ u, u < 8 → Dh (v : Int) u = true → ∃ row, BB t.fo (u : Int) = some row ∧ BB row b = some (rw_ u)) →
  DR N t b (fun _ => some true) n (v : Int) = some ((vK 8).all fun u => !Dh (v : Int) u || rw_ u)
 | k, 0, v, _, h, _, _ => by omega
 | k, n + 1, v, hk, hn, hv, hr => by
  rw [DR]
  by_cases h0 : v = 0
  ·subst h0
   have : (((0 : Nat) : Int) != 0) = false := rfl
   rw [this, An]
   congr 1
  ·have h1 : ((v : Int) != 0) = true := bne_iff_ne.2 (by omega)
   obtain ⟨l1, l2, l3, l4, l5, l6⟩ := Ws ⟨v, hv⟩ h0
   simp only at l1 l2 l3 l4 l5 l6
   obtain ⟨row, e1, e2⟩ := hr _ l1 l2
   rw [h1, AJ, Zo N hv]
   simp only [oS, e1, e2]
   obtain ⟨w, hw⟩ := uZ l3
   rw [hw] at l4 l5 l6 ⊢
   rw [vJ] at l5
   cases hq : rw_ (Xj v)
   ·rw [zA5, AJ]
    congr 1
    symm
    rw [List.all_eq_false]
    exact ⟨Xj v, by simpa using l1, by rw [l2, hq]; simp⟩
   ·rw [vM, An]
    match k, hk with
    | 0, hk => exfalso; omega
    | k + 1, hk =>
    rw [Q1 N t b rw_ k n w (by omega) (by omega) (by omega) (fun u hu hb => hr u hu (by have := l6 ⟨u, hu⟩; simp only at this; rw [hb] at this; simpa using (zE1.1 this.symm).1))]
    congr 1
    rw [zF9, uX, uX]
    refine ⟨fun h u hu => ?_, fun h u hu => ?_⟩
    ·have hu8 : u < 8 := by simpa using hu
     have h3 := h u hu
     have h4 := l6 ⟨u, hu8⟩
     simp only at h4
     rw [h4] at h3
     by_cases e : u = Xj v
     ·rw [e, hq]; simp
     ·simpa [e] using h3
    ·have hu8 : u < 8 := by simpa using hu
     have h3 := h u hu
     have h4 := l6 ⟨u, hu8⟩
     simp only at h4
     rw [h4]
     cases hb : Dh (v : Int) u
     ·simp
     ·rw [hb] at h3; simp at h3; simp [h3]
theorem Q9 (N : Nat) (m : Aa) (s : Int) (h0 : 0 ≤ s) (h1 : s < (m.fd.length : Int)) (h2 : s < (m.fa.length : Int)) (hb : 0 ≤ m.fd.getD s.toNat 0) : Gl N m s = some (GW m s.toNat) := by
 unfold Gl GW
 rw [E7 (d := 0) h0 h1, E7 (d := 0) h0 h2]
 simp only [oS, Bc]
 rw [show DQ (0 ≤ m.fd.getD s.toNat 0) = some () from by unfold DQ; rw [if_pos hb]]
 simp only [oS]
 by_cases h : 0 ≤ m.fa.getD s.toNat 0
 ·rw [AD h, if_pos h, show DQ (0 ≤ m.fa.getD s.toNat 0) = some () from by unfold DQ; rw [if_pos h]]; rfl
 ·rw [AB h, if_neg h]
theorem KH (N : Nat) (t : AC) : FV N t = some (BM t) := by
 unfold FV BM
 simp only [Bc]
 cases h : t.ff == 3 <;> simp
def HB (s : Aj) : Bool := decide (1 ≤ s.ff ∧ s.ff ≤ 4 ∧ 0 ≤ s.fh ∧ 0 ≤ s.fm) && (s.ff == 1 || s.fm == 0)
def Gr (p : Ab) (s : Aj) : Bool :=
 if s.ff = 3 then decide (s.fh < (p.fe.length : Int)) else decide (s.fh < (p.fb.length : Int)) && (s.ff != 1 || decide (s.fm < p.fb.getD s.fh.toNat 0))
theorem O8 (N : Nat) (s : Aj) : Hh N s = some (HB s) := by
 unfold Hh HB Uq
 simp only [Bc]
 by_cases h1 : (if s.fm < s.fh then s.fm else s.fh) < 0
 ·rw [AD h1, AJ, decide_eq_false (by split at h1 <;> omega)]; rfl
 ·rw [AB h1]
  by_cases h2 : s.ff < 1
  ·rw [AD h2, AJ, decide_eq_false (by omega)]; rfl
  ·rw [AB h2]
   by_cases h3 : 4 < s.ff
   ·rw [decide_eq_true h3, AJ, decide_eq_false (by omega)]; rfl
   ·rw [decide_eq_false h3, An, decide_eq_true (by split at h1 <;> omega), zA9]
    cases h4 : s.ff == 1 <;> simp
theorem Qz (N : Nat) (s : Aj) : EQ N s = some (HB s) := by
 unfold EQ HB
 simp only [Bc]
 by_cases h1 : 1 ≤ s.ff
 ·rw [AD h1]
  by_cases h2 : s.ff ≤ 4
  ·rw [AD h2]
   by_cases h3 : 0 ≤ s.fh
   ·rw [AD h3]
    by_cases h4 : 0 ≤ s.fm
    ·rw [AD h4, decide_eq_true (by omega), zA9]
     cases h5 : s.ff == 1 <;> simp
    ·rw [AB h4, decide_eq_false (by omega)]; rfl
   ·rw [AB h3, decide_eq_false (by omega)]; rfl
  ·rw [AB h2, decide_eq_false (by omega)]; rfl
 ·rw [AB h1, decide_eq_false (by omega)]; rfl
theorem NY (N : Nat) (p : Ab) (s : Aj) (hv : HB s = true) : Gz N p s = some (Gr p s) := by
 have h0 : 0 ≤ s.fh := by
  unfold HB at hv
  rw [uV, decide_eq_true_iff] at hv
  exact hv.1.2.2.1
 unfold Gz Gr
 simp only [Bc]
 by_cases h1 : s.ff = 3
 ·rw [if_pos h1, beq_iff_eq.2 h1, AJ]
 ·rw [if_neg h1, beq_eq_false_iff_ne.2 h1, An]
  by_cases h2 : s.fh < (p.fb.length : Int)
  ·rw [AD h2, decide_eq_true h2, zA9]
   cases h3 : s.ff != 1
   ·rw [An, E7 (d := 0) h0 h2, zE4]; rfl
   ·rw [AJ]; rfl
  ·rw [AB h2, decide_eq_false h2]; rfl
def Td (s : Aj) (t : AC) : Bool := t.fg == s.fh && BM t
def Ug (s : Aj) (i : Nat) (t : AC) (a : List Int) : List Int := if Td s t = true then a.set i (MG .u8 (a.getD i 0) (D7 .u8 1 s.fm)) else a
def IY (p : Ab) (s : Aj) (held : List Int) : List Int := ID (Ug s) 0 p.fe held
theorem NG {_R : Type} (N : Nat) (p : Ab) (s : Aj) (held : List Int) (hv : 0 ≤ s.fm) (hl : held.length = p.fe.length) (h12 : p.fe.length < N) (hN : N ≤ 1000000) (j : List Int → Option (Bool × List Int × List Int)) :
  D8 N p s j N (held, 0) = j (IY p s held) ∧ (IY p s held).length = p.fe.length := by
 have := IV (D8 N p s j) (fun a i => (a, i)) p.fe j (Ug s) (fun i a => a.length = p.fe.length)
  (fun n i x a hx ha => by
   have hi := (lI.1 hx).1
   rw [D8, AD (by simp only; omega)]
   simp only [A8, AW, hx, oS, KH, AG (show i < 1000000 by omega)]
   have e2 : a[i]? = some (a.getD i 0) := by rw [lD]; simp [show i < a.length from by omega]
   unfold Ug Td
   cases h1 : x.fg == s.fh
   ·rw [An, An, zH5, if_neg (by simp)]; exact ⟨rfl, ha⟩
   ·rw [AJ, zA9]
    cases h2 : BM x
    ·rw [An, if_neg (by simp)]; exact ⟨rfl, ha⟩
    ·rw [AJ, e2, if_pos rfl]
     simp only [oS]
     rw [Ap hv]
     exact ⟨rfl, by simpa using ha⟩)
  (fun n a ha => by rw [D8, AB (by simp)]) N 0 held (vG _) (by omega) hl
 rw [vS] at this
 exact this
theorem OC (N : Nat) (p : Ab) (s : Aj) (held : List Int) (hv : 0 ≤ s.fm) (hl : held.length = p.fe.length) (h12 : p.fe.length < N) (hN : N ≤ 1000000) (j : List Int → Option (Aa × Bool)) :
  Cf N p s j N (held, 0) = j (IY p s held) := by
 have := IV (Cf N p s j) (fun a i => (a, i)) p.fe j (Ug s) (fun i a => a.length = p.fe.length)
  (fun n i x a hx ha => by
   have hi := (lI.1 hx).1
   rw [Cf, AD (by simp only; omega)]
   simp only [A8, AW, hx, oS, FL, AG (show i < 1000000 by omega)]
   have e2 : a[i]? = some (a.getD i 0) := by rw [lD]; simp [show i < a.length from by omega]
   unfold Ug Td
   cases h1 : x.fg == s.fh
   ·rw [An, An, zH5, if_neg (by simp)]; exact ⟨rfl, ha⟩
   ·rw [AJ, zA9]
    cases h2 : BM x
    ·rw [An, if_neg (by simp)]; exact ⟨rfl, ha⟩
    ·rw [AJ, e2, if_pos rfl]
     simp only [oS]
     rw [Ap hv]
     exact ⟨rfl, by simpa using ha⟩)
  (fun n a ha => by rw [Cf, AB (by simp)]) N 0 held (vG _) (by omega) hl
 rw [vS] at this
 exact this.1
def Ll (m : Aa) (t : AC) (u : Nat) : Bool := (t.fo.getD u []).getD (m.fd.getD t.fg.toNat 0).toNat false
def N7 (m : Aa) (i : Nat) (t : AC) (u : Nat) : Bool := Dh (m.fc.getD i 0) u && !H7 m t.fg.toNat u
def IB (_p : Ab) (m : Aa) (i : Nat) (t : AC) : Bool := t.ff == 4 && (vK 8).any fun u => N7 m i t u && !Ll m t u
def Gp (p : Ab) (m : Aa) (s : Aj) : Option Aa :=
 let i := s.fh.toNat
 if s.ff = 1 then (if 0 ≤ m.fa.getD i 0 ∨ m.fd.getD i 0 = s.fm then none else some ⟨m.fd, m.fa.set i s.fm, IY p s m.fc⟩)
 else if s.ff = 3 then match p.fe[i]? with
  | none => none
  | some t => if BM t = false ∨ m.fc.getD i 0 = GW m t.fg.toNat ∨ IB p m i t = true then none else some ⟨m.fd, m.fa, m.fc.set i (GW m t.fg.toNat)⟩
 else if m.fa.getD i 0 < 0 then none
 else some ⟨if s.ff = 2 then m.fd.set i (m.fa.getD i 0) else m.fd, m.fa.set i (-1), m.fc⟩
def BI (p : Ab) (m : Aa) (s : Aj) : Aa × Int :=
 if HB s = false then (Hg, 1) else if Gr p s = false then (Hg, 4) else match Gp p m s with
  | none => (Hg, 11)
  | some x => (x, 0)
end Go.Lift
namespace Go.Lift
open Option renaming bind_some → oS
open List renaming mem_of_getElem? → lM
open List renaming getElem?_eq_some_iff → lI
open List renaming getD_eq_getElem?_getD → lD
open Go
section clear
variable {p : Ab} {m : Aa} {i : Nat} {t : AC}
theorem Vt (hp : B0 p) (hm : CG p m) (ht : p.fe[i]? = some t) (hs : BM t = true) {u : Nat} (h : Dh (m.fc.getD i 0) u = true) : (u : Int) < p.fb.getD t.fg.toNat 0 ∧ u < 6 ∧ t.fg.toNat < p.fb.length := by
 have h1 := hm.high i t ht hs u h
 have hin := Jq (hp.tab t (lM ht))
 have h2 := Ic hp (i := t.fg.toNat) (by omega)
 exact ⟨h1, by omega, by omega⟩
theorem Vb (hp : B0 p) (hm : CG p m) (ht : p.fe[i]? = some t) (hs : BM t = true) (h4 : t.ff = 4) {u : Nat} (h : Dh (m.fc.getD i 0) u = true) :
  BB t.fo (u : Int) = some (t.fo.getD u []) ∧ BB (t.fo.getD u []) (m.fd.getD t.fg.toNat 0) = some (Ll m t u) := by
 have hT := KJ (hp.tab t (lM ht))
 obtain ⟨h1, h2, h3⟩ := Vt hp hm ht hs h
 have hl := hT.reL h4
 have e : t.fo[u]? = some (t.fo.getD u []) := by rw [lD]; simp [show u < t.fo.length from by omega]
 have hr := hT.reR _ (lM e)
 have hb := hm.b0 t.fg.toNat h3
 refine ⟨by rw [AW, e], ?_⟩
 unfold Ll
 obtain ⟨b, hb'⟩ := uZ hb.1
 rw [hb'] at hb ⊢
 rw [vJ]
 exact Dc (by omega)
theorem O2 (N : Nat) (hN : N ≤ 1000000) (h20 : 100 ≤ N) (hp : B0 p) (hm : CG p m) (ht : p.fe[i]? = some t) :
  Hi N p m (i : Int) = some (if BM t = false ∨ m.fc.getD i 0 = GW m t.fg.toNat ∨ IB p m i t = true then (false, m.fc) else (true, m.fc.set i (GW m t.fg.toNat))) := by
 have hi := (lI.1 ht).1
 have hin := Jq (hp.tab t (lM ht))
 have hb := hm.base
 have hnx := hm.next
 have hh := hm.held
 have hr := Im hp hm.toMixServ (s := t.fg.toNat) (by omega)
 have hrg := hm.range i hi
 have eh : BB m.fc (i : Int) = some (m.fc.getD i 0) := Dc (by omega)
 unfold Hi
 simp only [A8, AW, ht, oS, KH]
 have eh' : m.fc[i]? = some (m.fc.getD i 0) := by rw [← AW, eh]
 cases hs : BM t
 ·rw [zA5, AJ, if_pos (.inl rfl)]
 ·rw [vM, An, Q9 N m _ hin.1 (by omega) (by omega) (hm.b0 _ (by omega)).1]
  simp only [oS, eh']
  by_cases h1 : m.fc.getD i 0 = GW m t.fg.toNat
  ·rw [beq_iff_eq.2 h1, AJ, AJ, if_pos (.inr (.inl h1))]
  ·rw [beq_eq_false_iff_ne.2 h1, An]
   by_cases h4 : t.ff = 4
   ·rw [beq_iff_eq.2 h4, AJ, E7 (d := 0) hin.1 (by omega)]
    simp only [oS]
    obtain ⟨a1, a2, a3⟩ := SF hrg hr.2
    obtain ⟨w, hw⟩ := uZ a2
    unfold Ga
    rw [hw] at a1 a3 ⊢
    rw [Q1 N t _ (Ll m t) 8 N w (Z4 _) (by omega) (by omega) (fun u hu hbu => by
     have := a1 u; rw [hbu] at this
     exact ⟨_, Vb hp hm ht hs h4 (zE1.1 this.symm).1⟩)]
    simp only [oS]
    have e : (!(vK 8).all fun u => !Dh (w : Int) u || Ll m t u) = IB p m i t := by
     unfold IB
     rw [beq_iff_eq.2 h4, zA9, List.not_all_eq_any_not]
     congr 1
     funext u
     rw [a1 u, hr.1 u]
     unfold N7
     cases Dh (m.fc.getD i 0) u <;> cases H7 m t.fg.toNat u <;> cases Ll m t u <;> rfl
    rw [e]
    cases hst : IB p m i t
    ·rw [An, if_neg (by rintro (h | h | h); cases h; exact h1 h; cases h)]; rfl
    ·rw [AJ, if_pos (.inr (.inr rfl))]
   ·have e : IB p m i t = false := by unfold IB; rw [beq_eq_false_iff_ne.2 h4]; rfl
    rw [beq_eq_false_iff_ne.2 h4, An, An, e, if_neg (by rintro (h | h | h); cases h; exact h1 h; cases h)]; rfl
theorem N2 (N : Nat) (hN : N ≤ 1000000) (h20 : 100 ≤ N) (hp : B0 p) (hm : CG p m) (ht : p.fe[i]? = some t) (hs : BM t = true) (s : Aj) (hsi : s.fh = (i : Int)) (j : Option (Aa × Bool)) :
  BU N p m s t (GW m t.fg.toNat) (fun _ => j) N 0 = if IB p m i t = true then some (Hg, false) else j := by
 have hi := (lI.1 ht).1
 have hin := Jq (hp.tab t (lM ht))
 have hb := hm.base
 have hh := hm.held
 have hr := Im hp hm.toMixServ (s := t.fg.toNat) (by omega)
 have hrg := hm.range i hi
 have hver := Ic hp (i := t.fg.toNat) (by omega)
 obtain ⟨nv, hnv⟩ := uZ (show 0 ≤ p.fb.getD t.fg.toNat 0 by omega)
 have eh' : m.fc[i]? = some (m.fc.getD i 0) := by rw [lD]; simp [show i < m.fc.length from by omega]
 have := Dq (BU N p m s t (GW m t.fg.toNat) fun _ => j) (vK nv) j (fun u _ => if (N7 m i t u && (t.ff == 4 && !Ll m t u)) = true then some (Hg, false) else none)
  (fun n u x hx => by
   have hu : u < nv := by
    have := (lI.1 hx).1
    simpa using this
   rw [BU, E7 (d := 0) hin.1 (by omega), hnv]
   simp only [oS]
   rw [AD (by omega)]
   simp only [A8, hsi, AW, eh', oS]
   rw [UU N hrg (by omega), AG (by omega)]
   simp only [oS]
   cases h1 : Dh (m.fc.getD i 0) u
   ·have e : N7 m i t u = false := by unfold N7; rw [h1]; rfl
    rw [An, An, An, e]; rfl
   ·rw [AJ, UU N hr.2 (by omega), hr.1 u]
    simp only [oS]
    have e : N7 m i t u = !H7 m t.fg.toNat u := by unfold N7; rw [h1]; rfl
    rw [← e]
    cases h2 : N7 m i t u
    ·rw [An, An]; rfl
    ·rw [AJ]
     by_cases h4 : t.ff = 4
     ·obtain ⟨e1, e2⟩ := Vb hp hm ht hs h4 h1
      rw [AW] at e1
      rw [beq_iff_eq.2 h4, AJ, e1, E7 (d := 0) hin.1 (by omega)]
      simp only [oS]
      rw [e2]
      simp only [oS]
      cases Ll m t u <;> rfl
     ·rw [beq_eq_false_iff_ne.2 h4, An, An]; rfl)
  (fun n => by
   rw [BU, E7 (d := 0) hin.1 (by omega), hnv]
   simp only [oS, zD9]
   rw [AB (by omega)]) N 0 (vG _) (by simp; omega)
 have e0 : BU N p m s t (GW m t.fg.toNat) (fun _ => j) N 0 = _ := this
 rw [e0, vS]
 by_cases hst : IB p m i t = true
 ·rw [if_pos hst]
  unfold IB at hst
  rw [uV, zD2] at hst
  obtain ⟨h4, u, hu, h5⟩ := hst
  rw [uV] at h5
  have h6 : Dh (m.fc.getD i 0) u = true := by have := h5.1; unfold N7 at this; exact (zE1.1 this).1
  have h7 := Vt hp hm ht hs h6
  cases hsc : D2 (fun u (_ : Nat) => if (N7 m i t u && (t.ff == 4 && !Ll m t u)) = true then some (Hg, false) else none) 0 (vK nv) with
  | some r =>
   obtain ⟨q, x, hx, hf⟩ := EL hsc
   split at hf
   ·cases hf; rfl
   ·cases hf
  | none =>
   exfalso
   have hx : (vK nv)[u]? = some u := List.getElem?_range (by omega)
   have := FY hsc u u hx
   rw [uT, h5.1, h4, h5.2] at this
   cases this
 ·rw [if_neg hst]
  have : D2 (fun u (_ : Nat) => if (N7 m i t u && (t.ff == 4 && !Ll m t u)) = true then some (Hg, false) else none) 0 (vK nv) = none := Gd fun q x hx => by
   rw [uT]
   split
   ·rename_i h5
    exfalso; apply hst
    rw [uV, uV] at h5
    unfold IB
    rw [h5.2.1, zA9, zD2]
    have hq : q < nv := by
     have := (lI.1 hx).1
     simpa using this
    exact ⟨q, zF6.2 (by omega), by rw [h5.1, h5.2.2]; rfl⟩
   ·rfl
  rw [this]; rfl
end clear
end Go.Lift
namespace Go.Lift
open Option renaming bind_some → oS
open List renaming mem_of_getElem? → lM
open Go
theorem JT {s : Aj} (h : HB s = true) : 1 ≤ s.ff ∧ s.ff ≤ 4 ∧ 0 ≤ s.fh ∧ 0 ≤ s.fm ∧ (s.ff ≠ 1 → s.fm = 0) := by
 unfold HB at h
 rw [uV, decide_eq_true_iff, zC1, beq_iff_eq, beq_iff_eq] at h
 exact ⟨h.1.1, h.1.2.1, h.1.2.2.1, h.1.2.2.2, fun hk => h.2.elim (fun e => (hk e).elim) id⟩
theorem K9 {p : Ab} {s : Aj} (h : Gr p s = true) : (s.ff = 3 → s.fh < (p.fe.length : Int)) ∧ (s.ff ≠ 3 → s.fh < (p.fb.length : Int)) ∧ (s.ff = 1 → s.fm < p.fb.getD s.fh.toNat 0) := by
 unfold Gr at h
 split at h
 ·rename_i hk
  rw [decide_eq_true_iff] at h
  exact ⟨fun _ => h, fun hn => (hn hk).elim, fun h1 => by omega⟩
 ·rename_i hk
  rw [uV, decide_eq_true_iff, zC1, decide_eq_true_iff, bne_iff_ne] at h
  exact ⟨fun h3 => (hk h3).elim, fun _ => h.1, fun h1 => h.2.elim (fun hn => (hn h1).elim) id⟩
theorem TW (N : Nat) {p : Ab} {m : Aa} (hp : B0 p) (hm : CG p m) : GF N m = some m := by
 have hnv := hp.nv
 have hnt := hp.nt
 have h1 := hm.base
 have h2 := hm.next
 have h3 := hm.held
 unfold GF
 rw [J0 N _ (by simp only [DC]; omega), J0 N _ (by simp only [DC]; omega), Pw N _ (by simp only [DC]; omega)]
 rfl
theorem Ln (N : Nat) (hN : N ≤ 1000000) (h20 : 100 ≤ N) {p : Ab} {m : Aa} (hp : B0 p) (hm : CG p m) {s : Aj} (hv : HB s = true) (hx : Gr p s = true) :
  ∃ o, FJ N p m s = some (o, (Gp p m s).isSome) ∧ ∀ x, Gp p m s = some x → o = x := by
 obtain ⟨k1, k4, i0, v0, vk⟩ := JT hv
 obtain ⟨x3, xn, x1⟩ := K9 hx
 have hnv := hp.nv
 have hnt := hp.nt
 have hb := hm.base
 have hn := hm.next
 have hh := hm.held
 obtain ⟨i, hi⟩ := uZ i0
 unfold FJ Gp
 rw [TW N hp hm]
 simp only [oS, A8]
 by_cases hk1 : s.ff = 1
 ·have hi1 : (i : Int) < p.fb.length := by have := xn (by omega); omega
  rw [beq_iff_eq.2 hk1, AJ, if_pos hk1]
  unfold Ih
  simp only [A8, hi, vJ]
  rw [Dc (d := 0) (show i < m.fa.length by omega)]
  simp only [oS]
  by_cases c1 : 0 ≤ m.fa.getD i 0
  ·rw [AD c1, AJ, if_pos (.inl c1)]
   exact ⟨_, rfl, fun x hx => by cases hx⟩
  ·rw [AB c1, Dc (d := 0) (show i < m.fd.length by omega)]
   simp only [oS]
   by_cases c2 : m.fd.getD i 0 = s.fm
   ·rw [beq_iff_eq.2 c2, AJ, if_pos (.inr c2)]
    exact ⟨_, rfl, fun x hx => by cases hx⟩
   ·rw [beq_eq_false_iff_ne.2 c2, An, (NG (_R := Unit) N p s m.fc v0 hh (by omega) hN _).1, if_neg (by rintro (h | h); exact c1 h; exact c2 h)]
    exact ⟨_, rfl, fun x hx => by cases hx; rfl⟩
 ·rw [beq_eq_false_iff_ne.2 hk1, An, if_neg hk1]
  by_cases hk3 : s.ff = 3
  ·have hi3 : i < p.fe.length := by have := x3 hk3; omega
   have ht : p.fe[i]? = some p.fe[i] := by simp [hi3]
   rw [beq_iff_eq.2 hk3, AJ, if_pos hk3, hi, O2 N hN h20 hp hm ht]
   simp only [oS, vJ, ht]
   split
   ·exact ⟨_, rfl, fun x hx => by cases hx⟩
   ·exact ⟨_, rfl, fun x hx => by cases hx; rfl⟩
  ·have hi1 : (i : Int) < p.fb.length := by have := xn hk3; omega
   rw [beq_eq_false_iff_ne.2 hk3, An, if_neg hk3, hi, Dc (d := 0) (show i < m.fa.length by omega)]
   simp only [oS, vJ]
   by_cases c1 : m.fa.getD i 0 < 0
   ·rw [AD c1, if_pos c1]
    exact ⟨_, rfl, fun x hx => by cases hx⟩
   ·rw [AB c1, if_neg c1]
    by_cases hk2 : s.ff = 2
    ·rw [beq_iff_eq.2 hk2, AJ, Dc (d := 0) (show i < m.fd.length by omega), if_pos hk2]
     exact ⟨_, rfl, fun x hx => by cases hx; rfl⟩
    ·rw [beq_eq_false_iff_ne.2 hk2, An, if_neg hk2]
     exact ⟨_, rfl, fun x hx => by cases hx; rfl⟩
theorem Pa (N : Nat) (hN : N ≤ 1000000) (h20 : 100 ≤ N) {p : Ab} {m : Aa} (hp : B0 p) (hm : CG p m) (s : Aj) : He N p m s = some (BI p m s) := by
 unfold He BI
 rw [O8]
 simp only [oS]
 cases hv : HB s
 ·rw [zA5, AJ, if_pos rfl]; rfl
 ·rw [vM, An, if_neg (by simp), NY N p s hv]
  simp only [oS]
  cases hx : Gr p s
  ·rw [zA5, AJ, if_pos rfl]; rfl
  ·rw [vM, An, if_neg (by simp)]
   obtain ⟨o, e, ho⟩ := Ln N hN h20 hp hm hv hx
   rw [e]
   simp only [oS]
   cases ha : Gp p m s with
   | none => rfl
   | some x => rw [ho x ha]; rfl
theorem Mr (N : Nat) (hN : N ≤ 1000000) (h20 : 100 ≤ N) {p : Ab} {m : Aa} (hp : B0 p) (hm : CG p m) {s : Aj} (hv : HB s = true) (hx : Gr p s = true) :
  Cz N p m s = some (match Gp p m s with | none => (Hg, false) | some x => (x, true)) := by
 obtain ⟨k1, k4, i0, v0, vk⟩ := JT hv
 obtain ⟨x3, xn, x1⟩ := K9 hx
 have hnv := hp.nv
 have hnt := hp.nt
 have hb := hm.base
 have hn := hm.next
 have hh := hm.held
 obtain ⟨i, hi⟩ := uZ i0
 unfold Cz Gp
 rw [Ap (by simp [DC]; omega), Ap (by simp [DC]; omega), Ap (by simp [DC]; omega)]
 simp only [A8, zE8]
 by_cases hk1 : s.ff = 1
 ·have hi1 : (i : Int) < p.fb.length := by have := xn (by omega); omega
  rw [beq_iff_eq.2 hk1, AJ, if_pos hk1]
  simp only [hi, vJ]
  rw [Dc (d := 0) (show i < m.fa.length by omega)]
  simp only [oS]
  by_cases c1 : 0 ≤ m.fa.getD i 0
  ·rw [AD c1, AJ, if_pos (.inl c1)]; rfl
  ·rw [AB c1, Dc (d := 0) (show i < m.fd.length by omega)]
   simp only [oS]
   by_cases c2 : m.fd.getD i 0 = s.fm
   ·rw [beq_iff_eq.2 c2.symm, AJ, if_pos (.inr c2)]; rfl
   ·rw [beq_eq_false_iff_ne.2 (fun h => c2 h.symm), An, OC N p s m.fc v0 hh (by omega) hN _, if_neg (by rintro (h | h); exact c1 h; exact c2 h)]
 ·rw [beq_eq_false_iff_ne.2 hk1, An, if_neg hk1]
  by_cases hk3 : s.ff = 3
  ·have hi3 : i < p.fe.length := by have := x3 hk3; omega
   have ht : p.fe[i]? = some p.fe[i] := by simp [hi3]
   have hin := Jq (hp.tab _ (lM ht))
   have eh' : BB m.fc (i : Int) = some (m.fc.getD i 0) := Dc (by omega)
   rw [beq_eq_false_iff_ne.2 (show s.ff ≠ 2 by omega), An, beq_iff_eq.2 hk3, AJ, if_pos hk3, hi, AW, ht]
   simp only [oS, FL, vJ, ht]
   cases hs : BM p.fe[i]
   ·rw [zA5, AJ, if_pos (.inl rfl)]; rfl
   ·rw [vM, An, Ji N m _ hin.1 (by omega) (by omega) (hm.b0 _ (by omega)).1, eh']
    simp only [oS]
    by_cases h1 : m.fc.getD i 0 = GW m (p.fe[i]).fg.toNat
    ·rw [beq_iff_eq.2 h1, AJ, if_pos (.inr (.inl h1))]; rfl
    ·rw [beq_eq_false_iff_ne.2 h1, An]
     rw [N2 N hN h20 hp hm ht hs s hi]
     cases hst : IB p m i p.fe[i]
     ·rw [if_neg (by simp), if_neg (by rintro (h | h | h); cases h; exact h1 h; cases h)]
     ·rw [if_pos rfl, if_pos (.inr (.inr rfl))]
  ·have hi1 : (i : Int) < p.fb.length := by have := xn hk3; omega
   rw [if_neg hk3, hi, Dc (d := 0) (show i < m.fa.length by omega)]
   simp only [oS, vJ]
   by_cases hk2 : s.ff = 2
   ·rw [beq_iff_eq.2 hk2, AJ, if_pos hk2]
    by_cases c1 : m.fa.getD i 0 < 0
    ·rw [AD c1, if_pos c1]; rfl
    ·rw [AB c1, if_neg c1, Dc (d := 0) (show i < m.fd.length by omega)]; rfl
   ·rw [beq_eq_false_iff_ne.2 hk2, An, beq_eq_false_iff_ne.2 hk3, An, if_neg hk2]
    by_cases c1 : m.fa.getD i 0 < 0
    ·rw [AD c1, if_pos c1]; rfl
    ·rw [AB c1, if_neg c1]
end Go.Lift
namespace Go.Lift
open Option renaming bind_some → oS
open List renaming mem_of_getElem? → lM
open List renaming getElem?_eq_some_iff → lI
open Go
theorem RP (s : Aj) : ∀ (xs : List AC) (i : Nat) (a : List Int), i + xs.length ≤ a.length → (ID (Ug s) i xs a).length = a.length ∧ ∀ q, (ID (Ug s) i xs a).getD q 0 = match (if i ≤ q then xs[q - i]? else none) with
  | some t => if Td s t = true then MG .u8 (a.getD q 0) (D7 .u8 1 s.fm) else a.getD q 0
  | none => a.getD q 0
 | [], i, a, _ => by
  refine ⟨rfl, fun q => ?_⟩
  split
  ·rename_i h; split at h
   ·simp at h
   ·cases h
  ·rfl
 | x :: xs, i, a, hl => by
  have hl' : i + (xs.length + 1) ≤ a.length := by simpa using hl
  have ha : (Ug s i x a).length = a.length := by unfold Ug; split <;> simp
  obtain ⟨ih1, ih2⟩ := RP s xs (i + 1) (Ug s i x a) (by omega)
  refine ⟨by rw [ID, ih1, ha], fun q => ?_⟩
  rw [ID, ih2 q]
  have hu : (Ug s i x a).getD q 0 = if q = i ∧ Td s x = true then MG .u8 (a.getD q 0) (D7 .u8 1 s.fm) else a.getD q 0 := by
   unfold Ug
   by_cases hc : Td s x = true
   ·rw [if_pos hc, Jf (by omega)]
    by_cases hq : q = i
    ·subst hq; rw [if_pos rfl, if_pos ⟨rfl, hc⟩]
    ·rw [if_neg hq, if_neg (fun h => hq h.1)]
   ·rw [if_neg hc, if_neg (fun h => hc h.2)]
  by_cases h1 : i + 1 ≤ q
  ·rw [if_pos h1, if_pos (show i ≤ q by omega), hu, if_neg (by omega)]
   rw [show (x :: xs)[q - i]? = xs[q - (i + 1)]? from by rw [show q - i = (q - (i + 1)) + 1 from by omega, zI4]]
  ·rw [if_neg h1]
   by_cases h2 : q = i
   ·subst h2
    rw [if_pos (vN _), Nat.sub_self, hu]
    simp
   ·rw [if_neg (show ¬ i ≤ q by omega), hu, if_neg (by omega)]
theorem TO {p : Ab} {s : Aj} {held : List Int} (hl : held.length = p.fe.length) : (IY p s held).length = p.fe.length ∧ ∀ q t, p.fe[q]? = some t → (IY p s held).getD q 0 = if Td s t = true then MG .u8 (held.getD q 0) (D7 .u8 1 s.fm) else held.getD q 0 := by
 obtain ⟨h1, h2⟩ := RP s p.fe 0 held (by omega)
 refine ⟨h1.trans hl, fun q t ht => ?_⟩
 have := h2 q
 rw [if_pos (vG _), Nat.sub_zero, ht] at this
 exact this
theorem Oo {m : Aa} {s v : Nat} : H7 m s v = true ↔ m.fd.getD s 0 = (v : Int) ∨ m.fa.getD s 0 = (v : Int) := by
 unfold H7; rw [zC1, decide_eq_true_iff, decide_eq_true_iff]
theorem Vg {p : Ab} {m x : Aa} (hp : B0 p) (hm : CG p m) {s : Aj} (hv : HB s = true) (hx : Gr p s = true) (h : Gp p m s = some x) : CG p x := by
 obtain ⟨k1, k4, i0, v0, vk⟩ := JT hv
 obtain ⟨x3, xn, x1⟩ := K9 hx
 obtain ⟨i, hi⟩ := uZ i0
 have hb := hm.base
 have hn := hm.next
 have hh := hm.held
 unfold Gp at h
 simp only [hi, vJ] at h
 rw [hi, vJ] at x1
 split at h
 ·rename_i hk1
  have hi1 : i < p.fb.length := by have := xn (by omega); omega
  have hx1 := x1 hk1
  have hvi := Ic hp hi1
  split at h
  ·cases h
  rename_i hc
  cases h
  obtain ⟨u1, u2⟩ := TO (s := s) hh
  obtain ⟨b, hbv⟩ := uZ v0
  have hob := W8 (b := b) (by omega)
  have hN : ∀ q, (m.fa.set i s.fm).getD q 0 = if q = i then s.fm else m.fa.getD q 0 := fun q => Jf (by omega)
  refine { base := hb, next := by simpa using hn, held := u1, b0 := hm.b0, n0 := fun q hq => ?_, ne := fun q hq => ?_, range := fun q hq => ?_, low := fun q t ht hs v hr => ?_, high := fun q t ht hs v hbit => ?_, none := fun q t ht hs => ?_ }
  ·show -1 ≤ (m.fa.set i s.fm).getD q 0 ∧ (m.fa.set i s.fm).getD q 0 < _
   rw [hN q]
   split
   ·rename_i e; subst e; omega
   ·exact hm.n0 q hq
  ·show m.fd.getD q 0 ≠ (m.fa.set i s.fm).getD q 0
   rw [hN q]
   split
   ·rename_i e; subst e; exact fun h => hc (.inr h)
   ·exact hm.ne q hq
  ·have ht : p.fe[q]? = some p.fe[q] := by simp [hq]
   show 0 ≤ (IY p s m.fc).getD q 0 ∧ (IY p s m.fc).getD q 0 ≤ 255
   rw [u2 q _ ht, hbv]
   split
   ·exact (Sf (hm.range q hq) hob.2).2
   ·exact hm.range q hq
  ·have hq := (lI.1 ht).1
   show Dh ((IY p s m.fc).getD q 0) v = true
   have hin := Jq (hp.tab t (lM ht))
   rw [Oo] at hr
   have hr : m.fd.getD t.fg.toNat 0 = (v : Int) ∨ (m.fa.set i s.fm).getD t.fg.toNat 0 = (v : Int) := hr
   rw [hN] at hr
   rw [u2 q t ht, hbv]
   have hlow := hm.low q t ht hs v
   rw [Oo] at hlow
   by_cases hf : t.fg.toNat = i
   ·have hup : Td s t = true := by unfold Td; rw [hs, zH9, beq_iff_eq, hi]; omega
    rw [if_pos hup, (Sf (hm.range q hq) hob.2).1, hob.1 v, zC1, decide_eq_true_iff]
    rw [if_pos hf] at hr
    rcases hr with h | h
    ·exact .inl (hlow (.inl h))
    ·right; omega
   ·rw [if_neg hf] at hr
    have hup : Td s t = false := by unfold Td; rw [hs, zH9, beq_eq_false_iff_ne, hi]; omega
    rw [hup, if_neg (by simp)]
    exact hlow hr
  ·have hq := (lI.1 ht).1
   have hbit : Dh ((IY p s m.fc).getD q 0) v = true := hbit
   have hin := Jq (hp.tab t (lM ht))
   rw [u2 q t ht, hbv] at hbit
   split at hbit
   ·rename_i hup
    rw [(Sf (hm.range q hq) hob.2).1, hob.1 v, zC1, decide_eq_true_iff] at hbit
    rcases hbit with h | h
    ·exact hm.high q t ht hs v h
    ·unfold Td at hup
     rw [hs, zH9, beq_iff_eq, hi] at hup
     rw [hup, vJ]; omega
   ·exact hm.high q t ht hs v hbit
  ·show (IY p s m.fc).getD q 0 = 0
   have hup : Td s t = false := by unfold Td; rw [hs, Bool.and_false]
   rw [u2 q t ht, hup, if_neg (by simp)]
   exact hm.none q t ht hs
 ·rename_i hk1
  split at h
  ·rename_i hk3
   have hi3 : i < p.fe.length := by have := x3 hk3; omega
   have ht0 : p.fe[i]? = some p.fe[i] := by simp [hi3]
   rw [ht0] at h
   simp only at h
   split at h
   ·cases h
   rename_i hc
   cases h
   have hin0 := Jq (hp.tab _ (lM ht0))
   have hr0 := Im hp hm.toMixServ (s := (p.fe[i]).fg.toNat) (by omega)
   have hs0 : BM p.fe[i] = true := by
    cases hs : BM p.fe[i]
    ·exact (hc (.inl hs)).elim
    ·rfl
   have hH : ∀ q, (m.fc.set i (GW m (p.fe[i]).fg.toNat)).getD q 0 = if q = i then GW m (p.fe[i]).fg.toNat else m.fc.getD q 0 := fun q => Jf (by omega)
   refine { base := hb, next := hn, held := by simpa using hh, b0 := hm.b0, n0 := hm.n0, ne := hm.ne, range := fun q hq => ?_, low := fun q t ht hs v hr => ?_, high := fun q t ht hs v hbit => ?_, none := fun q t ht hs => ?_ }
   ·show 0 ≤ (m.fc.set i (GW m (p.fe[i]).fg.toNat)).getD q 0 ∧ (m.fc.set i (GW m (p.fe[i]).fg.toNat)).getD q 0 ≤ 255
    rw [hH q]
    split
    ·exact hr0.2
    ·exact hm.range q hq
   ·show Dh ((m.fc.set i (GW m (p.fe[i]).fg.toNat)).getD q 0) v = true
    have hr : H7 m t.fg.toNat v = true := hr
    rw [hH q]
    split
    ·rename_i e; subst e
     rw [ht0] at ht; cases ht
     rw [hr0.1]; exact hr
    ·exact hm.low q t ht hs v hr
   ·have hbit : Dh ((m.fc.set i (GW m (p.fe[i]).fg.toNat)).getD q 0) v = true := hbit
    rw [hH q] at hbit
    split at hbit
    ·rename_i e; subst e
     rw [ht0] at ht; cases ht
     rw [hr0.1] at hbit
     exact hm.high q _ ht0 hs0 v (hm.low q _ ht0 hs0 v hbit)
    ·exact hm.high q t ht hs v hbit
   ·show (m.fc.set i (GW m (p.fe[i]).fg.toNat)).getD q 0 = 0
    rw [hH q, if_neg (fun e => by subst e; rw [ht0] at ht; cases ht; rw [hs0] at hs; cases hs)]
    exact hm.none q t ht hs
  ·rename_i hk3
   have hi1 : i < p.fb.length := by have := xn hk3; omega
   have hvi := Ic hp hi1
   split at h
   ·cases h
   rename_i hc
   cases h
   have hN : ∀ q, (m.fa.set i (-1)).getD q 0 = if q = i then -1 else m.fa.getD q 0 := fun q => Jf (by omega)
   have hB : ∀ q, (if s.ff = 2 then m.fd.set i (m.fa.getD i 0) else m.fd).getD q 0 = if s.ff = 2 ∧ q = i then m.fa.getD i 0 else m.fd.getD q 0 := fun q => by
    by_cases hk2 : s.ff = 2
    ·rw [if_pos hk2, Jf (by omega)]
     by_cases e : q = i
     ·rw [if_pos e, if_pos ⟨hk2, e⟩]
     ·rw [if_neg e, if_neg (fun h => e h.2)]
    ·rw [if_neg hk2, if_neg (fun h => hk2 h.1)]
   have hrun : ∀ q v, H7 ⟨if s.ff = 2 then m.fd.set i (m.fa.getD i 0) else m.fd, m.fa.set i (-1), m.fc⟩ q v = true → H7 m q v = true := fun q v hr => by
    rw [Oo] at hr ⊢
    simp only [hN q, hB q] at hr
    by_cases e : q = i
    ·subst e
     rw [if_pos rfl] at hr
     by_cases hk2 : s.ff = 2
     ·rw [if_pos ⟨hk2, rfl⟩] at hr; omega
     ·rw [if_neg (fun h => hk2 h.1)] at hr; omega
    ·rw [if_neg e, if_neg (fun h => e h.2)] at hr; exact hr
   refine { base := by simp only; split <;> simp [hb], next := by simpa using hn, held := hh, b0 := fun q hq => ?_, n0 := fun q hq => ?_, ne := fun q hq => ?_, range := hm.range, low := fun q t ht hs v hr => hm.low q t ht hs v (hrun _ _ hr), high := hm.high, none := hm.none }
   ·simp only [hB q]
    split
    ·rename_i e; obtain ⟨_, e⟩ := e; subst e
     have := hm.n0 q hq
     omega
    ·exact hm.b0 q hq
   ·simp only [hN q]
    split
    ·rename_i e; subst e; omega
    ·exact hm.n0 q hq
   ·simp only [hB q, hN q]
    have h1 := hm.b0 q hq
    by_cases e : q = i
    ·rw [if_pos e]
     split
     ·rename_i e2; obtain ⟨_, e2⟩ := e2; subst e2; omega
     ·omega
    ·rw [if_neg e, if_neg (fun h => e h.2)]; exact hm.ne q hq
theorem QB (N : Nat) (hN : N ≤ 1000000) (h20 : 100 ≤ N) {p : Ab} {m : Aa} (hw : Ls JR m.fc) (s : Aj) : EU N p m s = some (if BX p m = 0 then BI p m s else (Hg, BX p m)) := by
 unfold EU BI
 rw [Kb N p m hN (by omega)]
 simp only [oS, A8]
 by_cases hval : BX p m = 0
 ·obtain ⟨hp, hm⟩ := In hw hval
  rw [if_pos hval, hval, bne_self_eq_false, An, Qz]
  simp only [oS]
  cases hv : HB s
  ·rw [zA5, AJ, if_pos rfl]; rfl
  ·rw [vM, An, if_neg (by simp)]
   obtain ⟨k1, k4, i0, v0, vk⟩ := JT hv
   have key : ∀ b : Bool, Gr p s = b → (if b = false then (Hg, (4 : Int)) else match Gp p m s with | none => (Hg, 11) | some x => (x, 0)) = (if b = false then (Hg, (4 : Int)) else match Gp p m s with | none => (Hg, 11) | some x => (x, 0)) := fun _ _ => rfl
   have tail : Gr p s = true → ((Cz N p m s).bind fun v15 => AN (!v15.2) (some (Aa.mk [] [] [], (11 : Int))) (some (v15.1, 0))) = some (match Gp p m s with | none => (Hg, 11) | some x => (x, 0)) := fun hx => by
    rw [Mr N hN h20 hp hm hv hx]
    cases Gp p m s <;> rfl
   have zz : (Aa.mk [] [] [], (4 : Int)) = (Hg, 4) := rfl
   by_cases hk3 : s.ff = 3
   ·rw [beq_iff_eq.2 hk3, AJ, show (s.ff != 3) = false from by rw [hk3]; rfl]
    have hX : Gr p s = decide (s.fh < (p.fe.length : Int)) := by unfold Gr; rw [if_pos hk3]
    by_cases c : (p.fe.length : Int) ≤ s.fh
    ·rw [AD c, AJ, hX, decide_eq_false (by omega), if_pos rfl]; rfl
    ·have hx : Gr p s = true := by rw [hX, decide_eq_true (by omega)]
     rw [AB c, An, An, beq_eq_false_iff_ne.2 (show s.ff ≠ 1 by omega), An, An, hx, if_neg (by simp)]
     exact tail hx
   ·rw [beq_eq_false_iff_ne.2 hk3, An, bne_iff_ne.2 hk3, AJ]
    have hX : Gr p s = (decide (s.fh < (p.fb.length : Int)) && (s.ff != 1 || decide (s.fm < p.fb.getD s.fh.toNat 0))) := by unfold Gr; rw [if_neg hk3]
    by_cases c : (p.fb.length : Int) ≤ s.fh
    ·rw [decide_eq_true c, AJ, hX, decide_eq_false (show ¬ s.fh < (p.fb.length : Int) by omega), zH5, if_pos rfl]; rfl
    ·rw [decide_eq_false c, An]
     by_cases hk1 : s.ff = 1
     ·rw [beq_iff_eq.2 hk1, AJ, E7 (d := 0) i0 (by omega)]
      simp only [oS]
      by_cases c2 : p.fb.getD s.fh.toNat 0 ≤ s.fm
      ·rw [decide_eq_true c2, AJ, hX, decide_eq_false (show ¬ s.fm < p.fb.getD s.fh.toNat 0 by omega), show (s.ff != 1) = false from by rw [hk1]; rfl, zE4, Bool.and_false, if_pos rfl]; rfl
      ·have hx : Gr p s = true := by rw [hX, decide_eq_true (by omega), decide_eq_true (by omega), zI6]; rfl
       rw [decide_eq_false c2, An, hx, if_neg (by simp)]
       exact tail hx
     ·have hx : Gr p s = true := by rw [hX, decide_eq_true (by omega), bne_iff_ne.2 hk1]; rfl
      rw [beq_eq_false_iff_ne.2 hk1, An, An, hx, if_neg (by simp)]
      exact tail hx
 ·rw [if_neg hval, bne_iff_ne.2 hval, AJ]; rfl
theorem Pe (N : Nat) (hN : N ≤ 1000000) (h20 : 100 ≤ N) {p : Ab} {m : Aa} (hw : Ls JR m.fc) (s : Aj) : FO N p m s = some (if BX p m = 0 then BI p m s else (Hg, BX p m)) := by
 unfold FO
 rw [HX N p m hN (by omega) hw]
 simp only [oS]
 by_cases hval : BX p m = 0
 ·obtain ⟨hp, hm⟩ := In hw hval
  rw [if_pos hval, hval, bne_self_eq_false, An, Pa N hN h20 hp hm s]; rfl
 ·rw [if_neg hval, bne_iff_ne.2 hval, AJ]; rfl
theorem K8 {p : Ab} {m : Aa} (hp : B0 p) (hm : CG p m) {s : Aj} (h : (BI p m s).2 = 0) : CG p (BI p m s).1 := by
 unfold BI at h ⊢
 split at h
 ·cases h
 rename_i h1
 rw [if_neg h1]
 split at h
 ·cases h
 rename_i h2
 rw [if_neg h2]
 cases ha : Gp p m s with
 | none => rw [ha] at h; cases h
 | some x => exact Vg hp hm (by simpa using h1) (by simpa using h2) ha
end Go.Lift
namespace Go.Lift
open Go
section
variable {N : Nat} {p : Ab} {l : List Aj}
end
end Go.Lift
namespace Go.Lift
open Go
end Go.Lift
namespace Go.Lift
open IntKind renaming wrap → wI
open Go
theorem PA {i : Nat} (h : i < 1000000) : wI .i64 (((i + 1 : Nat) : Int) - 1) = (i : Int) := by
 rw [CT (by omega) (by omega)]; omega
end Go.Lift
namespace Go.Lift
open Option renaming bind_some → oS
open List renaming mem_of_getElem? → lM
open List renaming getElem?_eq_some_iff → lI
open Go
def MH (i : Nat) (n : Int) : List Aj := (vK n.toNat).map fun v => ⟨1, (i : Int), ((v : Nat) : Int), ⟩
def G6 (p : Ab) : List Aj := EO MH 0 p.fb ++ ((vK p.fb.length).map fun i => (⟨2, ((i : Nat) : Int), 0⟩ : Aj)) ++ ((vK p.fe.length).map fun i => (⟨3, ((i : Nat) : Int), 0⟩ : Aj))
def Gb (p : Ab) (m : Aa) : List Aj := (G6 p).filter fun s => (BI p m s).2 == 0
theorem TB {p : Ab} (hp : B0 p) : (G6 p).length ≤ 54 := by
 have h1 : (EO MH 0 p.fb).length ≤ 6 * p.fb.length := GG fun j x hx => by
  have := hp.ver x (lM hx)
  simp [MH]; omega
 have := hp.nv
 have := hp.nt
 unfold G6
 simp only [zA2, vT, zD9]
 omega
theorem Rv (N : Nat) (hN : N ≤ 1000000) (h20 : 100 ≤ N) {p : Ab} (hp : B0 p) : Ip N p = some (G6 p) := by
 have hnv := hp.nv
 have hnt := hp.nt
 unfold Ip
 have l1 := If (DA N p fun v2 => CB N p (fun v10 => BC N p (fun v14 => some v14) N (v10, 0)) N (v2, 0)) (fun a i => (a, i)) p.fb (fun v2 => CB N p (fun v10 => BC N p (fun v14 => some v14) N (v10, 0)) N (v2, 0)) MH 6 100
  (fun i x hx => by have := hp.ver x (lM hx); simp [MH]; omega)
  (fun n i x a hx hl => by
   have hi := (lI.1 hx).1
   have hx6 := hp.ver x (lM hx)
   obtain ⟨k, hk⟩ := uZ (show 0 ≤ x by omega)
   rw [DA, AD (by simp only; omega)]
   simp only [AW, hx, oS, AG (show i < 1000000 by omega)]
   subst hk
   obtain ⟨a', e, ha⟩ := E0 (ER N (a, (i : Int)) (k : Int) fun v6 => DA N p (fun v2 => CB N p (fun v10 => BC N p (fun v14 => some v14) N (v10, 0)) N (v2, 0)) n (v6, ((i + 1 : Nat) : Int))) (fun b v => (b, v)) k (fun v6 => DA N p (fun v2 => CB N p (fun v10 => BC N p (fun v14 => some v14) N (v10, 0)) N (v2, 0)) n (v6, ((i + 1 : Nat) : Int)))
    (fun v b => b = a ++ (vK v).map fun v => (⟨1, (i : Int), ((v : Nat) : Int)⟩ : Aj))
    (fun n v b hv hb => by
     subst hb
     rw [ER, AD (by simp only; omega), Ap (by simp [DC]; simp [MH] at hl; omega), AG (by omega)]
     exact ⟨_, rfl, by rw [zD4, zE9, zB1]; rfl⟩)
    (fun n b hb => by rw [ER, AB (by simp)]) N 0 a (vG _) (by omega) (by simp)
   have e' : ER N (a, (i : Int)) (k : Int) (fun v6 => DA N p (fun v2 => CB N p (fun v10 => BC N p (fun v14 => some v14) N (v10, 0)) N (v2, 0)) n (v6, ((i + 1 : Nat) : Int))) N (a, 0) = _ := e
   rw [e', ha]; rfl)
  (fun n a => by rw [DA, AB (by simp)]) N [] (by omega) (by simp; omega)
 have l1' : DA N p (fun v2 => CB N p (fun v10 => BC N p (fun v14 => some v14) N (v10, 0)) N (v2, 0)) N (([] : List Aj), 0) = _ := l1
 rw [l1', zE8]
 have hA : (EO MH 0 p.fb).length ≤ 6 * p.fb.length := GG fun j x hx => by
  have := hp.ver x (lM hx)
  simp [MH]; omega
 generalize hAe : EO MH 0 p.fb = A at hA
 obtain ⟨b', e2, hb⟩ := E0 (CB N p fun v10 => BC N p (fun v14 => some v14) N (v10, 0)) (fun b v => (b, v)) p.fb.length (fun v10 => BC N p (fun v14 => some v14) N (v10, 0))
  (fun v b => b = A ++ (vK v).map fun i => (⟨2, ((i : Nat) : Int), 0⟩ : Aj))
  (fun n v b hv hb => by
   subst hb
   rw [CB, AD (by simp only; omega), Ap (by simp [DC]; omega), AG (by omega)]
   exact ⟨_, rfl, by rw [zD4, zE9, zB1]; rfl⟩)
  (fun n b hb => by rw [CB, AB (by simp)]) N 0 A (vG _) (by omega) (by simp)
 have e2' : CB N p (fun v10 => BC N p (fun v14 => some v14) N (v10, 0)) N (A, 0) = _ := e2
 rw [e2', hb]
 generalize hBe : A ++ (vK p.fb.length).map (fun i => (⟨2, ((i : Nat) : Int), 0⟩ : Aj)) = B
 have hB : B.length ≤ 50 := by rw [← hBe]; simp; omega
 obtain ⟨c', e3, hc⟩ := E0 (BC N p fun v14 => some v14) (fun b v => (b, v)) p.fe.length (fun v14 => some v14)
  (fun v b => b = B ++ (vK v).map fun i => (⟨3, ((i : Nat) : Int), 0⟩ : Aj))
  (fun n v b hv hb => by
   subst hb
   rw [BC, AD (by simp only; omega), Ap (by simp [DC]; omega), AG (by omega)]
   exact ⟨_, rfl, by rw [zD4, zE9, zB1]; rfl⟩)
  (fun n b hb => by rw [BC, AB (by simp)]) N 0 B (vG _) (by omega) (by simp)
 have e3' : BC N p (fun v14 => some v14) N (B, 0) = _ := e3
 rw [e3', hc, ← hBe, ← hAe]; rfl
end Go.Lift
namespace Go.Lift
open Option renaming bind_some → oS
open List renaming mem_of_getElem? → lM
open List renaming getElem?_eq_some_iff → lI
open List renaming getD_eq_getElem?_getD → lD
open Go
theorem Py {p : Ab} (hp : B0 p) {s : Aj} (h : s ∈ G6 p) : HB s = true ∧ Gr p s = true := by
 have hnv := hp.nv
 unfold G6 at h
 rcases zB3.1 h with h | h
 ·rcases zB3.1 h with h | h
  ·obtain ⟨j, x, hx, hk⟩ := PJ.1 h
   rw [uT] at hk
   unfold MH at hk
   obtain ⟨v, hv, rfl⟩ := zA6.1 hk
   have hx6 := hp.ver x (lM hx)
   have hv := zF6.1 hv
   have hj := (lI.1 hx).1
   refine ⟨by unfold HB; simp, ?_⟩
   unfold Gr
   have e : p.fb.getD j 0 = x := by rw [lD, hx]; rfl
   simp only
   rw [if_neg (by omega), decide_eq_true (by omega), vJ, e, decide_eq_true (by omega), zI6]; rfl
  ·obtain ⟨v, hv, rfl⟩ := zA6.1 h
   have hv := zF6.1 hv
   refine ⟨by unfold HB; simp, ?_⟩
   unfold Gr
   simp only
   rw [if_neg (by omega), decide_eq_true (by omega)]; rfl
 ·obtain ⟨v, hv, rfl⟩ := zA6.1 h
  have hv := zF6.1 hv
  refine ⟨by unfold HB; simp, ?_⟩
  unfold Gr
  simp only
  rw [if_pos trivial, decide_eq_true (by omega)]
theorem Vk {p : Ab} {m : Aa} {s : Aj} (hv : HB s = true) (hx : Gr p s = true) : ((BI p m s).2 == 0) = (Gp p m s).isSome := by
 unfold BI
 rw [hv, hx, if_neg (by simp), if_neg (by simp)]
 cases Gp p m s <;> rfl
theorem Re (N : Nat) (hN : N ≤ 1000000) (h20 : 100 ≤ N) {p : Ab} {m : Aa} (hp : B0 p) (hm : CG p m) {s : Aj} (h : s ∈ G6 p) :
  DO N s p.fb p.fi p.fj p.fe m.fd m.fa m.fc = some (!((BI p m s).2 == 0)) := by
 obtain ⟨hv, hx⟩ := Py hp h
 unfold DO
 obtain ⟨o, e, _⟩ := Ln N hN h20 hp hm hv hx
 have e' : FJ N ⟨p.fb, p.fi, p.fj, p.fe⟩ ⟨m.fd, m.fa, m.fc⟩ s = some (o, (Gp p m s).isSome) := e
 rw [e', Vk hv hx]; rfl
theorem Se (N : Nat) (hN : N ≤ 1000000) (a : List Aj) (f : Aj → Option Bool) (g : Aj → Bool) (h : a.length < N) (hf : ∀ x, x ∈ a → f x = some (g x)) :
  B2 N a f = some ((D2 (fun i x => if g x = true then some (i : Int) else none) 0 a).getD (-1)) := by
 unfold B2
 have := Dq (A6 N a f fun _ => some (-1)) a (some (-1)) (fun i x => if g x = true then some (i : Int) else none)
  (fun n i x hx => by
   have hi := (lI.1 hx).1
   rw [A6, AD (by omega), AW, hx]
   simp only [oS]
   rw [hf x (lM hx), AG (by omega)]
   simp only [oS]
   cases g x <;> rfl)
  (fun n => by rw [A6, AB (by simp)]) N 0 (vG _) (by omega)
 refine this.trans ?_
 rw [vS]
 cases D2 (fun i x => if g x = true then some (i : Int) else none) 0 a <;> rfl
theorem Ph {α : Type} {l : List α} {i : Nat} {v : α} (h : i < l.length) : (l.set i v).take (i + 1) = l.take i ++ [v] := by
 rw [zB9, List.take_set_of_le (vN i)]
 congr 1
 simp [h]
theorem Rt (N : Nat) (hN : N ≤ 1000000) (a : List Aj) (f : Aj → Option Bool) (g : Aj → Bool) (h : a.length < N) (h9 : a.length ≤ 1000) (hf : ∀ x, x ∈ a → f x = some (g x)) :
  ∃ X n, BW N a f = some (n, X) ∧ n ≤ X.length ∧ X.take n = a.filter fun x => !g x := by
 unfold BW
 rw [Se N hN a f g h hf]
 simp only [oS]
 cases hs : D2 (fun i x => if g x = true then some (i : Int) else none) 0 a with
 | none =>
  refine ⟨a, a.length, rfl, vN _, ?_⟩
  rw [zH0]
  symm
  rw [List.filter_eq_self]
  intro x hx
  obtain ⟨j, hj⟩ := vO.1 hx
  have := FY hs j x hj
  cases hg : g x
  ·rfl
  ·rw [hg] at this; cases this
 | some r =>
  obtain ⟨j, x, hx, hr⟩ := EL hs
  rw [uT] at hr
  split at hr
  ·rename_i hg
   cases hr
   have hj := (lI.1 hx).1
   have e0 : ((some (j : Int)).getD (-1) == (-1 : Int)) = false := beq_eq_false_iff_ne.2 (by simp only [vW]; omega)
   rw [e0, An]
   simp only [vW]
   rw [AG (by omega)]
   -- what lies before the first that goes is kept
   have hpre : (a.take (j + 1)).filter (fun x => !g x) = a.take j := by
    rw [zB9, hx, zC6]
    have h1 : (a.take j).filter (fun x => !g x) = a.take j := by
     rw [List.filter_eq_self]
     intro y hy
     obtain ⟨q, hq⟩ := vO.1 hy
     have hql := (lI.1 hq).1
     simp at hql
     rw [vX (by omega)] at hq
     cases hgy : g y
     ·rfl
     ·exfalso
      have : ∀ (xs : List Aj) (i j q : Nat) (y : Aj), D2 (fun i x => if g x = true then some (i : Int) else none) i xs = some ((i + j : Nat) : Int) → q < j → xs[q]? = some y → g y = true → False := by
       intro xs
       induction xs with
       | nil => intro i j q y _ _ hq; simp at hq
       | cons z zs ih =>
        intro i j q y hs hqj hq hgy
        rw [HF] at hs
        cases hz : g z
        ·rw [hz] at hs
         cases q with
         | zero => simp at hq; subst hq; rw [hz] at hgy; cases hgy
         | succ q =>
          cases j with
          | zero => omega
          | succ j => exact ih (i + 1) j q y (by rw [show i + 1 + j = i + (j + 1) from by omega]; exact hs) (by omega) (by simpa using hq) hgy
        ·rw [hz] at hs
         have hs : (some (i : Int)) = some ((i + j : Nat) : Int) := hs
         have := Option.some.inj hs
         omega
      exact this a 0 j q y (by rw [uT]; exact hs) (by omega) hq hgy
    rw [h1]
    simp [hg]
   obtain ⟨b, e, hb⟩ := E0 (AX N f fun v4 => (DQ ((0 : Int) ≤ v4.2 ∧ (v4.2).toNat ≤ v4.1.length ∧ v4.1.length ≤ v4.1.length)).bind fun _ =>
     (DQ ((0 : Int) ≤ v4.2 ∧ 0 ≤ (v4.2).toNat ∧ (v4.2).toNat ≤ (Gv v4.1 ((v4.2).toNat) (uY ((v4.1.length - (v4.2).toNat)) ((Aj.mk 0 0 0)))).length)).bind fun _ =>
     some ((v4.2).toNat, Gv v4.1 ((v4.2).toNat) (uY ((v4.1.length - (v4.2).toNat)) ((Aj.mk 0 0 0)))))
    (fun (b : List Aj × Nat) i => (b.1, ((b.2 : Nat) : Int), i)) a.length (fun b => (DQ ((0 : Int) ≤ ((b.2 : Nat) : Int) ∧ (((b.2 : Nat) : Int)).toNat ≤ b.1.length ∧ b.1.length ≤ b.1.length)).bind fun _ =>
     (DQ ((0 : Int) ≤ ((b.2 : Nat) : Int) ∧ 0 ≤ (((b.2 : Nat) : Int)).toNat ∧ (((b.2 : Nat) : Int)).toNat ≤ (Gv b.1 ((((b.2 : Nat) : Int)).toNat) (uY ((b.1.length - (((b.2 : Nat) : Int)).toNat)) ((Aj.mk 0 0 0)))).length)).bind fun _ =>
     some ((((b.2 : Nat) : Int)).toNat, Gv b.1 ((((b.2 : Nat) : Int)).toNat) (uY ((b.1.length - (((b.2 : Nat) : Int)).toNat)) ((Aj.mk 0 0 0)))))
    (fun i b => b.1.length = a.length ∧ b.2 ≤ i ∧ b.1.drop i = a.drop i ∧ b.1.take b.2 = (a.take i).filter fun x => !g x)
    (fun n i b hi hb => by
     obtain ⟨b1, b2, b3, b4⟩ := hb
     rw [AX, AD (by simp only; omega)]
     have hai : a[i]? = some a[i] := by simp [hi]
     have hbi : b.1[i]? = some a[i] := by
      have := congrArg (fun l => l[0]?) b3
      simp only [zB0, zB6] at this
      rw [this, hai]
     simp only [A8, AW, hbi, oS]
     rw [hf a[i] (zB2 hi), AG (i := i) (by omega)]
     simp only [oS]
     have hnext : b.1.drop (i + 1) = a.drop (i + 1) := by
      have := congrArg (List.drop 1) b3
      rwa [List.drop_drop, List.drop_drop] at this
     cases hgi : g a[i]
     ·rw [zA5, AJ]
      have hbj : b.1[b.2]? = some b.1[b.2] := by simp [show b.2 < b.1.length from by omega]
      rw [hbj, AG (i := b.2) (by omega)]
      refine ⟨(b.1.set b.2 a[i], b.2 + 1), rfl, by simpa using b1, by simp only; omega, ?_, ?_⟩
      ·simp only
       rw [List.drop_set_of_lt (by omega), hnext]
      ·simp only
       rw [Ph (by omega), b4, zB9, hai, zC6]
       simp [hgi]
     ·rw [vM, An]
      refine ⟨b, rfl, b1, by omega, hnext, ?_⟩
      rw [b4, zB9, hai, zC6]
      simp [hgi])
    (fun n b hb => by rw [AX, AB (by simp [hb.1])]) N (j + 1) (a, j) (by omega) (by omega) ⟨rfl, by simp only; omega, rfl, hpre.symm⟩
   obtain ⟨b1, b2, b3, b4⟩ := hb
   have e' : AX N f (fun v4 => (DQ ((0 : Int) ≤ v4.2 ∧ (v4.2).toNat ≤ v4.1.length ∧ v4.1.length ≤ v4.1.length)).bind fun _ =>
     (DQ ((0 : Int) ≤ v4.2 ∧ 0 ≤ (v4.2).toNat ∧ (v4.2).toNat ≤ (Gv v4.1 ((v4.2).toNat) (uY ((v4.1.length - (v4.2).toNat)) ((Aj.mk 0 0 0)))).length)).bind fun _ =>
     some ((v4.2).toNat, Gv v4.1 ((v4.2).toNat) (uY ((v4.1.length - (v4.2).toNat)) ((Aj.mk 0 0 0))))) N (a, (j : Int), ((j + 1 : Nat) : Int)) = _ := e
   rw [e']
   have hsl : (Gv b.1 b.2 (uY (b.1.length - b.2) (Aj.mk 0 0 0))).length = b.1.length := Gg (by rw [zF3]; omega)
   simp only [vJ]
   rw [Ap ⟨by omega, by omega, vN _⟩, Ap ⟨by omega, by omega, by rw [hsl]; omega⟩]
   refine ⟨_, _, rfl, by rw [hsl]; omega, ?_⟩
   unfold Gv
   rw [zB1, zE5 (by simp; omega), List.take_take, Nat.min_self, b4, zH0]
  ·cases hr
theorem R8 (N : Nat) (hN : N ≤ 1000000) (h20 : 100 ≤ N) {p : Ab} {m : Aa} (hv : De p = 0) (hm : CG p m) : E5 N p m = some (Gb p m, 0) := by
 obtain ⟨hp, _⟩ := Eo hv
 unfold E5
 rw [HX N p m hN (by omega) (L0 hm), KL hv hm]
 simp only [oS, bne_self_eq_false, An]
 rw [Rv N hN h20 hp]
 simp only [oS]
 have hl := TB hp
 obtain ⟨X, n, e, h1, h2⟩ := Rt N hN (G6 p) (fun x => DO N x p.fb p.fi p.fj p.fe m.fd m.fa m.fc) (fun s => !((BI p m s).2 == 0)) (by omega) (by omega) (fun x hx => Re N hN h20 hp hm hx)
 rw [e]
 simp only [oS]
 rw [Ap h1, h2]
 unfold Gb
 simp
theorem Ik {β : Type} (g : Nat → List β) : ∀ n : Nat, EO (fun i (_ : Nat) => g i) 0 (vK n) = (vK n).flatMap g
 | 0 => rfl
 | n + 1 => by rw [zD4, Mq, Ik g n, zG5]; simp [EO]
def V3 (p : Ab) (m : Aa) (s : Aj) : Bool := (BI p m s).2 == 0
def gS (p : Ab) (m : Aa) (k : Int) (i v : Nat) : List Aj := if V3 p m ⟨k, (i : Int), (v : Int)⟩ = true then [⟨k, (i : Int), (v : Int)⟩] else []
def bS (p : Ab) (m : Aa) (k : Int) (i : Nat) : List Aj := (vK 6).flatMap (gS p m k i)
def Sv (p : Ab) : Nat := max p.fb.length p.fe.length
def kS (p : Ab) (m : Aa) (k : Int) : List Aj := (vK (Sv p)).flatMap (bS p m k)
theorem K5 {β : Type} (f : Nat → β) (q : β → Bool) : ∀ n : Nat, ((vK n).flatMap fun v => if q (f v) = true then [f v] else []) = ((vK n).map f).filter q
 | 0 => rfl
 | n + 1 => by
  rw [zD4, zG5, K5 f q n, zE9, zC6]
  cases h : q (f n) <;> simp [h]
theorem KF {β : Type} (g : Nat → List β) (a : Nat) (h : ∀ v, a ≤ v → g v = []) : ∀ n, a ≤ n → (vK n).flatMap g = (vK a).flatMap g
 | 0, hn => by rw [Nat.le_zero.1 hn]
 | n + 1, hn => by
  by_cases h1 : a = n + 1
  ·rw [h1]
  ·rw [zD4, zG5, KF g a h n (by omega)]
   simp [h n (by omega)]
theorem Vz (p : Ab) (m : Aa) (k : Int) (i v : Nat) : (gS p m k i v).length ≤ 1 := by unfold gS; split <;> simp
theorem UF (p : Ab) (m : Aa) (k : Int) (i : Nat) : (bS p m k i).length ≤ 6 := by
 unfold bS
 rw [← Ik]
 have := GG (g := fun i' (_ : Nat) => gS p m k i i') (c := 1) (i := 0) (xs := vK 6) fun j x _ => Vz p m k i _
 simpa using this
theorem XX {p : Ab} (hp : B0 p) (m : Aa) (k : Int) : (kS p m k).length ≤ 72 := by
 have h1 := hp.nv
 have h2 := hp.nt
 unfold kS
 rw [← Ik]
 have := GG (g := fun i' (_ : Nat) => bS p m k i') (c := 6) (i := 0) (xs := vK (Sv p)) fun j x _ => UF p m k _
 simp only [zD9] at this
 have h3 : Sv p ≤ 12 := by unfold Sv; omega
 omega
theorem X5 {p : Ab} {m : Aa} {s : Aj} (h : V3 p m s = true) : HB s = true ∧ Gr p s = true := by
 unfold V3 BI at h
 split at h
 ·cases h
 ·rename_i h1
  split at h
  ·cases h
  ·rename_i h2
   exact ⟨by simpa using h1, by simpa using h2⟩
theorem Mz {p : Ab} {m : Aa} {k : Int} {i v : Nat} (h : V3 p m ⟨k, (i : Int), (v : Int)⟩ = true) : (k = 3 → i < p.fe.length) ∧ (k ≠ 3 → i < p.fb.length) ∧ (k = 1 → (v : Int) < p.fb.getD i 0) ∧ (k ≠ 1 → v = 0) := by
 obtain ⟨h1, h2⟩ := X5 h
 obtain ⟨a1, a2, a3, a4, a5⟩ := JT h1
 obtain ⟨b1, b2, b3⟩ := K9 h2
 simp only [vJ] at *
 exact ⟨fun e => by have := b1 e; omega, fun e => by have := b2 e; omega, b3, fun e => by have := a5 e; omega⟩
theorem U4 {p : Ab} (hp : B0 p) (m : Aa) : kS p m 1 ++ kS p m 2 ++ kS p m 3 = Gb p m := by
 have hnv := hp.nv
 have hnt := hp.nt
 unfold Gb G6
 rw [zC6, zC6]
 have e1 : kS p m 1 = (EO MH 0 p.fb).filter fun s => (BI p m s).2 == 0 := by
  unfold kS
  rw [KF (bS p m 1) p.fb.length (fun i hi => by
   unfold bS
   rw [zI5]
   intro v _
   unfold gS
   rw [if_neg]
   intro h
   have := (Mz h).2.1 (by decide)
   omega) (Sv p) (by unfold Sv; omega)]
  have e : ∀ (xs : List Int) (i : Nat), (∀ j x, xs[j]? = some x → 1 ≤ x ∧ x ≤ 6 ∧ p.fb.getD (i + j) 0 = x) → ((vK xs.length).flatMap fun j => bS p m 1 (i + j)) = (EO MH i xs).filter fun s => (BI p m s).2 == 0 := by
   intro xs
   induction xs with
   | nil => intro i _; rfl
   | cons x xs ih =>
    intro i hx
    rw [vV, List.range_succ_eq_map, List.flatMap_cons, List.flatMap_map, EO, zC6]
    have ih' := ih (i + 1) (fun j y hy => by
     have := hx (j + 1) y (by simpa using hy)
     rw [show i + 1 + j = i + (j + 1) from by omega]; exact this)
    have hx0 := hx 0 x rfl
    rw [zB6] at hx0
    congr 1
    ·rw [zB6]
     unfold bS MH
     rw [KF (gS p m 1 i) x.toNat (fun v hv => by
      unfold gS
      rw [if_neg]
      intro h
      have := (Mz h).2.2.1 rfl
      rw [hx0.2.2] at this
      omega) 6 (by omega)]
     exact K5 (fun v => (⟨1, (i : Int), ((v : Nat) : Int)⟩ : Aj)) (V3 p m) x.toNat
    ·rw [← ih']
     congr 1
     funext j
     rw [show i + (j + 1) = i + 1 + j from by omega]
  have := e p.fb 0 (fun j x hx => by
   have h1 := hp.ver x (lM hx)
   refine ⟨h1.1, h1.2, ?_⟩
   rw [uT, lD, hx]; rfl)
  simp only [uT] at this
  exact this
 have e23 : ∀ (k : Int) (n : Nat), k ≠ 1 → n ≤ Sv p → (∀ i v, V3 p m ⟨k, ((i : Nat) : Int), ((v : Nat) : Int)⟩ = true → i < n) → kS p m k = (((vK n).map fun i => (⟨k, ((i : Nat) : Int), 0⟩ : Aj)).filter fun s => (BI p m s).2 == 0) := by
  intro k n hk hn hi
  unfold kS
  rw [KF (bS p m k) n (fun i hi' => by
   unfold bS
   rw [zI5]
   intro v _
   unfold gS
   rw [if_neg]
   intro h
   have := hi i v h
   omega) (Sv p) hn]
  show _ = List.filter (V3 p m) _
  rw [← K5 (fun i => (⟨k, ((i : Nat) : Int), 0⟩ : Aj)) (V3 p m) n]
  congr 1
  funext i
  unfold bS
  rw [KF (gS p m k i) 1 (fun v hv => by
   unfold gS
   rw [if_neg]
   intro h
   have := (Mz h).2.2.2 hk
   omega) 6 (by omega)]
  simp [gS]
 rw [e1, e23 2 p.fb.length (by decide) (by unfold Sv; omega) (fun i v h => (Mz h).2.1 (by decide)), e23 3 p.fe.length (by decide) (by unfold Sv; omega) (fun i v h => (Mz h).1 rfl)]
theorem RO (a b : Nat) : Ua (a : Int) (b : Int) = ((max a b : Nat) : Int) := by
 unfold Ua
 omega
theorem LU (N : Nat) (hN : N ≤ 1000000) (h20 : 100 ≤ N) {p : Ab} {m : Aa} (hv : De p = 0) (hm : CG p m) : CE N p m = some (Gb p m) := by
 obtain ⟨hp, _⟩ := Eo hv
 have hnv := hp.nv
 have hnt := hp.nt
 have hmx : Sv p ≤ 12 := by unfold Sv; omega
 unfold CE
 have hmix := KL hv hm
 -- one number
 have inn : ∀ (k : Int) (c0 a : List Aj) (i : Nat) (d0 : List Aj) (j : List Aj → Option (List Aj)), a.length ≤ 1000 →
   Cq N p m (c0, k) (d0, (i : Int)) j N (a, 0) = j (a ++ bS p m k i) := by
  intro k c0 a i d0 j ha
  have := If (Cq N p m (c0, k) (d0, (i : Int)) j) (fun a i => (a, i)) (vK 6) j (fun v _ => gS p m k i v) 1 2000
   (fun v x _ => Vz _ _ _ _ _)
   (fun n v x a hx hl => by
    have hi := (lI.1 hx).1
    simp only [zD9] at hi
    rw [Cq, AD (by simp only; omega)]
    simp only [A8]
    rw [QB N hN h20 (L0 hm), if_pos hmix]
    simp only [oS, AG (show v < 1000000 by omega)]
    unfold gS V3
    cases hq : (BI p m ⟨k, (i : Int), (v : Int)⟩).2 == 0
    ·rw [An, if_neg (by simp), List.append_nil]
    ·rw [AJ, if_pos rfl, Ap (by simp [DC]; unfold gS V3 at hl; rw [hq] at hl; simp at hl; omega)])
   (fun n a => by rw [Cq, AB (by simp)]) N a (by simp; omega) (by simp; omega)
  rw [Ik] at this
  exact this
 have mid : ∀ (k : Int) (c0 a : List Aj) (j : List Aj → Option (List Aj)), a.length ≤ 500 →
   Cp N p m (c0, k) j N (a, 0) = j (a ++ kS p m k) := by
  intro k c0 a j ha
  have := If (Cp N p m (c0, k) j) (fun a i => (a, i)) (vK (Sv p)) j (fun i _ => bS p m k i) 6 900
   (fun v x _ => UF _ _ _ _)
   (fun n i x a hx hl => by
    have hi := (lI.1 hx).1
    simp only [zD9] at hi
    rw [Cp, AD (by simp only; rw [RO]; unfold Sv at hi; omega)]
    rw [inn k c0 a i a _ (by omega)]
    simp only [AG (show i < 1000000 by omega)])
   (fun n a => by rw [Cp, AB (by simp [RO, Sv])]) N a (by simp; omega) (by simp; omega)
  rw [Ik] at this
  exact this
 have hk := XX hp m
 have go : ∀ (k : Int) (n : Nat) (a : List Aj), k ≤ 3 → 1 ≤ k → a.length ≤ 300 → BF N p m (fun v2 => some v2) (n + 1) (a, k) = BF N p m (fun v2 => some v2) n (a ++ kS p m k, k + 1) := by
  intro k n a h1 h2 ha
  rw [BF, AD h1]
  rw [mid k a a _ (by omega), CT (by omega) (by omega)]
 obtain ⟨N', hN'⟩ : ∃ q, N = q + 4 := ⟨N - 4, by omega⟩
 have e0 : BF N p m (fun v2 => some v2) N ([], 1) = BF N p m (fun v2 => some v2) (N' + 4) ([], 1) := by rw [hN']
 rw [e0, go 1 (N' + 3) [] (by decide) (by decide) (by simp), zE8]
 rw [show (1 : Int) + 1 = 2 from rfl, go 2 (N' + 2) _ (by decide) (by decide) (by have := hk 1; omega)]
 rw [show (2 : Int) + 1 = 3 from rfl, go 3 (N' + 1) _ (by decide) (by decide) (by have h1 := hk 1; have h2 := hk 2; rw [zA2]; omega)]
 rw [BF, AB (by simp), U4 hp]
end Go.Lift
namespace Go.Lift
open List renaming getElem?_eq_some_iff → lI
namespace Bfs
section
variable {α σ : Type}
def code (rk : σ → Nat) (K : Nat) (w : List σ) : Nat := w.foldl (fun c s => c * K + rk s) 0
def bt (rk : σ → Nat) (K : Nat) (w : List σ) : Prop := ∀ s, s ∈ w → 1 ≤ rk s ∧ rk s ≤ K
theorem bt.snoc {rk : σ → Nat} {K : Nat} {w : List σ} {s : σ} (h : bt rk K w) (hs : 1 ≤ rk s ∧ rk s ≤ K) : bt rk K (w ++ [s]) := by
 intro x hx; rcases zB3.1 hx with h1 | h1
 ·exact h x h1
 ·rw [zD1.1 h1]; exact hs
abbrev Nd (α σ : Type) := α × Int × σ
def put [DecidableEq α] (i : Nat) (l : List (Nd α σ)) (q : σ × α) : List (Nd α σ) := if (l.any fun n => decide (n.1 = q.2)) = true then l else l ++ [(q.2, (i : Int), q.1)]
def inner [DecidableEq α] (most i : Nat) : List (σ × α) → List (Nd α σ) → Option (List (Nd α σ))
 | [], l => some l
 | q :: qs, l => if most < (put i l q).length then none else inner most i qs (put i l q)
def go [DecidableEq α] (nxt : α → List (σ × α)) (most : Nat) : Nat → Nat → List (Nd α σ) → Option (List (Nd α σ))
 | 0, _, _ => none
 | n + 1, i, l => match l[i]? with
  | none => some l
  | some nd => (inner most i (nxt nd.1) l).bind fun l' => go nxt most n (i + 1) l'
theorem get_app_of {β : Type} {l : List β} {y x : β} {k : Nat} (h : l[k]? = some x) : (l ++ [y])[k]? = some x := by
 rw [zA0 ((lI.1 h).1)]; exact h
theorem lt_get {β : Type} {l : List β} {k : Nat} {x : β} (h : l[k]? = some x) : k < l.length := (lI.1 h).1
theorem get_ex {β : Type} {l : List β} {k : Nat} (h : k < l.length) : ∃ x, l[k]? = some x := ⟨l[k], vP h⟩
def run (nxt : α → List (σ × α)) (x : α) : List σ → α → Prop
 | [], y => y = x
 | s :: w, y => ∃ z, (s, z) ∈ nxt x ∧ run nxt z w y
theorem Hs {nxt : α → List (σ × α)} : ∀ {u w : List σ} {x y : α}, run nxt x (u ++ w) y ↔ ∃ z, run nxt x u z ∧ run nxt z w y
 | [], w, x, y => by simp [run]
 | s :: u, w, x, y => by
  simp only [zF5, run]
  constructor
  ·rintro ⟨z, h1, h2⟩
   obtain ⟨z', h3, h4⟩ := Hs.1 h2
   exact ⟨z', ⟨z, h1, h3⟩, h4⟩
  ·rintro ⟨z', ⟨z, h1, h3⟩, h4⟩
   exact ⟨z, h1, Hs.2 ⟨z', h3, h4⟩⟩
theorem inner_len [DecidableEq α] {most i : Nat} : ∀ (qs : List (σ × α)) (l l' : List (Nd α σ)), l.length ≤ most → inner most i qs l = some l' → l'.length ≤ most
 | [], l, l', h0, h => by cases h; exact h0
 | q :: qs, l, l', h0, h => by
  simp only [inner] at h
  split at h
  ·cases h
  ·exact inner_len qs _ _ (by omega) h
theorem go_len [DecidableEq α] {nxt : α → List (σ × α)} {most : Nat} : ∀ (n i : Nat) (l l' : List (Nd α σ)), l.length ≤ most → go nxt most n i l = some l' → l'.length ≤ most
 | 0, i, l, l', _, h => by cases h
 | n + 1, i, l, l', h0, h => by
  simp only [go] at h
  split at h
  ·cases h; exact h0
  ·rename_i nd hn
   cases hin : inner most i (nxt nd.1) l with
   | none => rw [hin] at h; cases h
   | some l1 => rw [hin] at h; exact go_len n (i + 1) l1 l' (inner_len _ _ _ h0 hin) h
end
end Bfs
end Go.Lift
namespace Go.Lift
open Option renaming bind_some → oS
open Go
theorem QW : ∀ {l : List Int}, R6 l = 0 → ∀ x, x ∈ l → x = 0
 | [], _, x, hx => by cases hx
 | y :: ys, h, x, hx => by
  unfold R6 at h
  split at h
  ·rename_i hy
   rcases vI.1 hx with rfl | hx
   ·exact hy
   ·exact QW h x hx
  ·rename_i hy; exact absurd h hy
theorem J4 {a b : Aa} (h : E6 a b = 0) : a = b := by
 have := QW h
 have h1 := NL _ _ (this (ES a.fd b.fd) (by simp))
 have h2 := NL _ _ (this (ES a.fa b.fa) (by simp))
 have h3 := NL _ _ (this (ES a.fc b.fc) (by simp))
 cases a; cases b; simp only at h1 h2 h3; subst h1; subst h2; subst h3; rfl
instance bi : DecidableEq Aa := fun a b => if h : E6 a b = 0 then isTrue (J4 h) else isFalse (fun e => h (by rw [e]; exact Lc b))
theorem Vm (a b : Aa) : (E6 a b == 0) = decide (a = b) := by
 by_cases h : a = b
 ·rw [decide_eq_true h, h, Lc]; rfl
 ·rw [decide_eq_false h]
  exact beq_eq_false_iff_ne.2 fun e => h (J4 e)
def V5 (p : Ab) (m : Aa) (ss : List Aj) : List (Aj × Aa) := ss.filterMap fun s => if BG p (BI p m s).1 = true then some (s, (BI p m s).1) else none
def OX (p : Ab) (m : Aa) : List (Aj × Aa) := V5 p m (Gb p m)
theorem KU {p : Ab} {m : Aa} {s : Aj} (h : s ∈ Gb p m) : s ∈ G6 p ∧ (BI p m s).2 = 0 := by
 unfold Gb at h
 have := List.mem_filter.1 h
 exact ⟨this.1, by simpa using this.2⟩
theorem Wc {p : Ab} {m : Aa} {ss : List Aj} {q : Aj × Aa} : q ∈ V5 p m ss ↔ q.1 ∈ ss ∧ q.2 = (BI p m q.1).1 ∧ BG p q.2 = true := by
 unfold V5
 rw [List.mem_filterMap]
 constructor
 ·rintro ⟨s, h1, h2⟩
  split at h2
  ·rename_i h3; cases h2; exact ⟨h1, rfl, h3⟩
  ·cases h2
 ·rintro ⟨h1, h2, h3⟩
  refine ⟨q.1, h1, ?_⟩
  rw [← h2, if_pos h3]
theorem Tc {p : Ab} {m : Aa} {q : Aj × Aa} : q ∈ OX p m ↔ q.1 ∈ Gb p m ∧ q.2 = (BI p m q.1).1 ∧ BG p q.2 = true := Wc
theorem Vp {p : Ab} {m : Aa} (hp : B0 p) (hm : CG p m) {q : Aj × Aa} (h : q ∈ OX p m) : CG p q.2 ∧ BG p q.2 = true := by
 obtain ⟨h1, h2, h3⟩ := Tc.1 h
 exact ⟨by rw [h2]; exact K8 hp hm (KU h1).2, h3⟩
abbrev QU := Bfs.Nd Aa Aj
def VA : Aj := ⟨0, 0, 0⟩
theorem Vo {N : Nat} {p : Ab} {a b : Aa} (hN : N ≤ 1000000) (h20 : 100 ≤ N) (hp : B0 p) (ha : CG p a) (hb : CG p b) : Du N a b = some (decide (a = b)) := by
 have hnv := hp.nv
 have hnt := hp.nt
 unfold Du
 rw [Ng hN (by rw [ha.base]; omega) (by rw [ha.next]; omega) (by rw [ha.held]; omega) (by rw [hb.held]; omega) (L0 ha) (L0 hb)]
 simp only [oS]
 rw [Vm]
theorem R2 {i : Nat} {l : List QU} {q : Aj × Aa} {k : Nat} {n : QU} (h : l[k]? = some n) : (Bfs.put i l q)[k]? = some n := by
 unfold Bfs.put
 split
 ·exact h
 ·exact Bfs.get_app_of h
theorem QM {i : Nat} {l : List QU} {q : Aj × Aa} {n : QU} (h : n ∈ Bfs.put i l q) : n ∈ l ∨ n.1 = q.2 := by
 unfold Bfs.put at h
 split at h
 ·exact .inl h
 ·rcases zB3.1 h with h | h
  ·exact .inl h
  ·rw [zD1.1 h]; exact .inr rfl
theorem Uw {p : Ab} {m : Aa} {s : Aj} {ss : List Aj} : V5 p m (s :: ss) = if BG p (BI p m s).1 = true then (s, (BI p m s).1) :: V5 p m ss else V5 p m ss := by
 unfold V5
 rw [List.filterMap_cons]
 split <;> rename_i h
 ·split at h
  ·cases h
  ·rename_i h2; rw [if_neg h2]
 ·split at h
  ·rename_i h2; cases h; rw [if_pos h2]
  ·cases h
theorem LK {p : Ab} {most i : Nat} : ∀ {qs : List (Aj × Aa)} {l l' : List QU}, Bfs.inner most i qs l = some l' → (∀ q, q ∈ qs → CG p q.2 ∧ BG p q.2 = true) → (∀ n, n ∈ l → CG p n.1 ∧ BG p n.1 = true) → (∀ n, n ∈ l' → CG p n.1 ∧ BG p n.1 = true) ∧ (∀ (k : Nat) n, l[k]? = some n → l'[k]? = some n)
 | [], l, l', h, _, hA => by cases h; exact ⟨hA, fun _ _ h => h⟩
 | q :: qs, l, l', h, hq, hA => by
  simp only [Bfs.inner] at h
  split at h
  ·cases h
  ·obtain ⟨h1, h2⟩ := LK h (fun q hq' => hq q (List.mem_cons_of_mem _ hq')) (fun n hn => by
    rcases QM hn with h | h
    ·exact hA n h
    ·rw [h]; exact hq q (by simp))
   exact ⟨h1, fun k n hn => h2 k n (R2 hn)⟩
theorem ME (N : Nat) (hN : N ≤ 1000000) (h20 : 100 ≤ N) {p : Ab} {m : Aa} (hp : B0 p) (hm : CG p m) {s : Aj} (hs : s ∈ Gb p m) : ∃ b, Cz N p m s = some ((BI p m s).1, b) := by
 obtain ⟨h1, h2⟩ := KU hs
 obtain ⟨h3, h4⟩ := Py hp h1
 rw [Mr N hN h20 hp hm h3 h4]
 unfold BI at h2 ⊢
 rw [h3, h4, if_neg (by simp), if_neg (by simp)] at h2 ⊢
 cases h : Gp p m s with
 | none => rw [h] at h2; cases h2
 | some x => exact ⟨true, rfl⟩
theorem Tg {p : Ab} {m : Aa} (hm : CG p m) (hr : BG p m = true) : ∀ n, n ∈ ([(m, -1, VA)] : List QU) → CG p n.1 ∧ BG p n.1 = true := fun n hn => by
 rw [zD1.1 hn]; exact ⟨hm, hr⟩
theorem MX {p : Ab} (hp : B0 p) (m : Aa) : (Gb p m).length ≤ 54 := zG6 (List.length_filter_le _ _) (TB hp)
def OJ (p : Ab) (m : Aa) (most n : Nat) : Option (List QU) := Bfs.go (OX p) most n 0 [(m, -1, VA)]
end Go.Lift
namespace Go.Lift
open IntKind renaming wrap → wI
open Go
theorem Xa {n : Nat} (h : n < 18446744073709551616) : wI .u64 (n : Int) = (n : Int) := by
 show ((n : Int) % (18446744073709551616 : Int)) = n
 exact Int.emod_eq_of_lt (by omega) (by omega)
structure MP {α : Type} (c : α → α → Int) : Prop where
 anti : ∀ x y, c y x = - c x y
 le : ∀ x y z, c x y ≤ 0 → c y z ≤ 0 → c x z ≤ 0
namespace MP
variable {α : Type} {c : α → α → Int}
theorem self (O : MP c) (x : α) : c x x = 0 := by have := O.anti x x; omega
theorem lt1 (O : MP c) {x y z : α} (h : c x y < 0) (h2 : c y z ≤ 0) : c x z < 0 := by
 have h3 := O.le x y z (by omega) h2
 by_cases h0 : c x z = 0
 ·have h4 := O.anti x z
  have h5 := O.le y z x h2 (by omega)
  have h6 := O.anti x y
  omega
 ·omega
theorem lt2 (O : MP c) {x y z : α} (h : c x y ≤ 0) (h2 : c y z < 0) : c x z < 0 := by
 have h3 := O.le x y z h (by omega)
 by_cases h0 : c x z = 0
 ·have h4 := O.anti x z
  have h5 := O.le z x y (by omega) h
  have h6 := O.anti y z
  omega
 ·omega
theorem or {d : α → α → Int} (O : MP c) (Q : MP d) : MP (fun x y => if c x y = 0 then d x y else c x y) := by
 refine ⟨fun x y => ?_, fun x y z => ?_⟩
 ·have := O.anti x y
  by_cases h : c x y = 0
  ·simp only [h, show c y x = 0 by omega, if_true]; exact Q.anti x y
  ·simp only [h, show ¬ c y x = 0 by omega, if_false]; exact this
 ·intro h1 h2
  have a1 : c x y ≤ 0 := by revert h1; split <;> omega
  have a2 : c y z ≤ 0 := by revert h2; split <;> omega
  have a3 := O.le x y z a1 a2
  by_cases h0 : c x z = 0
  ·have b1 : c x y = 0 := by
    by_cases q : c x y = 0
    ·exact q
    ·have := O.lt1 (show c x y < 0 by omega) a2; omega
   have b2 : c y z = 0 := by
    by_cases q : c y z = 0
    ·exact q
    ·have := O.lt2 a1 (show c y z < 0 by omega); omega
   simp only [b1, b2, h0, if_true] at h1 h2 ⊢
   exact Q.le x y z h1 h2
  ·simp only [h0, if_false]; exact a3
end MP
section
variable {α : Type} {P : α → Prop} {cmp : α × α → Option Int} {bq : α → α → Bool} {c : α → α → Int}
end
section
variable {α : Type} {c : α → α → Int}
abbrev Ia (c : α → α → Int) (l : List α) : Prop := l.Pairwise (fun x y => c x y < 0)
end
theorem Sy : MP ES := ⟨fun a b => J2 a b, Tz⟩
theorem MP.pull {α β : Type} {c : α → α → Int} (O : MP c) (f : β → α) : MP (fun x y => c (f x) (f y)) := ⟨fun _x _y => O.anti _ _, fun _x _y _z => O.le _ _ _⟩
theorem P3 : MP E6 := by
 have := (Sy.pull Aa.fd).or ((Sy.pull Aa.fa).or (Sy.pull Aa.fc))
 have e : E6 = fun (x y : Aa) => if ES x.fd y.fd = 0 then (if ES x.fa y.fa = 0 then ES x.fc y.fc else ES x.fa y.fa) else ES x.fd y.fd := by
  funext x y
  unfold E6 R6 R6 R6 R6
  repeat' split
  all_goals (first | rfl | omega | simp_all)
 rw [e]; exact this
end Go.Lift
namespace Go.Lift
open Go
variable {α : Type}
end Go.Lift
namespace Go.Lift
open Go
section
variable {α : Type} {c : α → α → Int}
variable {P : α → Prop} {eq : α × α → Option Bool} {b : α → α → Bool}
end
end Go.Lift
namespace Go.Lift
open Go
instance : Inhabited Ad := ⟨⟨0, 0, 0⟩⟩
theorem QK : Eb 2000 = some true := by kernel_rfl
def aN (a b : Ad) : Bool := (a.ft == b.ft) && ((a.fu == b.fu) && ((a.fv == b.fv) && true))
theorem Te (a b : Ad) : aN a b = true ↔ a = b := by
 cases a; cases b
 simp [aN]
instance ac : DecidableEq Ad := fun a b => if h : aN a b = true then isTrue ((Te a b).1 h) else isFalse fun e => h ((Te a b).2 e)
def Ky (x : Aa) : List Aa → List Aa
 | [] => [x]
 | y :: ys => if E6 y x = 0 then y :: ys else if 0 < E6 y x then x :: y :: ys else y :: Ky x ys
theorem Oi {x : Aa} : ∀ {l : List Aa} {z : Aa}, z ∈ Ky x l ↔ z = x ∨ z ∈ l
 | [], z => by simp [Ky]
 | y :: ys, z => by
  simp only [Ky]
  split
  ·rename_i h
   have h := J4 h
   constructor
   ·exact fun hz => .inr hz
   ·rintro (rfl | hz)
    ·rw [h]; simp
    ·exact hz
  ·split
   ·simp
   ·rw [vI, Oi, vI]
    constructor
    ·rintro (h | h | h)
     ·exact .inr (.inl h)
     ·exact .inl h
     ·exact .inr (.inr h)
    ·rintro (h | h | h)
     ·exact .inr (.inl h)
     ·exact .inl h
     ·exact .inr (.inr h)
theorem Q7 (x : Aa) : ∀ (l : List Aa), (Ky x l).length ≤ l.length + 1 ∧ l.length ≤ (Ky x l).length
 | [] => by simp [Ky]
 | y :: ys => by
  have := Q7 x ys
  simp only [Ky]
  split
  ·simp
  ·split
   ·simp
   ·simp only [vV]; omega
theorem Nk {x : Aa} : ∀ {l : List Aa}, Ia E6 l → Ia E6 (Ky x l)
 | [], _ => by simp [Ky, Ia]
 | y :: ys, h => by
  obtain ⟨h1, h2⟩ := zC3.1 h
  simp only [Ky]
  split
  ·exact h
  ·split
   ·rename_i h0 hx
    have hxy : E6 x y < 0 := by rw [T6 y x]; omega
    refine zC3.2 ⟨fun z hz => ?_, h⟩
    rcases vI.1 hz with rfl | hz
    ·exact hxy
    ·have := h1 z hz
     exact P3.lt1 hxy (by omega)
   ·rename_i h0 hx
    refine zC3.2 ⟨fun z hz => ?_, Nk h2⟩
    rcases Oi.1 hz with rfl | hz
    ·omega
    ·exact h1 z hz
def Dd (a : List Aa) : List Aa → List Aa
 | [] => a
 | x :: xs => Dd (Ky x a) xs
theorem J8 {z : Aa} : ∀ {xs a : List Aa}, z ∈ Dd a xs ↔ z ∈ a ∨ z ∈ xs
 | [], a => by simp [Dd]
 | x :: xs, a => by
  simp only [Dd]
  rw [J8, Oi, vI]
  constructor
  ·rintro ((h | h) | h)
   ·exact .inr (.inl h)
   ·exact .inl h
   ·exact .inr (.inr h)
  ·rintro (h | h | h)
   ·exact .inl (.inr h)
   ·exact .inl (.inl h)
   ·exact .inr h
theorem Lv : ∀ {xs a : List Aa}, Ia E6 a → Ia E6 (Dd a xs)
 | [], _, h => h
 | _ :: xs, _, h => Lv (xs := xs) (Nk h)
theorem Lz : ∀ (xs a : List Aa), (Dd a xs).length ≤ a.length + xs.length
 | [], a => by simp [Dd]
 | x :: xs, a => by
  have h1 := Lz xs (Ky x a)
  have h2 := Q7 x a
  simp only [Dd, vV]; omega
end Go.Lift
namespace Go.Lift
open List renaming mem_of_getElem? → lM
open Go
def Fr (l : List QU) : List Aa := l.map (·.1)
theorem RL {l : List QU} {i : Nat} {m : Aa} {f : Int} {t : Aj} (h : l[i]? = some (m, f, t)) : (Fr l)[i]? = some m := by
 unfold Fr; rw [vC, h]; rfl
theorem Jh (l : List QU) : (Fr l).length = l.length := vT _
theorem LX {l : List QU} {x : Aa} : x ∈ Fr l ↔ ∃ n, n ∈ l ∧ n.1 = x := zA6
theorem Pt {p : Ab} (hp : B0 p) {most : Nat} : ∀ (n i : Nat) (l l' : List QU), Bfs.go (OX p) most n i l = some l' → (∀ n, n ∈ l → CG p n.1 ∧ BG p n.1 = true) → ∀ n, n ∈ l' → CG p n.1 ∧ BG p n.1 = true
 | 0, i, l, l', h, _ => by cases h
 | n + 1, i, l, l', h, hA => by
  simp only [Bfs.go] at h
  split at h
  ·cases h; exact hA
  ·rename_i nd hx
   cases hin : Bfs.inner most i (OX p nd.1) l with
   | none => rw [hin] at h; cases h
   | some l1 =>
    rw [hin] at h
    exact Pt hp n (i + 1) l1 l' h (LK hin (fun q hq => Vp hp (hA _ (lM hx)).1 hq) hA).1
end Go.Lift
namespace Go.Lift
open Option renaming bind_some → oS
open Go
instance YK : Inhabited Aa := ⟨Hg⟩
theorem RC {N : Nat} (hN : N ≤ 1000000) {a b : Aa} (h1 : a.fd.length < N) (h2 : a.fa.length < N) (h3 : a.fc.length < N) (h4 : 3 < N) : CD N a b = some (E6 a b) := by
 unfold CD
 rw [OG h1 hN, OG h2 hN, RE h3 hN]
 simp only [oS]
 rw [Yh (by simp; omega) hN]
 rfl
end Go.Lift
namespace Go.Lift
open IntKind renaming wrap → wI
open Option renaming bind_some → oS
open List renaming mem_of_getElem? → lM
open List renaming getElem?_eq_some_iff → lI
open Go
structure OV (m : Aa) : Prop where
 base : m.fd.length ≤ 100
 next : m.fa.length ≤ 100
 held : m.fc.length ≤ 100
 u8 : Ls JR m.fc
theorem CG.lok {p : Ab} (hp : B0 p) {m : Aa} (h : CG p m) : OV m := by
 have hnv := hp.nv
 have hnt := hp.nt
 exact ⟨by rw [h.base]; omega, by rw [h.next]; omega, by rw [h.held]; omega, L0 h⟩
theorem OS {N : Nat} (hN : N ≤ 1000000) (h20 : 1010 ≤ N) {a b : Aa} (ha : OV a) (hb : OV b) : AY N a b = some (E6 a b) :=
 Ng hN (by have := ha.base; omega) (by have := ha.next; omega) (by have := ha.held; omega) (by have := hb.held; omega) ha.u8 hb.u8
theorem Sa {N : Nat} (hN : N ≤ 1000000) (h20 : 1010 ≤ N) {a b : Aa} (ha : OV a) : CD N a b = some (E6 a b) :=
 RC hN (by have := ha.base; omega) (by have := ha.next; omega) (by have := ha.held; omega) (by omega)
def Fk (x : Aa) : List Aa → Nat
 | [] => 0
 | y :: ys => if E6 y x < 0 then Fk x ys + 1 else 0
def GY (x : Aa) : List Aa → Bool
 | [] => false
 | y :: ys => if E6 y x < 0 then GY x ys else E6 y x == 0
theorem Pv (x : Aa) : ∀ l : List Aa, Fk x l ≤ l.length
 | [] => vN _
 | y :: ys => by
  have := Pv x ys
  simp only [Fk]; split
  ·simp only [vV]; omega
  ·omega
theorem OA (x : Aa) : ∀ l : List Aa, GY x l = match l[Fk x l]? with
  | none => false
  | some y => E6 y x == 0
 | [] => rfl
 | y :: ys => by
  simp only [Fk, GY]
  split
  ·rw [zI4]; exact OA x ys
  ·rfl
theorem G5 {x : Aa} : ∀ {l : List Aa}, Ia E6 l → GY x l = decide (x ∈ l)
 | [], _ => by simp [GY]
 | y :: ys, h => by
  obtain ⟨h1, h2⟩ := zC3.1 h
  simp only [GY]
  split
  ·rename_i hy
   rw [G5 h2]
   have : y ≠ x := fun e => by rw [e, Lc] at hy; omega
   rw [zF9, decide_eq_true_eq, decide_eq_true_eq, vI]
   exact ⟨.inr, fun h => h.resolve_left fun e => this e.symm⟩
  ·rename_i hy
   rw [zF9, beq_iff_eq, decide_eq_true_eq, vI]
   constructor
   ·intro e; exact .inl (J4 e).symm
   ·rintro (rfl | hx)
    ·exact Lc _
    ·exact absurd (h1 x hx) hy
theorem PN {x : Aa} : ∀ {l : List Aa}, Ia E6 l → x ∉ l → l.take (Fk x l) ++ [x] ++ l.drop (Fk x l) = Ky x l
 | [], _, _ => rfl
 | y :: ys, h, hx => by
  obtain ⟨h1, h2⟩ := zC3.1 h
  have hne : E6 y x ≠ 0 := fun e => hx (by rw [J4 e]; simp)
  simp only [Fk, Ky]
  rw [if_neg hne]
  split
  ·rename_i hy
   rw [if_neg (by omega)]
   simp only [List.take_succ_cons, List.drop_succ_cons, zF5]
   rw [PN h2 fun h => hx (by simp [h])]
  ·rename_i hy
   rw [if_pos (by omega)]; rfl
theorem Ox {N : Nat} (hN : N ≤ 1000000) (h20 : 1010 ≤ N) {x : Aa} (hx : OV x) (l : List Aa) (hl : l.length ≤ 100000) (hA : ∀ y, y ∈ l → OV y) (J : Int → Option (Int × Bool)) : ∀ (n i : Nat), l.length - i < n → i ≤ l.length →
  Dt N l x J n (i : Int) = J (((i + Fk x (l.drop i) : Nat)) : Int)
 | 0, i, h, _ => by omega
 | n + 1, i, h, hi => by
  rw [Dt]
  simp only [A8]
  by_cases h1 : i < l.length
  ·have hy : l[i]? = some l[i] := by simp [h1]
   rw [AD (by omega), Dg hy]
   simp only [AW, hy, oS]
   rw [OS hN h20 (hA _ (lM hy)) hx]
   simp only [oS, Fk]
   by_cases e : E6 l[i] x < 0
   ·rw [AD e, if_pos e, AG (by omega), Ox hN h20 hx l hl hA J n (i + 1) (by omega) (by omega)]
    rw [show i + 1 + Fk x (l.drop (i + 1)) = i + (Fk x (l.drop (i + 1)) + 1) from by omega]
   ·rw [AB e, if_neg e]; rfl
  ·rw [AB (by omega), An, vH (by omega)]
   rfl
theorem Oj {N : Nat} (hN : N ≤ 1000000) (h20 : 1010 ≤ N) {x : Aa} (hx : OV x) (l : List Aa) (hl : l.length ≤ 100000) (hl2 : l.length < N) (hA : ∀ y, y ∈ l → OV y) : Dw N l x = some (((Fk x l : Nat) : Int), GY x l) := by
 unfold Dw
 have e := Ox hN h20 hx l hl hA (fun (v2 : Int) =>
  Bc (fun (v8 : Bool) =>
   some (v2, v8))
  fun j8 =>
  AN ((decide (v2 < (l.length : Int))))
   ((BB l v2).bind fun v10 =>
   (AY N v10 x).bind fun v11 =>
   j8 (v11 == 0))
   (j8 false)) N 0 (by omega) (vG _)
 refine Eq.trans e ?_
 simp only [A8, vS, uT]
 rw [OA]
 cases hx2 : l[Fk x l]? with
 | none =>
  have : l.length ≤ Fk x l := zH8.1 hx2
  rw [AB (by omega)]
 | some y =>
  have := (lI.1 hx2).1
  rw [AD (by omega)]
  simp only [AW, hx2, oS]
  rw [OS hN h20 (hA _ (lM hx2)) hx]
  rfl
theorem U2 {n : Nat} : Fo .u64 (n : Int) 1 = ((n / 2 : Nat) : Int) := by
 unfold Fo
 have : (2 : Int) ^ min (1 : Int).toNat (IntKind.bits .u64) = 2 := by decide
 rw [this, Int.fdiv_eq_ediv_of_nonneg _ (by omega)]
 omega
theorem S9 {i j : Nat} (h : i + j ≤ 1000000) : wI .i64 (Fo .u64 (wI .u64 (wI .i64 ((i : Int) + (j : Int)))) 1) = (((i + j) / 2 : Nat) : Int) := by
 rw [CT (n := (i : Int) + j) (by omega) (by omega), show (i : Int) + (j : Int) = ((i + j : Nat) : Int) from by omega, Xa (by omega), U2, CT (by omega) (by omega)]
theorem P5 {N : Nat} (hN : N ≤ 1000000) (h20 : 1010 ≤ N) {x : Aa} (l : List Aa) (hl : l.length ≤ 100000) (hA : ∀ y, y ∈ l → OV y) (hs : Ia E6 l) (J : Int → Option (Int × Bool)) : ∀ (n i j : Nat), j - i < n → i ≤ j → j ≤ l.length → (∀ k y, k < i → l[k]? = some y → E6 y x < 0) → (∀ k y, j ≤ k → l[k]? = some y → ¬ E6 y x < 0) →
  AE N l x (fun (x : Aa × Aa) => CD N x.1 x.2) J n ((i : Int), (j : Int)) = J ((Fk x l : Nat) : Int)
 | 0, i, j, h, _, _, _, _ => by omega
 | n + 1, i, j, h, hij, hj, h1, h2 => by
  rw [AE]
  by_cases hlt : i < j
  ·have hh : (i + j) / 2 < l.length := by omega
   have hy : l[(i + j) / 2]? = some l[(i + j) / 2] := by simp [hh]
   rw [AD (by simp only; omega)]
   simp only [S9 (show i + j ≤ 1000000 by omega), AW, hy, oS]
   rw [Sa hN h20 (hA _ (lM hy))]
   simp only [oS]
   have hlt2 : ∀ (a b : Nat) u v, a < b → l[a]? = some u → l[b]? = some v → E6 u v < 0 := fun a b u v hab ha hb => by
    obtain ⟨ha1, rfl⟩ := lI.1 ha
    obtain ⟨hb1, rfl⟩ := lI.1 hb
    exact zE3.1 hs a b ha1 hb1 hab
   by_cases e : E6 l[(i + j) / 2] x < 0
   ·rw [AD e, AG (by omega)]
    exact P5 hN h20 l hl hA hs J n ((i + j) / 2 + 1) j (by omega) (by omega) hj (fun k y hk hky => by
     by_cases hk2 : k = (i + j) / 2
     ·subst hk2; rw [hy] at hky; cases hky; exact e
     ·exact P3.lt1 (hlt2 k _ _ _ (by omega) hky hy) (by omega)) h2
   ·rw [AB e]
    exact P5 hN h20 l hl hA hs J n i ((i + j) / 2) (by omega) (by omega) (by omega) h1 (fun k y hk hky => by
     by_cases hk2 : k = (i + j) / 2
     ·subst hk2; rw [hy] at hky; cases hky; exact e
     ·intro hc
      exact e (P3.lt1 (hlt2 _ k _ _ (by omega) hy hky) (by omega)))
  ·have : i = j := by omega
   subst this
   rw [AB (by simp only; omega)]
   have key : ∀ (l : List Aa) (i : Nat), i ≤ l.length → (∀ k y, k < i → l[k]? = some y → E6 y x < 0) → (∀ k y, i ≤ k → l[k]? = some y → ¬ E6 y x < 0) → Fk x l = i := by
    intro l
    induction l with
    | nil => intro i hi _ _; simp at hi; subst hi; rfl
    | cons y ys ih =>
     intro i hi g1 g2
     simp only [Fk]
     cases i with
     | zero => rw [if_neg (g2 0 y (vN _) rfl)]
     | succ i =>
      rw [if_pos (g1 0 y (by omega) rfl), ih i (by simpa using hi) (fun k z hk hz => g1 (k + 1) z (by omega) (by simpa using hz)) (fun k z hk hz => g2 (k + 1) z (by omega) (by simpa using hz))]
   rw [key l i hj h1 h2]
theorem Pq {N : Nat} (hN : N ≤ 1000000) (h20 : 1010 ≤ N) {x : Aa} (l : List Aa) (hl : l.length ≤ 100000) (hl2 : l.length < N) (hA : ∀ y, y ∈ l → OV y) (hs : Ia E6 l) : Fd N l x = some (decide (x ∈ l)) := by
 unfold Fd AQ
 have e := P5 hN h20 (x := x) l hl hA hs (fun (v2 : Int) =>
  Bc (fun (v7 : Bool) =>
   some (v2, v7))
  fun j7 =>
  AN ((decide (v2 < (l.length : Int))))
   ((BB l v2).bind fun v9 =>
   (CD N v9 x).bind fun v10 =>
   j7 (v10 == 0))
   (j7 false)) N 0 l.length (by omega) (vG _) (vN _) (fun k y hk => by omega) (fun k y hk hy => by
    have := (lI.1 hy).1; omega)
 have e' : AE N l x (fun (x : Aa × Aa) => CD N x.1 x.2) (fun (v2 : Int) =>
  Bc (fun (v7 : Bool) =>
   some (v2, v7))
  fun j7 =>
  AN ((decide (v2 < (l.length : Int))))
   ((BB l v2).bind fun v9 =>
   (CD N v9 x).bind fun v10 =>
   j7 (v10 == 0))
   (j7 false)) N (0, (l.length : Int)) = _ := e
 rw [e']
 rw [← G5 hs, OA]
 simp only [A8]
 cases hx2 : l[Fk x l]? with
 | none =>
  have : l.length ≤ Fk x l := zH8.1 hx2
  rw [AB (by omega)]; rfl
 | some y =>
  have := (lI.1 hx2).1
  rw [AD (by omega)]
  simp only [AW, hx2, oS]
  rw [Sa hN h20 (hA _ (lM hx2))]
  rfl
theorem Ol {N : Nat} (hN : N ≤ 1000000) (h20 : 100 ≤ N) {p : Ab} {m : Aa} (hw : Ls JR m.fc) : DY N p m = some (if BX p m = 0 then (BG p m, 0) else (false, BX p m)) := by
 by_cases hv : BX p m = 0
 ·rw [if_pos hv]; exact JJ N p m hN h20 hw hv
 ·have hb : (BX p m == 0) = false := beq_eq_false_iff_ne.2 hv
  have hn : (BX p m != 0) = true := bne_iff_ne.2 hv
  have c3 : FP N p m = some ([], BX p m) := by
   unfold FP; rw [HX N p m hN (by omega) hw]; simp only [oS, hn, AJ]
  have c4 : FC N p m = some (Hg, Tl, BX p m) := by
   unfold FC; rw [c3]; simp only [oS, hn, AJ]; rfl
  rw [if_neg hv]
  unfold DY; rw [c4]; simp only [oS, hb, An]
  rw [beq_eq_false_iff_ne.2 (by have := QA p m; omega : BX p m ≠ 15)]; rfl
def OB (p : Ab) (o : Option Aa) (m : Aa) : Bool := (match o with | none => true | some y => decide (E6 y m < 0)) && (BX p m == 0 && (BG p m && !Ir p m))
def IG (p : Ab) : Option Aa → List Aa → Bool
 | _, [] => true
 | o, m :: ms => OB p o m && IG p (some m) ms
def JV (p : Ab) (q : Aa → Bool) (m : Aa) : Bool := (Gb p m).all fun s => !BG p (BI p m s).1 || q (BI p m s).1
def Sl (p : Ab) (q : Aa → Bool) : Option Aa → List Aa → Bool
 | _, [] => true
 | o, m :: ms => OB p o m && (JV p q m && Sl p q (some m) ms)
theorem SZ {p : Ab} {q : Aa → Bool} : ∀ {o : Option Aa} {ms : List Aa}, Sl p q o ms = (IG p o ms && ms.all (JV p q))
 | _, [] => rfl
 | o, m :: ms => by
  simp only [Sl, IG, zC7]
  rw [SZ]
  cases OB p o m <;> cases JV p q m <;> cases IG p (some m) ms <;> rfl
theorem TR {p : Ab} {o : Option Aa} {m : Aa} (h : OB p o m = true) : (∀ y, o = some y → E6 y m < 0) ∧ BX p m = 0 ∧ BG p m = true ∧ Ir p m = false := by
 unfold OB at h
 rw [uV, uV, uV] at h
 obtain ⟨h1, h2, h3, h4⟩ := h
 refine ⟨fun y hy => ?_, beq_iff_eq.1 h2, h3, by simpa using h4⟩
 subst hy
 exact of_decide_eq_true h1
theorem L5 {p : Ab} : ∀ {ms : List Aa} {o : Option Aa}, IG p o ms = true → Ia E6 ms ∧ (∀ y, o = some y → ∀ z, z ∈ ms → E6 y z < 0) ∧ ∀ m, m ∈ ms → BX p m = 0 ∧ BG p m = true ∧ Ir p m = false
 | [], _, _ => ⟨List.Pairwise.nil, fun _ _ _ hz => (List.not_mem_nil hz).elim, fun _ hm => (List.not_mem_nil hm).elim⟩
 | m :: ms, o, h => by
  simp only [IG] at h
  rw [uV] at h
  obtain ⟨h1, h2⟩ := h
  obtain ⟨g1, g2, g3, g4⟩ := TR h1
  obtain ⟨k1, k2, k3⟩ := L5 h2
  refine ⟨zC3.2 ⟨k2 m rfl, k1⟩, fun y hy z hz => ?_, fun x hx => ?_⟩
  ·rcases vI.1 hz with rfl | hz
   ·exact g1 y hy
   ·have a1 := g1 y hy
    have a2 := k2 m rfl z hz
    exact P3.lt1 a1 (by omega)
  ·rcases vI.1 hx with rfl | hx
   ·exact ⟨g2, g3, g4⟩
   ·exact k3 x hx
def Lt (p : Ab) (l : List Aa) : Bool :=
 if BG p (E4 p) = true then IG p none l && (decide (E4 p ∈ l) && l.all (JV p fun x => decide (x ∈ l))) else l.isEmpty
def PX (l : List Aa) : Nat → Option Aa
 | 0 => none
 | i + 1 => l[i]?
theorem Ra {N : Nat} (hN : N ≤ 1000000) (h20 : 1010 ≤ N) (p : Ab) (l : List Aa) (hl : l.length ≤ 100000) (hA : ∀ y, y ∈ l → OV y) (J : Unit → Option Bool) : ∀ (n i : Nat), l.length - i < n → i ≤ l.length →
  EI N p l J n (i : Int) = AN (IG p (PX l i) (l.drop i)) (J ()) (some false)
 | 0, i, h, _ => by omega
 | n + 1, i, h, hi => by
  rw [EI]
  simp only [A8]
  by_cases h1 : i < l.length
  ·have hy : l[i]? = some l[i] := by simp [h1]
   have hyo := hA _ (lM hy)
   rw [AD (by omega), Dg hy]
   simp only [AW, hy, oS, IG]
   rw [Ol hN (by omega) hyo.u8, RU N p _ hN (by omega) hyo.u8]
   have ih := Ra hN h20 p l hl hA J n (i + 1) (by omega) (by omega)
   have hp1 : PX l (i + 1) = some l[i] := hy
   rw [hp1] at ih
   rw [AG (by omega), ih]
   have body : (if BX p l[i] = 0 then (BG p l[i], (0 : Int)) else (false, BX p l[i])).1 = (BX p l[i] == 0 && BG p l[i]) := by
    by_cases hv : BX p l[i] = 0
    ·rw [if_pos hv, hv]; rfl
    ·rw [if_neg hv, beq_eq_false_iff_ne.2 hv]; rfl
   have body2 : (BX p l[i] == 0) = true → (if BX p l[i] = 0 then (BG p l[i], (0 : Int)) else (false, BX p l[i])).2 = 0 := fun hv => by
    rw [if_pos (beq_iff_eq.1 hv)]
   have fin : ∀ b : Bool, (AN b (some false) ((some (if BX p l[i] = 0 then (BG p l[i], (0 : Int)) else (false, BX p l[i]))).bind fun v14 =>
     AN (!v14.1) (AN true (some false) (AN (IG p (some l[i]) (l.drop (i + 1))) (J ()) (some false)))
      (AN (v14.2 != 0) (AN true (some false) (AN (IG p (some l[i]) (l.drop (i + 1))) (J ()) (some false)))
       ((some (Ir p l[i])).bind fun v18 => AN v18 (some false) (AN (IG p (some l[i]) (l.drop (i + 1))) (J ()) (some false)))))) =
     AN (!b && (BX p l[i] == 0 && (BG p l[i] && !Ir p l[i])) && IG p (some l[i]) (l.drop (i + 1))) (J ()) (some false) := by
    intro b
    simp only [oS]
    rw [body]
    cases b
    ·cases hv : BX p l[i] == 0
     ·simp [AN]
     ·rw [body2 hv]
      cases BG p l[i] <;> cases Ir p l[i] <;> simp [AN]
    ·simp [AN]
   cases i with
   | zero =>
    rw [AB (by omega)]
    refine Eq.trans (fin false) ?_
    rfl
   | succ q =>
    have hq : l[q]? = some l[q] := by simp [show q < l.length by omega]
    rw [AD (by omega), PA (by omega)]
    simp only [AW, hq, oS]
    rw [Sa hN h20 (hA _ (lM hq))]
    simp only [oS]
    refine Eq.trans (fin (decide (0 ≤ E6 l[q] l[q + 1]))) ?_
    have hp2 : PX l (q + 1) = some l[q] := hq
    rw [hp2]
    unfold OB
    simp only
    by_cases hc : E6 l[q] l[q + 1] < 0
    ·rw [decide_eq_true hc, decide_eq_false (by omega)]; rfl
    ·rw [decide_eq_false hc, decide_eq_true (by omega)]; rfl
  ·rw [AB (by omega), vH (by omega)]; rfl
theorem SY {N : Nat} (hN : N ≤ 1000000) (h20 : 1010 ≤ N) {p : Ab} (hv : De p = 0) (l : List Aa) (hl : l.length ≤ 100000) (hl2 : l.length < N) (hA : ∀ y, y ∈ l → OV y) (hs : Ia E6 l) {m : Aa} (hm : CG p m) (ss : List Aj) (e : Int) (hss : ∀ s, s ∈ ss → s ∈ Gb p m) (hsl : ss.length ≤ 1000) (J : Unit → Option Bool) : ∀ (n i : Nat), ss.length - i < n → i ≤ ss.length →
  Ev N p l m (ss, e) J n (i : Int) = AN ((ss.drop i).all fun s => !BG p (BI p m s).1 || decide ((BI p m s).1 ∈ l)) (J ()) (some false)
 | 0, i, h, _ => by omega
 | n + 1, i, h, hi => by
  obtain ⟨hp, _⟩ := Eo hv
  rw [Ev]
  simp only [A8]
  by_cases h1 : i < ss.length
  ·have hy : ss[i]? = some ss[i] := by simp [h1]
   have hsm := hss _ (lM hy)
   have hxo := K8 hp hm (KU hsm).2
   rw [AD (by first | omega | (simp only; omega)), Dg hy]
   simp only [AW, hy, oS, zC7]
   rw [Pe N hN (by omega) (L0 hm), if_pos (KL hv hm)]
   simp only [oS]
   rw [JJ N p _ hN (by omega) (L0 hxo) (KL hv hxo)]
   simp only [oS]
   rw [AG (by omega), SY hN h20 hv l hl hl2 hA hs hm ss e hss hsl J n (i + 1) (by omega) (by omega)]
   cases BG p (BI p m ss[i]).1
   ·rw [An, An]; simp
   ·rw [AJ, Pq hN h20 l hl hl2 hA hs]
    simp only [oS]
    cases decide ((BI p m ss[i]).1 ∈ l) <;> simp [AN]
  ·rw [AB (by first | omega | (simp only; omega)), vH (by omega)]; rfl
theorem Ri {N : Nat} (hN : N ≤ 1000000) (h20 : 1010 ≤ N) {p : Ab} (hv : De p = 0) (l : List Aa) (hl : l.length ≤ 100000) (hl2 : l.length < N) (hA : ∀ y, y ∈ l → OV y) (hs : Ia E6 l) (hM : ∀ y, y ∈ l → BX p y = 0) (J : Unit → Option Bool) : ∀ (n i : Nat), l.length - i < n → i ≤ l.length →
  Et N p l J n (i : Int) = AN ((l.drop i).all (JV p fun x => decide (x ∈ l))) (J ()) (some false)
 | 0, i, h, _ => by omega
 | n + 1, i, h, hi => by
  obtain ⟨hp, _⟩ := Eo hv
  rw [Et]
  by_cases h1 : i < l.length
  ·have hy : l[i]? = some l[i] := by simp [h1]
   have hyl := lM hy
   have hm := (In (hA _ hyl).u8 (hM _ hyl)).2
   rw [AD (by omega), Dg hy]
   simp only [AW, hy, oS, zC7]
   rw [R8 N hN (by omega) hv hm]
   simp only [oS]
   have hsl := MX hp l[i]
   rw [show (0 : Int) = ((0 : Nat) : Int) from rfl, SY hN h20 hv l hl hl2 hA hs hm (Gb p l[i]) _ (fun s hs => hs) (by omega) _ N 0 (by omega) (vG _), vS, AG (by omega), Ri hN h20 hv l hl hl2 hA hs hM J n (i + 1) (by omega) (by omega)]
   show AN (JV p (fun x => decide (x ∈ l)) l[i]) _ _ = _
   cases JV p (fun x => decide (x ∈ l)) l[i] <;> simp
  ·rw [AB (by omega), vH (by omega)]; rfl
theorem NH {N : Nat} (hN : N ≤ 1000000) (h20 : 1010 ≤ N) {p : Ab} (hv : De p = 0) (l : List Aa) (hl : l.length ≤ 100000) (hl2 : l.length < N) (hA : ∀ y, y ∈ l → OV y) : DZ N p l = some (Lt p l) := by
 have hs := Me hv
 unfold DZ Lt
 rw [P6 N p hN (by omega), if_pos hv, hv]
 simp only [oS, bne_self_eq_false, An]
 rw [JJ N p _ hN (by omega) (L0 hs) (KL hv hs)]
 simp only [oS]
 cases hr : BG p (E4 p)
 ·rw [zA5, AJ, if_neg (by simp)]
  cases l with
  | nil => rfl
  | cons x l => rw [beq_eq_false_iff_ne.2 (by simp only [vV]; omega)]; rfl
 ·rw [vM, An, if_pos rfl, show (0 : Int) = ((0 : Nat) : Int) from rfl, Ra hN h20 p l hl hA _ N 0 (by omega) (vG _)]
  show AN (IG p none (l.drop 0)) _ _ = _
  rw [vS]
  cases hg : IG p none l
  ·rfl
  ·obtain ⟨g1, _, g3⟩ := L5 hg
   rw [AJ, Pq hN h20 l hl hl2 hA g1, zA9]
   simp only [oS]
   cases decide (E4 p ∈ l)
   ·rfl
   ·rw [vM, An, zA9, Ri hN h20 hv l hl hl2 hA g1 (fun y hy => (g3 y hy).1) _ N 0 (by omega) (vG _), vS]
    cases l.all (JV p fun x => decide (x ∈ l)) <;> rfl
theorem Rk {N : Nat} (hN : N ≤ 1000000) (h20 : 1010 ≤ N) {p : Ab} (hp : B0 p) (l : List Aa) (hl : l.length ≤ 100000) (hl2 : l.length < N) (hA : ∀ y, y ∈ l → OV y) {q : Nat} {m : Aa} (hq : l[q]? = some m) (hm : CG p m) (ss : List Aj) (hss : ∀ s, s ∈ ss → s ∈ Gb p m) (hsl : ss.length ≤ 1000) (J : Unit → Option Bool) : ∀ (n i : Nat), ss.length - i < n → i ≤ ss.length →
  BR N p l (q : Int) ss J n (i : Int) = AN ((ss.drop i).all fun s => !BG p (BI p m s).1 || GY (BI p m s).1 l) (J ()) (some false)
 | 0, i, h, _ => by omega
 | n + 1, i, h, hi => by
  rw [BR]
  simp only [A8]
  by_cases h1 : i < ss.length
  ·have hy : ss[i]? = some ss[i] := by simp [h1]
   have hsm := hss _ (lM hy)
   have hxo := K8 hp hm (KU hsm).2
   obtain ⟨b, ea⟩ := ME N hN (by omega) hp hm hsm
   rw [AD (by first | omega | (simp only; omega)), Dg hy]
   simp only [AW, hy, hq, oS, zC7]
   rw [ea]
   simp only [oS]
   rw [Oj hN h20 (hxo.lok hp) l hl hl2 hA, G7 N p _ hN (by omega) hp hxo]
   simp only [oS]
   rw [AG (by omega), Rk hN h20 hp l hl hl2 hA hq hm ss hss hsl J n (i + 1) (by omega) (by omega)]
   cases GY (BI p m ss[i]).1 l <;> cases BG p (BI p m ss[i]).1 <;> simp [AN]
  ·rw [AB (by first | omega | (simp only; omega)), vH (by omega)]; rfl
theorem PD {N : Nat} (hN : N ≤ 1000000) (h20 : 1010 ≤ N) {p : Ab} (hv : De p = 0) (l : List Aa) (hl : l.length ≤ 100000) (hl2 : l.length < N) (hA : ∀ y, y ∈ l → OV y) (J : Unit → Option Bool) : ∀ (n i : Nat), l.length - i < n → i ≤ l.length →
  B5 N p l J n (i : Int) = AN (Sl p (fun x => GY x l) (PX l i) (l.drop i)) (J ()) (some false)
 | 0, i, h, _ => by omega
 | n + 1, i, h, hi => by
  obtain ⟨hp, _⟩ := Eo hv
  rw [B5]
  simp only [A8]
  by_cases h1 : i < l.length
  ·have hy : l[i]? = some l[i] := by simp [h1]
   have hyl := lM hy
   have hyo := hA _ hyl
   rw [AD (by omega), Dg hy]
   simp only [AW, hy, oS, Sl]
   rw [Kb N p _ hN (by omega)]
   have hp1 : PX l (i + 1) = some l[i] := hy
   simp only [oS]
   have fin : ∀ b : Bool, (AN b (some false) (AN (BX p l[i] != 0) (AN true (some false) ((CE N p l[i]).bind fun v25 =>
       BR N p l (i : Int) v25 (fun (_ : Unit) => B5 N p l J n (wI .i64 ((i : Int) + 1))) N 0))
      ((BE N p l[i]).bind fun v19 => AN (!v19) (AN true (some false) ((CE N p l[i]).bind fun v25 =>
       BR N p l (i : Int) v25 (fun (_ : Unit) => B5 N p l J n (wI .i64 ((i : Int) + 1))) N 0))
       ((DJ N p l[i]).bind fun v22 => AN v22 (some false) ((CE N p l[i]).bind fun v25 =>
       BR N p l (i : Int) v25 (fun (_ : Unit) => B5 N p l J n (wI .i64 ((i : Int) + 1))) N 0))))) =
     AN ((!b && (BX p l[i] == 0 && (BG p l[i] && !Ir p l[i]))) && (JV p (fun x => GY x l) l[i] && Sl p (fun x => GY x l) (some l[i]) (l.drop (i + 1)))) (J ()) (some false) := by
    intro b
    cases b
    ·by_cases hvm : BX p l[i] = 0
     ·have hm := (In hyo.u8 hvm).2
      rw [hvm, G7 N p _ hN (by omega) hp hm, Nq N p _ hN (by omega) hyo.u8]
      simp only [oS, bne_self_eq_false, An]
      cases BG p l[i]
      ·simp [AN]
      ·cases Ir p l[i]
       ·rw [vM, An, An, LU N hN (by omega) hv hm]
        simp only [oS]
        have hsl := MX hp l[i]
        rw [show (0 : Int) = ((0 : Nat) : Int) from rfl, Rk hN h20 hp l hl hl2 hA hy hm (Gb p l[i]) (fun s hs => hs) (by omega) _ N 0 (by omega) (vG _), vS, AG (by omega), PD hN h20 hv l hl hl2 hA J n (i + 1) (by omega) (by omega), hp1]
        show AN (JV p (fun x => GY x l) l[i]) _ _ = _
        cases JV p (fun x => GY x l) l[i] <;> simp
       ·simp [AN]
     ·rw [bne_iff_ne.2 hvm, beq_eq_false_iff_ne.2 hvm]
      simp [AN]
    ·simp [AN]
   cases i with
   | zero =>
    rw [AB (by omega)]
    refine Eq.trans (fin false) ?_
    rfl
   | succ r =>
    have hq : l[r]? = some l[r] := by simp [show r < l.length by omega]
    rw [AD (by omega), PA (by omega)]
    simp only [AW, hq, oS]
    rw [OS hN h20 (hA _ (lM hq)) hyo]
    simp only [oS]
    refine Eq.trans (fin (decide (0 ≤ E6 l[r] l[r + 1]))) ?_
    have hp2 : PX l (r + 1) = some l[r] := hq
    rw [hp2]
    unfold OB
    simp only
    by_cases hc : E6 l[r] l[r + 1] < 0
    ·rw [decide_eq_true hc, decide_eq_false (by omega)]; rfl
    ·rw [decide_eq_false hc, decide_eq_true (by omega)]; rfl
  ·rw [AB (by omega), vH (by omega)]; rfl
theorem Sp {N : Nat} (hN : N ≤ 1000000) (h20 : 1010 ≤ N) {p : Ab} (hv : De p = 0) (l : List Aa) (hl : l.length ≤ 100000) (hl2 : l.length < N) (hA : ∀ y, y ∈ l → OV y) : D6 N p l = some (Lt p l) := by
 obtain ⟨hp, _⟩ := Eo hv
 have hs := Me hv
 unfold D6 Lt
 rw [Mf N p hN (by omega), if_pos hv, hv]
 simp only [oS, bne_self_eq_false, An]
 rw [G7 N p _ hN (by omega) hp hs]
 simp only [oS]
 cases hr : BG p (E4 p)
 ·rw [zA5, AJ, if_neg (by simp)]
  cases l with
  | nil => rfl
  | cons x l => rw [beq_eq_false_iff_ne.2 (by simp only [vV]; omega)]; rfl
 ·rw [vM, An, if_pos rfl, show (0 : Int) = ((0 : Nat) : Int) from rfl, PD hN h20 hv l hl hl2 hA _ N 0 (by omega) (vG _)]
  show AN (Sl p (fun x => GY x l) none (l.drop 0)) _ _ = _
  rw [vS, SZ, Oj hN h20 (hs.lok hp) l hl hl2 hA]
  simp only [oS]
  cases hg : IG p none l
  ·rfl
  ·obtain ⟨g1, _, g3⟩ := L5 hg
   have : (fun x => GY x l) = fun x => decide (x ∈ l) := funext fun x => G5 g1
   rw [this, G5 g1, zA9, zA9]
   cases l.all (JV p fun x => decide (x ∈ l)) <;> cases decide (E4 p ∈ l) <;> rfl
theorem RS (a xs : List Aa) (x : Aa) : Dd a (xs ++ [x]) = Ky x (Dd a xs) := by
 induction xs generalizing a with
 | nil => rfl
 | cons y xs ih => exact ih (Ky y a)
theorem UE {N : Nat} (hN : N ≤ 1000000) (h20 : 1010 ≤ N) {p : Ab} (hp : B0 p) {m : Aa} (hm : CG p m) {f : Int} {t : Aj} {most i : Nat} (hmo : most ≤ 20000) (hmN : most < N) {v4 : List Aa × List Aa × Int} (hv4 : v4.2.2 = (i : Int)) (ss : List Aj) (hss : ∀ s, s ∈ ss → s ∈ Gb p m) (hsl : ss.length ≤ 1000) (j : List Aa × List Aa → Option (List Aa × Bool)) :
  ∀ (n k : Nat) (l : List QU), k ≤ ss.length → ss.length - k < n → l[i]? = some (m, f, t) → (∀ n, n ∈ l → CG p n.1 ∧ BG p n.1 = true) → l.length ≤ most →
   Cc N p (most : Int) v4 ss j n (Fr l, Dd [] (Fr l), (k : Int)) = match Bfs.inner most i (V5 p m (ss.drop k)) l with
    | none => some ([], false)
    | some l' => j (Fr l', Dd [] (Fr l'))
 | 0, k, l, _, h, _, _, _ => by omega
 | n + 1, k, l, hk, h, hi, hA, hlm => by
  have hlen : (Dd [] (Fr l)).length ≤ l.length := by
   have := Lz (Fr l) []
   rw [Jh] at this; simpa using this
  have hmem : ∀ x, x ∈ Dd [] (Fr l) ↔ x ∈ Fr l := fun x => by rw [J8]; simp
  have hok : ∀ x, x ∈ Fr l → CG p x := fun x hx => by obtain ⟨q, h1, rfl⟩ := LX.1 hx; exact (hA q h1).1
  have hstr : Ia E6 (Dd [] (Fr l)) := Lv List.Pairwise.nil
  by_cases h1 : k < ss.length
  ·have hs : ss[k]? = some ss[k] := by simp [h1]
   have hsm := hss _ (lM hs)
   have hxo := K8 hp hm (KU hsm).2
   obtain ⟨b, ea⟩ := ME N hN (by omega) hp hm hsm
   rw [Cc, AD (by simp only; omega)]
   simp only [A8, hv4, AW, RL hi, hs, oS]
   rw [ea]
   simp only [oS]
   rw [Oj hN h20 (hxo.lok hp) (Dd [] (Fr l)) (by omega) (by omega) (fun y hy => (hok y ((hmem y).1 hy)).lok hp), G5 hstr]
   simp only [oS]
   rw [Dg hs, Uw]
   have hput : Bfs.put i l (ss[k], (BI p m ss[k]).1) = if (l.any fun n => decide (n.1 = (BI p m ss[k]).1)) = true then l else l ++ [((BI p m ss[k]).1, (i : Int), ss[k])] := rfl
   have hany : (l.any fun n => decide (n.1 = (BI p m ss[k]).1)) = decide ((BI p m ss[k]).1 ∈ Dd [] (Fr l)) := by
    rw [zF9, decide_eq_true_eq, hmem, zD2, LX]
    exact ⟨fun ⟨n, h1, h2⟩ => ⟨n, h1, of_decide_eq_true h2⟩, fun ⟨n, h1, h2⟩ => ⟨n, h1, decide_eq_true h2⟩⟩
   have next : ∀ (l' : List QU), l'[i]? = some (m, f, t) → (∀ n, n ∈ l' → CG p n.1 ∧ BG p n.1 = true) → l'.length ≤ most →
     Cc N p (most : Int) v4 ss j n (Fr l', Dd [] (Fr l'), wI .i64 ((k : Int) + 1)) = match Bfs.inner most i (V5 p m (ss.drop (k + 1))) l' with
     | none => some ([], false)
     | some l' => j (Fr l', Dd [] (Fr l')) := fun l' a1 a2 a3 => by
    rw [AG (by omega)]
    exact UE hN h20 hp hm hmo hmN hv4 ss hss hsl j n (k + 1) l' (by omega) (by omega) a1 a2 a3
   rw [hany] at hput
   by_cases hin : (BI p m ss[k]).1 ∈ Dd [] (Fr l)
   ·rw [decide_eq_true hin, AJ, AJ]
    rw [decide_eq_true hin, if_pos rfl] at hput
    rw [next l hi hA hlm]
    cases BG p (BI p m ss[k]).1
    ·rfl
    ·rw [if_pos rfl]
     simp only [Bfs.inner]
     rw [hput, if_neg (by omega)]
   ·rw [decide_eq_false hin, An, G7 N p _ hN (by omega) hp hxo]
    simp only [oS]
    rw [decide_eq_false hin, if_neg (by simp)] at hput
    cases hr : BG p (BI p m ss[k]).1
    ·rw [zA5, AJ, if_neg (by simp)]
     exact next l hi hA hlm
    ·rw [vM, An, if_pos rfl]
     have hpl := Pv (BI p m ss[k]).1 (Dd [] (Fr l))
     simp only [vJ, Nat.sub_zero, vS, zE8]
     rw [Ap (by rw [Jh]; simp [DC]; omega), Ap ⟨by omega, by omega, hpl⟩, Ap (by simp [DC]; omega), Ap (by simp [DC]; omega), Ap ⟨by omega, hpl, vN _⟩, Ap (by simp [DC]; omega)]
     have ht : ((Dd [] (Fr l)).drop (Fk (BI p m ss[k]).1 (Dd [] (Fr l)))).take ((Dd [] (Fr l)).length - Fk (BI p m ss[k]).1 (Dd [] (Fr l))) = (Dd [] (Fr l)).drop (Fk (BI p m ss[k]).1 (Dd [] (Fr l))) := zC5 (by rw [List.length_drop]; omega)
     rw [ht, PN hstr hin]
     have e : Fr l ++ [(BI p m ss[k]).1] = Fr (Bfs.put i l (ss[k], (BI p m ss[k]).1)) := by rw [hput]; simp [Fr]
     have e2 : Ky (BI p m ss[k]).1 (Dd [] (Fr l)) = Dd [] (Fr (Bfs.put i l (ss[k], (BI p m ss[k]).1))) := by rw [← e, RS]
     rw [e, e2]
     simp only [Bfs.inner]
     by_cases hb : most < (Bfs.put i l (ss[k], (BI p m ss[k]).1)).length
     ·rw [if_pos hb, AD (by rw [Jh]; omega)]
     ·rw [if_neg hb, AB (by rw [Jh]; omega)]
      refine next _ (R2 hi) (fun n hn => ?_) (by omega)
      rcases QM hn with h | h
      ·exact hA n h
      ·rw [h]; exact ⟨hxo, hr⟩
  ·have : k = ss.length := by omega
   subst this
   rw [Cc, AB (by simp), vH (vN _)]
   rfl
theorem RB {N : Nat} (hN : N ≤ 1000000) (h20 : 1010 ≤ N) {p : Ab} (hv : De p = 0) {most : Nat} (hmo : most ≤ 20000) (hmN : most < N) (j : List Aa → Option (List Aa × Bool)) :
  ∀ (n i : Nat) (l : List QU), i ≤ l.length → (∀ n, n ∈ l → CG p n.1 ∧ BG p n.1 = true) → l.length ≤ most → most < n + i →
   CJ N p (most : Int) j n (Fr l, Dd [] (Fr l), (i : Int)) = match Bfs.go (OX p) most n i l with
    | none => some ([], false)
    | some l' => j (Dd [] (Fr l'))
 | 0, i, l, hi, _, hlm, hfu => by omega
 | n + 1, i, l, hi, hA, hlm, hfu => by
  obtain ⟨hp, _⟩ := Eo hv
  simp only [Bfs.go]
  rw [CJ]
  by_cases h1 : i < l.length
  ·obtain ⟨⟨m, f, t⟩, hx⟩ := Bfs.get_ex h1
   have hm := (hA _ (lM hx)).1
   rw [hx]
   simp only
   rw [AD (by rw [Jh]; omega)]
   simp only [AW, RL hx, oS]
   rw [LU N hN (by omega) hv hm]
   simp only [oS]
   have hsl := MX hp m
   have e := UE hN h20 hp hm hmo hmN (v4 := (Fr l, Dd [] (Fr l), (i : Int))) rfl (Gb p m) (fun s hs => hs) (by omega) (fun (v10 : (List Aa) × (List Aa)) => CJ N p (most : Int) j n (v10.1, v10.2, (wI .i64 ((i : Int) + 1)))) N 0 l (vG _) (by omega) hx hA hlm
   rw [vS, show V5 p m (Gb p m) = OX p m from rfl] at e
   refine e.trans ?_
   cases hin : Bfs.inner most i (OX p m) l with
   | none => rfl
   | some l1 =>
    simp only [oS]
    rw [AG (by omega)]
    have hk := LK hin (fun q hq => Vp hp hm hq) hA
    exact RB hN h20 hv hmo hmN j n (i + 1) l1 (by have := Bfs.lt_get (hk.2 i _ hx); omega) hk.1 (Bfs.inner_len _ _ _ hlm hin) (by omega)
  ·have : l[i]? = none := by rw [zC0]; omega
   rw [this, AB (by simp only; rw [Jh]; omega)]
theorem Qo {N : Nat} (hN : N ≤ 1000000) (h20 : 1010 ≤ N) {p : Ab} (hv : De p = 0) {most : Nat} (h1 : 1 ≤ most) (hmo : most ≤ 20000) (hmN : most < N) :
  EG N p (most : Int) = some (if BG p (E4 p) = true then (match OJ p (E4 p) most N with
   | none => ([], false)
   | some l => (Dd [] (Fr l), true)) else ([], true)) := by
 obtain ⟨hp, _⟩ := Eo hv
 have hs := Me hv
 unfold EG
 rw [Mf N p hN (by omega), if_pos hv]
 simp only [oS]
 rw [G7 N p _ hN (by omega) hp hs]
 simp only [oS]
 cases hr : BG p (E4 p)
 ·rfl
 ·rw [vM, An, if_pos rfl]
  have e := RB hN h20 hv hmo hmN (fun (v5 : (List Aa)) => some (v5, true)) N 0 [(E4 p, -1, VA)] (vG _) (Tg hs hr) (by simpa using h1) (by omega)
  refine e.trans ?_
  show (match OJ p (E4 p) most N with | none => _ | some l' => _) = _
  cases OJ p (E4 p) most N <;> rfl
theorem MB {N : Nat} (hN : N ≤ 1000000) (h20 : 100 ≤ N) {p : Ab} (l : List Aa) (hl : l.length ≤ 100000) (hA : ∀ x, x ∈ l → Ls JR x.fc) : ∀ (n i : Nat), l.length - i < n → i ≤ l.length →
  C3 N p l (fun _ => some false) n (i : Int) = some ((l.drop i).any (Ir p))
 | 0, i, h, _ => by omega
 | n + 1, i, h, hi => by
  rw [C3]
  by_cases h1 : i < l.length
  ·have hy : l[i]? = some l[i] := by simp [h1]
   rw [AD (by omega), Dg hy]
   simp only [AW, hy, oS, List.any_cons]
   rw [Nq N p _ hN h20 (hA _ (lM hy))]
   simp only [oS]
   cases Ir p l[i]
   ·rw [An, AG (by omega), MB hN h20 l hl hA n (i + 1) (by omega) (by omega), zE4]
   ·rfl
  ·rw [AB (by omega), vH (by omega)]; rfl
theorem SN {N : Nat} (hN : N ≤ 1000000) (h20 : 100 ≤ N) {p : Ab} (l : List Aa) (hl : l.length ≤ 100000) (hl2 : l.length < N) (hA : ∀ x, x ∈ l → Ls JR x.fc) : Da N p l = some (l.any (Ir p)) := by
 unfold Da
 have := MB hN h20 (p := p) l hl hA N 0 (by omega) (vG _)
 rw [vS] at this
 exact this
theorem Qj {N : Nat} (hN : N ≤ 1000000) (l : List Aa) (hl : l.length ≤ 100000) (hl2 : l.length < N) (f : Aa → Option Bool) (g : Aa → Bool) (hf : ∀ x, x ∈ l → f x = some (g x)) : Bl N l f = some (l.any g) := by
 have key : ∀ (n i : Nat), l.length - i < n → i ≤ l.length → ∃ r, A9 N l f (fun _ => some (-1)) n (i : Int) = some r ∧ decide (0 ≤ r) = (l.drop i).any g := by
  intro n
  induction n with
  | zero => intro i h; omega
  | succ n ih =>
   intro i h hi
   rw [A9]
   by_cases h1 : i < l.length
   ·have hy : l[i]? = some l[i] := by simp [h1]
    rw [AD (by omega), Dg hy]
    simp only [AW, hy, oS, List.any_cons]
    rw [hf _ (lM hy)]
    simp only [oS]
    cases g l[i]
    ·rw [An, AG (by omega)]
     obtain ⟨r, e1, e2⟩ := ih (i + 1) (by omega) (by omega)
     exact ⟨r, e1, by rw [e2, zE4]⟩
    ·exact ⟨(i : Int), rfl, by rw [decide_eq_true (by omega)]; rfl⟩
   ·rw [AB (by omega), vH (by omega)]
    exact ⟨-1, rfl, rfl⟩
 obtain ⟨r, e1, e2⟩ := key N 0 (by omega) (vG _)
 unfold Bl CW
 have e1' : A9 N l f (fun _ => some (-1)) N 0 = some r := e1
 rw [e1']
 simp only [oS]
 rw [e2, vS]
theorem PZ {L : List Aa} {most i : Nat} : ∀ {qs : List (Aj × Aa)} {l l' : List QU}, Bfs.inner most i qs l = some l' → (∀ q, q ∈ qs → q.2 ∈ L) → (∀ n, n ∈ l → n.1 ∈ L) → ∀ n, n ∈ l' → n.1 ∈ L
 | [], l, l', h, _, hA => by cases h; exact hA
 | q :: qs, l, l', h, hq, hA => by
  simp only [Bfs.inner] at h
  split at h
  ·cases h
  ·exact PZ h (fun q hq' => hq q (List.mem_cons_of_mem _ hq')) fun n hn => by
    rcases QM hn with h | h
    ·exact hA n h
    ·rw [h]; exact hq q (by simp)
theorem VH {p : Ab} {L : List Aa} (hL : ∀ m, m ∈ L → JV p (fun x => decide (x ∈ L)) m = true) {most : Nat} : ∀ (n i : Nat) (l l' : List QU), Bfs.go (OX p) most n i l = some l' → (∀ n, n ∈ l → n.1 ∈ L) → ∀ n, n ∈ l' → n.1 ∈ L
 | 0, i, l, l', h, _ => by cases h
 | n + 1, i, l, l', h, hA => by
  simp only [Bfs.go] at h
  split at h
  ·cases h; exact hA
  ·rename_i nd hx
   cases hin : Bfs.inner most i (OX p nd.1) l with
   | none => rw [hin] at h; cases h
   | some l1 =>
    rw [hin] at h
    refine VH hL n (i + 1) l1 l' h (PZ hin (fun q hq => ?_) hA)
    obtain ⟨q1, q2, q3⟩ := Tc.1 hq
    have := uX.1 (hL _ (hA _ (lM hx))) q.1 q1
    rw [← q2, q3] at this
    simpa using this
theorem Un {p : Ab} {L : List Aa} (hc : Lt p L = true) (hr : BG p (E4 p) = true) {most n : Nat} {l : List QU} (hg : OJ p (E4 p) most n = some l) : (∀ x, x ∈ Dd [] (Fr l) → x ∈ L) ∧ (Dd [] (Fr l)).any (Ir p) = false := by
 unfold Lt at hc
 rw [if_pos hr, uV, uV] at hc
 obtain ⟨h1, h2, h3⟩ := hc
 have hL := VH (L := L) (fun m hm => uX.1 h3 m hm) _ _ _ _ hg (fun n hn => by
  rw [zD1.1 hn]; exact of_decide_eq_true h2)
 have hm : ∀ x, x ∈ Dd [] (Fr l) → x ∈ L := fun x hx => by
  rw [J8] at hx
  obtain ⟨n, g1, rfl⟩ := LX.1 (hx.resolve_left (by simp))
  exact hL n g1
 refine ⟨hm, ?_⟩
 rw [List.any_eq_false]
 intro x hx
 have := ((L5 h1).2.2 x (hm x hx)).2.2
 rw [this]; simp
theorem Wy (N : Nat) (l : List Aa) (i : Nat) (hi : i < l.length) (hl : l.length ≤ 1000) : ∃ X, B6 N l (i : Int) (((i + 1 : Nat) : Int)) = some (l.length - 1, X) ∧ X.take (l.length - 1) = l.take i ++ l.drop (i + 1) ∧ l.length - 1 ≤ X.length := by
 unfold B6
 have e1 : ((l.drop (i + 1)).take (l.length - (i + 1))) = l.drop (i + 1) := zC5 (by simp)
 have e2 : i + (l.drop (i + 1)).length = l.length - 1 := by simp; omega
 have e3 : (Gv l (0 + i) (l.drop (i + 1))).length = l.length := Gg (by simp; omega)
 simp only [vJ, e1, e2, e3]
 rw [Ap ⟨by omega, by omega, by omega, by omega, by omega, vN _⟩, beq_eq_false_iff_ne.2 (show (i : Int) ≠ ((i + 1 : Nat) : Int) by omega), An,
  Ap ⟨by omega, by omega, by omega⟩, Ap ⟨by omega, by omega, vN _⟩, Ap (by omega), Ap ⟨by omega, by omega, by omega, vN _⟩]
 refine ⟨_, rfl, ?_, ?_⟩
 ·unfold Gv
  rw [uT, zB1]
  have h1 : (l.take i ++ l.drop (i + 1) ++ l.drop (i + (l.drop (i + 1)).length)).take (l.length - 1) = l.take i ++ l.drop (i + 1) := by
   have : (l.take i ++ l.drop (i + 1)).length = l.length - 1 := by simp; omega
   rw [zE5 (by omega), zC5 (by omega)]
  rw [h1, zE5 (by simp; omega), zC5 (by simp; omega)]
 ·rw [Gg (by rw [e3, zF3]; omega), e3]; omega
theorem TE (N : Nat) (j : List Aa → Option (List Aa)) (Q : Aa → Prop) : ∀ (n : Nat) (l : List Aa) (a b : Int), 0 ≤ a → b < l.length → b - a < n → 0 < n → l.length ≤ 1000 → (∀ x, x ∈ l → Q x) → ∃ l', Bx N j n (l, a, b) = j l' ∧ l'.length = l.length ∧ ∀ x, x ∈ l' → Q x
 | 0, l, a, b, _, _, _, h, _, _ => by omega
 | n + 1, l, a, b, h0, h1, h2, _, h3, hq => by
  rw [Bx]
  by_cases hlt : a < b
  ·rw [AD (by simp only; omega)]
   obtain ⟨u, rfl⟩ := uZ h0
   obtain ⟨v, rfl⟩ := uZ (show 0 ≤ b by omega)
   have hv : l[v]? = some (l[v]'(by omega)) := by simp [show v < l.length by omega]
   have hu : l[u]? = some (l[u]'(by omega)) := by simp [show u < l.length by omega]
   simp only [AW, hv, hu, oS, vJ]
   rw [List.getElem?_set, if_neg (by omega), hv]
   simp only [oS]
   rw [AG (by omega), CT (n := (v : Int) - 1) (by omega) (by omega)]
   obtain ⟨l', e1, e2, e3⟩ := TE N j Q n ((l.set u l[v]).set v l[u]) ((u + 1 : Nat) : Int) ((v : Int) - 1) (by omega) (by simp only [List.length_set]; omega) (by omega) (by omega) (by simp only [List.length_set]; exact h3) (fun x hx => by
    rcases zD8 hx with q | q
    ·rcases zD8 q with q | q
     ·exact hq x q
     ·rw [q]; exact hq _ (zB2 _)
    ·rw [q]; exact hq _ (zB2 _))
   exact ⟨l', e1, by rw [e2]; simp, e3⟩
  ·rw [AB (by simp only; omega)]
   exact ⟨l, rfl, rfl, hq⟩
theorem Sd {N : Nat} (hN : N ≤ 1000000) (h20 : 1010 ≤ N) {x : Aa} (hx : OV x) (l : List Aa) (hl : l.length ≤ 100000) (hA : ∀ y, y ∈ l → OV y) (J : Int → Option (Int × Bool)) : ∀ (n i j : Nat), j - i < n → i ≤ j → j ≤ l.length →
  ∃ k : Nat, k ≤ l.length ∧ AE N l x (fun (x : Aa × Aa) => AY N x.1 x.2) J n ((i : Int), (j : Int)) = J (k : Int)
 | 0, i, j, h, _, _ => by omega
 | n + 1, i, j, h, hij, hj => by
  rw [AE]
  by_cases hlt : i < j
  ·have hh : (i + j) / 2 < l.length := by omega
   have hy : l[(i + j) / 2]? = some l[(i + j) / 2] := by simp [hh]
   rw [AD (by simp only; omega)]
   simp only [S9 (show i + j ≤ 1000000 by omega), AW, hy, oS]
   rw [OS hN h20 (hA _ (lM hy)) hx]
   simp only [oS]
   by_cases e : E6 l[(i + j) / 2] x < 0
   ·rw [AD e, AG (by omega)]
    exact Sd hN h20 hx l hl hA J n ((i + j) / 2 + 1) j (by omega) (by omega) hj
   ·rw [AB e]
    exact Sd hN h20 hx l hl hA J n i ((i + j) / 2) (by omega) (by omega) (by omega)
  ·rw [AB (by simp only; omega)]
   exact ⟨i, by omega, rfl⟩
theorem WK {N : Nat} (hN : N ≤ 1000000) (h20 : 1010 ≤ N) {x : Aa} (hx : OV x) (l : List Aa) (hl : l.length ≤ 1000) (hA : ∀ y, y ∈ l → OV y) : ∃ (k : Nat) (b : Bool), k ≤ l.length ∧ AQ N l x (fun (x : Aa × Aa) => AY N x.1 x.2) = some ((k : Int), b) := by
 unfold AQ
 obtain ⟨k, k1, k2⟩ := Sd hN h20 hx l (by omega) hA (fun (v2 : Int) =>
  Bc (fun (v7 : Bool) =>
   some (v2, v7))
  fun j7 =>
  AN ((decide (v2 < (l.length : Int))))
   ((BB l v2).bind fun v9 =>
   ((fun (x : Aa × Aa) => AY N x.1 x.2) ((v9, x))).bind fun v10 =>
   j7 (v10 == 0))
   (j7 false)) N 0 l.length (by omega) (vG _) (vN _)
 rw [show ((0 : Nat) : Int) = 0 from rfl] at k2
 rw [k2]
 by_cases hlt : k < l.length
 ·have hy : l[k]? = some l[k] := by simp [hlt]
  simp only [A8]
  rw [AD (by omega), AW, hy]
  simp only [oS]
  rw [OS hN h20 (hA _ (lM hy)) hx]
  exact ⟨k, _, k1, rfl⟩
 ·simp only [A8]
  rw [AB (by omega)]
  exact ⟨k, _, k1, rfl⟩
theorem Tv {N : Nat} {Q : Aa → Prop} {l : List Aa} {x : Aa} {k : Nat} (hk : k ≤ l.length) (hl : l.length ≤ 1000) (hQ : ∀ y, y ∈ l → Q y) (hx : Q x) : ∃ l', Bw N l (k : Int) [x] = some l' ∧ l'.length ≤ l.length + 1 ∧ ∀ y, y ∈ l' → Q y := by
 unfold Bw
 rw [vJ, Ap ⟨rfl, Int.natCast_nonneg _, hk, by simp [DC]; omega⟩]
 refine ⟨_, rfl, by simp; omega, fun y hy => ?_⟩
 rcases zB3.1 hy with q | q
 ·exact hQ y (List.mem_of_mem_take q)
 ·rcases zB3.1 q with q | q
  ·rw [zD1.1 q]; exact hx
  ·exact hQ y (List.mem_of_mem_drop q)
theorem Up {N : Nat} (hN : N ≤ 1000000) (h20 : 1010 ≤ N) {p : Ab} (hp : B0 p) (A : List Aa) (hl : A.length ≤ 900) (hA : ∀ x, x ∈ A → CG p x) (s : B4) (ws : Fy s) : ∃ L, C6 N p A s = some L ∧ L.length ≤ A.length + 1 ∧ ∀ x, x ∈ L → CG p x := by
 obtain ⟨m, m1, _, m3⟩ := aH N p s.fr hN (by omega) hp ws.2.2.1
 have hat := Iu ws.2.1
 have hcl : CL N A = some A := by
  unfold CL
  rw [Ap (by simp [DC]; omega), zE8]
 have hlo : ∀ y, y ∈ A → OV y := fun y hy => (hA y hy).lok hp
 unfold C6
 rw [hcl, show E1 N p _ = _ from m1]
 simp only [oS, A8]
 have body : ∀ v3 : Nat, (A = [] ∨ v3 < A.length) → ∃ L, (AN (((vF s.ff 6) == 0))
   ((AQ N A m ((fun (x : Aa × Aa) => AY N x.1 x.2))).bind fun v8 =>
   AN ((!v8.2)) ((Bw N A v8.1 (([m] : List Aa))).bind fun v10 => some v10) (some A))
   (AN (((A.length : Int) == 0)) (some A)
    (AN (((vF s.ff 6) == 1))
     ((B6 N A (v3 : Int) ((wI .i64 ((v3 : Int) + 1)))).bind fun v13 => (DQ (v13.1 ≤ v13.2.length)).bind fun _ => some (v13.2.take v13.1))
     (AN (((vF s.ff 6) == 2)) ((BB A (v3 : Int)).bind fun v17 => (Bw N A (v3 : Int) (([v17] : List Aa))).bind fun v18 => some v18)
      (AN (((vF s.ff 6) == 3)) ((BB A (v3 : Int)).bind fun _ => some (A.set (((v3 : Nat) : Int).toNat) m))
       (AN (((vF s.ff 6) == 4)) ((Cs N A).bind fun v22 => some v22) (some A))))))) = some L ∧ L.length ≤ A.length + 1 ∧ ∀ x, x ∈ L → CG p x := by
  intro v3 hv3
  cases (vF s.ff 6 == 0)
  ·rw [An]
   rcases hv3 with rfl | hv3
   ·exact ⟨[], rfl, by simp, fun x hx => by cases hx⟩
   rw [beq_eq_false_iff_ne.2 (show (A.length : Int) ≠ 0 by omega), An]
   have hy : A[v3]? = some A[v3] := by simp [hv3]
   rw [AW, hy]
   simp only [oS]
   cases (vF s.ff 6 == 1)
   ·rw [An]
    cases (vF s.ff 6 == 2)
    ·rw [An]
     cases (vF s.ff 6 == 3)
     ·rw [An]
      cases (vF s.ff 6 == 4)
      ·exact ⟨A, rfl, by omega, hA⟩
      ·rw [AJ]
       unfold Cs
       rw [CT (n := (A.length : Int) - 1) (by omega) (by omega)]
       obtain ⟨l', e1, e2, e3⟩ := TE N (fun (v2 : (List Aa)) => some v2) (CG p) N A 0 ((A.length : Int) - 1) (by omega) (by omega) (by omega) (by omega) (by omega) hA
       rw [e1]
       exact ⟨l', rfl, by omega, e3⟩
     ·refine ⟨_, rfl, by simp, fun x hx => ?_⟩
      rcases zD8 hx with q | q
      ·exact hA x q
      ·rw [q]; exact m3
    ·rw [AJ]
     obtain ⟨l', e1, e2, e3⟩ := Tv (N := N) (Q := CG p) (k := v3) (by omega) (by omega) hA (hA _ (zB2 hv3))
     rw [e1]
     exact ⟨l', rfl, e2, e3⟩
   ·rw [AJ, AG (by omega)]
    obtain ⟨X, e1, e2, e3⟩ := Wy N A v3 hv3 (by omega)
    rw [e1]
    simp only [oS]
    rw [Ap e3, e2]
    refine ⟨_, rfl, by simp; omega, fun x hx => ?_⟩
    rcases zB3.1 hx with q | q
    ·exact hA x (List.mem_of_mem_take q)
    ·exact hA x (List.mem_of_mem_drop q)
  ·rw [AJ]
   obtain ⟨k, b, k1, k2⟩ := WK hN h20 (m3.lok hp) A (by omega) hlo
   rw [k2]
   simp only [oS]
   cases b
   ·rw [zA5, AJ]
    obtain ⟨l', e1, e2, e3⟩ := Tv (N := N) (Q := CG p) (k := k) k1 (by omega) hA m3
    rw [e1]
    exact ⟨l', rfl, e2, e3⟩
   ·exact ⟨A, rfl, by omega, hA⟩
 by_cases h0 : 0 < A.length
 ·rw [AD (by omega), Ap (by omega), CT (n := s.fB) (by omega) (by omega)]
  obtain ⟨u, hu⟩ := uZ hat.1
  rw [hu, show vF (u : Int) (A.length : Int) = ((u % A.length : Nat) : Int) from rfl]
  exact body _ (.inr (Nat.mod_lt u h0))
 ·rw [AB (by omega)]
  exact body 0 (.inl (zA4 (by omega)))
theorem PG {N : Nat} (hN : N ≤ 1000000) (p : Ab) (A L : List Aa) (b b2 : Bool) {q : Ab} (hq : B0 q) (hA : A.length ≤ 1000) (hB : L.length ≤ 1000) (hBN : 1010 ≤ N) (hAB : b = true → ∀ x, x ∈ A → x ∈ L) (hokA : ∀ x, x ∈ A → CG q x) (hok : ∀ x, x ∈ L → CG q x) (J : Unit → Option Bool) : ∀ (n k : Nat), A.length - k < n → k ≤ A.length →
  BO N (p, A, b2) L b J n (k : Int) = J ()
 | 0, _, h, _ => by omega
 | n + 1, k, hn, hk => by
  rw [BO]
  by_cases h1 : k < A.length
  ·have hx : A[k]? = some A[k] := by simp [h1]
   rw [AD (by simp only; omega)]
   simp only [AW, hx, oS, A8]
   have ih := PG hN p A L b b2 hq hA hB hBN hAB hokA hok J n (k + 1) (by omega) (by omega)
   cases b
   ·rw [An, An, AG (by omega)]
    exact ih
   ·rw [AJ]
    have hm := hAB rfl _ (lM hx)
    rw [Qj hN L (by omega) (by omega) _ (fun x => decide (x = A[k])) (fun x hxB => by
     show B7 N x _ _ _ = _
     unfold B7
     have e := Vo hN (by omega) hq (hok x hxB) (hok _ hm)
     rw [show (Aa.mk A[k].fd A[k].fa A[k].fc) = A[k] from rfl, e]; rfl)]
    simp only [oS]
    rw [show (L.any fun x => decide (x = A[k])) = true from zD2.2 ⟨_, hm, decide_eq_true rfl⟩, vM, An, AG (by omega)]
    exact ih
  ·rw [AB (by simp only; omega)]
theorem O1 (N : Nat) (hN : N ≤ 1000000) (h20 : 1010 ≤ N) (haw : Eb N = some true) (d : BN) (s : B4) (wd : FF d) (ws : Fy s) : CQ N d s = some true := by
 obtain ⟨p, ok, e, hok⟩ := bz N d (by omega) (by omega) wd
 unfold CQ FG
 rw [e]
 simp only [oS, A8, haw, vM, An]
 cases ok
 ·simp only [zA5, AJ, oS]
 simp only [vM, An]
 have hv := (hok rfl).valid
 obtain ⟨hp, _⟩ := Eo hv
 have hs := Me hv
 have e1 := Qo hN h20 hv (most := 300) (by omega) (by omega) (by omega)
 rw [show (300 : Int) = ((300 : Nat) : Int) from rfl, e1]
 simp only [oS]
 have main : ∀ (A : List Aa), A.length ≤ 300 → (∀ x, x ∈ A → CG p x) → (∀ L, Lt p L = true → (∀ x, x ∈ A → x ∈ L) ∧ A.any (Ir p) = false) →
   ((C6 N p A ((B4.mk s.ff s.fB ((By.mk s.fr.fd s.fr.fa s.fr.fc))))).bind fun v7 =>
   (DZ N p v7).bind fun v8 => (D6 N p v7).bind fun v9 =>
   AN ((!(v8 == v9))) (some false)
    (BO N (p, A, true) v7 v8 (fun (_ : Unit) =>
     AN ((!v8)) (some true) ((Da N p A).bind fun v21 => some (!v21))) N 0)) = some true := by
  intro A hAl hA hC
  obtain ⟨L, l1, l2, l3⟩ := Up hN h20 hp A (by omega) hA s ws
  rw [show C6 N p A _ = _ from l1]
  simp only [oS]
  rw [NH hN h20 hv L (by omega) (by omega) (fun x hx => (l3 x hx).lok hp), Sp hN h20 hv L (by omega) (by omega) (fun x hx => (l3 x hx).lok hp)]
  simp only [oS]
  rw [beq_self_eq_true, vM, An]
  have hl := PG hN p A L (Lt p L) true hp (by omega) (by omega) h20 (fun q => (hC L q).1) hA l3 (fun (_ : Unit) =>
     AN ((!Lt p L)) (some true) ((Da N p A).bind fun v21 => some (!v21))) N 0 (by omega) (vG _)
  refine Eq.trans hl ?_
  cases hc : Lt p L
  ·rfl
  ·rw [vM, An, SN hN (by omega) A (by omega) (by omega) (fun x hx => L0 (hA x hx)), (hC L hc).2]; rfl
 cases hr : BG p (E4 p)
 ·rw [if_neg (by simp)]
  simp only [vM, An]
  exact main [] (by simp) (fun x hx => by cases hx) (fun L _ => ⟨fun x hx => (by cases hx), rfl⟩)
 ·rw [if_pos rfl]
  cases hg : OJ p (E4 p) 300 N with
  | none => simp only [zA5, AJ]
  | some l =>
   simp only [vM, An]
   have hA := Pt hp _ _ _ _ hg (Tg hs hr)
   have hl := Bfs.go_len _ _ _ _ (by simp) hg
   have hl2 : (Dd [] (Fr l)).length ≤ l.length := by
    have := Lz (Fr l) []
    rw [Jh] at this; simpa using this
   have hA2 : ∀ x, x ∈ Dd [] (Fr l) → CG p x := fun x hx => by
    rw [J8] at hx
    obtain ⟨n, h1, rfl⟩ := LX.1 (hx.resolve_left (by simp))
    exact (hA n h1).1
   exact main _ (by omega) hA2 (fun L hc => Un hc hr hg)
theorem My (d : BN) (s : B4) (wd : FF d) (ws : Fy s) : CQ 2000 d s = some true := O1 2000 (by omega) (by omega) QK d s wd ws
end Go.Lift
