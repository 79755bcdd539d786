/- Lemmas for CoreBlocksCardSaid, which YtbfklmmnpdifaaaGreatDoorFinC3 proves. -/
import Derived.Test.YtbfklmmnpdifaaaGreatDoorDec
import Derived.KernelRfl
open Bool renaming and_eq_true → zI, and_eq_true_iff → uF, and_true → vT, false_and → vM, false_or → vF, not_false → yV, not_true → zY, or_eq_false_iff → uT, or_eq_true → xJ, or_true → zA0, true_and → y7
open Int renaming eq_ofNat_of_zero_le → zJ, natCast_nonneg → vS, ofNat_inj → vX, tmod → zU, toNat_natCast → zQ
open List renaming all_eq_true → zH, any_eq_false → vI, any_eq_true → xE, append_assoc → yO, append_nil → xO, cons_append → uS, drop_eq_nil_of_le → yR, drop_zero → zZ, eq_nil_of_length_eq_zero → yN, filter_append → xG, flatMap_append → uY, flatMap_eq_nil_iff → vY, getD_cons_succ → uX, getD_cons_zero → vN, getElem?_append_left → yE, getElem?_append_right → yD, getElem?_drop → xF, getElem?_eq_getElem → yI, getElem?_eq_none → yX, getElem?_map → zF, getElem?_set → xA, getElem?_take_of_lt → yH, getElem_mem → xK, length → xI, length_append → zT, length_cons → yC, length_map → zO, length_range → uC, length_set → xY, length_singleton → zX, map_append → xC, map_cons → yG, mem_append → yB, mem_append_left → y9, mem_cons → yJ, mem_cons_of_mem → xR, mem_iff_getElem? → zS, mem_map → zW, mem_range → yY, mem_singleton → yQ, nil_append → uG, pairwise_append → uN, pairwise_lt_range → vC, pairwise_map → vJ, range → zN, range_succ → xX, replicate → zG, take_add_one → yU, take_length → uH, take_of_length_le → vZ
open Nat renaming add_assoc → xH, add_comm → vO, add_zero → xM, eq_zero_or_pos → uJ, le_refl → zK, le_trans → xU, mul_le_mul_right → zD, sub_self → uZ, succ_mul → yA, zero_add → zC, zero_le → zL
open Option renaming getD_some → yF, map_some → yS
namespace Go.Lift
open IntKind renaming wrap → wI
open Option renaming bind_some → oS
open List renaming getElem?_eq_some_iff → lI
theorem AX {α : Type} (xs : List α) (i : Nat) : A4 xs (i : Int) = xs[i]? := by
 unfold A4; simp
theorem C3 {n : Int} (h0 : -9223372036854775808 ≤ n) (h1 : n ≤ 9223372036854775807) : wI .i64 n = n := by
 simp [wI, IntKind.signed, IntKind.bits]; omega
theorem AI {i : Nat} (h : i < 1000000) : wI .i64 ((i : Int) + 1) = ((i + 1 : Nat) : Int) := by
 rw [C3 (by omega) (by omega)]; simp
@[simp] theorem AU {α : Type} {a b : Option α} : AR true a b = a := rfl
@[simp] theorem Ao {α : Type} {a b : Option α} : AR false a b = b := rfl
theorem AH {α : Type} {p : Prop} [Decidable p] {a b : Option α} (h : p) : AR (decide p) a b = a := by simp [h]
theorem AB {α : Type} {p : Prop} [Decidable p] {a b : Option α} (h : ¬ p) : AR (decide p) a b = b := by simp [h]
def Kb : List Int → List Int → Int
 | [], [] => 0
 | [], _ :: _ => -1
 | _ :: _, [] => 1
 | a :: as1, b :: bs => if a < b then -1 else if b < a then 1 else Kb as1 bs
theorem Ho {α : Type} {xs : List α} {i : Nat} {x : α} (h : xs[i]? = some x) : xs.drop i = x :: xs.drop (i + 1) := by
 obtain ⟨hi, rfl⟩ := lI.1 h
 exact List.drop_eq_getElem_cons hi
theorem U4 (N : Nat) (a b : List Int) (hb : a.length < 1000000) : ∀ (n i : Nat), i ≤ a.length → i ≤ b.length → a.length - i < n →
  D3 N a b (fun _ => AR (decide ((a.length : Int) < (b.length : Int))) (some (-1)) (AR (decide ((b.length : Int) < (a.length : Int))) (some 1) (some 0))) n (i : Int) = some (Kb (a.drop i) (b.drop i))
 | 0, i, _, _, h => by omega
 | n + 1, i, hi, hj, h => by
  unfold D3
  simp only [Ba]
  by_cases h1 : i < a.length
  ·rw [AH (p := (i : Int) < (a.length : Int)) (by omega)]
   have ha : a[i]? = some a[i] := by simp [h1]
   rw [Ho ha]
   by_cases h2 : i < b.length
   ·have hbb : b[i]? = some b[i] := by simp [h2]
    rw [show decide ((i : Int) < (b.length : Int)) = true from decide_eq_true (by omega), AU, AX, AX, ha, hbb, Ho hbb]
    simp only [oS, Kb]
    rw [AI (by omega), U4 N a b hb n (i + 1) (by omega) (by omega) (by omega)]
    by_cases h3 : a[i] < b[i]
    ·simp [h3]
    ·by_cases h4 : b[i] < a[i]
     ·simp [h3, h4]
     ·simp [h3, h4]
   ·rw [show decide ((i : Int) < (b.length : Int)) = false from decide_eq_false (by omega), Ao, AB (by omega), AH (by omega), yR (by omega : b.length ≤ i)]
    simp [Kb]
  ·rw [AB (p := (i : Int) < (a.length : Int)) (by omega), Ao, yR (by omega : a.length ≤ i)]
   by_cases h2 : a.length < b.length
   ·rw [AH (by omega)]
    have hbb : b[i]? = some b[i] := by simp [show i < b.length from by omega]
    rw [Ho hbb]; simp [Kb]
   ·rw [AB (by omega), AB (by omega), yR (by omega : b.length ≤ i)]
    simp [Kb]
theorem PT {N : Nat} {a b : List Int} (h : a.length < N) (hN : N ≤ 1000000) : D9 N a b = some (Kb a b) := by
 have := U4 N a b (by omega) N 0 (by omega) (by omega) (by omega)
 simpa [D9] using this
theorem Rc : ∀ a : List Int, Kb a a = 0
 | [] => rfl
 | a :: as1 => by simp [Kb, Rc as1]
theorem Ps : ∀ a b : List Int, Kb a b = 0 → a = b
 | [], [], _ => rfl
 | [], _ :: _, h => by simp [Kb] at h
 | _ :: _, [], h => by simp [Kb] at h
 | a :: as1, b :: bs, h => by
  unfold Kb at h
  split at h
  ·omega
  ·split at h
   ·omega
   ·rw [Ps as1 bs h, show a = b from by omega]
def Z4 : List Int → Int
 | [] => 0
 | x :: xs => if x = 0 then Z4 xs else x
theorem cC (N : Nat) (a : List Int) (hb : a.length < 1000000) (hw : OH M1 a) : ∀ (n i : Nat), i ≤ a.length → a.length - i < n →
  Dm N a (fun v => some v) n (a.take i, (i : Int)) = some a
 | 0, i, _, h => by omega
 | n + 1, i, hi, h => by
  unfold Dm
  by_cases h1 : i < a.length
  ·have ha : a[i]? = some a[i] := by simp [h1]
   rw [AH (by simpa using h1)]
   simp only
   rw [AX, ha]
   have hr : wI .i64 a[i] = a[i] := by
    have := hw a[i] (xK h1)
    unfold M1 at this
    have h2 : 0 ≤ a[i] ∧ a[i] ≤ 255 := by simpa [Lit.wf, IntKind.min, IntKind.max, IntKind.signed, IntKind.bits] using this
    exact C3 (by omega) (by omega)
   simp only [oS, hr]
   have hlen : (a.take i).length + ([a[i]] : List Int).length ≤ Dz := by
    simp [Dz]; omega
   rw [show Ej ((a.take i).length + ([a[i]] : List Int).length ≤ Dz) = some () from by unfold Ej; rw [if_pos hlen]]
   simp only [oS]
   rw [AI (by omega), show a.take i ++ [a[i]] = a.take (i + 1) from by rw [yU, ha]; rfl]
   exact cC N a hb hw n (i + 1) (by omega) (by omega)
  ·rw [AB (by simpa using h1)]
   simp only
   rw [vZ (by omega)]
theorem Pd {N : Nat} {a : List Int} (h : a.length < N) (hN : N ≤ 1000000) (hw : OH M1 a) : D2 N a = some a := by
 have := cC N a (by omega) hw N 0 (by omega) (by omega)
 simpa [D2] using this
def eS (a : Ad) : Prop := a.fd.length ≤ 8 ∧ a.fa.length ≤ 8 ∧ a.fe.length ≤ 14
def UZ (a b : Ad) : Int := Z4 [Kb a.fd b.fd, Kb a.fa b.fa, Kb a.fe b.fe]
theorem RD (a : Ad) : UZ a a = 0 := by unfold UZ; simp [Rc, Z4]
def CY {α R : Type} (f : Nat → α → Option R) : Nat → List α → Option R
 | _, [] => none
 | i, x :: xs => match f i x with
  | some r => some r
  | none => CY f (i + 1) xs
theorem Gi {α R : Type} (f : Nat → α → Option R) (i : Nat) (x : α) (xs : List α) : CY f i (x :: xs) = match f i x with
  | some r => some r
  | none => CY f (i + 1) xs := rfl
def BV {R : Type} (a : Option R) (b : Option R) : Option R := match a with
 | some r => some r
 | none => b
theorem Cn {α R : Type} (L : Nat → Int → Option R) (xs : List α) (j : Option R) (f : Nat → α → Option R)
  (hs : ∀ (n i : Nat) (x : α), xs[i]? = some x → L (n + 1) (i : Int) = BV (f i x) (L n ((i + 1 : Nat) : Int))) (he : ∀ n : Nat, L (n + 1) (xs.length : Int) = j) :
  ∀ n i : Nat, i ≤ xs.length → xs.length - i < n → L n (i : Int) = BV (CY f i (xs.drop i)) j
 | 0, i, _, h => by omega
 | n + 1, i, hi, h => by
  by_cases h1 : i < xs.length
  ·have hx : xs[i]? = some xs[i] := by simp [h1]
   rw [hs n i _ hx, Ho hx, Cn L xs j f hs he n (i + 1) (by omega) (by omega)]
   rw [Gi]
   cases f i xs[i] <;> rfl
  ·have : i = xs.length := by omega
   subst this
   rw [he n, yR (zK _)]
   rfl
theorem RV (N : Nat) (k n : Int) : DY N k n = some (decide (0 ≤ k) && decide (k < n)) := by
 unfold DY
 simp only [Ba]
 by_cases h : 0 ≤ k
 ·rw [AH h]; simp [h]
 ·rw [AB h]; simp [h]
theorem OR (N : Nat) (t : Am) : Be N t = some (t.ff == 3 || t.ff == 4) := by
 unfold Be
 simp only [Ba]
 cases h : t.ff == 3 <;> simp
def sq (l : List (List Bool)) (n m : Int) : Bool := decide ((l.length : Int) = n) && l.all fun r => decide ((r.length : Int) = m)
theorem Qk {α : Type} (p : α → Bool) {R : Type} (r : Nat → R) : ∀ (i : Nat) (xs : List α), (CY (fun i x => if p x then none else some (r i)) i xs).isNone = xs.all p
 | i, [] => rfl
 | i, x :: xs => by
  unfold CY
  cases h : p x <;> simp [h, Qk p r (i + 1) xs]
theorem Rb (N : Nat) (l : List (List Bool)) (n m : Int) (h : n < (N : Int)) (hN : N ≤ 1000000) : El N l n m = some (sq l n m) := by
 unfold El sq
 by_cases h1 : (l.length : Int) = n
 ·subst h1
  simp only [bne_self_eq_false, Ao, decide_true, y7]
  have := Cn (CQ N l (l.length : Int) m (fun _ => some true)) l (some true) (fun _ r => if decide ((r.length : Int) = m) then none else some false)
   (fun n i x hx => by
    have hi := (lI.1 hx).1
    rw [CQ, AH (by omega), AX, hx]
    simp only [oS]
    rw [AI (by omega)]
    by_cases h2 : (x.length : Int) = m
    ·simp [h2, BV]
    ·have : ((x.length : Int) != m) = true := by simpa using h2
     simp [h2, this, BV])
   (fun n => by rw [CQ, AB (by omega)]) N 0 (by omega) (by omega)
  simp only [Int.ofNat_zero, zZ] at this
  rw [this]
  have h3 := Qk (fun r : List Bool => decide ((r.length : Int) = m)) (fun _ => false) 0 l
  cases hsc : CY (fun (_ : Nat) (r : List Bool) => if decide ((r.length : Int) = m) = true then none else some false) 0 l with
  | none => rw [hsc] at h3; rw [← h3]; rfl
  | some b =>
   rw [hsc] at h3
   rw [← h3]
   have : ∀ (i : Nat) (xs : List (List Bool)) b, CY (fun (_ : Nat) (r : List Bool) => if decide ((r.length : Int) = m) = true then none else some false) i xs = some b → b = false := by
    intro i xs
    induction xs generalizing i with
    | nil => intro b hb; cases hb
    | cons x xs ih =>
     intro b hb
     unfold CY at hb
     split at hb
     ·rename_i r hr; cases hb; split at hr <;> simp at hr; exact hr
     ·exact ih _ b hb
   rw [this 0 l b hsc]; rfl
 ·have : ((l.length : Int) != n) = true := by simpa using h1
  simp [this, h1]
theorem Rq (N : Nat) (l : List (List Bool)) (n m : Int) (h : n < (N : Int)) (hN : N ≤ 1000000) : Gk N l n m = some (sq l n m) := by
 unfold Gk sq
 simp only [Ba]
 by_cases h1 : (l.length : Int) = n
 ·subst h1
  simp only [beq_self_eq_true, AU, decide_true, y7]
  have := Cn (By N l (fun x => EU N x m) (fun _ => some (-1))) l (some (-1)) (fun i r => if decide ((r.length : Int) = m) then none else some (i : Int))
   (fun n i x hx => by
    have hi := (lI.1 hx).1
    rw [By, AH (by omega), AX, hx]
    simp only [oS, EU]
    rw [AI (by omega)]
    by_cases h2 : (x.length : Int) = m
    ·simp [h2, BV]
    ·have : ((x.length : Int) != m) = true := by simpa using h2
     simp [h2, this, BV])
   (fun n => by rw [By, AB (by omega)]) N 0 (by omega) (by omega)
  simp only [Int.ofNat_zero, zZ] at this
  unfold DL Ef
  rw [this]
  have h3 := Qk (fun r : List Bool => decide ((r.length : Int) = m)) (fun i : Nat => (i : Int)) 0 l
  cases hsc : CY (fun (i : Nat) (r : List Bool) => if decide ((r.length : Int) = m) = true then none else some (i : Int)) 0 l with
  | none => rw [hsc] at h3; rw [← h3]; rfl
  | some b =>
   rw [hsc] at h3
   rw [← h3]
   have : ∀ (i : Nat) (xs : List (List Bool)) b, CY (fun (i : Nat) (r : List Bool) => if decide ((r.length : Int) = m) = true then none else some (i : Int)) i xs = some b → 0 ≤ b := by
    intro i xs
    induction xs generalizing i with
    | nil => intro b hb; cases hb
    | cons x xs ih =>
     intro b hb
     rw [Gi] at hb
     split at hb
     ·rename_i r hr
      cases hb
      split at hr
      ·cases hr
      ·cases hr; omega
     ·exact ih _ b hb
   have := this 0 l b hsc
   simp [BV, this]
 ·have : ((l.length : Int) == n) = false := by simpa using h1
  simp [this, h1]
open List renaming mem_of_getElem? → lM
open List renaming getD_eq_getElem?_getD → lD
def Ks (l : List (List Bool)) : Option Int := CY (fun i row => if row.getD i false then none else some 1) 0 l
theorem SY {row : List Bool} {i : Nat} (h : i < row.length) : A4 row (i : Int) = some (row.getD i false) := by
 rw [AX, lD]; simp [h]
theorem YF (N : Nat) (t : Am) (h : t.fk.length < N) (hN : N ≤ 1000000) (hsq : ∀ row, row ∈ t.fk → row.length = t.fk.length) (j : Option Int) :
  Ci N t (fun _ => j) N 0 = BV (Ks t.fk) j := by
 have := Cn (Ci N t (fun _ => j)) t.fk j (fun i row => if row.getD i false then none else some 1)
  (fun n i x hx => by
   have hi := (lI.1 hx).1
   have hl := hsq x (lM hx)
   rw [Ci, AH (by omega), AX, hx]
   simp only [oS]
   rw [SY (by omega), AI (by omega)]
   simp only [oS]
   cases x.getD i false <;> rfl)
  (fun n => by rw [Ci, AB (by omega)]) N 0 (by omega) (by omega)
 simpa [Ks] using this
theorem RT (N : Nat) (t : Am) (h : t.fk.length < N) (hN : N ≤ 1000000) (hsq : ∀ row, row ∈ t.fk → row.length = t.fk.length) (j : Option Int) :
  DV N t (fun _ => j) N 0 = BV (Ks t.fk) j := by
 have := Cn (DV N t (fun _ => j)) t.fk j (fun i row => if row.getD i false then none else some 1)
  (fun n i x hx => by
   have hi := (lI.1 hx).1
   have hl := hsq x (lM hx)
   rw [DV, AH (by omega), AX, hx]
   simp only [oS]
   rw [SY (by omega), AI (by omega)]
   simp only [oS]
   cases x.getD i false <;> rfl)
  (fun n => by rw [DV, AB (by omega)]) N 0 (by omega) (by omega)
 simpa [Ks] using this
theorem Pr {l : List (List Bool)} {n m : Int} (h : sq l n m = true) : (l.length : Int) = n ∧ ∀ row, row ∈ l → (row.length : Int) = m := by
 unfold sq at h
 simp only [zI, decide_eq_true_eq, zH] at h
 exact h
def Ez (p : Aa) (t : Am) : Int :=
 if t.ff < 1 ∨ 4 < t.ff ∨ (t.fr = true ∧ (t.ff = 3 ∨ t.ff = 4)) then 1
 else if t.fg < 0 ∨ (p.fb.length : Int) ≤ t.fg ∨ t.fj < 0 ∨ (p.fb.length : Int) ≤ t.fj then 4
 else
  let f := p.fb.getD t.fg.toNat 0
  let g := p.fb.getD t.fj.toNat 0
  if sq t.fq f g = false then 6
  else if t.ff = 4 then (if sq t.fk f f = false then 6 else (Ks t.fk).getD 0)
  else if t.fk.length = 0 then 0 else 6
theorem EQ {α : Type} {xs : List α} {i : Int} {d : α} (h0 : 0 ≤ i) (h1 : i < (xs.length : Int)) : A4 xs i = some (xs.getD i.toNat d) := by
 obtain ⟨k, rfl⟩ := zJ h0
 rw [AX, lD, zQ]
 simp [show k < xs.length from by omega]
theorem WJ {t : Am} (A B : Option Int) (hk : ¬ (t.fr = true ∧ (t.ff = 3 ∨ t.ff = 4))) : AR t.fr (AR (t.ff == 3 || t.ff == 4) A B) B = B := by
 cases ha : t.fr
 ·rfl
 ·have : (t.ff == 3 || t.ff == 4) = false := by
   rw [uT]
   constructor
   ·simp only [beq_eq_false_iff_ne]; intro h; exact hk ⟨ha, .inl h⟩
   ·simp only [beq_eq_false_iff_ne]; intro h; exact hk ⟨ha, .inr h⟩
  rw [this]; rfl
theorem La {p : Aa} {i : Int} (hv : ∀ v, v ∈ p.fb → 1 ≤ v ∧ v ≤ 6) (h0 : 0 ≤ i) (h1 : i < (p.fb.length : Int)) : 1 ≤ p.fb.getD i.toNat 0 ∧ p.fb.getD i.toNat 0 ≤ 6 := by
 refine hv _ ?_
 rw [lD, yI (by omega)]
 exact xK _
theorem V8 (N : Nat) (p : Aa) (t : Am) (hN : N ≤ 1000000) (h6 : 7 ≤ N) (hv : ∀ v, v ∈ p.fb → 1 ≤ v ∧ v ≤ 6) : Fy N p t = some (Ez p t) := by
 unfold Fy Ez
 simp only [Ba, OR, oS]
 by_cases k1 : t.ff < 1
 ·simp [k1]
 by_cases k2 : 4 < t.ff
 ·simp [k1, k2]
 rw [AB k1, AB k2]
 by_cases hk : t.fr = true ∧ (t.ff = 3 ∨ t.ff = 4)
 ·obtain ⟨ha, k | k⟩ := hk <;> simp [ha, k]
 rw [Ao, WJ _ _ hk, if_neg (fun h => h.elim k1 fun h => h.elim k2 hk)]
 by_cases f1 : t.fg < 0
 ·simp [f1]
 by_cases f2 : (p.fb.length : Int) ≤ t.fg
 ·simp [f1, f2]
 by_cases f3 : t.fj < 0
 ·simp [f1, f2, f3]
 by_cases f4 : (p.fb.length : Int) ≤ t.fj
 ·simp [f1, f2, f3, f4]
 rw [AB f1, AB f2, AB f3, if_neg (fun h => h.elim f1 fun h => h.elim f2 fun h => h.elim f3 f4)]
 have hf := La hv (i := t.fg) (by omega) (by omega)
 rw [decide_eq_false f4, Ao, EQ (d := 0) (by omega : 0 ≤ t.fg) (by omega), EQ (d := 0) (by omega : 0 ≤ t.fj) (by omega)]
 simp only [oS]
 generalize p.fb.getD t.fg.toNat 0 = f at *
 generalize p.fb.getD t.fj.toNat 0 = g at *
 rw [Rb N t.fq f g (by omega) hN, Rb N t.fk f f (by omega) hN]
 simp only [oS]
 cases hq : sq t.fq f g
 ·rfl
 simp only [zY, Ao]
 by_cases k4 : t.ff = 4
 ·have : (t.ff != 4) = false := by simp [k4]
  rw [this, Ao]
  simp only [k4, if_true]
  cases hr : sq t.fk f f
  ·rfl
  ·have h7 := Pr hr
   simp only [zY, Ao]
   rw [YF N t (by omega) hN (fun row hm => by have := h7.2 row hm; omega)]
   cases Ks t.fk <;> simp [BV]
 ·have : (t.ff != 4) = true := by simpa using k4
  rw [this, AU]
  simp only [k4, if_false]
  by_cases hr : t.fk.length = 0
  ·simp [hr]
  ·have : ((t.fk.length : Int) != 0) = true := bne_iff_ne.2 (by omega)
   rw [this]; simp [hr]
theorem Zb (N : Nat) (k : Int) (a : Bool) : H8 N k a = some (k == 1 || (k == 2 || ((k == 3 || k == 4) && !a))) := by
 unfold H8
 simp only [Ba]
 cases h1 : k == 1 <;> cases h2 : k == 2 <;> cases h3 : k == 3 <;> cases h4 : k == 4 <;> cases a <;> rfl
theorem Qo (N : Nat) (p : Aa) (t : Am) (hN : N ≤ 1000000) (h6 : 7 ≤ N) (hv : ∀ v, v ∈ p.fb → 1 ≤ v ∧ v ≤ 6) : HI N p t = some (Ez p t) := by
 unfold HI Ez
 simp only [Ba, Zb, RV, oS]
 by_cases hb : t.ff < 1 ∨ 4 < t.ff ∨ (t.fr = true ∧ (t.ff = 3 ∨ t.ff = 4))
 ·have : (t.ff == 1 || (t.ff == 2 || ((t.ff == 3 || t.ff == 4) && !t.fr))) = false := by
   rcases hb with h | h | ⟨ha, h | h⟩
   ·rw [beq_eq_false_iff_ne.2 (by omega : t.ff ≠ 1), beq_eq_false_iff_ne.2 (by omega : t.ff ≠ 2), beq_eq_false_iff_ne.2 (by omega : t.ff ≠ 3), beq_eq_false_iff_ne.2 (by omega : t.ff ≠ 4)]; rfl
   ·rw [beq_eq_false_iff_ne.2 (by omega : t.ff ≠ 1), beq_eq_false_iff_ne.2 (by omega : t.ff ≠ 2), beq_eq_false_iff_ne.2 (by omega : t.ff ≠ 3), beq_eq_false_iff_ne.2 (by omega : t.ff ≠ 4)]; rfl
   ·simp [ha, h]
   ·simp [ha, h]
  rw [this, if_pos hb]; rfl
 ·have : (t.ff == 1 || (t.ff == 2 || ((t.ff == 3 || t.ff == 4) && !t.fr))) = true := by
   have hk : t.ff = 1 ∨ t.ff = 2 ∨ t.ff = 3 ∨ t.ff = 4 := by
    have h1 : ¬ t.ff < 1 := fun h => hb (.inl h)
    have h2 : ¬ 4 < t.ff := fun h => hb (.inr (.inl h))
    omega
   rcases hk with h | h | h | h
   ·simp [h]
   ·simp [h]
   ·cases ha : t.fr
    ·simp [h]
    ·exact (hb (.inr (.inr ⟨ha, .inl h⟩))).elim
   ·cases ha : t.fr
    ·simp [h]
    ·exact (hb (.inr (.inr ⟨ha, .inr h⟩))).elim
  rw [this, if_neg hb]
  simp only [zY, Ao]
  by_cases f1 : t.fg < 0
  ·simp [f1, show ¬ (0 ≤ t.fg) from by omega]
  by_cases f2 : (p.fb.length : Int) ≤ t.fg
  ·simp [f2, show ¬ (t.fg < (p.fb.length : Int)) from by omega]
  by_cases f3 : t.fj < 0
  ·simp [f3, show 0 ≤ t.fg from by omega, show t.fg < (p.fb.length : Int) from by omega, show ¬ (0 ≤ t.fj) from by omega]
  by_cases f4 : (p.fb.length : Int) ≤ t.fj
  ·simp [f4, show 0 ≤ t.fg from by omega, show t.fg < (p.fb.length : Int) from by omega, show ¬ (t.fj < (p.fb.length : Int)) from by omega]
  rw [if_neg (fun h => h.elim f1 fun h => h.elim f2 fun h => h.elim f3 f4)]
  have hf := La hv (i := t.fg) (by omega) (by omega)
  have hg := La hv (i := t.fj) (by omega) (by omega)
  rw [decide_eq_true (by omega : 0 ≤ t.fg), decide_eq_true (by omega : t.fg < (p.fb.length : Int)), decide_eq_true (by omega : 0 ≤ t.fj), decide_eq_true (by omega : t.fj < (p.fb.length : Int)), EQ (d := 0) (by omega : 0 ≤ t.fg) (by omega), EQ (d := 0) (by omega : 0 ≤ t.fj) (by omega)]
  simp only [Bool.and_self, zY, Ao, oS]
  generalize p.fb.getD t.fg.toNat 0 = f at *
  generalize p.fb.getD t.fj.toNat 0 = g at *
  rw [Rq N t.fq f g (by omega) hN, Rq N t.fk f f (by omega) hN]
  simp only [oS]
  cases hq : sq t.fq f g
  ·rfl
  simp only [zY, Ao]
  by_cases k4 : t.ff = 4
  ·simp only [k4, beq_self_eq_true, AU, if_true]
   cases hr : sq t.fk f f
   ·rfl
   ·have h7 := Pr hr
    simp only [zY, Ao]
    rw [RT N t (by omega) hN (fun row hm => by have := h7.2 row hm; omega)]
    cases Ks t.fk <;> simp [BV]
  ·have : (t.ff == 4) = false := beq_eq_false_iff_ne.2 k4
   rw [this, Ao]
   simp only [k4, if_false, yV, AU]
   by_cases hr : t.fk.length = 0
   ·rw [RT N t (by omega) hN (fun row hm => by rw [yN hr] at hm; cases hm), yN hr]
    simp [Ks, CY, BV]
   ·rw [decide_eq_true (by omega : 0 < (t.fk.length : Int))]
    simp [hr]
def GV (p : Aa) (i : Nat) (v : Int) : Option Int :=
 if v < 1 ∨ 6 < v ∨ p.fi.getD i 0 < 0 ∨ v ≤ p.fi.getD i 0 ∨ p.fm.getD i 0 < 0 ∨ v ≤ p.fm.getD i 0 then some 7 else none
def M2 (p : Aa) (_ : Nat) (t : Am) : Option Int := if Ez p t = 0 then none else some (Ez p t)
def B5 (p : Aa) : Int :=
 if 6 < p.fb.length ∨ 12 < p.fc.length then 3
 else if p.fi.length ≠ p.fb.length ∨ p.fm.length ≠ p.fb.length then 6
 else ((BV (CY (GV p) 0 p.fb) (CY (M2 p) 0 p.fc)).getD 0)
theorem FE {α R : Type} {f : Nat → α → Option R} : ∀ {i : Nat} {xs : List α}, CY f i xs = none → ∀ j x, xs[j]? = some x → f (i + j) x = none
 | _, [], _, j, x, hx => by simp at hx
 | i, y :: ys, h, j, x, hx => by
  rw [Gi] at h
  split at h
  ·cases h
  ·rename_i h0
   cases j with
   | zero => simp at hx; subst hx; exact h0
   | succ j =>
    have := FE h j x (by simpa using hx)
    rwa [show i + 1 + j = i + (j + 1) from by omega] at this
theorem Qm {p : Aa} (h : CY (GV p) 0 p.fb = none) : ∀ v, v ∈ p.fb → 1 ≤ v ∧ v ≤ 6 := by
 intro v hv
 obtain ⟨i, hi⟩ := zS.1 hv
 have := FE h i v hi
 unfold GV at this
 split at this
 ·cases this
 ·rename_i hn
  constructor
  ·exact Int.not_lt.1 fun h => hn (.inl h)
  ·exact Int.not_lt.1 fun h => hn (.inr (.inl h))
theorem Dw {α : Type} {xs : List α} {i : Nat} {d : α} (h : i < xs.length) : A4 xs (i : Int) = some (xs.getD i d) := by
 rw [AX, lD]; simp [h]
theorem Uj (N : Nat) (p : Aa) (hN : N ≤ 1000000) (h1 : p.fb.length < N) (h2 : p.fi.length = p.fb.length) (h3 : p.fm.length = p.fb.length) (j : Option Int) :
  Br N p (fun _ => j) N 0 = BV (CY (GV p) 0 p.fb) j := by
 have := Cn (Br N p (fun _ => j)) p.fb j (GV p)
  (fun n i x hx => by
   have hi := (lI.1 hx).1
   rw [Br, AH (by omega), AX, hx]
   simp only [oS, Ba]
   rw [Dw (d := 0) (by omega), Dw (d := 0) (by omega), AI (by omega)]
   simp only [oS]
   unfold GV
   generalize p.fi.getD i 0 = a
   generalize p.fm.getD i 0 = b
   by_cases k1 : x < 1 <;> by_cases k2 : 6 < x <;> by_cases k3 : a < 0 <;> by_cases k4 : x ≤ a <;> by_cases k5 : b < 0 <;> by_cases k6 : x ≤ b <;> simp [k1, k2, k3, k4, k5, k6, BV])
  (fun n => by rw [Br, AB (by omega)]) N 0 (by omega) (by omega)
 simpa using this
theorem Sk (N : Nat) (p : Aa) (hN : N ≤ 1000000) (h1 : p.fb.length < N) (h2 : p.fi.length = p.fb.length) (h3 : p.fm.length = p.fb.length) (j : Option Int) :
  Ch N p (fun _ => j) N 0 = BV (CY (GV p) 0 p.fb) j := by
 have := Cn (Ch N p (fun _ => j)) p.fb j (GV p)
  (fun n i x hx => by
   have hi := (lI.1 hx).1
   rw [Ch, AH (by omega), AX, hx]
   simp only [oS, Ba, RV]
   rw [Dw (d := 0) (by omega), Dw (d := 0) (by omega), AI (by omega)]
   simp only [oS]
   unfold GV
   generalize p.fi.getD i 0 = a
   generalize p.fm.getD i 0 = b
   have e1 : decide (0 ≤ a) = !decide (a < 0) := by rw [← decide_not]; congr 1; simp
   have e2 : decide (a < x) = !decide (x ≤ a) := by rw [← decide_not]; congr 1; simp
   have e3 : decide (0 ≤ b) = !decide (b < 0) := by rw [← decide_not]; congr 1; simp
   have e4 : decide (b < x) = !decide (x ≤ b) := by rw [← decide_not]; congr 1; simp
   rw [e1, e2, e3, e4]
   by_cases k1 : x < 1 <;> by_cases k2 : 6 < x <;> by_cases k3 : a < 0 <;> by_cases k4 : x ≤ a <;> by_cases k5 : b < 0 <;> by_cases k6 : x ≤ b <;> simp [k1, k2, k3, k4, k5, k6, BV])
  (fun n => by rw [Ch, AB (by omega)]) N 0 (by omega) (by omega)
 simpa using this
theorem WF (N : Nat) (p : Aa) (hN : N ≤ 1000000) (h6 : 7 ≤ N) (h1 : p.fc.length < N) (hv : ∀ v, v ∈ p.fb → 1 ≤ v ∧ v ≤ 6) (j : Option Int) :
  Bm N p (fun _ => j) N 0 = BV (CY (M2 p) 0 p.fc) j := by
 have := Cn (Bm N p (fun _ => j)) p.fc j (M2 p)
  (fun n i x hx => by
   have hi := (lI.1 hx).1
   rw [Bm, AH (by omega), AX, hx]
   simp only [oS]
   rw [V8 N p x hN h6 hv, AI (by omega)]
   simp only [oS]
   unfold M2
   by_cases k : Ez p x = 0
   ·simp [k, BV]
   ·rw [bne_iff_ne.2 k, if_neg k]; rfl)
  (fun n => by rw [Bm, AB (by omega)]) N 0 (by omega) (by omega)
 simpa using this
theorem UK (N : Nat) (p : Aa) (hN : N ≤ 1000000) (h6 : 7 ≤ N) (h1 : p.fc.length < N) (hv : ∀ v, v ∈ p.fb → 1 ≤ v ∧ v ≤ 6) (j : Option Int) :
  B7 N p (fun _ => j) N 0 = BV (CY (M2 p) 0 p.fc) j := by
 have := Cn (B7 N p (fun _ => j)) p.fc j (M2 p)
  (fun n i x hx => by
   have hi := (lI.1 hx).1
   rw [B7, AH (by omega), AX, hx]
   simp only [oS]
   rw [Qo N p x hN h6 hv, AI (by omega)]
   simp only [oS]
   unfold M2
   by_cases k : Ez p x = 0
   ·simp [k, BV]
   ·rw [bne_iff_ne.2 k, if_neg k]; rfl)
  (fun n => by rw [B7, AB (by omega)]) N 0 (by omega) (by omega)
 simpa using this
theorem LC (N : Nat) (p : Aa) (hN : N ≤ 1000000) (h : 20 ≤ N) : BK N p = some (B5 p) := by
 unfold BK B5
 simp only [Ba]
 by_cases k1 : 6 < p.fb.length
 ·rw [AH (by omega)]; simp [k1]
 rw [AB (by omega)]
 by_cases k2 : 12 < p.fc.length
 ·rw [decide_eq_true (by omega : (12 : Int) < (p.fc.length : Int))]; simp [k2]
 rw [decide_eq_false (by omega : ¬ (12 : Int) < (p.fc.length : Int)), Ao, if_neg (by omega)]
 by_cases k3 : p.fi.length = p.fb.length
 ·by_cases k4 : p.fm.length = p.fb.length
  ·rw [k3, k4]
   simp only [bne_self_eq_false, Ao, ne_eq, not_true_eq_false, or_self, if_false]
   rw [Uj N p hN (by omega) k3 k4]
   cases hs : CY (GV p) 0 p.fb with
   | some r => rfl
   | none =>
    simp only [BV]
    rw [WF N p hN (by omega) (by omega) (Qm hs)]
    cases CY (M2 p) 0 p.fc <;> rfl
  ·have : ((p.fm.length : Int) != (p.fb.length : Int)) = true := bne_iff_ne.2 (by omega)
   rw [this, k3]; simp [k4]
 ·have : ((p.fi.length : Int) != (p.fb.length : Int)) = true := bne_iff_ne.2 (by omega)
  rw [this]; simp [k3]
theorem Kc (N : Nat) (p : Aa) (hN : N ≤ 1000000) (h : 20 ≤ N) : Cq N p = some (B5 p) := by
 unfold Cq B5
 simp only [Ba]
 by_cases k1 : 6 < p.fb.length
 ·rw [AH (by omega)]; simp [k1]
 rw [AB (by omega)]
 by_cases k2 : 12 < p.fc.length
 ·rw [decide_eq_true (by omega : (12 : Int) < (p.fc.length : Int))]; simp [k2]
 rw [decide_eq_false (by omega : ¬ (12 : Int) < (p.fc.length : Int)), Ao, if_neg (by omega)]
 by_cases k3 : p.fi.length = p.fb.length
 ·by_cases k4 : p.fm.length = p.fb.length
  ·rw [k3, k4]
   simp only [bne_self_eq_false, Ao, ne_eq, not_true_eq_false, or_self, if_false]
   rw [Sk N p hN (by omega) k3 k4]
   cases hs : CY (GV p) 0 p.fb with
   | some r => rfl
   | none =>
    simp only [BV]
    rw [UK N p hN (by omega) (by omega) (Qm hs)]
    cases CY (M2 p) 0 p.fc <;> rfl
  ·have : ((p.fm.length : Int) != (p.fb.length : Int)) = true := bne_iff_ne.2 (by omega)
   rw [this, k3]; simp [k4]
 ·have : ((p.fi.length : Int) != (p.fb.length : Int)) = true := bne_iff_ne.2 (by omega)
  rw [this]; simp [k3]
theorem KC {n : Int} (h : M1 n) : 0 ≤ n ∧ n ≤ 255 := by
 unfold M1 at h
 simpa [Lit.wf, IntKind.min, IntKind.max, IntKind.signed, IntKind.bits] using h
theorem QU : ∀ k : Fin 256, Dy .u8 0 (k.val : Int) = 0 := by decide +kernel
theorem QT : ∀ k : Fin 256, Dy .u8 (k.val : Int) 0 = (k.val : Int) := by decide +kernel
theorem Xr {n : Int} (h : M1 n) : Dy .u8 0 n = 0 := by
 have := KC h
 obtain ⟨k, rfl⟩ := zJ this.1
 exact QU ⟨k, by omega⟩
theorem Wq {n : Int} (h : M1 n) : Dy .u8 n 0 = n := by
 have := KC h
 obtain ⟨k, rfl⟩ := zJ this.1
 exact QT ⟨k, by omega⟩
theorem Em {α R : Type} {f : Nat → α → Option R} : ∀ {i : Nat} {xs : List α} {r : R}, CY f i xs = some r → ∃ j x, xs[j]? = some x ∧ f (i + j) x = some r
 | _, [], _, h => by cases h
 | i, y :: ys, r, h => by
  rw [Gi] at h
  split at h
  ·rename_i r' h0
   cases h
   exact ⟨0, y, rfl, h0⟩
  ·obtain ⟨j, x, h1, h2⟩ := Em h
   exact ⟨j + 1, x, by simpa using h1, by rwa [show i + (j + 1) = i + 1 + j from by omega]⟩
structure Bl (p : Aa) : Prop where
 nv : p.fb.length ≤ 6
 nt : p.fc.length ≤ 12
 now : p.fi.length = p.fb.length
 tgt : p.fm.length = p.fb.length
 ver : ∀ v, v ∈ p.fb → 1 ≤ v ∧ v ≤ 6
 tab : ∀ t, t ∈ p.fc → Ez p t = 0
theorem Uv (l : List (List Bool)) : (Ks l).getD 0 = 0 ∨ (Ks l).getD 0 = 1 := by
 cases h : Ks l with
 | none => exact .inl rfl
 | some r =>
  obtain ⟨j, x, _, h⟩ := Em h
  split at h
  ·cases h
  ·cases h; exact .inr rfl
theorem Sl (p : Aa) (t : Am) : Ez p t = 0 ∨ Ez p t = 1 ∨ Ez p t = 4 ∨ Ez p t = 6 := by
 unfold Ez
 split
 ·exact .inr (.inl rfl)
 split
 ·exact .inr (.inr (.inl rfl))
 simp only
 split
 ·exact .inr (.inr (.inr rfl))
 split
 ·split
  ·exact .inr (.inr (.inr rfl))
  ·rcases Uv t.fk with h | h
   ·exact .inl h
   ·exact .inr (.inl h)
 ·split
  ·exact .inl rfl
  ·exact .inr (.inr (.inr rfl))
theorem Kj (p : Aa) : (B5 p = 0 ∧ Bl p) ∨ (B5 p = 1 ∨ B5 p = 3 ∨ B5 p = 4 ∨ B5 p = 6 ∨ B5 p = 7) := by
 unfold B5
 split
 ·simp
 rename_i k1
 split
 ·simp
 rename_i k2
 cases hs : CY (GV p) 0 p.fb with
 | some r =>
  obtain ⟨j, x, _, h⟩ := Em hs
  unfold GV at h
  split at h
  ·cases h; simp [BV]
  ·cases h
 | none =>
  cases ht : CY (M2 p) 0 p.fc with
  | some r =>
   obtain ⟨j, t, _, h⟩ := Em ht
   unfold M2 at h
   split at h
   ·cases h
   ·rename_i hne
    cases h
    simp only [BV, yF]
    right
    rcases Sl p t with h | h | h | h
    ·exact (hne h).elim
    ·exact .inl h
    ·exact .inr (.inr (.inl h))
    ·exact .inr (.inr (.inr (.inl h)))
  | none =>
   left
   refine ⟨rfl, by omega, by omega, by omega, by omega, Qm hs, fun t hm => ?_⟩
   obtain ⟨j, hj⟩ := zS.1 hm
   have := FE ht j t hj
   unfold M2 at this
   split at this
   ·assumption
   ·cases this
def H7 (m : Ad) (s : Nat) : Int :=
 if 0 ≤ m.fa.getD s 0 then QE .u8 (CX .u8 1 (m.fd.getD s 0)) (CX .u8 1 (m.fa.getD s 0)) else CX .u8 1 (m.fd.getD s 0)
def Nl (m : Ad) (i : Nat) (v : Int) : Option Int :=
 if m.fd.getD i 0 < 0 ∨ v ≤ m.fd.getD i 0 ∨ m.fa.getD i 0 < -1 ∨ v ≤ m.fa.getD i 0 then some 7
 else if m.fd.getD i 0 = m.fa.getD i 0 then some 1 else none
def Cd (t : Am) : Bool := t.ff == 3 || t.ff == 4
def YU (p : Aa) (t : Am) : Int := wI .u8 (CX .u8 1 (p.fb.getD t.fg.toNat 0) - 1)
def KZ (p : Aa) (m : Ad) (i : Nat) (t : Am) : Option Int :=
 if Cd t = true then (if Dy .u8 (H7 m t.fg.toNat) (m.fe.getD i 0) ≠ 0 ∨ Dy .u8 (m.fe.getD i 0) (YU p t) ≠ 0 then some 1 else none)
 else if m.fe.getD i 0 ≠ 0 then some 1 else none
def GU (p : Aa) (m : Ad) : Int :=
 if B5 p ≠ 0 then B5 p
 else if m.fd.length ≠ p.fb.length ∨ m.fa.length ≠ p.fb.length ∨ m.fe.length ≠ p.fc.length then 6
 else (BV (CY (Nl m) 0 p.fb) (CY (KZ p m) 0 p.fc)).getD 0
theorem KO {p : Aa} {t : Am} (h : Ez p t = 0) : 0 ≤ t.fg ∧ t.fg < (p.fb.length : Int) ∧ 0 ≤ t.fj ∧ t.fj < (p.fb.length : Int) := by
 unfold Ez at h
 split at h
 ·cases h
 ·split at h
  ·cases h
  ·omega
theorem Nr (N : Nat) (m : Ad) (s : Int) (h0 : 0 ≤ s) (h1 : s < (m.fd.length : Int)) (h2 : s < (m.fa.length : Int)) (hb : 0 ≤ m.fd.getD s.toNat 0) : FY N m s = some (H7 m s.toNat) := by
 unfold FY H7
 rw [EQ (d := 0) h0 h1, EQ (d := 0) h0 h2]
 simp only [oS, Ba]
 rw [show Ej (0 ≤ m.fd.getD s.toNat 0) = some () from by unfold Ej; rw [if_pos hb]]
 simp only [oS]
 by_cases h : 0 ≤ m.fa.getD s.toNat 0
 ·rw [AH h, if_pos h, show Ej (0 ≤ m.fa.getD s.toNat 0) = some () from by unfold Ej; rw [if_pos h]]; rfl
 ·rw [AB h, if_neg h]
theorem LN (N : Nat) (m : Ad) (s : Int) (h0 : 0 ≤ s) (h1 : s < (m.fd.length : Int)) (h2 : s < (m.fa.length : Int)) (hb : 0 ≤ m.fd.getD s.toNat 0) : Ce N m s = some (H7 m s.toNat) := by
 unfold Ce H7
 rw [EQ (d := 0) h0 h1, EQ (d := 0) h0 h2]
 simp only [oS, Ba]
 rw [show Ej (0 ≤ m.fd.getD s.toNat 0) = some () from by unfold Ej; rw [if_pos hb]]
 simp only [oS]
 by_cases h : 0 ≤ m.fa.getD s.toNat 0
 ·rw [AH h, if_pos h, show Ej (0 ≤ m.fa.getD s.toNat 0) = some () from by unfold Ej; rw [if_pos h]]; rfl
 ·rw [AB h, if_neg h]
theorem SE (N : Nat) (p : Aa) (m : Ad) (hN : N ≤ 1000000) (h1 : p.fb.length < N) (h2 : m.fd.length = p.fb.length) (h3 : m.fa.length = p.fb.length) (j : Option Int) :
  E1 N p m (fun _ => j) N 0 = BV (CY (Nl m) 0 p.fb) j := by
 have := Cn (E1 N p m (fun _ => j)) p.fb j (Nl m)
  (fun n i x hx => by
   have hi := (lI.1 hx).1
   rw [E1, AH (by omega), AX, hx]
   simp only [oS, Ba]
   rw [Dw (d := 0) (by omega), Dw (d := 0) (by omega), AI (by omega)]
   simp only [oS]
   unfold Nl
   generalize m.fd.getD i 0 = a
   generalize m.fa.getD i 0 = b
   by_cases k7 : a = b
   ·subst k7
    by_cases k3 : a < 0 <;> by_cases k4 : x ≤ a <;> by_cases k5 : a < -1 <;> simp [k3, k4, k5, BV]
   ·have k8 : (a == b) = false := beq_eq_false_iff_ne.2 k7
    by_cases k3 : a < 0 <;> by_cases k4 : x ≤ a <;> by_cases k5 : b < -1 <;> by_cases k6 : x ≤ b <;> simp [k3, k4, k5, k6, k7, k8, BV])
  (fun n => by rw [E1, AB (by omega)]) N 0 (by omega) (by omega)
 simpa using this
theorem Sx (N : Nat) (p : Aa) (m : Ad) (hN : N ≤ 1000000) (h1 : p.fb.length < N) (h2 : m.fd.length = p.fb.length) (h3 : m.fa.length = p.fb.length) (j : Option Int) :
  Cw N p m (fun _ => j) N 0 = BV (CY (Nl m) 0 p.fb) j := by
 have := Cn (Cw N p m (fun _ => j)) p.fb j (Nl m)
  (fun n i x hx => by
   have hi := (lI.1 hx).1
   rw [Cw, AH (by omega), show A4 p.fb (i : Int) = some x from by rw [AX, hx]]
   simp only [oS, Ba]
   rw [Dw (d := 0) (by omega), Dw (d := 0) (by omega), AI (by omega)]
   simp only [oS]
   unfold Nl
   generalize m.fd.getD i 0 = a
   generalize m.fa.getD i 0 = b
   by_cases k7 : a = b
   ·subst k7
    by_cases k3 : a < 0 <;> by_cases k4 : x ≤ a <;> by_cases k5 : a < -1 <;> simp [k3, k4, k5, BV]
   ·have k8 : (a == b) = false := beq_eq_false_iff_ne.2 k7
    by_cases k3 : a < 0 <;> by_cases k4 : x ≤ a <;> by_cases k5 : b < -1 <;> by_cases k6 : x ≤ b <;> simp [k3, k4, k5, k6, k7, k8, BV])
  (fun n => by rw [Cw, AB (by omega)]) N 0 (by omega) (by omega)
 simpa using this
structure MixServ (p : Aa) (m : Ad) : Prop where
 base : m.fd.length = p.fb.length
 next : m.fa.length = p.fb.length
 held : m.fe.length = p.fc.length
 b0 : ∀ i, i < p.fb.length → 0 ≤ m.fd.getD i 0 ∧ m.fd.getD i 0 < p.fb.getD i 0
 n0 : ∀ i, i < p.fb.length → -1 ≤ m.fa.getD i 0 ∧ m.fa.getD i 0 < p.fb.getD i 0
 ne : ∀ i, i < p.fb.length → m.fd.getD i 0 ≠ m.fa.getD i 0
theorem SQ {p : Aa} {m : Ad} (h2 : m.fd.length = p.fb.length) (h3 : m.fa.length = p.fb.length) (h4 : m.fe.length = p.fc.length) (h : CY (Nl m) 0 p.fb = none) : MixServ p m := by
 have key : ∀ i, i < p.fb.length → ¬ (m.fd.getD i 0 < 0 ∨ p.fb.getD i 0 ≤ m.fd.getD i 0 ∨ m.fa.getD i 0 < -1 ∨ p.fb.getD i 0 ≤ m.fa.getD i 0) ∧ ¬ m.fd.getD i 0 = m.fa.getD i 0 := by
  intro i hi
  have hx : p.fb[i]? = some (p.fb.getD i 0) := by rw [lD]; simp [hi]
  have := FE h i _ hx
  rw [zC] at this
  unfold Nl at this
  split at this
  ·cases this
  ·split at this
   ·cases this
   ·rename_i k1 k2; exact ⟨k1, k2⟩
 exact ⟨h2, h3, h4, fun i hi => by have := (key i hi).1; omega, fun i hi => by have := (key i hi).1; omega, fun i hi => (key i hi).2⟩
theorem T1 {m : Ad} (hw : OH M1 m.fe) {i : Nat} (h : i < m.fe.length) : M1 (m.fe.getD i 0) := by
 refine hw _ ?_
 rw [lD, yI h]
 exact xK _
theorem Le (N : Nat) (t : Am) : GC N t = some (Cd t) := by
 unfold GC Cd
 simp only [Ba]
 cases h : t.ff == 3 <;> simp
theorem H6 (N : Nat) (t : Am) : Be N t = some (Cd t) := OR N t
theorem Uh (N : Nat) (p : Aa) (m : Ad) (hN : N ≤ 1000000) (h1 : p.fc.length < N) (hp : Bl p) (hm : MixServ p m) (hw : OH M1 m.fe) (j : Option Int) :
  EH N p m (fun _ => j) N 0 = BV (CY (KZ p m) 0 p.fc) j := by
 have := Cn (EH N p m (fun _ => j)) p.fc j (KZ p m)
  (fun n i x hx => by
   have hi := (lI.1 hx).1
   have hin := KO (hp.tab x (lM hx))
   have hheld := T1 hw (show i < m.fe.length from by rw [hm.held]; exact hi)
   have hv := La hp.ver hin.1 hin.2.1
   rw [EH, AH (by omega), AX, hx]
   simp only [oS, Ba, Le]
   rw [Nr N m x.fg hin.1 (by rw [hm.base]; exact hin.2.1) (by rw [hm.next]; exact hin.2.1) (hm.b0 _ (by omega)).1, EQ (d := 0) hin.1 hin.2.1, Dw (d := 0) (show i < m.fe.length from by rw [hm.held]; exact hi), AI (by omega)]
   simp only [oS]
   rw [show Ej (0 ≤ p.fb.getD x.fg.toNat 0) = some () from by unfold Ej; rw [if_pos (by omega)]]
   simp only [oS]
   unfold KZ YU
   rw [Xr hheld, Wq hheld]
   generalize Dy .u8 (H7 m x.fg.toNat) (m.fe.getD i 0) = A
   generalize Dy .u8 (m.fe.getD i 0) (wI .u8 (CX .u8 1 (p.fb.getD x.fg.toNat 0) - 1)) = B
   generalize m.fe.getD i 0 = H
   cases Cd x
   ·simp only [Ao, bne_self_eq_false]
    by_cases k : H = 0
    ·simp [k, BV]
    ·have : (H != 0) = true := bne_iff_ne.2 k
     simp [k, this, BV]
   ·simp only [AU]
    by_cases k : A = 0
    ·by_cases k2 : B = 0
     ·simp [k, k2, BV]
     ·have : (B != 0) = true := bne_iff_ne.2 k2
      simp [k, k2, this, BV]
    ·have : (A != 0) = true := bne_iff_ne.2 k
     simp [k, this, BV])
  (fun n => by rw [EH, AB (by omega)]) N 0 (by omega) (by omega)
 simpa using this
theorem UW (N : Nat) (p : Aa) (m : Ad) (hN : N ≤ 1000000) (h1 : p.fc.length < N) (hp : Bl p) (hm : MixServ p m) (j : Option Int) :
  Cl N p m (fun _ => j) N 0 = BV (CY (KZ p m) 0 p.fc) j := by
 have := Cn (Cl N p m (fun _ => j)) p.fc j (KZ p m)
  (fun n i x hx => by
   have hi := (lI.1 hx).1
   have hin := KO (hp.tab x (lM hx))
   have hv := La hp.ver hin.1 hin.2.1
   rw [Cl, AH (by omega), AX, hx]
   simp only [oS, Ba, H6]
   rw [LN N m x.fg hin.1 (by rw [hm.base]; exact hin.2.1) (by rw [hm.next]; exact hin.2.1) (hm.b0 _ (by omega)).1, EQ (d := 0) hin.1 hin.2.1, Dw (d := 0) (show i < m.fe.length from by rw [hm.held]; exact hi), AI (by omega)]
   simp only [oS]
   rw [show Ej (0 ≤ p.fb.getD x.fg.toNat 0) = some () from by unfold Ej; rw [if_pos (by omega)]]
   simp only [oS]
   unfold KZ YU
   generalize Dy .u8 (H7 m x.fg.toNat) (m.fe.getD i 0) = A
   generalize Dy .u8 (m.fe.getD i 0) (wI .u8 (CX .u8 1 (p.fb.getD x.fg.toNat 0) - 1)) = B
   generalize m.fe.getD i 0 = H
   cases Cd x
   ·simp only [yV, AU, Ao]
    by_cases k : H = 0
    ·simp [k, BV]
    ·have : (H != 0) = true := bne_iff_ne.2 k
     simp [k, this, BV]
   ·simp only [zY, Ao, AU]
    by_cases k : A = 0
    ·by_cases k2 : B = 0
     ·simp [k, k2, BV]
     ·have : (B != 0) = true := bne_iff_ne.2 k2
      simp [k, k2, this, BV]
    ·have : (A != 0) = true := bne_iff_ne.2 k
     by_cases k2 : B = 0
     ·simp [k, k2, this, BV]
     ·have h5 : (B != 0) = true := bne_iff_ne.2 k2
      simp [k, h5, BV])
  (fun n => by rw [Cl, AB (by omega)]) N 0 (by omega) (by omega)
 simpa using this
theorem Ka (N : Nat) (p : Aa) (m : Ad) (hN : N ≤ 1000000) (h : 20 ≤ N) (hw : OH M1 m.fe) : Gt N p m = some (GU p m) := by
 unfold Gt GU
 rw [Kc N p hN h]
 simp only [oS, Ba]
 by_cases k0 : B5 p = 0
 ·have hp : Bl p := by
   rcases Kj p with h | h
   ·exact h.2
   ·omega
  have hnv := hp.nv
  have hnt := hp.nt
  rw [k0]
  simp only [bne_self_eq_false, Ao, ne_eq, not_true_eq_false, if_false]
  by_cases k1 : m.fd.length = p.fb.length
  ·by_cases k2 : m.fa.length = p.fb.length
   ·by_cases k3 : m.fe.length = p.fc.length
    ·rw [k1, k2, k3]
     simp only [bne_self_eq_false, Ao, not_true_eq_false, or_self, if_false]
     rw [SE N p m hN (by omega) k1 k2]
     cases hs : CY (Nl m) 0 p.fb with
     | some r => rfl
     | none =>
      simp only [BV]
      rw [Uh N p m hN (by omega) hp (SQ k1 k2 k3 hs) hw]
      cases CY (KZ p m) 0 p.fc <;> rfl
    ·have : ((m.fe.length : Int) != (p.fc.length : Int)) = true := bne_iff_ne.2 (by omega)
     rw [this, k1, k2]; simp [k3]
   ·have : ((m.fa.length : Int) != (p.fb.length : Int)) = true := bne_iff_ne.2 (by omega)
    rw [this, k1]; simp [k2]
  ·have : ((m.fd.length : Int) != (p.fb.length : Int)) = true := bne_iff_ne.2 (by omega)
   rw [this]; simp [k1]
 ·rw [bne_iff_ne.2 k0]; simp [k0]
theorem Km (N : Nat) (p : Aa) (m : Ad) (hN : N ≤ 1000000) (h : 20 ≤ N) : DW N p m = some (GU p m) := by
 unfold DW GU
 rw [LC N p hN h]
 simp only [oS, Ba]
 by_cases k0 : B5 p = 0
 ·have hp : Bl p := by
   rcases Kj p with h | h
   ·exact h.2
   ·omega
  have hnv := hp.nv
  have hnt := hp.nt
  rw [k0]
  simp only [bne_self_eq_false, Ao, ne_eq, not_true_eq_false, if_false]
  by_cases k1 : m.fd.length = p.fb.length
  ·by_cases k2 : m.fa.length = p.fb.length
   ·by_cases k3 : m.fe.length = p.fc.length
    ·rw [k1, k2, k3]
     simp only [bne_self_eq_false, Ao, not_true_eq_false, or_self, if_false]
     rw [Sx N p m hN (by omega) k1 k2]
     cases hs : CY (Nl m) 0 p.fb with
     | some r => rfl
     | none =>
      simp only [BV]
      rw [UW N p m hN (by omega) hp (SQ k1 k2 k3 hs)]
      cases CY (KZ p m) 0 p.fc <;> rfl
    ·have : ((m.fe.length : Int) != (p.fc.length : Int)) = true := bne_iff_ne.2 (by omega)
     rw [this, k1, k2]; simp [k3]
   ·have : ((m.fa.length : Int) != (p.fb.length : Int)) = true := bne_iff_ne.2 (by omega)
    rw [this, k1]; simp [k2]
  ·have : ((m.fd.length : Int) != (p.fb.length : Int)) = true := bne_iff_ne.2 (by omega)
   rw [this]; simp [k1]
 ·rw [bne_iff_ne.2 k0]; simp [k0]
@[simp] theorem Bn {α β : Type} (k : α) (f : α → β) : Ba k f = f k := rfl
@[simp] theorem XU {p : Prop} [Decidable p] (h : p) : Ej p = some () := by unfold Ej; rw [if_pos h]
theorem Aw {β : Type} {p : Prop} [Decidable p] (h : p) (f : Unit → Option β) : (Ej p).bind f = f () := by rw [XU h]; rfl
def C1 {α β : Type} (g : Nat → α → List β) : Nat → List α → List β
 | _, [] => []
 | i, x :: xs => g i x ++ C1 g (i + 1) xs
def J4 {α A : Type} (f : Nat → α → A → A) : Nat → List α → A → A
 | _, [], a => a
 | i, x :: xs, a => J4 f (i + 1) xs (f i x a)
theorem Oc {α β : Type} (g : Nat → α → List β) : ∀ (i : Nat) (xs ys : List α), C1 g i (xs ++ ys) = C1 g i xs ++ C1 g (i + xs.length) ys
 | i, [], ys => by simp [C1]
 | i, x :: xs, ys => by
  rw [uS, C1, C1, Oc g (i + 1) xs ys, yO, yC, xH, vO 1]
theorem HK {α β : Type} {g : Nat → α → List β} {y : β} : ∀ {i : Nat} {xs : List α}, y ∈ C1 g i xs ↔ ∃ j x, xs[j]? = some x ∧ y ∈ g (i + j) x
 | _, [] => by simp [C1]
 | i, x :: xs => by
  rw [C1, yB, HK]
  constructor
  ·rintro (h | ⟨j, z, hz, h⟩)
   ·exact ⟨0, x, rfl, h⟩
   ·exact ⟨j + 1, z, by simpa using hz, by rwa [show i + (j + 1) = i + 1 + j from by omega]⟩
  ·rintro ⟨j, z, hz, h⟩
   cases j with
   | zero => simp at hz; subst hz; exact .inl h
   | succ j => exact .inr ⟨j, z, by simpa using hz, by rwa [show i + 1 + j = i + (j + 1) from by omega]⟩
theorem GO {α β : Type} {g : Nat → α → List β} {c : Nat} : ∀ {i : Nat} {xs : List α}, (∀ j x, xs[j]? = some x → (g (i + j) x).length ≤ c) → (C1 g i xs).length ≤ c * xs.length
 | _, [], _ => by simp [C1]
 | i, x :: xs, h => by
  have h1 := h 0 x rfl
  have h2 := GO (g := g) (c := c) (i := i + 1) (xs := xs) fun j y hy => by
   have := h (j + 1) y (by simpa using hy)
   rwa [show i + (j + 1) = i + 1 + j from by omega] at this
  rw [C1, zT, yC, Nat.mul_add]
  simp only [xM] at h1
  omega
theorem ID {α A S R : Type} (L : Nat → S → Option R) (mk : A → Int → S) (xs : List α) (j : A → Option R) (f : Nat → α → A → A) (I : Nat → A → Prop)
  (hs : ∀ (n i : Nat) (x : α) (a : A), xs[i]? = some x → I i a → L (n + 1) (mk a (i : Int)) = L n (mk (f i x a) ((i + 1 : Nat) : Int)) ∧ I (i + 1) (f i x a))
  (he : ∀ (n : Nat) (a : A), I xs.length a → L (n + 1) (mk a (xs.length : Int)) = j a) :
  ∀ (n i : Nat) (a : A), i ≤ xs.length → xs.length - i < n → I i a → L n (mk a (i : Int)) = j (J4 f i (xs.drop i) a) ∧ I xs.length (J4 f i (xs.drop i) a)
 | 0, i, _, _, h, _ => by omega
 | n + 1, i, a, hi, h, ha => by
  by_cases h1 : i < xs.length
  ·have hx : xs[i]? = some xs[i] := by simp [h1]
   obtain ⟨e1, e2⟩ := hs n i _ a hx ha
   rw [e1, Ho hx, J4]
   exact ID L mk xs j f I hs he n (i + 1) _ (by omega) (by omega) e2
  ·have : i = xs.length := by omega
   subst this
   rw [yR (zK _), J4]
   exact ⟨he n a ha, ha⟩
theorem QD {α β : Type} (g : Nat → α → List β) : ∀ (i : Nat) (xs : List α) (acc : List β), J4 (fun i x a => a ++ g i x) i xs acc = acc ++ C1 g i xs
 | _, [], acc => by simp [J4, C1]
 | i, x :: xs, acc => by rw [J4, QD g (i + 1) xs, C1, yO]
theorem Gl {α β S R : Type} (L : Nat → S → Option R) (mk : List β → Int → S) (xs : List α) (j : List β → Option R) (g : Nat → α → List β) (c B : Nat)
  (hg : ∀ i x, xs[i]? = some x → (g i x).length ≤ c)
  (hs : ∀ (n i : Nat) (x : α) (a : List β), xs[i]? = some x → a.length + (g i x).length ≤ B → L (n + 1) (mk a (i : Int)) = L n (mk (a ++ g i x) ((i + 1 : Nat) : Int)))
  (he : ∀ (n : Nat) (a : List β), L (n + 1) (mk a (xs.length : Int)) = j a) (n : Nat) (a : List β) (hn : xs.length < n) (ha : a.length + c * xs.length ≤ B) :
  L n (mk a 0) = j (a ++ C1 g 0 xs) := by
 have := ID L mk xs j (fun i x a => a ++ g i x) (fun i b => i ≤ xs.length ∧ b.length ≤ a.length + c * i)
  (fun n i x b hx hb => by
   have h1 := hg i x hx
   have hi := (lI.1 hx).1
   have h2 : c * (i + 1) ≤ c * xs.length := Nat.mul_le_mul_left c hi
   have h3 : c * (i + 1) = c * i + c := Nat.mul_succ c i
   refine ⟨hs n i x b hx (by have := hb.2; omega), hi, ?_⟩
   rw [zT]
   have := hb.2
   omega)
  (fun n b _ => he n b) n 0 a (zL _) (by omega) ⟨zL _, by omega⟩
 have h2 := this.1
 rw [zZ, QD] at h2
 exact h2
def EJ (s : Int) (v : Nat) : Bool := s.toNat.testBit v
def J8 (m : Ad) (s v : Nat) : Bool := decide (m.fd.getD s 0 = (v : Int)) || decide (m.fa.getD s 0 = (v : Int))
theorem Y0 : ∀ (s : Fin 256) (v : Fin 8), AM .u8 (AW .u8 (s.val : Int) (v.val : Int)) 1 = if EJ (s.val : Int) v.val then 1 else 0 := by decide +kernel
theorem Sn {s : Int} {v : Nat} (h0 : 0 ≤ s) (h1 : s ≤ 255) (hv : v < 8) : AM .u8 (AW .u8 s (v : Int)) 1 = if EJ s v then 1 else 0 := by
 obtain ⟨k, rfl⟩ := zJ h0
 exact Y0 ⟨k, by omega⟩ ⟨v, hv⟩
theorem Ti {s : Int} {v : Nat} (h0 : 0 ≤ s) (h1 : s ≤ 255) (hv : v < 8) : (AM .u8 (AW .u8 s (v : Int)) 1 == 0) = !EJ s v := by
 rw [Sn h0 h1 hv]; cases EJ s v <;> rfl
theorem S6 {s : Int} {v : Nat} (h0 : 0 ≤ s) (h1 : s ≤ 255) (hv : v < 8) : (AM .u8 (AW .u8 s (v : Int)) 1 == 1) = EJ s v := by
 rw [Sn h0 h1 hv]; cases EJ s v <;> rfl
theorem LK {s : Int} {v : Nat} (h1 : s ≤ 255) (hv : 8 ≤ v) : EJ s v = false := by
 unfold EJ
 apply Nat.testBit_lt_two_pow
 have : (2 : Nat) ^ 8 ≤ 2 ^ v := Nat.pow_le_pow_right (by omega) hv
 omega
theorem LD : ∀ (b : Fin 8) (v : Fin 8), EJ (CX .u8 1 (b.val : Int)) v.val = decide (b.val = v.val) ∧ 0 ≤ CX .u8 1 (b.val : Int) ∧ CX .u8 1 (b.val : Int) ≤ 255 := by decide +kernel
theorem YI : ∀ (b n : Fin 8) (v : Fin 8), EJ (QE .u8 (CX .u8 1 (b.val : Int)) (CX .u8 1 (n.val : Int))) v.val = (decide (b.val = v.val) || decide (n.val = v.val))
  ∧ 0 ≤ QE .u8 (CX .u8 1 (b.val : Int)) (CX .u8 1 (n.val : Int)) ∧ QE .u8 (CX .u8 1 (b.val : Int)) (CX .u8 1 (n.val : Int)) ≤ 255 := by decide +kernel
theorem WY {m : Ad} {s : Nat} (hb0 : 0 ≤ m.fd.getD s 0) (hb1 : m.fd.getD s 0 < 8) (hn1 : m.fa.getD s 0 < 8) :
  (∀ v, EJ (H7 m s) v = J8 m s v) ∧ 0 ≤ H7 m s ∧ H7 m s ≤ 255 := by
 unfold H7 J8
 obtain ⟨b, hb⟩ := zJ hb0
 rw [hb] at hb1 ⊢
 by_cases h : 0 ≤ m.fa.getD s 0
 ·obtain ⟨n, hn⟩ := zJ h
  rw [hn] at hn1 ⊢
  rw [if_pos (by omega)]
  have h1 := YI ⟨b, by omega⟩ ⟨n, by omega⟩
  refine ⟨fun v => ?_, (h1 0).2⟩
  by_cases hv : v < 8
  ·rw [(h1 ⟨v, hv⟩).1]
   simp only [vX]
  ·rw [LK (h1 0).2.2 (by omega)]
   simp; omega
 ·rw [if_neg h]
  have h1 := LD ⟨b, by omega⟩
  refine ⟨fun v => ?_, (h1 0).2⟩
  have h3 : decide (m.fa.getD s 0 = (v : Int)) = false := decide_eq_false (by omega)
  rw [h3, Bool.or_false]
  by_cases hv : v < 8
  ·rw [(h1 ⟨v, hv⟩).1]
   simp only [vX]
  ·rw [LK (h1 0).2.2 (by omega)]
   simp; omega
theorem Xq {a : Nat} (h : a < 256) : (BitVec.ofInt 8 (a : Int)).toNat = a := by
 simp; omega
theorem Qh {a b : Int} (ha : 0 ≤ a ∧ a ≤ 255) (hb : 0 ≤ b ∧ b ≤ 255) : Dy .u8 a b = 0 ↔ ∀ v, EJ a v = true → EJ b v = true := by
 obtain ⟨a, rfl⟩ := zJ ha.1
 obtain ⟨b, rfl⟩ := zJ hb.1
 have hA := Xq (a := a) (by omega)
 have hB := Xq (a := b) (by omega)
 unfold Dy EJ
 simp only [IntKind.bits, zQ]
 have hx : ∀ x : BitVec 8, wI .u8 (x.toNat : Int) = (x.toNat : Int) := by
  intro x
  have := x.isLt
  simp [wI, IntKind.signed, IntKind.bits]
  omega
 rw [hx]
 constructor
 ·intro h v hv
  have h0 : (BitVec.ofInt 8 (a : Int) &&& ~~~BitVec.ofInt 8 (b : Int)) = (BitVec.ofNat 8 0) := by
   apply BitVec.eq_of_toNat_eq
   simp only [BitVec.toNat_ofNat, Nat.zero_mod]
   exact vX.1 h
  by_cases hv8 : v < 8
  ·have h1 : (BitVec.ofInt 8 (a : Int) &&& ~~~BitVec.ofInt 8 (b : Int)).getLsbD v = false := by rw [h0]; simp
   rw [BitVec.getLsbD_and, BitVec.getLsbD_not] at h1
   have e1 : (BitVec.ofInt 8 (a : Int)).getLsbD v = a.testBit v := by unfold BitVec.getLsbD; rw [hA]
   have e2 : (BitVec.ofInt 8 (b : Int)).getLsbD v = b.testBit v := by unfold BitVec.getLsbD; rw [hB]
   rw [e1, e2, hv] at h1
   simpa [hv8] using h1
  ·have := LK (s := (a : Int)) (v := v) (by omega) (by omega)
   unfold EJ at this
   rw [zQ, hv] at this
   cases this
 ·intro h
  have h0 : (BitVec.ofInt 8 (a : Int) &&& ~~~BitVec.ofInt 8 (b : Int)) = (BitVec.ofNat 8 0) := by
   apply BitVec.eq_of_getLsbD_eq
   intro i hi
   rw [BitVec.getLsbD_and, BitVec.getLsbD_not]
   have e1 : (BitVec.ofInt 8 (a : Int)).getLsbD i = a.testBit i := by unfold BitVec.getLsbD; rw [hA]
   have e2 : (BitVec.ofInt 8 (b : Int)).getLsbD i = b.testBit i := by unfold BitVec.getLsbD; rw [hB]
   rw [e1, e2]
   have := h i
   cases h3 : a.testBit i
   ·simp
   ·rw [this h3]; simp
  have h2 : ∀ x : BitVec 8, x = (BitVec.ofNat 8 0) → (x.toNat : Int) = 0 := fun x hx => by rw [hx]; rfl
  exact h2 _ h0
theorem Ym : ∀ n : Fin 9, (∀ v : Fin 8, EJ (wI .u8 (CX .u8 1 (n.val : Int) - 1)) v.val = decide (v.val < n.val)) ∧ 0 ≤ wI .u8 (CX .u8 1 (n.val : Int) - 1) ∧ wI .u8 (CX .u8 1 (n.val : Int) - 1) ≤ 255 := by decide +kernel
theorem Yq {n : Int} (h0 : 0 ≤ n) (h1 : n ≤ 8) : (∀ v, EJ (wI .u8 (CX .u8 1 n - 1)) v = decide ((v : Int) < n)) ∧ 0 ≤ wI .u8 (CX .u8 1 n - 1) ∧ wI .u8 (CX .u8 1 n - 1) ≤ 255 := by
 obtain ⟨n, rfl⟩ := zJ h0
 have h := Ym ⟨n, by omega⟩
 refine ⟨fun v => ?_, h.2⟩
 by_cases hv : v < 8
 ·rw [h.1 ⟨v, hv⟩]; simp
 ·rw [LK h.2.2 (by omega)]
  symm; apply decide_eq_false; omega
structure B6 (p : Aa) (m : Ad) : Prop extends MixServ p m where
 range : ∀ i, i < p.fc.length → 0 ≤ m.fe.getD i 0 ∧ m.fe.getD i 0 ≤ 255
 low : ∀ i t, p.fc[i]? = some t → Cd t = true → ∀ v, J8 m t.fg.toNat v = true → EJ (m.fe.getD i 0) v = true
 high : ∀ i t, p.fc[i]? = some t → Cd t = true → ∀ v, EJ (m.fe.getD i 0) v = true → (v : Int) < p.fb.getD t.fg.toNat 0
 none : ∀ i t, p.fc[i]? = some t → Cd t = false → m.fe.getD i 0 = 0
theorem JQ {p : Aa} (hp : Bl p) {i : Nat} (hi : i < p.fb.length) : 1 ≤ p.fb.getD i 0 ∧ p.fb.getD i 0 ≤ 6 := by
 have := La (i := (i : Int)) hp.ver (by omega) (by omega)
 simpa using this
theorem JN {p : Aa} {m : Ad} (hp : Bl p) (hm : MixServ p m) {s : Nat} (hs : s < p.fb.length) :
  (∀ v, EJ (H7 m s) v = J8 m s v) ∧ 0 ≤ H7 m s ∧ H7 m s ≤ 255 := by
 have h1 := hm.b0 s hs
 have h2 := hm.n0 s hs
 have h3 := JQ hp hs
 exact WY h1.1 (by omega) (by omega)
theorem T6 {p : Aa} {m : Ad} (hp : Bl p) (hm : MixServ p m) {i : Nat} {t : Am} (ht : p.fc[i]? = some t) (hr : 0 ≤ m.fe.getD i 0 ∧ m.fe.getD i 0 ≤ 255) :
  KZ p m i t = none ↔ ((Cd t = true → (∀ v, J8 m t.fg.toNat v = true → EJ (m.fe.getD i 0) v = true) ∧ (∀ v, EJ (m.fe.getD i 0) v = true → (v : Int) < p.fb.getD t.fg.toNat 0)) ∧ (Cd t = false → m.fe.getD i 0 = 0)) := by
 have hin := KO (hp.tab t (lM ht))
 have hrun := JN hp hm (s := t.fg.toNat) (by omega)
 have hver := JQ hp (i := t.fg.toNat) (by omega)
 have hall := Yq (n := p.fb.getD t.fg.toNat 0) (by omega) (by omega)
 unfold KZ YU
 have e1 := Qh hrun.2 hr
 have e2 := Qh hr hall.2
 cases hst : Cd t
 ·simp
 ·simp only [if_true, true_implies, Bool.true_eq_false, false_implies, and_true, ite_eq_right_iff, reduceCtorEq, imp_false, not_or, Decidable.not_not]
  rw [e1, e2]
  simp only [hrun.1, hall.1, decide_eq_true_eq]
theorem Lf {p : Aa} {m : Ad} (hw : OH M1 m.fe) (h : GU p m = 0) : Bl p ∧ B6 p m := by
 unfold GU at h
 split at h
 ·rename_i k; exact (k h).elim
 ·rename_i k0
  have hp : Bl p := by
   rcases Kj p with h | h
   ·exact h.2
   ·omega
  split at h
  ·cases h
  ·rename_i k1
   have b1 : m.fd.length = p.fb.length := Decidable.not_not.1 fun h => k1 (.inl h)
   have b2 : m.fa.length = p.fb.length := Decidable.not_not.1 fun h => k1 (.inr (.inl h))
   have b3 : m.fe.length = p.fc.length := Decidable.not_not.1 fun h => k1 (.inr (.inr h))
   cases hs : CY (Nl m) 0 p.fb with
   | some r =>
    obtain ⟨j, x, _, he⟩ := Em hs
    rw [hs] at h
    unfold Nl at he
    simp only [BV, yF] at h
    split at he
    ·cases he; cases h
    ·split at he
     ·cases he; cases h
     ·cases he
   | none =>
    have hm := SQ b1 b2 b3 hs
    rw [hs] at h
    simp only [BV] at h
    cases ht : CY (KZ p m) 0 p.fc with
    | some r =>
     obtain ⟨j, x, _, he⟩ := Em ht
     rw [ht] at h
     simp only [yF] at h
     subst h
     unfold KZ at he
     split at he
     ·split at he <;> cases he
     ·split at he <;> cases he
    | none =>
     have hr : ∀ i, i < p.fc.length → 0 ≤ m.fe.getD i 0 ∧ m.fe.getD i 0 ≤ 255 := fun i hi => KC (T1 hw (by omega))
     have key : ∀ i t, p.fc[i]? = some t → _ := fun i t hi => (T6 hp hm hi (hr i (lI.1 hi).1)).1 (by have := FE ht i t hi; rwa [zC] at this)
     exact ⟨hp, hm, hr, fun i t hi hst => ((key i t hi).1 hst).1, fun i t hi hst => ((key i t hi).1 hst).2, fun i t hi hst => (key i t hi).2 hst⟩
theorem Hd {α R : Type} {f : Nat → α → Option R} : ∀ {i : Nat} {xs : List α}, (∀ j x, xs[j]? = some x → f (i + j) x = none) → CY f i xs = none
 | _, [], _ => rfl
 | i, y :: ys, h => by
  rw [Gi, show f i y = none from h 0 y rfl]
  exact Hd fun j x hx => by
   have := h (j + 1) x (by simpa using hx)
   rwa [show i + (j + 1) = i + 1 + j from by omega] at this
theorem SI {p : Aa} (hp : Bl p) (hr : ∀ i, i < p.fb.length → 0 ≤ p.fi.getD i 0 ∧ p.fi.getD i 0 < p.fb.getD i 0 ∧ 0 ≤ p.fm.getD i 0 ∧ p.fm.getD i 0 < p.fb.getD i 0) : B5 p = 0 := by
 have := hp.nv
 have := hp.nt
 have := hp.now
 have := hp.tgt
 unfold B5
 rw [if_neg (by omega), if_neg (by omega)]
 have h1 : CY (GV p) 0 p.fb = none := Hd fun j x hx => by
  have hj := (lI.1 hx).1
  have h1 := hr j hj
  have h2 := JQ hp hj
  have e : p.fb.getD j 0 = x := by rw [lD, hx]; rfl
  rw [e] at h1 h2
  unfold GV
  rw [zC, if_neg (by omega)]
 have h2 : CY (M2 p) 0 p.fc = none := Hd fun j x hx => by
  unfold M2
  rw [if_pos (hp.tab x (lM hx))]
 rw [h1, h2]; rfl
theorem Du {p : Aa} (h : B5 p = 0) : Bl p ∧ ∀ i, i < p.fb.length → 0 ≤ p.fi.getD i 0 ∧ p.fi.getD i 0 < p.fb.getD i 0 ∧ 0 ≤ p.fm.getD i 0 ∧ p.fm.getD i 0 < p.fb.getD i 0 := by
 have hp : Bl p := by
  rcases Kj p with h | h
  ·exact h.2
  ·omega
 refine ⟨hp, fun i hi => ?_⟩
 have h1 := hp.nv
 have h2 := hp.nt
 have h3 := hp.now
 have h4 := hp.tgt
 unfold B5 at h
 rw [if_neg (by omega), if_neg (by omega)] at h
 cases hs : CY (GV p) 0 p.fb with
 | some r =>
  obtain ⟨j, x, _, he⟩ := Em hs
  rw [hs] at h
  unfold GV at he
  split at he
  ·cases he; cases h
  ·cases he
 | none =>
  have hx : p.fb[i]? = some (p.fb.getD i 0) := by rw [lD]; simp [hi]
  have := FE hs i _ hx
  rw [zC] at this
  unfold GV at this
  split at this
  ·cases this
  ·rename_i hn; omega
theorem JC {p : Aa} {m : Ad} (hv : B5 p = 0) (hm : B6 p m) : GU p m = 0 := by
 obtain ⟨hp, _⟩ := Du hv
 unfold GU
 rw [hv, if_neg (by simp), if_neg (by have := hm.base; have := hm.next; have := hm.held; omega)]
 have h1 : CY (Nl m) 0 p.fb = none := Hd fun j x hx => by
  have hj := (lI.1 hx).1
  have e : p.fb.getD j 0 = x := by rw [lD, hx]; rfl
  have h1 := hm.b0 j hj
  have h2 := hm.n0 j hj
  have h3 := hm.ne j hj
  rw [e] at h1 h2
  unfold Nl
  rw [zC, if_neg (by omega), if_neg h3]
 have h2 : CY (KZ p m) 0 p.fc = none := Hd fun j x hx => by
  have hj := (lI.1 hx).1
  rw [zC]
  exact (T6 hp hm.toMixServ hx (hm.range j hj)).2 ⟨fun hst => ⟨hm.low j x hx hst, hm.high j x hx hst⟩, fun hst => hm.none j x hx hst⟩
 rw [h1, h2]; rfl
def Qn {α : Type} (g : Nat → α → Bool) : Nat → List α → Bool
 | _, [] => false
 | i, x :: xs => g i x || Qn g (i + 1) xs
theorem Nn {α β : Type} (g : Nat → α → List β) (h : Nat → α → Bool) : ∀ (i : Nat) (xs : List α) (a : List β) (b : Bool),
  J4 (fun i x (s : List β × Bool) => (s.1 ++ g i x, s.2 || h i x)) i xs (a, b) = (a ++ C1 g i xs, b || Qn h i xs)
 | _, [], a, b => by simp [J4, C1, Qn]
 | i, x :: xs, a, b => by rw [J4, Nn g h, C1, Qn, yO, Bool.or_assoc]
def gC (i u : Nat) (m : Ad) (t : Am) (v : Nat) (ok : Bool) : List Ap :=
 if J8 m t.fj.toNat v && (!ok && !t.fr) then [⟨(i : Int), (u : Int), (v : Int)⟩] else []
def hC (m : Ad) (t : Am) (v : Nat) (ok : Bool) : Bool := J8 m t.fj.toNat v && ok
def LU (i : Nat) (m : Ad) (t : Am) (u : Nat) (row : List Bool) : List Ap :=
 C1 (gC i u m t) 0 row ++ if t.fr && !Qn (hC m t) 0 row then [⟨(i : Int), (u : Int), -1⟩] else []
def VP (m : Ad) (i : Nat) (t : Am) (u : Nat) : Bool := if Cd t then EJ (m.fe.getD i 0) u else J8 m t.fg.toNat u
def Lx (m : Ad) (i : Nat) (t : Am) : List Ap := C1 (fun u row => if VP m i t u then LU i m t u row else []) 0 t.fq
def Iy (p : Aa) (m : Ad) : List Ap := C1 (Lx m) 0 p.fc
structure Pe (p : Aa) (t : Am) : Prop where
 kind : 1 ≤ t.ff ∧ t.ff ≤ 4
 aware : t.fr = true → Cd t = false
 from0 : 0 ≤ t.fg ∧ t.fg < (p.fb.length : Int)
 to0 : 0 ≤ t.fj ∧ t.fj < (p.fb.length : Int)
 okL : (t.fq.length : Int) = p.fb.getD t.fg.toNat 0
 okR : ∀ row, row ∈ t.fq → (row.length : Int) = p.fb.getD t.fj.toNat 0
 reL : t.ff = 4 → (t.fk.length : Int) = p.fb.getD t.fg.toNat 0
 reR : ∀ row, row ∈ t.fk → (row.length : Int) = p.fb.getD t.fg.toNat 0
 reD : t.ff = 4 → Ks t.fk = none
 reN : t.ff ≠ 4 → t.fk = []
theorem MC {p : Aa} {t : Am} (h : Ez p t = 0) : Pe p t := by
 unfold Ez at h
 split at h
 ·cases h
 rename_i h1
 split at h
 ·cases h
 rename_i h2
 simp only at h
 split at h
 ·cases h
 rename_i h3
 have h3 : sq t.fq (p.fb.getD t.fg.toNat 0) (p.fb.getD t.fj.toNat 0) = true := by simpa using h3
 have h3 := Pr h3
 have ha : t.fr = true → Cd t = false := by
  intro ha
  unfold Cd
  rw [uT, beq_eq_false_iff_ne, beq_eq_false_iff_ne]
  exact ⟨fun hk => h1 (.inr (.inr ⟨ha, .inl hk⟩)), fun hk => h1 (.inr (.inr ⟨ha, .inr hk⟩))⟩
 split at h
 ·rename_i h4
  split at h
  ·cases h
  rename_i h5
  have h5 : sq t.fk (p.fb.getD t.fg.toNat 0) (p.fb.getD t.fg.toNat 0) = true := by simpa using h5
  have h5 := Pr h5
  refine ⟨by omega, ha, by omega, by omega, h3.1, h3.2, fun _ => h5.1, h5.2, fun _ => ?_, fun h => (h h4).elim⟩
  cases hd : Ks t.fk with
  | none => rfl
  | some r =>
   obtain ⟨j, x, _, hx⟩ := Em hd
   rw [hd] at h
   split at hx
   ·cases hx
   ·cases hx; cases h
 ·rename_i h4
  split at h
  ·rename_i h5
   have h5 := yN h5
   refine ⟨by omega, ha, by omega, by omega, h3.1, h3.2, fun h => (h4 h).elim, fun row hr => ?_, fun h => (h4 h).elim, fun _ => h5⟩
   rw [h5] at hr; cases hr
  ·cases h
theorem MO {R : Type} (b : Bool) (acc : List Ap) (x : Ap) (j : List Ap → Option R) (h : acc.length + 1 ≤ Dz) :
  AR b ((Ej (acc.length + ([x] : List Ap).length ≤ Dz)).bind fun _ => j (acc ++ [x])) (j acc) = j (acc ++ if b then [x] else []) := by
 cases b
 ·simp
 ·rw [AU, Aw (by simpa using h)]; rfl
theorem Tf (N : Nat) (m : Ad) (t : Am) (i u : Nat) (row : List Bool) (R : Int) (b1 b2 acc : List Ap) (j : List Ap × Bool → Option (List Ap))
  (hN : N ≤ 1000000) (h8 : 8 ≤ N) (hrow : row.length ≤ 6) (hacc : acc.length + 6 ≤ Dz) (hR0 : 0 ≤ R) (hR1 : R ≤ 255) (hRb : ∀ v, EJ R v = J8 m t.fj.toNat v) :
  Ck N (b1, (i : Int)) t R (b2, (u : Int)) row j N (acc, false, 0) = j (acc ++ C1 (gC i u m t) 0 row, Qn (hC m t) 0 row) := by
 have := ID (A := List Ap × Bool) (Ck N (b1, (i : Int)) t R (b2, (u : Int)) row j) (fun a k => (a.1, a.2, k)) row (fun a => j a) (fun v ok s => (s.1 ++ gC i u m t v ok, s.2 || hC m t v ok))
  (fun v a => v ≤ row.length ∧ a.1.length ≤ acc.length + v)
  (fun n v ok a hx ha => by
   have hv := (lI.1 hx).1
   obtain ⟨c, f⟩ := a
   simp only at ha
   refine ⟨?_, by omega, ?_⟩
   ·rw [Ck]
    simp only [Bn]
    rw [AH (by omega), AX, hx]
    simp only [oS]
    rw [Aw (by omega), Ti hR0 hR1 (by omega), hRb, AI (by omega), MO _ _ _ (fun l => Ck N (b1, (i : Int)) t R (b2, (u : Int)) row j n (l, true, ((v + 1 : Nat) : Int))) (by omega)]
    unfold gC hC
    rw [MO _ _ _ (fun l => Ck N (b1, (i : Int)) t R (b2, (u : Int)) row j n (l, ok, ((v + 1 : Nat) : Int))) (by omega)]
    cases J8 m t.fj.toNat v
    ·simp
    ·cases ok <;> cases f <;> cases t.fr <;> simp
   ·simp only [gC, zT]
    split <;> simp <;> omega)
  (fun n a _ => by
   rw [Ck]
   simp only [Bn]
   rw [AB (by omega)]) N 0 (acc, false) (by omega) (by omega) ⟨by omega, by simp⟩
 have h2 := this.1
 rw [zZ, Nn, vF] at h2
 exact h2
theorem Ov {p : Aa} {t : Am} (hp : Bl p) (ht : Pe p t) : t.fq.length ≤ 6 ∧ ∀ row, row ∈ t.fq → row.length ≤ 6 := by
 have h1 := La hp.ver ht.from0.1 ht.from0.2
 have h2 := La hp.ver ht.to0.1 ht.to0.2
 have h3 := ht.okL
 exact ⟨by omega, fun row hr => by have := ht.okR row hr; omega⟩
theorem UV (i u : Nat) (m : Ad) (t : Am) (v : Nat) (ok : Bool) : (gC i u m t v ok).length ≤ 1 := by
 unfold gC; split <;> simp
theorem UQ (i : Nat) (m : Ad) (t : Am) (u : Nat) (row : List Bool) (h : row.length ≤ 6) : (LU i m t u row).length ≤ 7 := by
 unfold LU
 rw [zT]
 have := GO (g := gC i u m t) (c := 1) (i := 0) (xs := row) (fun j x _ => UV _ _ _ _ _ _)
 split <;> simp <;> omega
theorem UP (i : Nat) (m : Ad) (t : Am) (u : Nat) (row : List Bool) (h : row.length ≤ 6) : (if VP m i t u = true then LU i m t u row else []).length ≤ 7 := by
 have := UQ i m t u row h
 split <;> simp <;> omega
theorem Pc {p : Aa} {t : Am} (hp : Bl p) (ht : Pe p t) (i : Nat) (m : Ad) : (Lx m i t).length ≤ 42 := by
 have h1 := Ov hp ht
 have := GO (g := fun u row => if VP m i t u = true then LU i m t u row else []) (c := 7) (i := 0) (xs := t.fq) (fun j x hx => UP i m t _ x (h1.2 x (lM hx)))
 unfold Lx
 omega
theorem Oi (N : Nat) (p : Aa) (m : Ad) (t : Am) (i : Nat) (W R : Int) (b1 acc : List Ap) (j : List Ap → Option (List Ap))
  (hN : N ≤ 1000000) (h8 : 8 ≤ N) (hp : Bl p) (ht : Pe p t) (hacc : acc.length + 42 ≤ 10000) (hR0 : 0 ≤ R) (hR1 : R ≤ 255) (hRb : ∀ v, EJ R v = J8 m t.fj.toNat v) (hW0 : 0 ≤ W) (hW1 : W ≤ 255) (hWb : ∀ v, EJ W v = VP m i t v) :
  CH N (b1, (i : Int)) t R W j N (acc, 0) = j (acc ++ Lx m i t) := by
 have hl := Ov hp ht
 exact Gl (CH N (b1, (i : Int)) t R W j) (fun a k => (a, k)) t.fq j (fun u row => if VP m i t u then LU i m t u row else []) 7 10000
  (fun u row hx => UP i m t u row (hl.2 row (lM hx)))
  (fun n u row a hx ha => by
   have hu := (lI.1 hx).1
   have hrow := hl.2 row (lM hx)
   rw [CH]
   simp only [Bn]
   rw [AH (by omega), Aw (by omega), Ti hW0 hW1 (by omega), hWb, AX, hx]
   simp only [oS]
   rw [Tf N m t i u row R b1 a a _ hN h8 hrow (by unfold Dz; omega) hR0 hR1 hRb, AI (by omega)]
   cases hw : VP m i t u
   ·simp
   ·simp only [zY, Ao, if_true, LU]
    have h1 := GO (g := gC i u m t) (c := 1) (i := 0) (xs := row) (fun j x _ => UV _ _ _ _ _ _)
    have := MO (R := List Ap) (t.fr && !Qn (hC m t) 0 row) (a ++ C1 (gC i u m t) 0 row) ⟨(i : Int), (u : Int), -1⟩ (fun l => CH N (b1, (i : Int)) t R W j n (l, ((u + 1 : Nat) : Int))) (by rw [zT]; unfold Dz; rw [hw, if_pos rfl] at ha; omega)
    rw [← yO, ← this]
    cases t.fr <;> cases Qn (hC m t) 0 row <;> rfl)
  (fun n a => by
   rw [CH]
   simp only [Bn]
   rw [AB (by omega)]) N acc (by omega) (by omega)
theorem TV (N : Nat) (p : Aa) (m : Ad) (t : Am) (i u : Nat) (row : List Bool) (b1 b2 acc : List Ap) (j : List Ap × Bool → Option (List Ap))
  (hN : N ≤ 1000000) (h8 : 8 ≤ N) (hp : Bl p) (hm : MixServ p m) (ht : Pe p t) (hu : t.fq[u]? = some row) (hacc : acc.length + 6 ≤ Dz) :
  Bw N p m (b1, (i : Int)) t (b2, (u : Int)) j N (acc, false, 0) = j (acc ++ C1 (gC i u m t) 0 row, Qn (hC m t) 0 row) := by
 have hrow := (Ov hp ht).2 row (lM hu)
 have hR := JN hp hm (s := t.fj.toNat) (by have := ht.to0; omega)
 have hlen := ht.okR row (lM hu)
 have hto := ht.to0
 have := ID (A := List Ap × Bool) (Bw N p m (b1, (i : Int)) t (b2, (u : Int)) j) (fun a k => (a.1, a.2, k)) row (fun a => j a) (fun v ok s => (s.1 ++ gC i u m t v ok, s.2 || hC m t v ok))
  (fun v a => v ≤ row.length ∧ a.1.length ≤ acc.length + v)
  (fun n v ok a hx ha => by
   have hv := (lI.1 hx).1
   obtain ⟨c, f⟩ := a
   simp only at ha
   refine ⟨?_, by omega, ?_⟩
   ·rw [Bw]
    simp only [Bn]
    rw [EQ (d := 0) hto.1 hto.2, LN N m t.fj hto.1 (by rw [hm.base]; exact hto.2) (by rw [hm.next]; exact hto.2) (hm.b0 _ (by omega)).1, AX, hu]
    simp only [oS]
    unfold CS
    rw [AH (by omega), AX, hx, Aw (by omega), S6 hR.2.1 hR.2.2 (by omega), hR.1]
    simp only [oS]
    rw [AI (by omega), MO _ _ _ (fun l => Bw N p m (b1, (i : Int)) t (b2, (u : Int)) j n (l, true, ((v + 1 : Nat) : Int))) (by omega)]
    unfold gC hC
    rw [MO _ _ _ (fun l => Bw N p m (b1, (i : Int)) t (b2, (u : Int)) j n (l, ok, ((v + 1 : Nat) : Int))) (by omega)]
    cases J8 m t.fj.toNat v
    ·simp
    ·cases ok <;> cases f <;> cases t.fr <;> simp
   ·simp only [gC, zT]
    split <;> simp <;> omega)
  (fun n a _ => by
   rw [Bw]
   simp only [Bn]
   rw [EQ (d := 0) hto.1 hto.2]
   simp only [oS]
   rw [AB (by omega)]) N 0 (acc, false) (by omega) (by omega) ⟨by omega, by simp⟩
 have h2 := this.1
 rw [zZ, Nn, vF] at h2
 exact h2
theorem Oz (N : Nat) (p : Aa) (m : Ad) (t : Am) (i : Nat) (W : Int) (b1 acc : List Ap) (j : List Ap → Option (List Ap))
  (hN : N ≤ 1000000) (h8 : 8 ≤ N) (hp : Bl p) (hm : MixServ p m) (ht : Pe p t) (hacc : acc.length + 42 ≤ 10000) (hW0 : 0 ≤ W) (hW1 : W ≤ 255) (hWb : ∀ v, EJ W v = VP m i t v) :
  BN N p m (b1, (i : Int)) t W j N (acc, 0) = j (acc ++ Lx m i t) := by
 have hl := Ov hp ht
 have hfr := ht.from0
 have hok := ht.okL
 exact Gl (BN N p m (b1, (i : Int)) t W j) (fun a k => (a, k)) t.fq j (fun u row => if VP m i t u then LU i m t u row else []) 7 10000
  (fun u row hx => UP i m t u row (hl.2 row (lM hx)))
  (fun n u row a hx ha => by
   have hu := (lI.1 hx).1
   have hrow := hl.2 row (lM hx)
   rw [BN]
   simp only [Bn]
   rw [EQ (d := 0) hfr.1 hfr.2]
   simp only [oS]
   unfold CS
   rw [AH (by omega), Aw (by omega), S6 hW0 hW1 (by omega), hWb]
   simp only [oS]
   rw [TV N p m t i u row b1 a a _ hN h8 hp hm ht hx (by unfold Dz; omega), AI (by omega)]
   cases hw : VP m i t u
   ·simp
   ·simp only [zY, Ao, if_true, LU]
    have h1 := GO (g := gC i u m t) (c := 1) (i := 0) (xs := row) (fun j x _ => UV _ _ _ _ _ _)
    have := MO (R := List Ap) (t.fr && !Qn (hC m t) 0 row) (a ++ C1 (gC i u m t) 0 row) ⟨(i : Int), (u : Int), -1⟩ (fun l => BN N p m (b1, (i : Int)) t W j n (l, ((u + 1 : Nat) : Int))) (by rw [zT]; unfold Dz; rw [hw, if_pos rfl] at ha; omega)
    rw [← yO, ← this]
    cases t.fr <;> cases Qn (hC m t) 0 row <;> rfl)
  (fun n a => by
   rw [BN]
   simp only [Bn]
   rw [EQ (d := 0) hfr.1 hfr.2]
   simp only [oS]
   rw [AB (by omega)]) N acc (by omega) (by omega)
theorem OB (N : Nat) (p : Aa) (m : Ad) (hN : N ≤ 1000000) (h20 : 20 ≤ N) (hp : Bl p) (hm : B6 p m) : GK N p m = some (Iy p m) := by
 unfold GK
 have hnt := hp.nt
 rw [Gl (Ec N p m _) (fun a k => (a, k)) p.fc some (Lx m) 42 9000
  (fun i t hx => Pc hp (MC (hp.tab t (lM hx))) i m)
  (fun n i t a hx ha => by
   have hi := (lI.1 hx).1
   have ht := MC (hp.tab t (lM hx))
   have hto := ht.to0
   have hfr := ht.from0
   have hR := JN hp hm.toMixServ (s := t.fj.toNat) (by omega)
   have hF := JN hp hm.toMixServ (s := t.fg.toNat) (by omega)
   have hH := hm.range i hi
   rw [Ec]
   simp only [Bn]
   rw [AH (by omega), AX, hx]
   simp only [oS, Le]
   rw [Nr N m t.fg hfr.1 (by rw [hm.base]; exact hfr.2) (by rw [hm.next]; exact hfr.2) (hm.b0 _ (by omega)).1, Nr N m t.fj hto.1 (by rw [hm.base]; exact hto.2) (by rw [hm.next]; exact hto.2) (hm.b0 _ (by omega)).1, Dw (d := 0) (by rw [hm.held]; exact hi), AI (by omega)]
   simp only [oS]
   cases hs : Cd t
   ·rw [Ao, Oi N p m t i _ _ a a _ hN (by omega) hp ht (by omega) hR.2.1 hR.2.2 hR.1 hF.2.1 hF.2.2 (fun v => by unfold VP; rw [hs, hF.1]; rfl)]
   ·rw [AU, Oi N p m t i _ _ a a _ hN (by omega) hp ht (by omega) hR.2.1 hR.2.2 hR.1 hH.1 hH.2 (fun v => by unfold VP; rw [hs]; rfl)])
  (fun n a => by
   rw [Ec]
   simp only [Bn]
   rw [AB (by omega)]) N [] (by omega) (by simp; omega)]
 rfl
theorem OY (N : Nat) (p : Aa) (m : Ad) (hN : N ≤ 1000000) (h20 : 20 ≤ N) (hp : Bl p) (hm : B6 p m) : Fw N p m = some (Iy p m) := by
 unfold Fw
 have hnt := hp.nt
 rw [Gl (C5 N p m _) (fun a k => (a, k)) p.fc some (Lx m) 42 9000
  (fun i t hx => Pc hp (MC (hp.tab t (lM hx))) i m)
  (fun n i t a hx ha => by
   have hi := (lI.1 hx).1
   have ht := MC (hp.tab t (lM hx))
   have hto := ht.to0
   have hfr := ht.from0
   have hF := JN hp hm.toMixServ (s := t.fg.toNat) (by omega)
   have hH := hm.range i hi
   rw [C5]
   simp only [Bn]
   rw [AH (by omega), AX, hx]
   simp only [oS, H6]
   rw [LN N m t.fg hfr.1 (by rw [hm.base]; exact hfr.2) (by rw [hm.next]; exact hfr.2) (hm.b0 _ (by omega)).1, Dw (d := 0) (by rw [hm.held]; exact hi), AI (by omega)]
   simp only [oS]
   cases hs : Cd t
   ·rw [Ao, Oz N p m t i _ a a _ hN (by omega) hp hm.toMixServ ht (by omega) hF.2.1 hF.2.2 (fun v => by unfold VP; rw [hs, hF.1]; rfl)]
   ·rw [AU, Oz N p m t i _ a a _ hN (by omega) hp hm.toMixServ ht (by omega) hH.1 hH.2 (fun v => by unfold VP; rw [hs]; rfl)])
  (fun n a => by
   rw [C5]
   simp only [Bn]
   rw [AB (by omega)]) N [] (by omega) (by simp; omega)]
 rfl
theorem F3 {A S R : Type} (L : Nat → S → Option R) (mk : A → Int → S) (len : Nat) (j : A → Option R) (I : Nat → A → Prop)
  (hs : ∀ (n i : Nat) (a : A), i < len → I i a → ∃ a', L (n + 1) (mk a (i : Int)) = L n (mk a' ((i + 1 : Nat) : Int)) ∧ I (i + 1) a')
  (he : ∀ (n : Nat) (a : A), I len a → L (n + 1) (mk a (len : Int)) = j a) :
  ∀ (n i : Nat) (a : A), i ≤ len → len - i < n → I i a → ∃ a', L n (mk a (i : Int)) = j a' ∧ I len a'
 | 0, i, _, _, h, _ => by omega
 | n + 1, i, a, hi, h, ha => by
  by_cases h1 : i < len
  ·obtain ⟨a', e1, e2⟩ := hs n i a h1 ha
   rw [e1]
   exact F3 L mk len j I hs he n (i + 1) _ (by omega) (by omega) e2
  ·have : i = len := by omega
   subst this
   exact ⟨a, he n a ha, ha⟩
theorem KW {α : Type} {xs ys : List α} {i : Nat} {d : α} (h : i < xs.length) : (xs ++ ys).getD i d = xs.getD i d := by
 rw [lD, lD, yE h]
theorem KT {α : Type} {xs : List α} {y : α} {i : Nat} {d : α} (h : i = xs.length) : (xs ++ [y]).getD i d = y := by
 subst h; rw [lD, yD (zK _)]; simp
theorem PG {α : Type} {P : Nat → α → Prop} {xs : List α} {y : α} {d : α} {n : Nat} (hn : xs.length = n) (h : ∀ k, k < n → P k (xs.getD k d)) (hy : P n y) : ∀ k, k < n + 1 → P k ((xs ++ [y]).getD k d) := by
 intro k hk
 by_cases h1 : k < n
 ·rw [KW (by omega)]; exact h k h1
 ·have : k = n := by omega
  subst this
  rw [KT hn.symm]; exact hy
theorem Vx {l : List Int} (hw : OH M1 l) (i : Nat) : 0 ≤ l.getD i 0 ∧ l.getD i 0 ≤ 255 := by
 by_cases h : i < l.length
 ·have : l.getD i 0 ∈ l := by rw [lD, yI h]; exact xK _
  exact KC (hw _ this)
 ·rw [lD, yX (by omega)]
  exact ⟨by decide, by decide⟩
theorem RL (N : Nat) {l : List Int} (hw : OH M1 l) (i : Nat) : EX N l (i : Int) = some (l.getD i 0) := by
 unfold EX
 have h2 := Vx hw i
 by_cases h : i < l.length
 ·rw [AH (by omega), Dw (d := 0) h]
  simp only [oS]
  rw [C3 (by omega) (by omega)]
 ·rw [AB (by omega), lD, yX (by omega)]; rfl
theorem Jj {a n : Int} (ha : 0 ≤ a) (hn : 0 < n) : 0 ≤ zU a n ∧ zU a n < n := ⟨Int.tmod_nonneg n ha, Int.tmod_lt_of_pos a hn⟩
theorem Zs {l : List (List Bool)} {n m : Int} (h1 : (l.length : Int) = n) (h2 : ∀ row, row ∈ l → (row.length : Int) = m) : sq l n m = true := by
 unfold sq
 simp only [zI, decide_eq_true_eq, zH]
 exact ⟨h1, h2⟩
theorem aF {p : Aa} {t : Am} (h : Pe p t) : Ez p t = 0 := by
 have hk := h.kind
 have hf := h.from0
 have ht := h.to0
 unfold Ez
 rw [if_neg, if_neg (by omega)]
 ·simp only [Zs h.okL h.okR]
  rw [if_neg (by simp)]
  by_cases h4 : t.ff = 4
  ·rw [if_pos h4, Zs (h.reL h4) h.reR, if_neg (by simp), h.reD h4]; rfl
  ·rw [if_neg h4, h.reN h4]; rfl
 ·rintro (h1 | h1 | ⟨h1, h2⟩)
  ·omega
  ·omega
  ·have := h.aware h1
   unfold Cd at this
   rw [uT, beq_eq_false_iff_ne, beq_eq_false_iff_ne] at this
   omega
theorem WR (N : Nat) (m bad : Int) (diag : Bool) (i : Nat) (acc : List (List Bool)) {_R : Type} (j : List Bool → Option (List (List Bool))) (hN : N ≤ 1000000) (h20 : 20 ≤ N) (hm : 0 ≤ m ∧ m ≤ 6) (hi : i < 6) :
  ∃ row, CN N m bad diag (acc, (i : Int)) j N ([], 0) = j row ∧ (row.length : Int) = m ∧ (diag = true → (i : Int) < m → row.getD i false = true) := by
 obtain ⟨M, rfl⟩ := zJ hm.1
 obtain ⟨row, e, h1, h2⟩ := F3 (A := List Bool) (CN N (M : Int) bad diag (acc, (i : Int)) j) (fun a k => (a, k)) M j
  (fun k a => a.length = k ∧ ∀ q, q < k → diag = true → q = i → a.getD q false = true)
  (fun n k a hk ha => by
   refine ⟨a ++ [(diag && decide (i = k)) || (zU (AW .u16 bad ((3 * i + k : Nat) : Int)) 2 == 0)], ?_, by simp [ha.1], PG (P := fun q y => diag = true → q = i → y = true) ha.1 ha.2 (fun h1 h2 => by simp [h1, h2])⟩
   rw [CN]
   simp only [Bn]
   rw [AH (by omega), AI (by omega), C3 (n := 3 * (i : Int)) (by omega) (by omega), C3 (n := 3 * (i : Int) + (k : Int)) (by omega) (by omega)]
   have l1 : ∀ y : Bool, a.length + ([y] : List Bool).length ≤ Dz := by intro y; rw [ha.1]; unfold Dz; simp; omega
   simp only [Aw (l1 _), Aw (show (0 : Int) ≤ 3 * (i : Int) + (k : Int) by omega)]
   have e1 : ((3 * i + k : Nat) : Int) = 3 * (i : Int) + (k : Int) := by omega
   rw [e1]
   have e2 : (((i : Nat) : Int) == ((k : Nat) : Int)) = decide (i = k) := by
    by_cases h : i = k
    ·simp [h]
    ·rw [decide_eq_false h]; exact beq_eq_false_iff_ne.2 (by omega)
   rw [e2]
   cases diag <;> cases decide (i = k) <;> rfl)
  (fun n a _ => by
   rw [CN]
   simp only [Bn]
   rw [AB (by omega)]) N 0 [] (zL _) (by omega) ⟨rfl, fun q hq => by omega⟩
 exact ⟨row, e, by omega, fun hd hlt => h2 i (by omega) hd rfl⟩
theorem Vy (N : Nat) (n m bad : Int) (diag : Bool) (hN : N ≤ 1000000) (h20 : 20 ≤ N) (hn : 0 ≤ n ∧ n ≤ 6) (hm : 0 ≤ m ∧ m ≤ 6) :
  ∃ l, EW N n m bad diag = some l ∧ (l.length : Int) = n ∧ (∀ row, row ∈ l → (row.length : Int) = m) ∧ (diag = true → n = m → Ks l = none) := by
 obtain ⟨M, rfl⟩ := zJ hn.1
 unfold EW
 obtain ⟨l, e, h1, h2⟩ := F3 (A := List (List Bool)) (CO N (M : Int) m bad diag (fun v => some v)) (fun a k => (a, k)) M some
  (fun k a => a.length = k ∧ ∀ q, q < k → (((a.getD q []).length : Nat) : Int) = m ∧ (diag = true → (q : Int) < m → (a.getD q []).getD q false = true))
  (fun n k a hk ha => by
   obtain ⟨row, e, h1, h2⟩ := WR (_R := Unit) N m bad diag k a (fun (v5 : List Bool) =>
    (Ej (a.length + (([v5] : List (List Bool))).length ≤ Dz)).bind fun _ =>
    CO N (M : Int) m bad diag (fun v => some v) n (a ++ (([v5] : List (List Bool))), (wI .i64 ((k : Int) + 1)))) hN h20 hm (by omega)
   refine ⟨a ++ [row], ?_, by simp [ha.1], PG (P := fun q y => ((y.length : Nat) : Int) = m ∧ (diag = true → (q : Int) < m → y.getD q false = true)) ha.1 ha.2 ⟨h1, h2⟩⟩
   rw [CO]
   simp only
   rw [AH (by omega), e, Aw (by rw [ha.1]; unfold Dz; simp; omega), AI (by omega)])
  (fun n a _ => by
   rw [CO]
   simp only
   rw [AB (by omega)]) N 0 [] (zL _) (by omega) ⟨rfl, fun q hq => by omega⟩
 have key : ∀ q row, l[q]? = some row → l.getD q [] = row := fun q row hq => by rw [lD, hq]; rfl
 refine ⟨l, e, by omega, fun row hr => ?_, fun hd hnm => ?_⟩
 ·obtain ⟨q, hq⟩ := zS.1 hr
  have := (h2 q (by have := (lI.1 hq).1; omega)).1
  rwa [key q row hq] at this
 ·unfold Ks
  refine Hd fun q row hq => ?_
  have hlt := (lI.1 hq).1
  have := (h2 q (by omega)).2 hd (by omega)
  rw [key q row hq] at this
  rw [zC, this]; rfl
structure ZL (p : Aa) : Prop where
 valid : B5 p = 0
 nv : p.fb.length ≤ 3
 nt : p.fc.length ≤ 4
 v3 : ∀ v, v ∈ p.fb → v ≤ 3
theorem V5 {p q : Aa} (h : p.fb = q.fb) (t : Am) : Ez p t = Ez q t := by
 unfold Ez; rw [h]
theorem d4 (N : Nat) (d : BL) (hN : N ≤ 1000000) (h20 : 20 ≤ N) (hw : Gm d) : ∃ p ok, Gn N d = some (p, ok) ∧ (ok = true → ZL p) := by
 obtain ⟨w1, w2, w3, w4, _⟩ := hw
 unfold Gn
 simp only [Bn]
 by_cases k1 : 3 < d.fb.length
 ·rw [AH (by omega)]; exact ⟨_, false, rfl, fun h => by cases h⟩
 by_cases k2 : 4 < d.fv.length
 ·rw [AB (by omega), decide_eq_true (by omega : (4 : Int) < (d.fv.length : Int))]; exact ⟨_, false, rfl, fun h => by cases h⟩
 rw [AB (by omega), decide_eq_false (by omega : ¬ (4 : Int) < (d.fv.length : Int)), Ao]
 obtain ⟨⟨vs, ns, ts⟩, e, h1, h2, h3, h4⟩ := F3 (A := List Int × List Int × List Int) (Dh N d fun v5 => BH N d v5 (fun v16 => some (Aa.mk v5.1 v5.2.1 v5.2.2 v16, true)) N ([], 0)) (fun a k => (a.1, a.2.1, a.2.2, k)) d.fb.length
  (fun v5 => BH N d v5 (fun v16 => some (Aa.mk v5.1 v5.2.1 v5.2.2 v16, true)) N ([], 0))
  (fun i a => a.1.length = i ∧ a.2.1.length = i ∧ a.2.2.length = i ∧ (∀ k, k < i → (1 ≤ a.1.getD k 0 ∧ a.1.getD k 0 ≤ 3) ∧ (0 ≤ a.2.1.getD k 0 ∧ a.2.1.getD k 0 < a.1.getD k 0) ∧ (0 ≤ a.2.2.getD k 0 ∧ a.2.2.getD k 0 < a.1.getD k 0)))
  (fun n i a hi ha => by
   obtain ⟨vs, ns, ts⟩ := a
   obtain ⟨h1, h2, h3, h4⟩ := ha
   simp only at h1 h2 h3 h4
   have hv := Vx w1 i
   have hb := Vx w2 i
   have hk := Vx w3 i
   have hm := Jj (n := 3) hv.1 (by omega)
   obtain ⟨v, hvd⟩ : ∃ v, v = 1 + zU (d.fb.getD i 0) 3 := ⟨_, rfl⟩
   have m1 := Jj (n := v) hb.1 (by omega)
   have m2 := Jj (n := v) hk.1 (by omega)
   refine ⟨(vs ++ [v], ns ++ [zU (d.fi.getD i 0) v], ts ++ [zU (d.fm.getD i 0) v]), ?_, by simp [h1], by simp [h2], by simp [h3], ?_⟩
   ·rw [Dh]
    simp only
    rw [AH (by omega), Dw (d := 0) hi, RL N w2, RL N w3]
    simp only [oS]
    rw [C3 (n := zU _ _) (by omega) (by omega), C3 (n := 1 + _) (by omega) (by omega), ← hvd, AI (by omega)]
    have l1 : ∀ y : Int, vs.length + ([y] : List Int).length ≤ Dz := by intro y; rw [h1]; unfold Dz; simp; omega
    have l2 : ∀ y : Int, ns.length + ([y] : List Int).length ≤ Dz := by intro y; rw [h2]; unfold Dz; simp; omega
    have l3 : ∀ y : Int, ts.length + ([y] : List Int).length ≤ Dz := by intro y; rw [h3]; unfold Dz; simp; omega
    simp only [Aw (l1 _), Aw (l2 _), Aw (l3 _), Aw (show v ≠ 0 by omega)]
   ·intro k hk
    simp only
    by_cases hki : k < i
    ·rw [KW (by omega), KW (by omega), KW (by omega)]; exact h4 k hki
    ·have : k = i := by omega
     subst this
     rw [KT h1.symm, KT h2.symm, KT h3.symm]
     omega)
  (fun n a _ => by
   rw [Dh]
   simp only
   rw [AB (by omega)]) N 0 ([], [], []) (zL _) (by omega) ⟨rfl, rfl, rfl, fun k hk => by omega⟩
 simp only at h1 h2 h3 h4
 have e' : Dh N d (fun v5 => BH N d v5 (fun v16 => some (Aa.mk v5.1 v5.2.1 v5.2.2 v16, true)) N ([], 0)) N ([], [], [], 0) = _ := e
 rw [e']
 have hvs : ∀ v, v ∈ vs → 1 ≤ v ∧ v ≤ 3 := by
  intro v hv
  obtain ⟨q, hq⟩ := zS.1 hv
  have := (h4 q (by have := (lI.1 hq).1; omega)).1
  rwa [lD, hq] at this
 have fin : ∀ Pj : List Am, Pj.length ≤ 4 → (∀ t, t ∈ Pj → Ez ⟨vs, ns, ts, []⟩ t = 0) → ZL ⟨vs, ns, ts, Pj⟩ := by
  intro Pj ht h
  have hp : Bl ⟨vs, ns, ts, Pj⟩ := ⟨show vs.length ≤ 6 by omega, show Pj.length ≤ 12 by omega, show ns.length = vs.length by omega, show ts.length = vs.length by omega, fun v hv => by have := hvs v hv; omega, fun t ht => by rw [← h t ht]; exact V5 rfl t⟩
  exact ⟨SI hp fun i hi => by have := h4 i (by have : i < vs.length := hi; omega); simp only; omega, show vs.length ≤ 3 by omega, ht, fun v hv => (hvs v hv).2⟩
 by_cases k3 : vs.length = 0
 ·refine ⟨_, true, ?_, fun _ => fin [] (by simp) (fun t ht => by cases ht)⟩
  obtain ⟨M, rfl⟩ : ∃ M, N = M + 1 := ⟨N - 1, by omega⟩
  rw [BH]
  simp only [Bn]
  rw [k3]
  by_cases k4 : (0 : Int) < (d.fv.length : Int)
  ·rw [AH k4]; rfl
  ·rw [AB k4]; rfl
 obtain ⟨Pj, e2, g1, g2⟩ := F3 (A := List Am) (BH N d (vs, ns, ts) (fun v16 => some (Aa.mk vs ns ts v16, true))) (fun a k => (a, k)) d.fv.length (fun v16 => some (Aa.mk vs ns ts v16, true))
  (fun i a => a.length = i ∧ ∀ t, t ∈ a → Ez ⟨vs, ns, ts, []⟩ t = 0)
  (fun n i a hi ha => by
   have hx : d.fv[i]? = some d.fv[i] := by simp [hi]
   generalize d.fv[i] = l at hx
   obtain ⟨u1, u2, u3, _, u5, u6, _⟩ := w4 l (lM hx)
   have u1 := KC u1
   have u2 := KC u2
   have u3 := KC u3
   have mk := Jj (n := 4) u1.1 (by omega)
   have hL : (0 : Int) < (vs.length : Int) := by omega
   have mf := Jj (n := (vs.length : Int)) u2.1 hL
   have mt := Jj (n := (vs.length : Int)) u3.1 hL
   rw [BH]
   simp only [Bn]
   rw [AH (by omega), decide_eq_true hL, AU, AX, hx]
   simp only [oS]
   rw [Aw (by omega), Aw (by omega), C3 (n := l.fg) (by omega) (by omega), C3 (n := l.fj) (by omega) (by omega), C3 (n := zU l.ff 4) (by omega) (by omega), C3 (n := 1 + _) (by omega) (by omega), AI (by omega)]
   simp only [OR, oS]
   rw [EQ (d := 0) mf.1 mf.2, EQ (d := 0) mt.1 mt.2]
   simp only [oS]
   have hA : ∀ q : Int, 0 ≤ q → q < (vs.length : Int) → 1 ≤ vs.getD q.toNat 0 ∧ vs.getD q.toNat 0 ≤ 3 := fun q h0 h1 => (h4 q.toNat (by omega)).1
   have hf := hA _ mf.1 mf.2
   have ht := hA _ mt.1 mt.2
   obtain ⟨A, eA, a1, a2, _⟩ := Vy N (vs.getD (zU l.fg (vs.length : Int)).toNat 0) (vs.getD (zU l.fj (vs.length : Int)).toNat 0) l.fw false hN h20 (by omega) (by omega)
   obtain ⟨B, eB, b1, b2, b3⟩ := Vy N (vs.getD (zU l.fg (vs.length : Int)).toNat 0) (vs.getD (zU l.fg (vs.length : Int)).toNat 0) l.fy true hN h20 (by omega) (by omega)
   rw [eA, eB]
   simp only [oS]
   have l1 : ∀ y : Am, a.length + ([y] : List Am).length ≤ Dz := by intro y; rw [ha.1]; unfold Dz; simp; omega
   simp only [Aw (l1 _)]
   obtain ⟨kd, hkd⟩ : ∃ kd, kd = 1 + zU l.ff 4 := ⟨_, rfl⟩
   rw [← hkd]
   have fin2 : ∀ (aw : Bool) (re : List (List Bool)), (aw = true → (kd == 3 || kd == 4) = false) → ((kd = 4 → re = B) ∧ (kd ≠ 4 → re = [])) →
     Ez ⟨vs, ns, ts, []⟩ (Am.mk kd (zU l.fg (vs.length : Int)) (zU l.fj (vs.length : Int)) aw A re) = 0 := by
    intro aw re haw hre
    refine aF ⟨show 1 ≤ kd ∧ kd ≤ 4 by omega, haw, mf, mt, a1, a2, fun h => by rw [hre.1 h]; exact b1, fun row hr => ?_, fun h => by rw [hre.1 h]; exact b3 rfl rfl, fun h => hre.2 h⟩
    by_cases h4 : kd = 4
    ·simp only at hr; rw [hre.1 h4] at hr; exact b2 row hr
    ·simp only at hr; rw [hre.2 h4] at hr; cases hr
   have app : ∀ t, Ez ⟨vs, ns, ts, []⟩ t = 0 → (a ++ [t]).length = i + 1 ∧ ∀ t', t' ∈ a ++ [t] → Ez ⟨vs, ns, ts, []⟩ t' = 0 := by
    intro t ht
    refine ⟨by simp [ha.1], fun t' ht' => ?_⟩
    rcases yB.1 ht' with h | h
    ·exact ha.2 t' h
    ·rw [yQ.1 h]; exact ht
   by_cases h4 : kd = 4
   ·have e4 : (kd == 4) = true := beq_iff_eq.2 h4
    have hre : (kd = 4 → B = B) ∧ (kd ≠ 4 → B = []) := ⟨fun _ => rfl, fun h => (h h4).elim⟩
    rw [e4]
    simp only [AU, zA0, zY]
    cases l.fr
    ·exact ⟨_, rfl, app _ (fin2 false B (fun h => by cases h) hre)⟩
    ·exact ⟨_, rfl, app _ (fin2 false B (fun h => by cases h) hre)⟩
   ·have e4 : (kd == 4) = false := beq_eq_false_iff_ne.2 h4
    have hre : (kd = 4 → ([] : List (List Bool)) = B) ∧ (kd ≠ 4 → ([] : List (List Bool)) = []) := ⟨fun h => (h4 h).elim, fun _ => rfl⟩
    rw [e4]
    simp only [Ao, Bool.or_false]
    cases l.fr
    ·exact ⟨_, rfl, app _ (fin2 false [] (fun h => by cases h) hre)⟩
    ·cases e3 : kd == 3
     ·exact ⟨_, rfl, app _ (fin2 true [] (fun _ => by rw [e3, e4]; rfl) hre)⟩
     ·exact ⟨_, rfl, app _ (fin2 false [] (fun h => by cases h) hre)⟩)
  (fun n a _ => by
   rw [BH]
   simp only [Bn]
   rw [AB (by omega), Ao]) N 0 [] (zL _) (by omega) ⟨rfl, fun t ht => by cases ht⟩
 exact ⟨_, true, e2, fun _ => fin Pj (by omega) g2⟩
def Kl : List Int → Nat → Nat
 | [], _ => 0
 | _, 0 => 0
 | n :: ns, q + 1 => (if 0 ≤ n then 1 else 0) + Kl ns q
theorem KK (l : List Int) : Kl l 0 = 0 := by cases l <;> rfl
theorem I7 : ∀ (l : List Int) (q : Nat), q < l.length → Kl l (q + 1) = Kl l q + if 0 ≤ l.getD q 0 then 1 else 0
 | [], q, h => by simp at h
 | n :: ns, 0, _ => by simp [Kl, KK]
 | n :: ns, q + 1, h => by
  rw [Kl, I7 ns q (by simpa using h), Kl, uX, xH]
theorem QA (l : List Int) {a b : Nat} (h : a ≤ b) (hb : b ≤ l.length) : Kl l a ≤ Kl l b := by
 induction b with
 | zero => rw [Nat.le_zero.1 h]; exact zK _
 | succ b ih =>
  by_cases h1 : a = b + 1
  ·rw [h1]; exact zK _
  ·have := ih (by omega) (by omega)
   rw [I7 l b (by omega)]; omega
theorem Mz (l : List Int) : ∀ q, q ≤ l.length → Kl l q ≤ q
 | 0, _ => by rw [KK]; exact zK _
 | q + 1, h => by
  have := Mz l q (by omega)
  rw [I7 l q h]
  split <;> omega
def OQ (l : List Int) (k q : Nat) : Int := if 0 ≤ l.getD q 0 ∧ k.testBit (Kl l q) = true then -1 else l.getD q 0
def X7 (l : List Int) (k : Nat) : List Int := (zN l.length).map (OQ l k)
def aS (m : Ad) (k : Nat) : Ad := ⟨m.fd, X7 m.fa k, m.fe⟩
def Hx (m : Ad) : List Ad := (zN (2 ^ Kl m.fa m.fa.length)).map (aS m)
theorem NV (l : List Int) (k : Nat) : (X7 l k).length = l.length := by simp [X7]
theorem SG (l : List Int) (k q : Nat) (h : q < l.length) : (X7 l k).getD q 0 = OQ l k q := by
 unfold X7; rw [lD, zF, List.getElem?_range h]; rfl
theorem GE {l1 l2 : List Int} (h1 : l1.length = l2.length) (h : ∀ q, q < l1.length → l1.getD q 0 = l2.getD q 0) : l1 = l2 := by
 apply List.ext_getElem h1
 intro q h2 h3
 have := h q h2
 rw [lD, lD, yI h2, yI h3] at this
 exact this
theorem VB : ∀ (k : Fin 64) (b : Fin 7), AM .i64 (AW .i64 (k.val : Int) (b.val : Int)) 1 = (if k.val.testBit b.val then 1 else 0) ∧ zU (AW .i64 (k.val : Int) (b.val : Int)) 2 = (if k.val.testBit b.val then 1 else 0) := by decide +kernel
theorem Yf : ∀ n : Fin 7, CX .i64 1 (n.val : Int) = ((2 ^ n.val : Nat) : Int) := by decide +kernel
structure QQ (m x : Ad) : Prop where
 base : x.fd = m.fd
 held : x.fe = m.fe
 len : x.fa.length = m.fa.length
 next : ∀ q, q < m.fa.length → x.fa.getD q 0 = m.fa.getD q 0 ∨ (0 ≤ m.fa.getD q 0 ∧ x.fa.getD q 0 = -1)
theorem QQ.refl (m : Ad) : QQ m m := ⟨rfl, rfl, rfl, fun _ _ => .inl rfl⟩
theorem QQ.trans {a b c : Ad} (h1 : QQ a b) (h2 : QQ b c) : QQ a c :=
 ⟨h2.base.trans h1.base, h2.held.trans h1.held, h2.len.trans h1.len, fun q hq => by
  have e1 := h1.next q hq
  have e2 := h2.next q (by rw [h1.len]; exact hq)
  omega⟩
theorem Xe (m : Ad) (k : Nat) : QQ m (aS m k) :=
 ⟨rfl, rfl, NV _ _, fun q hq => by
  show (X7 m.fa k).getD q 0 = _ ∨ _ ∧ (X7 m.fa k).getD q 0 = _
  rw [SG _ _ _ hq]; unfold OQ
  split
  ·rename_i h; exact .inr ⟨h.1, rfl⟩
  ·exact .inl rfl⟩
theorem Vm : ∀ (l x : List Int), x.length = l.length → (∀ q, q < l.length → x.getD q 0 = l.getD q 0 ∨ (0 ≤ l.getD q 0 ∧ x.getD q 0 = -1)) → ∃ k, k < 2 ^ Kl l l.length ∧ ∀ q, q < l.length → x.getD q 0 = OQ l k q
 | [], x, h, _ => ⟨0, by simp [Kl], fun q hq => by simp at hq⟩
 | n :: ns, [], h, _ => by simp at h
 | n :: ns, y :: ys, h, hq => by
  obtain ⟨k, hk, hk2⟩ := Vm ns ys (by simpa using h) (fun q hq' => by have := hq (q + 1) (by simpa using hq'); simpa using this)
  have h0 := hq 0 (by simp)
  simp only [vN] at h0
  by_cases hn : 0 ≤ n
  ·refine ⟨2 * k + if y = n then 0 else 1, ?_, ?_⟩
   ·rw [yC, Kl, if_pos hn, Nat.pow_add]
    split <;> omega
   ·intro q hq'
    cases q with
    | zero =>
     simp only [vN, OQ, KK]
     by_cases hy : y = n
     ·simp [hy]
     ·rw [if_neg hy, if_pos ⟨hn, by simp⟩]; omega
    | succ q =>
     have := hk2 q (by simpa using hq')
     simp only [uX, OQ, Kl, if_pos hn] at this ⊢
     rw [this, vO 1, Nat.testBit_succ]
     have : (2 * k + if y = n then 0 else 1) / 2 = k := by split <;> omega
     rw [this]
  ·refine ⟨k, ?_, ?_⟩
   ·rw [yC, Kl, if_neg hn, zC]; exact hk
   ·intro q hq'
    cases q with
    | zero =>
     simp only [vN, OQ, KK]
     rw [if_neg (fun h => hn h.1)]
     omega
    | succ q =>
     have := hk2 q (by simpa using hq')
     simp only [uX, OQ, Kl, if_neg hn, zC] at this ⊢
     exact this
theorem PE {m x : Ad} : x ∈ Hx m ↔ QQ m x := by
 unfold Hx
 rw [zW]
 constructor
 ·rintro ⟨k, _, rfl⟩; exact Xe m k
 ·intro h
  obtain ⟨k, hk, hq⟩ := Vm m.fa x.fa h.len h.next
  refine ⟨k, yY.2 hk, ?_⟩
  have : X7 m.fa k = x.fa := GE (by rw [NV, h.len]) fun q hq' => by
   rw [NV] at hq'
   rw [SG _ _ _ hq', hq q hq']
  unfold aS
  rw [this, ← h.base, ← h.held]
theorem ae {m x : Ad} (h : QQ m x) {s : Nat} (hs : s < m.fa.length) {v : Nat} (hv : J8 x s v = true) : J8 m s v = true := by
 unfold J8 at hv ⊢
 rw [h.base] at hv
 have := h.next s hs
 simp only [xJ, decide_eq_true_eq] at hv ⊢
 omega
theorem ZE {p : Aa} {m x : Ad} (hp : Bl p) (hm : B6 p m) (h : QQ m x) : B6 p x := by
 refine ⟨⟨by rw [h.base]; exact hm.base, by rw [h.len]; exact hm.next, by rw [h.held]; exact hm.held, fun i hi => by rw [h.base]; exact hm.b0 i hi, fun i hi => ?_, fun i hi => ?_⟩, fun i hi => by rw [h.held]; exact hm.range i hi, fun i t ht hs v hv => ?_, fun i t ht hs v hv => ?_, fun i t ht hs => by rw [h.held]; exact hm.none i t ht hs⟩
 ·have h1 := hm.n0 i hi
  have h2 := h.next i (by rw [hm.next]; exact hi)
  have h3 := JQ hp hi
  omega
 ·have h1 := hm.ne i hi
  have h2 := h.next i (by rw [hm.next]; exact hi)
  have h3 := hm.b0 i hi
  rw [h.base]
  omega
 ·have hin := (MC (hp.tab t (lM ht))).from0
  rw [h.held]
  exact hm.low i t ht hs v (ae h (by rw [hm.next]; omega) hv)
 ·rw [h.held] at hv
  exact hm.high i t ht hs v hv
theorem Lu (N : Nat) (l : List Int) (h : l.length ≤ Dz) : Bh N l = some l := by
 unfold Bh
 rw [Aw (by simpa using h)]; rfl
theorem RH (N : Nat) (l : List Int) (h : l.length ≤ Dz) : Cb N l = some l := by
 unfold Cb
 rw [Aw (by simpa using h)]; rfl
theorem Ku {l : List Int} {i q : Nat} {y : Int} (hi : i < l.length) : (l.set i y).getD q 0 = if q = i then y else l.getD q 0 := by
 rw [lD, lD, xA]
 by_cases h : i = q
 ·subst h; simp [hi]
 ·rw [if_neg h, if_neg (fun e => h e.symm)]
theorem YT {l : List Int} {a b : Nat} (ha : a < l.length) (hb : b < l.length) (h1 : 0 ≤ l.getD a 0) (h2 : 0 ≤ l.getD b 0) (h : Kl l a = Kl l b) : a = b := by
 rcases Nat.lt_trichotomy a b with h3 | h3 | h3
 ·have := QA l (a := a + 1) (b := b) h3 (by omega)
  rw [I7 l a ha, if_pos h1] at this; omega
 ·exact h3
 ·have := QA l (a := b + 1) (b := a) h3 (by omega)
  rw [I7 l b hb, if_pos h2] at this; omega
structure Xa (l : List Int) (o : List Int) : Prop where
 len : o.length = Kl l l.length
 at_ : ∀ b, b < o.length → ∃ i : Nat, o.getD b 0 = (i : Int) ∧ i < l.length ∧ 0 ≤ l.getD i 0 ∧ Kl l i = b
theorem Tm (N : Nat) (l o : List Int) (k : Nat) (acc : List Ad) (hN : N ≤ 1000000) (h20 : 20 ≤ N) (hl : l.length ≤ 6) (ho : Xa l o) (hk : k < 64) (j : List Int → Option (List Ad × Int)) :
  DI N o (acc, (k : Int)) j N (l, 0) = j (X7 l k) := by
 have hol := Mz l l.length (zK _)
 have hoL := ho.len
 obtain ⟨x, e, h1, h2⟩ := F3 (A := List Int) (DI N o (acc, (k : Int)) j) (fun a k => (a, k)) o.length j
  (fun b a => a.length = l.length ∧ ∀ q, q < l.length → a.getD q 0 = if 0 ≤ l.getD q 0 ∧ Kl l q < b ∧ k.testBit (Kl l q) = true then -1 else l.getD q 0)
  (fun n b a hb ha => by
   obtain ⟨i, hi1, hi2, hi3, hi4⟩ := ho.at_ b hb
   have hbit := VB ⟨k, hk⟩ ⟨b, by omega⟩
   rw [DI]
   simp only [Bn]
   rw [AH (by omega), Dw (d := 0) hb]
   simp only [oS]
   rw [Aw (by omega), hi1, hbit.1, Dw (d := 0) (show i < a.length by rw [ha.1]; exact hi2), AI (by omega)]
   simp only [oS, zQ]
   cases hkb : k.testBit b
   ·refine ⟨a, rfl, ha.1, fun q hq => ?_⟩
    rw [ha.2 q hq]
    by_cases hqb : Kl l q = b
    ·rw [hqb, hkb]; simp
    ·by_cases h3 : Kl l q < b
     ·have : Kl l q < b + 1 := by omega
      simp [h3, this]
     ·have : ¬ Kl l q < b + 1 := by omega
      simp [h3, this]
   ·refine ⟨a.set i (-1), rfl, by simp [ha.1], fun q hq => ?_⟩
    rw [Ku (by rw [ha.1]; exact hi2), ha.2 q hq]
    by_cases hqi : q = i
    ·subst hqi
     rw [if_pos rfl, if_pos ⟨hi3, by omega, by rw [hi4]; exact hkb⟩]
    ·rw [if_neg hqi]
     by_cases h0 : 0 ≤ l.getD q 0
     ·have hne : Kl l q ≠ b := fun h => hqi (YT hq hi2 h0 hi3 (by omega))
      by_cases h3 : Kl l q < b
      ·have : Kl l q < b + 1 := by omega
       simp [h3, this]
      ·have : ¬ Kl l q < b + 1 := by omega
       simp [h3, this]
     ·rw [if_neg (fun h => h0 h.1), if_neg (fun h => h0 h.1)])
  (fun n a _ => by
   rw [DI]
   simp only [Bn]
   rw [AB (by omega)]) N 0 l (zL _) (by omega) ⟨rfl, fun q hq => by simp⟩
 have e' : DI N o (acc, (k : Int)) j N (l, 0) = j x := e
 rw [e']
 congr 1
 refine GE (by rw [NV, h1]) fun q hq => ?_
 rw [h1] at hq
 rw [h2 q hq, SG _ _ _ hq, OQ]
 by_cases h0 : 0 ≤ l.getD q 0
 ·have h3 := QA l (a := q + 1) (b := l.length) hq (zK _)
  rw [I7 l q hq, if_pos h0] at h3
  have : Kl l q < o.length := by omega
  simp [this]
 ·rw [if_neg (fun h => h0 h.1), if_neg (fun h => h0 h.1)]
theorem TE (N : Nat) (m : Ad) (k : Nat) (acc : List Ad) (hN : N ≤ 1000000) (h20 : 20 ≤ N) (hl : m.fa.length ≤ 6) (hk : k < 64) (j : List Int → Option (List Ad)) :
  Cf N m (acc, (k : Int)) j N (m.fa, 0, 0) = j (X7 m.fa k) := by
 obtain ⟨⟨x, pl⟩, e, h1, h2, h3⟩ := F3 (A := List Int × Nat) (Cf N m (acc, (k : Int)) j) (fun a k => (a.1, (a.2 : Int), k)) m.fa.length (fun a => j a.1)
  (fun i a => a.2 = Kl m.fa i ∧ a.1.length = m.fa.length ∧ ∀ q, q < m.fa.length → a.1.getD q 0 = if q < i then OQ m.fa k q else m.fa.getD q 0)
  (fun n i a hi ha => by
   obtain ⟨a, pl⟩ := a
   obtain ⟨a1, a2, a3⟩ := ha
   simp only at a1 a2 a3
   have hple := Mz m.fa i (by omega)
   have hbit := VB ⟨k, hk⟩ ⟨pl, by omega⟩
   have hs := I7 m.fa i hi
   rw [Cf]
   simp only [Bn]
   rw [AH (by omega), Dw (d := 0) hi]
   simp only [oS]
   rw [AI (by omega)]
   by_cases h0 : m.fa.getD i 0 < 0
   ·rw [AH h0]
    refine ⟨(a, pl), rfl, by simp only; rw [hs, if_neg (by omega), a1]; rfl, a2, fun q hq => ?_⟩
    simp only
    rw [a3 q hq]
    by_cases hqi : q = i
    ·subst hqi
     rw [if_neg (by omega), if_pos (by omega), OQ, if_neg (by omega)]
    ·by_cases h4 : q < i
     ·rw [if_pos h4, if_pos (by omega)]
     ·rw [if_neg h4, if_neg (by omega)]
   ·rw [AB h0, Aw (by omega), Dw (d := 0) (show i < a.length by omega), hbit.2, AI (by omega)]
    simp only [oS, zQ]
    cases hkb : k.testBit pl
    ·refine ⟨(a, pl + 1), rfl, by simp only; rw [hs, if_pos (by omega), a1], a2, fun q hq => ?_⟩
     simp only
     rw [a3 q hq]
     by_cases hqi : q = i
     ·subst hqi
      rw [if_neg (by omega), if_pos (by omega), OQ, ← a1, hkb]; simp
     ·by_cases h4 : q < i
      ·rw [if_pos h4, if_pos (by omega)]
      ·rw [if_neg h4, if_neg (by omega)]
    ·refine ⟨(a.set i (-1), pl + 1), rfl, by simp only; rw [hs, if_pos (by omega), a1], by simp [a2], fun q hq => ?_⟩
     simp only
     rw [Ku (by omega), a3 q hq]
     by_cases hqi : q = i
     ·subst hqi
      rw [if_pos rfl, if_pos (by omega), OQ, ← a1, if_pos ⟨by omega, hkb⟩]
     ·rw [if_neg hqi]
      by_cases h4 : q < i
      ·rw [if_pos h4, if_pos (by omega)]
      ·rw [if_neg h4, if_neg (by omega)])
  (fun n a _ => by
   rw [Cf]
   simp only [Bn]
   rw [AB (by omega)]) N 0 (m.fa, 0) (zL _) (by omega) ⟨(KK _).symm, rfl, fun q hq => by simp⟩
 have e' : Cf N m (acc, (k : Int)) j N (m.fa, 0, 0) = j x := e
 rw [e']
 congr 1
 simp only at h2 h3
 refine GE (by rw [NV, h2]) fun q hq => ?_
 rw [h2] at hq
 rw [h3 q hq, if_pos hq, SG _ _ _ hq]
theorem Ws (N : Nat) (m : Ad) (hN : N ≤ 1000000) (h20 : 20 ≤ N) (hl : m.fa.length ≤ 6) (j : List Int → Option (List Ad × Int)) :
  ∃ o, EI N m j N ([], 0) = j o ∧ Xa m.fa o := by
 obtain ⟨o, e, h1, h2⟩ := F3 (A := List Int) (EI N m j) (fun a k => (a, k)) m.fa.length j
  (fun i o => o.length = Kl m.fa i ∧ ∀ b, b < o.length → ∃ q : Nat, o.getD b 0 = (q : Int) ∧ q < m.fa.length ∧ 0 ≤ m.fa.getD q 0 ∧ Kl m.fa q = b)
  (fun n i o hi ho => by
   have hple := Mz m.fa i (by omega)
   have hs := I7 m.fa i hi
   rw [EI]
   simp only [Bn]
   rw [AH (by omega), Dw (d := 0) hi]
   simp only [oS]
   rw [AI (by omega)]
   by_cases h0 : 0 ≤ m.fa.getD i 0
   ·rw [AH h0, Aw (by rw [ho.1]; unfold Dz; simp; omega)]
    refine ⟨o ++ [(i : Int)], rfl, by rw [hs, if_pos h0, ← ho.1]; simp, ?_⟩
    rw [zT]
    exact PG (P := fun b y => ∃ q : Nat, y = (q : Int) ∧ q < m.fa.length ∧ 0 ≤ m.fa.getD q 0 ∧ Kl m.fa q = b) rfl ho.2 ⟨i, rfl, hi, h0, ho.1.symm⟩
   ·rw [AB h0]
    exact ⟨o, rfl, by rw [hs, if_neg h0, ho.1]; rfl, ho.2⟩)
  (fun n a _ => by
   rw [EI]
   simp only [Bn]
   rw [AB (by omega)]) N 0 [] (zL _) (by omega) ⟨(KK _).symm, fun b hb => by simp at hb⟩
 exact ⟨o, e, h1, h2⟩
theorem Ny {n : Nat} (h : n ≤ 6) : 2 ^ n ≤ 64 := Nat.pow_le_pow_right (n := 2) (by omega) h
theorem Pq {n : Nat} (h : n ≤ 6) : CX .i64 1 (n : Int) = ((2 ^ n : Nat) : Int) := Yf ⟨n, by omega⟩
theorem Mo {β : Type} (f : Nat → β) (n : Nat) : (zN (n + 1)).map f = (zN n).map f ++ [f n] := by
 rw [xX, xC]; rfl
theorem QW (N : Nat) (p : Aa) (m : Ad) (hN : N ≤ 1000000) (h20 : 100 ≤ N) (hw : OH M1 m.fe) (hv : GU p m = 0) : Ig N p m = some (Hx m, 0) := by
 obtain ⟨hp, hm⟩ := Lf hw hv
 have hnv := hp.nv
 have hnt := hp.nt
 have hl : m.fa.length ≤ 6 := by rw [hm.next]; omega
 unfold Ig
 rw [Ka N p m hN (by omega) hw, hv]
 simp only [oS, bne_self_eq_false, Ao]
 obtain ⟨o, e, ho⟩ := Ws N m hN (by omega) hl (fun (v4 : (List Int)) =>
   (Ej (0 ≤ (v4.length : Int))).bind fun _ =>
   DH N m v4 (fun (v12 : (List Ad)) =>
    some (v12, 0)) N (([] : List Ad), 0))
 rw [e, Aw (by omega)]
 have hoL := ho.len
 have hol := Mz m.fa m.fa.length (zK _)
 have hpow := Ny (show Kl m.fa m.fa.length ≤ 6 by omega)
 obtain ⟨a, e2, h1⟩ := F3 (A := List Ad) (DH N m o fun v12 => some (v12, 0)) (fun a k => (a, k)) (2 ^ Kl m.fa m.fa.length) (fun v12 => some (v12, 0))
  (fun i a => a = (zN i).map (aS m))
  (fun n i a hi ha => by
   refine ⟨a ++ [aS m i], ?_, by rw [Mo, ha]⟩
   have hal : a.length = i := by rw [ha]; simp
   rw [DH]
   rw [hoL, Pq (n := Kl m.fa m.fa.length) (by omega), AH (by omega), Lu N m.fd (by have := hm.base; unfold Dz; omega), Lu N m.fa (by unfold Dz; omega), RH N m.fe (by have := hm.held; unfold Dz; omega)]
   simp only [oS]
   rw [Tm N m.fa o i a hN (by omega) hl ho (by omega), Aw (by rw [hal]; unfold Dz; simp; omega), AI (by omega)]
   rfl)
  (fun n a _ => by
   rw [DH]
   rw [hoL, Pq (n := Kl m.fa m.fa.length) (by omega), AB (by simp)]) N 0 [] (zL _) (by omega) rfl
 have e2' : DH N m o (fun v12 => some (v12, 0)) N ([], 0) = some (a, 0) := e2
 rw [e2', h1]; rfl
theorem UU (N : Nat) (m : Ad) (h1 : m.fd.length ≤ Dz) (h2 : m.fa.length ≤ Dz) (h3 : m.fe.length ≤ Dz) : E9 N m = some m := by
 unfold E9
 rw [Aw (by simpa using h1), Aw (by simpa using h2), Aw (by simpa using h3)]; rfl
theorem UL (N : Nat) (m : Ad) (hN : N ≤ 1000000) (h20 : 100 ≤ N) (h1 : m.fd.length ≤ 100) (hl : m.fa.length ≤ 6) (h3 : m.fe.length ≤ 100) : Fe N m = some (Hx m) := by
 unfold Fe
 obtain ⟨c, e, hc⟩ := F3 (A := Nat) (C0 N m (fun (v2 : Int) =>
  BI N m v2 (fun (v8 : (List Ad)) => some v8) N (([] : List Ad), 0))) (fun a k => ((a : Int), k)) m.fa.length (fun a => BI N m (a : Int) (fun (v8 : (List Ad)) => some v8) N (([] : List Ad), 0))
  (fun i a => a = Kl m.fa i)
  (fun n i a hi ha => by
   have hple := Mz m.fa i (by omega)
   have hs := I7 m.fa i hi
   rw [C0]
   simp only [Bn]
   rw [AH (by omega), Dw (d := 0) hi]
   simp only [oS]
   rw [AI (by omega), AI (by omega)]
   by_cases h0 : 0 ≤ m.fa.getD i 0
   ·rw [AH h0]
    exact ⟨a + 1, rfl, by rw [hs, if_pos h0, ha]⟩
   ·rw [AB h0]
    exact ⟨a, rfl, by rw [hs, if_neg h0, ha]; rfl⟩)
  (fun n a _ => by
   rw [C0]
   simp only [Bn]
   rw [AB (by omega)]) N 0 0 (zL _) (by omega) (KK _).symm
 have e' : C0 N m (fun (v2 : Int) => BI N m v2 (fun (v8 : (List Ad)) => some v8) N (([] : List Ad), 0)) N (0, 0) = _ := e
 rw [e', hc]
 have hol := Mz m.fa m.fa.length (zK _)
 have hpow := Ny (show Kl m.fa m.fa.length ≤ 6 by omega)
 obtain ⟨a, e2, h1⟩ := F3 (A := List Ad) (BI N m (Kl m.fa m.fa.length : Int) fun v8 => some v8) (fun a k => (a, k)) (2 ^ Kl m.fa m.fa.length) some
  (fun i a => a = (zN i).map (aS m))
  (fun n i a hi ha => by
   refine ⟨a ++ [aS m i], ?_, by rw [Mo, ha]⟩
   have hal : a.length = i := by rw [ha]; simp
   rw [BI]
   rw [Aw (by omega), Pq (n := Kl m.fa m.fa.length) (by omega), AH (by omega), UU N m (by unfold Dz; omega) (by unfold Dz; omega) (by unfold Dz; omega)]
   simp only [oS]
   rw [TE N m i a hN (by omega) hl (by omega), Aw (by rw [hal]; unfold Dz; simp; omega), AI (by omega)]
   rfl)
  (fun n a _ => by
   rw [BI]
   rw [Aw (by omega), Pq (n := Kl m.fa m.fa.length) (by omega), AB (by simp)]) N 0 [] (zL _) (by omega) rfl
 have e2' : BI N m (Kl m.fa m.fa.length : Int) (fun v8 => some v8) N ([], 0) = some a := e2
 rw [e2', h1]; rfl
theorem Ul (N : Nat) (p : Aa) (m : Ad) (hN : N ≤ 1000000) (h20 : 100 ≤ N) (hp : Bl p) (hm : B6 p m) : Fe N m = some (Hx m) := by
 have := hp.nv
 have := hp.nt
 exact UL N m hN h20 (by rw [hm.base]; omega) (by rw [hm.next]; omega) (by rw [hm.held]; omega)
theorem Nc {p : Aa} {m : Ad} (hm : B6 p m) : OH M1 m.fe := by
 intro x hx
 obtain ⟨q, hq⟩ := zS.1 hx
 have h1 := (lI.1 hq).1
 have := hm.range q (by rw [← hm.held]; exact h1)
 rw [lD, hq] at this
 unfold M1
 simp only [yF] at this
 simp [Lit.wf, IntKind.min, IntKind.max, IntKind.signed, IntKind.bits]
 omega
def NC (p : Aa) (x : Ad) : Option (Ad × Ap) := match Iy p x with
 | [] => none
 | c :: _ => some (x, c)
def P1 (p : Aa) (m : Ad) : Option (Ad × Ap) := CY (fun _ x => NC p x) 0 (Hx m)
def IP : Ad := ⟨[], [], []⟩
def WM : Ap := ⟨0, 0, 0⟩
def Us (p : Aa) (m : Ad) : Ad × Ap × Int := match P1 p m with
 | some (x, c) => (x, c, 0)
 | none => (IP, WM, 15)
def BG (p : Aa) (m : Ad) : Bool := (P1 p m).isNone
theorem PI {m : Ad} (hl : m.fa.length ≤ 6) : (Hx m).length ≤ 64 := by
 unfold Hx
 have hol := Mz m.fa m.fa.length (zK _)
 have hpow := Ny (show Kl m.fa m.fa.length ≤ 6 by omega)
 simpa using hpow
theorem L9 {α R R' : Type} (f : Nat → α → Option R) (g : R → R') : ∀ (i : Nat) (xs : List α), CY (fun i x => (f i x).map g) i xs = (CY f i xs).map g
 | _, [] => rfl
 | i, x :: xs => by
  rw [Gi, Gi]
  cases f i x
  ·exact L9 f g (i + 1) xs
  ·rfl
theorem SM (N : Nat) (p : Aa) (m : Ad) (hN : N ≤ 1000000) (h20 : 100 ≤ N) (hw : OH M1 m.fe) (hv : GU p m = 0) : I2 N p m = some (Us p m) := by
 obtain ⟨hp, hm⟩ := Lf hw hv
 have hnv := hp.nv
 unfold I2
 rw [QW N p m hN h20 hw hv]
 simp only [oS, bne_self_eq_false, Ao]
 have hal := PI (m := m) (by rw [hm.next]; omega)
 have := Cn (FJ N p (Hx m, 0) fun _ => some (IP, WM, 15)) (Hx m) (some (IP, WM, 15)) (fun _ x => (NC p x).map fun y => (y.1, y.2, 0))
  (fun n i x hx => by
   have hi := (lI.1 hx).1
   have hx2 := ZE hp hm (PE.1 (lM hx))
   rw [FJ, AH (by simp only; omega)]
   simp only [AX, hx, oS]
   rw [OB N p x hN (by omega) hp hx2, AI (by omega)]
   simp only [oS, NC]
   cases Iy p x with
   | nil => rfl
   | cons c cs => rw [AH (by simp only [yC]; omega)]; rfl)
  (fun n => by rw [FJ, AB (by simp)]) N 0 (zL _) (by omega)
 rw [zZ, L9] at this
 exact this.trans (by
  unfold Us P1
  cases CY (fun _ x => NC p x) 0 (Hx m) <;> rfl)
theorem Ld (N : Nat) (p : Aa) (m : Ad) (hN : N ≤ 1000000) (h20 : 100 ≤ N) (hw : OH M1 m.fe) (hv : GU p m = 0) : Hp N p m = some (BG p m, 0) := by
 unfold Hp
 rw [SM N p m hN h20 hw hv]
 unfold BG Us
 cases P1 p m <;> rfl
theorem T9 (N : Nat) (p : Aa) (m : Ad) (hN : N ≤ 1000000) (h20 : 100 ≤ N) (hp : Bl p) (hm : B6 p m) : E4 N p m = some (Iy p m).isEmpty := by
 unfold E4
 rw [OY N p m hN (by omega) hp hm]
 simp only [oS]
 cases Iy p m with
 | nil => rfl
 | cons c cs =>
  rw [beq_eq_false_iff_ne.2 (by simp only [yC]; omega)]; rfl
theorem Jt (N : Nat) (p : Aa) (m : Ad) (hN : N ≤ 1000000) (h20 : 100 ≤ N) (hp : Bl p) (hm : B6 p m) : C9 N p m = some (BG p m) := by
 have hnv := hp.nv
 unfold C9
 rw [Ul N p m hN h20 hp hm]
 simp only [oS]
 have hal := PI (m := m) (by rw [hm.next]; omega)
 have := Cn (Cp N p (Hx m) fun _ => some true) (Hx m) (some true) (fun _ x => (NC p x).map fun _ => false)
  (fun n i x hx => by
   have hi := (lI.1 hx).1
   have hx2 := ZE hp hm (PE.1 (lM hx))
   rw [Cp, AH (by omega)]
   simp only [AX, hx, oS]
   rw [T9 N p x hN h20 hp hx2, AI (by omega)]
   simp only [oS, NC]
   cases Iy p x with
   | nil => rfl
   | cons c cs => rfl)
  (fun n => by rw [Cp, AB (by simp)]) N 0 (zL _) (by omega)
 rw [zZ, L9] at this
 refine Eq.trans this ?_
 unfold BG P1
 cases CY (fun _ x => NC p x) 0 (Hx m) <;> rfl
theorem TW {N : Nat} {a b : Ad} (hN : N ≤ 1000000) (h1 : a.fd.length < N) (h2 : a.fa.length < N) (h3 : a.fe.length < N) (h4 : b.fe.length < N) (wa : OH M1 a.fe) (wb : OH M1 b.fe) : ER N a b = some (UZ a b) := by
 unfold ER
 rw [PT h1 hN, PT h2 hN, Pd h3 hN wa, Pd h4 hN wb]
 simp only [oS]
 rw [PT h3 hN]
 unfold UZ Z4
 by_cases h1 : Kb a.fd b.fd = 0
 ·simp only [h1, Z4]
  by_cases h2 : Kb a.fa b.fa = 0
  ·simp only [h2]
   by_cases h3 : Kb a.fe b.fe = 0 <;> simp [h3]
  ·have : (Kb a.fa b.fa != 0) = true := by simpa using h2
   simp [h2, this]
 ·have : (Kb a.fd b.fd != 0) = true := by simpa using h1
  simp [h1, this]
theorem Sc (N : Nat) (a b : List Int) (hN : N ≤ 1000000) (h : a.length < N) : EE N a b = some (a == b) := by
 unfold EE
 by_cases hl : a.length = b.length
 ·rw [hl, bne_self_eq_false, Ao]
  have := Cn (Co N a b fun _ => some true) a (some true) (fun i x => if x = b.getD i 0 then none else some false)
   (fun n i x hx => by
    have hi := (lI.1 hx).1
    rw [Co, AH (by omega), AX, hx, Dw (d := 0) (by omega)]
    simp only [oS]
    rw [AI (by omega)]
    by_cases h : x = b.getD i 0
    ·rw [if_pos h, h, bne_self_eq_false]; rfl
    ·rw [if_neg h, bne_iff_ne.2 h]; rfl)
   (fun n => by rw [Co, AB (by simp)]) N 0 (zL _) (by omega)
  refine this.trans ?_
  rw [zZ]
  cases hs : CY (fun i x => if x = b.getD i 0 then none else some false) 0 a with
  | none =>
   have : a = b := GE hl fun q hq => by
    have hx : a[q]? = some (a.getD q 0) := by rw [lD]; simp [hq]
    have := FE hs q _ hx
    rw [zC] at this
    split at this
    ·assumption
    ·cases this
   rw [this, beq_self_eq_true]; rfl
  | some r =>
   obtain ⟨j, x, hx, hf⟩ := Em hs
   rw [zC] at hf
   split at hf
   ·cases hf
   ·rename_i hne
    cases hf
    have : (a == b) = false := beq_eq_false_iff_ne.2 fun e => hne (by rw [← e, lD, hx]; rfl)
    rw [this]; rfl
 ·have h1 : ((a.length : Int) != (b.length : Int)) = true := bne_iff_ne.2 (by omega)
  have h2 : (a == b) = false := beq_eq_false_iff_ne.2 fun e => hl (by rw [e])
  rw [h1, h2]; rfl
theorem SA (N : Nat) (a : List Int) (f : Int → Option Bool) (g : Int → Bool) (hN : N ≤ 1000000) (h : a.length < N) (hf : ∀ x, x ∈ a → f x = some (g x)) : C8 N a f = some (a.any g) := by
 unfold C8 EN
 have := Cn (Bs N a f fun _ => some (-1)) a (some (-1)) (fun i x => if g x then some (i : Int) else none)
  (fun n i x hx => by
   have hi := (lI.1 hx).1
   rw [Bs, AH (by omega), AX, hx]
   simp only [oS]
   rw [hf x (lM hx), AI (by omega)]
   simp only [oS]
   cases g x <;> rfl)
  (fun n => by rw [Bs, AB (by simp)]) N 0 (zL _) (by omega)
 have e : Bs N a f (fun _ => some (-1)) N 0 = _ := this
 rw [e, zZ]
 cases hs : CY (fun i x => if g x then some (i : Int) else none) 0 a with
 | none =>
  have : a.any g = false := by
   rw [vI]
   intro x hx
   obtain ⟨j, hj⟩ := zS.1 hx
   have := FE hs j x hj
   intro hg
   rw [hg] at this; cases this
  rw [this]; rfl
 | some r =>
  obtain ⟨j, x, hx, hf⟩ := Em hs
  split at hf
  ·rename_i hg
   cases hf
   have : a.any g = true := xE.2 ⟨x, lM hx, hg⟩
   rw [this]
   simp only [BV, oS]
   rw [decide_eq_true (by omega)]
  ·cases hf
def IY (p : Aa) (m : Ad) : Bool := GU p m == 0 && (m.fd == p.fm && m.fa.all (fun n => decide (n < 0)))
theorem Tk (N : Nat) (p : Aa) (m : Ad) (hN : N ≤ 1000000) (h20 : 100 ≤ N) (hw : OH M1 m.fe) : JK N p m = some (IY p m) := by
 unfold JK IY
 rw [Ka N p m hN (by omega) hw]
 simp only [Bn, oS]
 by_cases hv : GU p m = 0
 ·obtain ⟨hp, hm⟩ := Lf hw hv
  have := hp.nv
  rw [hv, Sc N _ _ hN (by rw [hm.base]; omega), SA N m.fa (fun x => Ih N x) (fun n => decide (0 ≤ n)) hN (by rw [hm.next]; omega) (fun x _ => rfl)]
  simp only [oS, beq_self_eq_true, AU, y7]
  have : m.fa.all (fun n => decide (n < 0)) = !m.fa.any (fun n => decide (0 ≤ n)) := by
   rw [List.not_any_eq_all_not]
   congr 1; funext n
   by_cases h : 0 ≤ n
   ·rw [decide_eq_true h, decide_eq_false (by omega)]; rfl
   ·rw [decide_eq_false h, decide_eq_true (by omega)]; rfl
  rw [this]
  cases m.fd == p.fm <;> simp
 ·rw [beq_eq_false_iff_ne.2 hv]; rfl
theorem Ua (N : Nat) (p : Aa) (m : Ad) (hN : N ≤ 1000000) (h20 : 100 ≤ N) (hw : OH M1 m.fe) : FK N p m = some (IY p m) := by
 unfold FK IY
 rw [Km N p m hN (by omega)]
 simp only [oS]
 by_cases hv : GU p m = 0
 ·obtain ⟨hp, hm⟩ := Lf hw hv
  have h1 := hp.nv
  have h2 := hp.tgt
  have h3 := hm.base
  have h4 := hm.next
  rw [hv]
  simp only [bne_self_eq_false, Ao, beq_self_eq_true, y7]
  have := Cn (Dp N p m fun _ => some true) m.fd (some true) (fun i x => if 0 ≤ m.fa.getD i 0 ∨ x ≠ p.fm.getD i 0 then some false else none)
   (fun n i x hx => by
    have hi := (lI.1 hx).1
    rw [Dp, AH (by omega)]
    simp only [Bn]
    rw [show A4 m.fd (i : Int) = some x from by rw [AX, hx], Dw (d := 0) (by omega), Dw (d := 0) (by omega)]
    simp only [oS]
    rw [AI (by omega)]
    by_cases k1 : 0 ≤ m.fa.getD i 0
    ·rw [AH k1, if_pos (.inl k1)]; rfl
    ·rw [AB k1]
     by_cases k2 : x = p.fm.getD i 0
     ·rw [if_neg (fun h => h.elim k1 (fun h => h k2)), k2, bne_self_eq_false]; rfl
     ·rw [if_pos (.inr k2), bne_iff_ne.2 k2]; rfl)
   (fun n => by rw [Dp, AB (by simp)]) N 0 (zL _) (by omega)
  refine this.trans ?_
  rw [zZ]
  cases hs : CY (fun i x => if 0 ≤ m.fa.getD i 0 ∨ x ≠ p.fm.getD i 0 then some false else none) 0 m.fd with
  | none =>
   have key : ∀ q, q < m.fd.length → m.fd.getD q 0 = p.fm.getD q 0 ∧ ¬ 0 ≤ m.fa.getD q 0 := by
    intro q hq
    have hx : m.fd[q]? = some (m.fd.getD q 0) := by rw [lD]; simp [hq]
    have := FE hs q _ hx
    rw [zC] at this
    split at this
    ·cases this
    ·rename_i h; exact ⟨Decidable.not_not.1 fun h' => h (.inr h'), fun h' => h (.inl h')⟩
   have e1 : m.fd = p.fm := GE (by omega) fun q hq => (key q hq).1
   have e2 : m.fa.all (fun n => decide (n < 0)) = true := by
    rw [zH]
    intro n hn
    obtain ⟨q, hq⟩ := zS.1 hn
    have hl := (lI.1 hq).1
    have := (key q (by omega)).2
    rw [lD, hq] at this
    simp only [yF] at this
    simp only [decide_eq_true_eq]
    omega
   rw [e2, e1]; simp [BV]
  | some r =>
   obtain ⟨j, x, hx, hf⟩ := Em hs
   rw [zC] at hf
   have hj := (lI.1 hx).1
   split at hf
   ·rename_i h
    cases hf
    have : (m.fd == p.fm && m.fa.all (fun n => decide (n < 0))) = false := by
     rw [Bool.and_eq_false_iff]
     rcases h with h | h
     ·right
      rw [List.all_eq_false]
      refine ⟨m.fa.getD j 0, ?_, ?_⟩
      ·rw [lD, yI (by omega)]; exact xK _
      ·simp only [decide_eq_true_eq]; omega
     ·left
      exact beq_eq_false_iff_ne.2 fun e => h (by rw [← e, lD, hx]; rfl)
    rw [this]; rfl
   ·cases hf
 ·rw [bne_iff_ne.2 hv, beq_eq_false_iff_ne.2 hv]; rfl
open Go
structure ba (x y : Am) : Prop where
 k : y.ff = x.ff
 f : y.fg = x.fg
 t : y.fj = x.fj
 a : y.fr = x.fr
 r : y.fk = x.fk
 l : y.fq.length = x.fq.length
 o : ∀ (u : Nat) (row : List Bool), x.fq[u]? = some row → ∃ row', y.fq[u]? = some row' ∧ row'.length = row.length ∧ ∀ v : Nat, row[v]? = some true → row'[v]? = some true
theorem ba.st {x y : Am} (h : ba x y) : Cd y = Cd x := by unfold Cd; rw [h.k]
structure aX (p : Aa) (m x : Ad) : Prop where
 base : m.fd = x.fd
 next : m.fa = x.fa
 held : ∀ i, i < p.fc.length → ∀ v, EJ (m.fe.getD i 0) v = true → EJ (x.fe.getD i 0) v = true
theorem aX.refl (p : Aa) (m : Ad) : aX p m m := ⟨rfl, rfl, fun _ _ _ h => h⟩
theorem aX.trans {p : Aa} {a b c : Ad} (h : aX p a b) (g : aX p b c) : aX p a c := ⟨h.base.trans g.base, h.next.trans g.next, fun i hi v hv => g.held i hi v (h.held i hi v hv)⟩
structure UX (xs ys : List Am) : Prop where
 l : ys.length = xs.length
 o : ∀ (i : Nat) (x : Am), xs[i]? = some x → ∃ y, ys[i]? = some y ∧ ba x y
theorem ba.refl (x : Am) : ba x x := ⟨rfl, rfl, rfl, rfl, rfl, rfl, fun _ row h => ⟨row, h, rfl, fun _ h => h⟩⟩
theorem UX.refl (xs : List Am) : UX xs xs := ⟨rfl, fun _ x h => ⟨x, h, ba.refl x⟩⟩
theorem UX.set {xs ys : List Am} (h : UX xs ys) {i u v : Nat} {y : Am} {row : List Bool} {b b0 : Bool} (hy : ys[i]? = some y) (hu : y.fq[u]? = some row) (hv : row[v]? = some b0) (hb : b0 = true → b = true) :
  UX xs (ys.set i ⟨y.ff, y.fg, y.fj, y.fr, y.fq.set u (row.set v b), y.fk⟩) := by
 refine ⟨by rw [xY]; exact h.l, fun k x hx => ?_⟩
 obtain ⟨z, hz, ht⟩ := h.o k x hx
 by_cases e : i = k
 ·subst e
  rw [hy] at hz; cases hz
  have hi := (lI.1 hy).1
  refine ⟨⟨y.ff, y.fg, y.fj, y.fr, y.fq.set u (row.set v b), y.fk⟩, by rw [xA, if_pos rfl, if_pos hi], ⟨ht.k, ht.f, ht.t, ht.a, ht.r, by show (y.fq.set u (row.set v b)).length = _; rw [xY]; exact ht.l, fun w r hw => ?_⟩⟩
  obtain ⟨r', e1, e2, e3⟩ := ht.o w r hw
  by_cases eu : u = w
  ·subst eu
   rw [hu] at e1; cases e1
   have hul := (lI.1 hu).1
   refine ⟨row.set v b, by show (y.fq.set u (row.set v b))[u]? = _; rw [xA, if_pos rfl, if_pos hul], by rw [xY]; exact e2, fun q hq => ?_⟩
   have h1 := e3 q hq
   rw [xA]
   by_cases ev : v = q
   ·subst ev
    rw [hv] at h1; cases h1
    rw [if_pos rfl, if_pos (lI.1 hv).1, hb rfl]
   ·rw [if_neg ev]; exact h1
  ·exact ⟨r', by show (y.fq.set u (row.set v b))[w]? = _; rw [xA, if_neg eu]; exact e1, e2, e3⟩
 ·exact ⟨z, by rw [xA, if_neg e]; exact hz, ht⟩
theorem UX.row {xs ys : List Am} (h : UX xs ys) {i u : Nat} {x : Am} {row : List Bool} (hx : xs[i]? = some x) (hu : x.fq[u]? = some row) : ∃ y r, ys[i]? = some y ∧ y.fq[u]? = some r ∧ r.length = row.length := by
 obtain ⟨y, hy, ht⟩ := h.o i x hx
 obtain ⟨r, e1, e2, _⟩ := ht.o u row hu
 exact ⟨y, r, hy, e1, e2⟩
theorem TZ {α : Type} : ∀ (i : Nat) (xs : List α), C1 (fun _ x => [x]) i xs = xs
 | _, [] => rfl
 | i, x :: xs => by rw [C1, TZ (i + 1) xs]; rfl
def G4 (p : Aa) (t : Am) : Int := if Cd t = true then CX .u8 1 (p.fi.getD t.fg.toNat 0) else 0
def Gf (p : Aa) : Ad := ⟨p.fi, zG p.fi.length (-1), p.fc.map (G4 p)⟩
theorem VY (N : Nat) (h : 100 ≤ N) (n : Nat) (hn : n ≤ 6) : Fj N [(-1)] (n : Int) = some (zG n (-1)) := by
 obtain ⟨k, rfl⟩ : ∃ k, N = k + 100 := ⟨N - 100, by omega⟩
 have : n = 0 ∨ n = 1 ∨ n = 2 ∨ n = 3 ∨ n = 4 ∨ n = 5 ∨ n = 6 := by omega
 rcases this with rfl | rfl | rfl | rfl | rfl | rfl | rfl
 all_goals (show _ = _; kernel_rfl)
theorem SV (T : List Int) (i : Nat) (hi : i < T.length) : (T.take i ++ zG (T.length - i) 0).set i (T.getD i 0) = T.take (i + 1) ++ zG (T.length - (i + 1)) 0 := by
 have hl : (T.take i).length = i := by simp; omega
 rw [List.set_append_right _ _ (by omega), hl, uZ, show T.length - i = (T.length - (i + 1)) + 1 from by omega, List.replicate_succ, List.set_cons_zero, yU, yO]
 have : T[i]? = some (T.getD i 0) := by rw [lD]; simp [hi]
 rw [this]; rfl
theorem VZ (T : List Int) (i : Nat) (hi : i < T.length) (h0 : T.getD i 0 = 0) : T.take i ++ zG (T.length - i) 0 = T.take (i + 1) ++ zG (T.length - (i + 1)) 0 := by
 rw [← SV T i hi, h0, List.set_append_right _ _ (by rw [List.length_take]; omega)]
 congr 1
 have hl : (T.take i).length = i := by simp; omega
 rw [hl, uZ, show T.length - i = (T.length - (i + 1)) + 1 from by omega, List.replicate_succ, List.set_cons_zero]
theorem UT {p : Aa} (hv : B5 p = 0) {t : Am} (ht : t ∈ p.fc) : 0 ≤ t.fg ∧ t.fg.toNat < p.fi.length ∧ 0 ≤ p.fi.getD t.fg.toNat 0 ∧ p.fi.getD t.fg.toNat 0 < 6 ∧ p.fi.getD t.fg.toNat 0 < p.fb.getD t.fg.toNat 0 ∧ t.fg.toNat < p.fb.length := by
 obtain ⟨hp, hr⟩ := Du hv
 have h1 := KO (hp.tab t ht)
 have h2 := hr t.fg.toNat (by omega)
 have h3 := JQ hp (i := t.fg.toNat) (by omega)
 have := hp.now
 refine ⟨h1.1, by omega, h2.1, by omega, h2.2.1, by omega⟩
theorem Lj {p : Aa} {i : Nat} {t : Am} (ht : p.fc[i]? = some t) : (p.fc.map (G4 p)).getD i 0 = G4 p t := by
 rw [lD, zF, ht]; rfl
theorem Sw (N : Nat) (p : Aa) (hN : N ≤ 1000000) (h20 : 100 ≤ N) : I1 N p = some (if B5 p = 0 then Gf p else ⟨[], [], []⟩, B5 p) := by
 unfold I1
 rw [Kc N p hN (by omega)]
 simp only [oS]
 by_cases hv : B5 p = 0
 ·rw [if_pos hv, hv]
  obtain ⟨hp, _⟩ := Du hv
  have hnv := hp.nv
  have hnt := hp.nt
  have hnow := hp.now
  rw [bne_self_eq_false, Ao, Lu N _ (by simp only [Dz]; omega)]
  simp only [oS]
  rw [VY N h20 _ (by omega)]
  simp only [oS]
  rw [Aw (by simp only [Dz]; omega)]
  obtain ⟨a', e, ha⟩ := F3 (E0 N p fun v7 => some (Ad.mk p.fi (zG p.fi.length (-1)) v7, 0)) (fun a i => (a, i)) p.fc.length (fun v7 => some (Ad.mk p.fi (zG p.fi.length (-1)) v7, 0))
   (fun i a => a = (p.fc.map (G4 p)).take i ++ zG ((p.fc.map (G4 p)).length - i) 0)
   (fun n i a hi ha => by
    have hx : p.fc[i]? = some p.fc[i] := by simp [hi]
    have hm : p.fc[i] ∈ p.fc := xK hi
    obtain ⟨n1, n2, n3, n4, _⟩ := UT hv hm
    rw [E0, AH (by simp only; omega)]
    simp only [Bn, AX, hx, oS, Le, AI (show i < 1000000 by omega)]
    have hal : i < (p.fc.map (G4 p)).length := by simpa using hi
    cases hs : Cd p.fc[i]
    ·rw [Ao]
     refine ⟨a, rfl, ?_⟩
     rw [ha]
     exact VZ _ _ hal (by rw [Lj hx]; unfold G4; rw [hs]; rfl)
    ·rw [AU]
     have e1 : A4 p.fi p.fc[i].fg = some (p.fi.getD p.fc[i].fg.toNat 0) := by
      obtain ⟨q, hq⟩ := zJ n1
      rw [hq]; exact Dw (by rw [hq] at n2; simpa using n2)
     rw [e1]
     simp only [oS]
     rw [Aw n3]
     have hl : i < a.length := by rw [ha]; simp; omega
     have e2 : a[i]? = some a[i] := by simp [hl]
     rw [e2]
     simp only [oS]
     refine ⟨_, rfl, ?_⟩
     rw [← SV _ _ hal, Lj hx, ha]
     unfold G4; rw [hs]; rfl)
   (fun n a ha => by rw [E0, AB (by simp)]) N 0 (zG p.fc.length 0) (zL _) (by omega) (by simp)
  have e' : E0 N p (fun v7 => some (Ad.mk p.fi (zG p.fi.length (-1)) v7, 0)) N (zG ((p.fc.length : Int)).toNat (0 : Int), 0) = _ := e
  rw [e', ha]
  have e5 : (p.fc.map (G4 p)).take p.fc.length = p.fc.map (G4 p) := vZ (by simp)
  simp [Gf, e5]
 ·rw [if_neg hv, bne_iff_ne.2 hv, AU]
theorem NU (N : Nat) (p : Aa) (hN : N ≤ 1000000) (h20 : 100 ≤ N) : EC N p = some (if B5 p = 0 then Gf p else ⟨[], [], []⟩, B5 p) := by
 unfold EC
 rw [LC N p hN (by omega)]
 simp only [oS]
 by_cases hv : B5 p = 0
 ·rw [if_pos hv, hv]
  obtain ⟨hp, _⟩ := Du hv
  have hnv := hp.nv
  have hnt := hp.nt
  have hnow := hp.now
  rw [bne_self_eq_false, Ao]
  obtain ⟨a', e, ha⟩ := F3 (Cx N p fun v4 => Bv N p (fun v10 => some (Ad.mk v4.1 v4.2 v10, 0)) N (([] : List Int), 0)) (fun a i => (a.1, a.2, i)) p.fb.length (fun v4 => Bv N p (fun v10 => some (Ad.mk v4.1 v4.2 v10, 0)) N (([] : List Int), 0))
   (fun i a => a = (p.fi.take i, zG i (-1)))
   (fun n i a hi ha => by
    subst ha
    rw [Cx, AH (by simp only; omega)]
    have hx : p.fi[i]? = some p.fi[i] := by simp [show i < p.fi.length from by omega]
    simp only [AX, hx, oS, AI (show i < 1000000 by omega)]
    rw [Aw (by simp [Dz]; omega), Aw (by simp [Dz]; omega)]
    refine ⟨(p.fi.take i ++ [p.fi[i]], zG i (-1) ++ [-1]), rfl, ?_⟩
    rw [yU, hx, List.replicate_succ']; rfl)
   (fun n a ha => by rw [Cx, AB (by simp)]) N 0 ([], []) (zL _) (by omega) rfl
  have e' : Cx N p (fun v4 => Bv N p (fun v10 => some (Ad.mk v4.1 v4.2 v10, 0)) N (([] : List Int), 0)) N (([] : List Int), ([] : List Int), 0) = _ := e
  rw [e', ha]
  simp only
  obtain ⟨b', e2, hb⟩ := F3 (Bv N p fun v10 => some (Ad.mk (p.fi.take p.fb.length) (zG p.fb.length (-1)) v10, 0)) (fun a i => (a, i)) p.fc.length (fun v10 => some (Ad.mk (p.fi.take p.fb.length) (zG p.fb.length (-1)) v10, 0))
   (fun i a => a = (p.fc.map (G4 p)).take i)
   (fun n i a hi ha => by
    subst ha
    have hx : p.fc[i]? = some p.fc[i] := by simp [hi]
    have hm : p.fc[i] ∈ p.fc := xK hi
    obtain ⟨n1, n2, n3, n4, _⟩ := UT hv hm
    rw [Bv, AH (by simp only; omega)]
    simp only [Bn, AX, hx, oS, H6, AI (show i < 1000000 by omega)]
    have hT : (p.fc.map (G4 p))[i]? = some (G4 p p.fc[i]) := by rw [zF, hx]; rfl
    have hlen : ((p.fc.map (G4 p)).take i).length + 1 ≤ Dz := by simp [Dz]; omega
    cases hs : Cd p.fc[i]
    ·rw [Ao, Aw (by simpa using hlen)]
     refine ⟨_, rfl, ?_⟩
     rw [yU, hT]
     unfold G4; rw [hs]; rfl
    ·rw [AU]
     have e1 : A4 p.fi p.fc[i].fg = some (p.fi.getD p.fc[i].fg.toNat 0) := by
      obtain ⟨q, hq⟩ := zJ n1
      rw [hq]; exact Dw (by rw [hq] at n2; simpa using n2)
     rw [e1]
     simp only [oS]
     rw [Aw n3, Aw (by simpa using hlen)]
     refine ⟨_, rfl, ?_⟩
     rw [yU, hT]
     unfold G4; rw [hs]; rfl)
   (fun n a ha => by rw [Bv, AB (by simp)]) N 0 [] (zL _) (by omega) rfl
  have e3 : Bv N p (fun v10 => some (Ad.mk (p.fi.take p.fb.length) (zG p.fb.length (-1)) v10, 0)) N (([] : List Int), 0) = _ := e2
  rw [e3, hb]
  simp only [Gf, ← hnow, uH]
  rw [show p.fc.length = (p.fc.map (G4 p)).length from by simp, uH]
 ·rw [if_neg hv, bne_iff_ne.2 hv, AU]
theorem Pz {p : Aa} (hv : B5 p = 0) : B6 p (Gf p) := by
 obtain ⟨hp, hr⟩ := Du hv
 have hnow := hp.now
 have hnx : ∀ i, i < p.fb.length → (zG p.fi.length (-1 : Int)).getD i 0 = -1 := fun i hi => by
  rw [lD, List.getElem?_replicate, if_pos (by omega)]; rfl
 have hone : ∀ (i : Nat) (t : Am), p.fc[i]? = some t → ∃ b : Nat, b < 6 ∧ p.fi.getD t.fg.toNat 0 = (b : Int) ∧ (b : Int) < p.fb.getD t.fg.toNat 0 ∧ t.fg.toNat < p.fb.length := fun i t ht => by
  obtain ⟨n1, n2, n3, n4, n5, n6⟩ := UT hv (lM ht)
  obtain ⟨b, hb⟩ := zJ n3
  exact ⟨b, by omega, hb, by omega, n6⟩
 have hbit : ∀ b : Nat, b < 8 → ∀ v, EJ (CX .u8 1 (b : Int)) v = decide (b = v) := fun b hb v => by
  by_cases h : v < 8
  ·exact (LD ⟨b, hb⟩ ⟨v, h⟩).1
  ·rw [LK (LD ⟨b, hb⟩ ⟨0, by omega⟩).2.2 (by omega)]
   symm; apply decide_eq_false; omega
 refine { base := hnow, next := by simp [Gf, hnow], held := by simp [Gf], b0 := fun i hi => ⟨(hr i hi).1, (hr i hi).2.1⟩, n0 := fun i hi => ?_, ne := fun i hi => ?_, range := fun i hi => ?_, low := fun i t ht hs v hv' => ?_, high := fun i t ht hs v hb => ?_, none := fun i t ht hs => ?_ }
 ·show -1 ≤ (zG p.fi.length (-1 : Int)).getD i 0 ∧ (zG p.fi.length (-1 : Int)).getD i 0 < _
  rw [hnx i hi]
  have := JQ hp hi
  omega
 ·show p.fi.getD i 0 ≠ (zG p.fi.length (-1 : Int)).getD i 0
  rw [hnx i hi]
  have := hr i hi
  omega
 ·have hx : p.fc[i]? = some p.fc[i] := by simp [hi]
  show 0 ≤ (p.fc.map (G4 p)).getD i 0 ∧ (p.fc.map (G4 p)).getD i 0 ≤ 255
  rw [Lj hx]
  unfold G4
  split
  ·obtain ⟨b, h1, h2, _⟩ := hone i _ hx
   rw [h2]
   exact (LD ⟨b, by omega⟩ ⟨0, by omega⟩).2
  ·omega
 ·show EJ ((p.fc.map (G4 p)).getD i 0) v = true
  obtain ⟨b, h1, h2, h3, h4⟩ := hone i t ht
  rw [Lj ht]
  unfold G4
  rw [if_pos hs, h2, hbit b (by omega)]
  unfold J8 at hv'
  have h5 : (Gf p).fd.getD t.fg.toNat 0 = (b : Int) := h2
  have h6 : (Gf p).fa.getD t.fg.toNat 0 = -1 := hnx _ h4
  rw [h5, h6, xJ, decide_eq_true_iff, decide_eq_true_iff] at hv'
  apply decide_eq_true; omega
 ·have hb : EJ ((p.fc.map (G4 p)).getD i 0) v = true := hb
  obtain ⟨b, h1, h2, h3, h4⟩ := hone i t ht
  rw [Lj ht] at hb
  unfold G4 at hb
  rw [if_pos hs, h2, hbit b (by omega), decide_eq_true_iff] at hb
  omega
 ·show (p.fc.map (G4 p)).getD i 0 = 0
  rw [Lj ht]; unfold G4; rw [hs]; rfl
theorem O0 (x : BitVec 8) : wI .u8 (x.toNat : Int) = (x.toNat : Int) := by
 have := x.isLt
 simp [wI, IntKind.signed, IntKind.bits]
 omega
theorem S7 (x : BitVec 8) : 0 ≤ (x.toNat : Int) ∧ (x.toNat : Int) ≤ 255 := by
 have := x.isLt
 omega
theorem Wt (x : BitVec 8) (v : Nat) : EJ (x.toNat : Int) v = x.getLsbD v := by
 unfold EJ; rw [zQ]; rfl
theorem Sp {a : Int} (ha : 0 ≤ a ∧ a ≤ 255) (v : Nat) : (BitVec.ofInt 8 a).getLsbD v = EJ a v := by
 obtain ⟨a, rfl⟩ := zJ ha.1
 unfold BitVec.getLsbD EJ
 rw [Xq (by omega), zQ]
theorem UE {a b : Int} (ha : 0 ≤ a ∧ a ≤ 255) (hb : 0 ≤ b ∧ b ≤ 255) : (∀ v, EJ (Dy .u8 a b) v = (EJ a v && !EJ b v)) ∧ 0 ≤ Dy .u8 a b ∧ Dy .u8 a b ≤ 255 := by
 have e : Dy .u8 a b = ((BitVec.ofInt 8 a &&& ~~~BitVec.ofInt 8 b).toNat : Int) := O0 (BitVec.ofInt 8 a &&& ~~~BitVec.ofInt 8 b)
 rw [e]
 refine ⟨fun v => ?_, S7 _⟩
 rw [Wt, BitVec.getLsbD_and, BitVec.getLsbD_not, Sp ha, Sp hb]
 by_cases h : v < 8
 ·simp [h]
 ·rw [LK ha.2 (by omega)]; simp
theorem Uy {a b : Int} (ha : 0 ≤ a ∧ a ≤ 255) (hb : 0 ≤ b ∧ b ≤ 255) : (∀ v, EJ (QE .u8 a b) v = (EJ a v || EJ b v)) ∧ 0 ≤ QE .u8 a b ∧ QE .u8 a b ≤ 255 := by
 have e : QE .u8 a b = ((BitVec.ofInt 8 a ||| BitVec.ofInt 8 b).toNat : Int) := O0 (BitVec.ofInt 8 a ||| BitVec.ofInt 8 b)
 rw [e]
 refine ⟨fun v => ?_, S7 _⟩
 rw [Wt, BitVec.getLsbD_or, Sp ha, Sp hb]
theorem Zk {b : Nat} (hb : b < 8) : (∀ v, EJ (CX .u8 1 (b : Int)) v = decide (b = v)) ∧ 0 ≤ CX .u8 1 (b : Int) ∧ CX .u8 1 (b : Int) ≤ 255 := by
 refine ⟨fun v => ?_, (LD ⟨b, hb⟩ ⟨0, by omega⟩).2⟩
 by_cases h : v < 8
 ·exact (LD ⟨b, hb⟩ ⟨v, h⟩).1
 ·rw [LK (LD ⟨b, hb⟩ ⟨0, by omega⟩).2.2 (by omega)]
  symm; apply decide_eq_false; omega
theorem WC (N : Nat) {s : Int} {v : Nat} (hs : 0 ≤ s ∧ s ≤ 255) (hv : v < 8) : CS N s (v : Int) = some (EJ s v) := by
 unfold CS
 rw [Aw (by omega), Sn hs.1 hs.2 hv]
 cases EJ s v <;> rfl
def ZF (v : Nat) : Nat := ((zN 8).find? fun u => v.testBit u).getD 8
def bR (v : Nat) : Nat := ((zN 8).filter fun u => v.testBit u).length
theorem ZZ : ∀ v : Fin 256, DJ 0 (v.val : Int) = some (ZF v.val : Int) := by decide +kernel
theorem cH (N : Nat) {v : Nat} (h : v < 256) : DJ N (v : Int) = some (ZF v : Int) := ZZ ⟨v, h⟩
theorem Yd : ∀ v : Fin 256, v.val ≠ 0 → ZF v.val < 8 ∧ EJ (v.val : Int) (ZF v.val) = true ∧ 0 ≤ AM .u8 (v.val : Int) (wI .u8 ((v.val : Int) - 1)) ∧ AM .u8 (v.val : Int) (wI .u8 ((v.val : Int) - 1)) ≤ 255 ∧
  bR (AM .u8 (v.val : Int) (wI .u8 ((v.val : Int) - 1))).toNat + 1 = bR v.val ∧
  ∀ u : Fin 8, EJ (AM .u8 (v.val : Int) (wI .u8 ((v.val : Int) - 1))) u.val = (EJ (v.val : Int) u.val && decide (u.val ≠ ZF v.val)) := by decide +kernel
theorem bA (v : Nat) : bR v ≤ 8 := by
 have := List.length_filter_le (fun u => v.testBit u) (zN 8)
 simpa [bR] using this
theorem Th (N : Nat) (t : Am) (b : Int) (rw_ : Nat → Bool) : ∀ (k n v : Nat), bR v ≤ k → k < n → v < 256 →
  (∀ u, u < 8 → EJ (v : Int) u = true → ∃ row, A4 t.fk (u : Int) = some row ∧ A4 row b = some (rw_ u)) →
  Ei N t b (fun _ => some true) n (v : Int) = some ((zN 8).all fun u => !EJ (v : Int) u || rw_ u)
 | k, 0, v, _, h, _, _ => by omega
 | k, n + 1, v, hk, hn, hv, hr => by
  rw [Ei]
  by_cases h0 : v = 0
  ·subst h0
   have : (((0 : Nat) : Int) != 0) = false := rfl
   rw [this, Ao]
   congr 1
  ·have h1 : ((v : Int) != 0) = true := bne_iff_ne.2 (by omega)
   obtain ⟨l1, l2, l3, l4, l5, l6⟩ := Yd ⟨v, hv⟩ h0
   simp only at l1 l2 l3 l4 l5 l6
   obtain ⟨row, e1, e2⟩ := hr _ l1 l2
   rw [h1, AU, cH N hv]
   simp only [oS, e1, e2]
   obtain ⟨w, hw⟩ := zJ l3
   rw [hw] at l4 l5 l6 ⊢
   rw [zQ] at l5
   cases hq : rw_ (ZF v)
   ·rw [yV, AU]
    congr 1
    symm
    rw [List.all_eq_false]
    exact ⟨ZF v, by simpa using l1, by rw [l2, hq]; simp⟩
   ·rw [zY, Ao]
    match k, hk with
    | 0, hk => exfalso; omega
    | k + 1, hk =>
    rw [Th N t b rw_ k n w (by omega) (by omega) (by omega) (fun u hu hb => hr u hu (by have := l6 ⟨u, hu⟩; simp only at this; rw [hb] at this; simpa using (uF.1 this.symm).1))]
    congr 1
    rw [Bool.eq_iff_iff, zH, zH]
    refine ⟨fun h u hu => ?_, fun h u hu => ?_⟩
    ·have hu8 : u < 8 := by simpa using hu
     have h3 := h u hu
     have h4 := l6 ⟨u, hu8⟩
     simp only at h4
     rw [h4] at h3
     by_cases e : u = ZF v
     ·rw [e, hq]; simp
     ·simpa [e] using h3
    ·have hu8 : u < 8 := by simpa using hu
     have h3 := h u hu
     have h4 := l6 ⟨u, hu8⟩
     simp only at h4
     rw [h4]
     cases hb : EJ (v : Int) u
     ·simp
     ·rw [hb] at h3; simp at h3; simp [h3]
theorem SX (N : Nat) (m : Ad) (s : Int) (h0 : 0 ≤ s) (h1 : s < (m.fd.length : Int)) (h2 : s < (m.fa.length : Int)) (hb : 0 ≤ m.fd.getD s.toNat 0) : Hl N m s = some (H7 m s.toNat) := by
 unfold Hl H7
 rw [EQ (d := 0) h0 h1, EQ (d := 0) h0 h2]
 simp only [oS, Ba]
 rw [show Ej (0 ≤ m.fd.getD s.toNat 0) = some () from by unfold Ej; rw [if_pos hb]]
 simp only [oS]
 by_cases h : 0 ≤ m.fa.getD s.toNat 0
 ·rw [AH h, if_pos h, show Ej (0 ≤ m.fa.getD s.toNat 0) = some () from by unfold Ej; rw [if_pos h]]; rfl
 ·rw [AB h, if_neg h]
theorem Mq (N : Nat) (t : Am) : GS N t = some (Cd t) := by
 unfold GS Cd
 simp only [Ba]
 cases h : t.ff == 3 <;> simp
def HG (s : Ae) : Bool := decide (1 ≤ s.ff ∧ s.ff ≤ 4 ∧ 0 ≤ s.fh ∧ 0 ≤ s.fo) && (s.ff == 1 || s.fo == 0)
def GQ (p : Aa) (s : Ae) : Bool :=
 if s.ff = 3 then decide (s.fh < (p.fc.length : Int)) else decide (s.fh < (p.fb.length : Int)) && (s.ff != 1 || decide (s.fo < p.fb.getD s.fh.toNat 0))
theorem QP (N : Nat) (s : Ae) : Ie N s = some (HG s) := by
 unfold Ie HG WG
 simp only [Ba]
 by_cases h1 : (if s.fo < s.fh then s.fo else s.fh) < 0
 ·rw [AH h1, AU, decide_eq_false (by split at h1 <;> omega)]; rfl
 ·rw [AB h1]
  by_cases h2 : s.ff < 1
  ·rw [AH h2, AU, decide_eq_false (by omega)]; rfl
  ·rw [AB h2]
   by_cases h3 : 4 < s.ff
   ·rw [decide_eq_true h3, AU, decide_eq_false (by omega)]; rfl
   ·rw [decide_eq_false h3, Ao, decide_eq_true (by split at h1 <;> omega), y7]
    cases h4 : s.ff == 1 <;> simp
theorem Sm (N : Nat) (s : Ae) : Fr N s = some (HG s) := by
 unfold Fr HG
 simp only [Ba]
 by_cases h1 : 1 ≤ s.ff
 ·rw [AH h1]
  by_cases h2 : s.ff ≤ 4
  ·rw [AH h2]
   by_cases h3 : 0 ≤ s.fh
   ·rw [AH h3]
    by_cases h4 : 0 ≤ s.fo
    ·rw [AH h4, decide_eq_true (by omega), y7]
     cases h5 : s.ff == 1 <;> simp
    ·rw [AB h4, decide_eq_false (by omega)]; rfl
   ·rw [AB h3, decide_eq_false (by omega)]; rfl
  ·rw [AB h2, decide_eq_false (by omega)]; rfl
 ·rw [AB h1, decide_eq_false (by omega)]; rfl
theorem Pv (N : Nat) (p : Aa) (s : Ae) (hv : HG s = true) : HE N p s = some (GQ p s) := by
 have h0 : 0 ≤ s.fh := by
  unfold HG at hv
  rw [zI, decide_eq_true_iff] at hv
  exact hv.1.2.2.1
 unfold HE GQ
 simp only [Ba]
 by_cases h1 : s.ff = 3
 ·rw [if_pos h1, beq_iff_eq.2 h1, AU]
 ·rw [if_neg h1, beq_eq_false_iff_ne.2 h1, Ao]
  by_cases h2 : s.fh < (p.fb.length : Int)
  ·rw [AH h2, decide_eq_true h2, y7]
   cases h3 : s.ff != 1
   ·rw [Ao, EQ (d := 0) h0 h2, vF]; rfl
   ·rw [AU]; rfl
  ·rw [AB h2, decide_eq_false h2]; rfl
def Vh (s : Ae) (t : Am) : Bool := t.fg == s.fh && Cd t
def Wn (s : Ae) (i : Nat) (t : Am) (a : List Int) : List Int := if Vh s t = true then a.set i (QE .u8 (a.getD i 0) (CX .u8 1 s.fo)) else a
def KD (p : Aa) (s : Ae) (held : List Int) : List Int := J4 (Wn s) 0 p.fc held
theorem Pm {_R : Type} (N : Nat) (p : Aa) (s : Ae) (held : List Int) (hv : 0 ≤ s.fo) (hl : held.length = p.fc.length) (h12 : p.fc.length < N) (hN : N ≤ 1000000) (j : List Int → Option (Bool × List Int × List Int)) :
  EK N p s j N (held, 0) = j (KD p s held) ∧ (KD p s held).length = p.fc.length := by
 have := ID (EK N p s j) (fun a i => (a, i)) p.fc j (Wn s) (fun i a => a.length = p.fc.length)
  (fun n i x a hx ha => by
   have hi := (lI.1 hx).1
   rw [EK, AH (by simp only; omega)]
   simp only [Bn, AX, hx, oS, Mq, AI (show i < 1000000 by omega)]
   have e2 : a[i]? = some (a.getD i 0) := by rw [lD]; simp [show i < a.length from by omega]
   unfold Wn Vh
   cases h1 : x.fg == s.fh
   ·rw [Ao, Ao, vM, if_neg (by simp)]; exact ⟨rfl, ha⟩
   ·rw [AU, y7]
    cases h2 : Cd x
    ·rw [Ao, if_neg (by simp)]; exact ⟨rfl, ha⟩
    ·rw [AU, e2, if_pos rfl]
     simp only [oS]
     rw [Aw hv]
     exact ⟨rfl, by simpa using ha⟩)
  (fun n a ha => by rw [EK, AB (by simp)]) N 0 held (zL _) (by omega) hl
 rw [zZ] at this
 exact this
theorem PL (N : Nat) (p : Aa) (s : Ae) (held : List Int) (hv : 0 ≤ s.fo) (hl : held.length = p.fc.length) (h12 : p.fc.length < N) (hN : N ≤ 1000000) (j : List Int → Option (Ad × Bool)) :
  Cj N p s j N (held, 0) = j (KD p s held) := by
 have := ID (Cj N p s j) (fun a i => (a, i)) p.fc j (Wn s) (fun i a => a.length = p.fc.length)
  (fun n i x a hx ha => by
   have hi := (lI.1 hx).1
   rw [Cj, AH (by simp only; omega)]
   simp only [Bn, AX, hx, oS, H6, AI (show i < 1000000 by omega)]
   have e2 : a[i]? = some (a.getD i 0) := by rw [lD]; simp [show i < a.length from by omega]
   unfold Wn Vh
   cases h1 : x.fg == s.fh
   ·rw [Ao, Ao, vM, if_neg (by simp)]; exact ⟨rfl, ha⟩
   ·rw [AU, y7]
    cases h2 : Cd x
    ·rw [Ao, if_neg (by simp)]; exact ⟨rfl, ha⟩
    ·rw [AU, e2, if_pos rfl]
     simp only [oS]
     rw [Aw hv]
     exact ⟨rfl, by simpa using ha⟩)
  (fun n a ha => by rw [Cj, AB (by simp)]) N 0 held (zL _) (by omega) hl
 rw [zZ] at this
 exact this.1
def Ni (m : Ad) (t : Am) (u : Nat) : Bool := (t.fk.getD u []).getD (m.fd.getD t.fg.toNat 0).toNat false
def Qb (m : Ad) (i : Nat) (t : Am) (u : Nat) : Bool := EJ (m.fe.getD i 0) u && !J8 m t.fg.toNat u
def JT (_p : Aa) (m : Ad) (i : Nat) (t : Am) : Bool := t.ff == 4 && (zN 8).any fun u => Qb m i t u && !Ni m t u
def GP (p : Aa) (m : Ad) (s : Ae) : Option Ad :=
 let i := s.fh.toNat
 if s.ff = 1 then (if 0 ≤ m.fa.getD i 0 ∨ m.fd.getD i 0 = s.fo then none else some ⟨m.fd, m.fa.set i s.fo, KD p s m.fe⟩)
 else if s.ff = 3 then match p.fc[i]? with
  | none => none
  | some t => if Cd t = false ∨ m.fe.getD i 0 = H7 m t.fg.toNat ∨ JT p m i t = true then none else some ⟨m.fd, m.fa, m.fe.set i (H7 m t.fg.toNat)⟩
 else if m.fa.getD i 0 < 0 then none
 else some ⟨if s.ff = 2 then m.fd.set i (m.fa.getD i 0) else m.fd, m.fa.set i (-1), m.fe⟩
def Bd (p : Aa) (m : Ad) (s : Ae) : Ad × Int :=
 if HG s = false then (IP, 1) else if GQ p s = false then (IP, 4) else match GP p m s with
  | none => (IP, 11)
  | some x => (x, 0)
end Go.Lift
namespace Go.Lift
open Option renaming bind_some → oS
open List renaming mem_of_getElem? → lM
open List renaming getElem?_eq_some_iff → lI
open List renaming getD_eq_getElem?_getD → lD
open Go
section clear
variable {p : Aa} {m : Ad} {i : Nat} {t : Am}
theorem Wp (hp : Bl p) (hm : B6 p m) (ht : p.fc[i]? = some t) (hs : Cd t = true) {u : Nat} (h : EJ (m.fe.getD i 0) u = true) : (u : Int) < p.fb.getD t.fg.toNat 0 ∧ u < 6 ∧ t.fg.toNat < p.fb.length := by
 have h1 := hm.high i t ht hs u h
 have hin := KO (hp.tab t (lM ht))
 have h2 := JQ hp (i := t.fg.toNat) (by omega)
 exact ⟨h1, by omega, by omega⟩
theorem Xn (hp : Bl p) (hm : B6 p m) (ht : p.fc[i]? = some t) (hs : Cd t = true) (h4 : t.ff = 4) {u : Nat} (h : EJ (m.fe.getD i 0) u = true) :
  A4 t.fk (u : Int) = some (t.fk.getD u []) ∧ A4 (t.fk.getD u []) (m.fd.getD t.fg.toNat 0) = some (Ni m t u) := by
 have hT := MC (hp.tab t (lM ht))
 obtain ⟨h1, h2, h3⟩ := Wp hp hm ht hs h
 have hl := hT.reL h4
 have e : t.fk[u]? = some (t.fk.getD u []) := by rw [lD]; simp [show u < t.fk.length from by omega]
 have hr := hT.reR _ (lM e)
 have hb := hm.b0 t.fg.toNat h3
 refine ⟨by rw [AX, e], ?_⟩
 unfold Ni
 obtain ⟨b, hb'⟩ := zJ hb.1
 rw [hb'] at hb ⊢
 rw [zQ]
 exact Dw (by omega)
theorem QY (N : Nat) (hN : N ≤ 1000000) (h20 : 100 ≤ N) (hp : Bl p) (hm : B6 p m) (ht : p.fc[i]? = some t) :
  H3 N p m (i : Int) = some (if Cd t = false ∨ m.fe.getD i 0 = H7 m t.fg.toNat ∨ JT p m i t = true then (false, m.fe) else (true, m.fe.set i (H7 m t.fg.toNat))) := by
 have hi := (lI.1 ht).1
 have hin := KO (hp.tab t (lM ht))
 have hb := hm.base
 have hnx := hm.next
 have hh := hm.held
 have hr := JN hp hm.toMixServ (s := t.fg.toNat) (by omega)
 have hrg := hm.range i hi
 have eh : A4 m.fe (i : Int) = some (m.fe.getD i 0) := Dw (by omega)
 unfold H3
 simp only [Bn, AX, ht, oS, Mq]
 have eh' : m.fe[i]? = some (m.fe.getD i 0) := by rw [← AX, eh]
 cases hs : Cd t
 ·rw [yV, AU, if_pos (.inl rfl)]
 ·rw [zY, Ao, SX N m _ hin.1 (by omega) (by omega) (hm.b0 _ (by omega)).1]
  simp only [oS, eh']
  by_cases h1 : m.fe.getD i 0 = H7 m t.fg.toNat
  ·rw [beq_iff_eq.2 h1, AU, AU, if_pos (.inr (.inl h1))]
  ·rw [beq_eq_false_iff_ne.2 h1, Ao]
   by_cases h4 : t.ff = 4
   ·rw [beq_iff_eq.2 h4, AU, EQ (d := 0) hin.1 (by omega)]
    simp only [oS]
    obtain ⟨a1, a2, a3⟩ := UE hrg hr.2
    obtain ⟨w, hw⟩ := zJ a2
    unfold Hc
    rw [hw] at a1 a3 ⊢
    rw [Th N t _ (Ni m t) 8 N w (bA _) (by omega) (by omega) (fun u hu hbu => by
     have := a1 u; rw [hbu] at this
     exact ⟨_, Xn hp hm ht hs h4 (uF.1 this.symm).1⟩)]
    simp only [oS]
    have e : (!(zN 8).all fun u => !EJ (w : Int) u || Ni m t u) = JT p m i t := by
     unfold JT
     rw [beq_iff_eq.2 h4, y7, List.not_all_eq_any_not]
     congr 1
     funext u
     rw [a1 u, hr.1 u]
     unfold Qb
     cases EJ (m.fe.getD i 0) u <;> cases J8 m t.fg.toNat u <;> cases Ni m t u <;> rfl
    rw [e]
    cases hst : JT p m i t
    ·rw [Ao, if_neg (by rintro (h | h | h); cases h; exact h1 h; cases h)]; rfl
    ·rw [AU, if_pos (.inr (.inr rfl))]
   ·have e : JT p m i t = false := by unfold JT; rw [beq_eq_false_iff_ne.2 h4]; rfl
    rw [beq_eq_false_iff_ne.2 h4, Ao, Ao, e, if_neg (by rintro (h | h | h); cases h; exact h1 h; cases h)]; rfl
theorem Qa (N : Nat) (hN : N ≤ 1000000) (h20 : 100 ≤ N) (hp : Bl p) (hm : B6 p m) (ht : p.fc[i]? = some t) (hs : Cd t = true) (s : Ae) (hsi : s.fh = (i : Int)) (j : Option (Ad × Bool)) :
  BQ N p m s t (H7 m t.fg.toNat) (fun _ => j) N 0 = if JT p m i t = true then some (IP, false) else j := by
 have hi := (lI.1 ht).1
 have hin := KO (hp.tab t (lM ht))
 have hb := hm.base
 have hh := hm.held
 have hr := JN hp hm.toMixServ (s := t.fg.toNat) (by omega)
 have hrg := hm.range i hi
 have hver := JQ hp (i := t.fg.toNat) (by omega)
 obtain ⟨nv, hnv⟩ := zJ (show 0 ≤ p.fb.getD t.fg.toNat 0 by omega)
 have eh' : m.fe[i]? = some (m.fe.getD i 0) := by rw [lD]; simp [show i < m.fe.length from by omega]
 have := Cn (BQ N p m s t (H7 m t.fg.toNat) fun _ => j) (zN nv) j (fun u _ => if (Qb m i t u && (t.ff == 4 && !Ni m t u)) = true then some (IP, false) else none)
  (fun n u x hx => by
   have hu : u < nv := by
    have := (lI.1 hx).1
    simpa using this
   rw [BQ, EQ (d := 0) hin.1 (by omega), hnv]
   simp only [oS]
   rw [AH (by omega)]
   simp only [Bn, hsi, AX, eh', oS]
   rw [WC N hrg (by omega), AI (by omega)]
   simp only [oS]
   cases h1 : EJ (m.fe.getD i 0) u
   ·have e : Qb m i t u = false := by unfold Qb; rw [h1]; rfl
    rw [Ao, Ao, Ao, e]; rfl
   ·rw [AU, WC N hr.2 (by omega), hr.1 u]
    simp only [oS]
    have e : Qb m i t u = !J8 m t.fg.toNat u := by unfold Qb; rw [h1]; rfl
    rw [← e]
    cases h2 : Qb m i t u
    ·rw [Ao, Ao]; rfl
    ·rw [AU]
     by_cases h4 : t.ff = 4
     ·obtain ⟨e1, e2⟩ := Xn hp hm ht hs h4 h1
      rw [AX] at e1
      rw [beq_iff_eq.2 h4, AU, e1, EQ (d := 0) hin.1 (by omega)]
      simp only [oS]
      rw [e2]
      simp only [oS]
      cases Ni m t u <;> rfl
     ·rw [beq_eq_false_iff_ne.2 h4, Ao, Ao]; rfl)
  (fun n => by
   rw [BQ, EQ (d := 0) hin.1 (by omega), hnv]
   simp only [oS, uC]
   rw [AB (by omega)]) N 0 (zL _) (by simp; omega)
 have e0 : BQ N p m s t (H7 m t.fg.toNat) (fun _ => j) N 0 = _ := this
 rw [e0, zZ]
 by_cases hst : JT p m i t = true
 ·rw [if_pos hst]
  unfold JT at hst
  rw [zI, xE] at hst
  obtain ⟨h4, u, hu, h5⟩ := hst
  rw [zI] at h5
  have h6 : EJ (m.fe.getD i 0) u = true := by have := h5.1; unfold Qb at this; exact (uF.1 this).1
  have h7 := Wp hp hm ht hs h6
  cases hsc : CY (fun u (_ : Nat) => if (Qb m i t u && (t.ff == 4 && !Ni m t u)) = true then some (IP, false) else none) 0 (zN nv) with
  | some r =>
   obtain ⟨q, x, hx, hf⟩ := Em hsc
   split at hf
   ·cases hf; rfl
   ·cases hf
  | none =>
   exfalso
   have hx : (zN nv)[u]? = some u := List.getElem?_range (by omega)
   have := FE hsc u u hx
   rw [zC, h5.1, h4, h5.2] at this
   cases this
 ·rw [if_neg hst]
  have : CY (fun u (_ : Nat) => if (Qb m i t u && (t.ff == 4 && !Ni m t u)) = true then some (IP, false) else none) 0 (zN nv) = none := Hd fun q x hx => by
   rw [zC]
   split
   ·rename_i h5
    exfalso; apply hst
    rw [zI, zI] at h5
    unfold JT
    rw [h5.2.1, y7, xE]
    have hq : q < nv := by
     have := (lI.1 hx).1
     simpa using this
    exact ⟨q, yY.2 (by omega), by rw [h5.1, h5.2.2]; rfl⟩
   ·rfl
  rw [this]; rfl
end clear
end Go.Lift
namespace Go.Lift
open Option renaming bind_some → oS
open List renaming mem_of_getElem? → lM
open Go
theorem Jn {s : Ae} (h : HG s = true) : 1 ≤ s.ff ∧ s.ff ≤ 4 ∧ 0 ≤ s.fh ∧ 0 ≤ s.fo ∧ (s.ff ≠ 1 → s.fo = 0) := by
 unfold HG at h
 rw [zI, decide_eq_true_iff, xJ, beq_iff_eq, beq_iff_eq] at h
 exact ⟨h.1.1, h.1.2.1, h.1.2.2.1, h.1.2.2.2, fun hk => h.2.elim (fun e => (hk e).elim) id⟩
theorem Kr {p : Aa} {s : Ae} (h : GQ p s = true) : (s.ff = 3 → s.fh < (p.fc.length : Int)) ∧ (s.ff ≠ 3 → s.fh < (p.fb.length : Int)) ∧ (s.ff = 1 → s.fo < p.fb.getD s.fh.toNat 0) := by
 unfold GQ at h
 split at h
 ·rename_i hk
  rw [decide_eq_true_iff] at h
  exact ⟨fun _ => h, fun hn => (hn hk).elim, fun h1 => by omega⟩
 ·rename_i hk
  rw [zI, decide_eq_true_iff, xJ, decide_eq_true_iff, bne_iff_ne] at h
  exact ⟨fun h3 => (hk h3).elim, fun _ => h.1, fun h1 => h.2.elim (fun hn => (hn h1).elim) id⟩
theorem V1 (N : Nat) {p : Aa} {m : Ad} (hp : Bl p) (hm : B6 p m) : Hz N m = some m := by
 have hnv := hp.nv
 have hnt := hp.nt
 have h1 := hm.base
 have h2 := hm.next
 have h3 := hm.held
 unfold Hz
 rw [Lu N _ (by simp only [Dz]; omega), Lu N _ (by simp only [Dz]; omega), RH N _ (by simp only [Dz]; omega)]
 rfl
theorem Nf (N : Nat) (hN : N ≤ 1000000) (h20 : 100 ≤ N) {p : Aa} {m : Ad} (hp : Bl p) (hm : B6 p m) {s : Ae} (hv : HG s = true) (hx : GQ p s = true) :
  ∃ o, GF N p m s = some (o, (GP p m s).isSome) ∧ ∀ x, GP p m s = some x → o = x := by
 obtain ⟨k1, k4, i0, v0, vk⟩ := Jn hv
 obtain ⟨x3, xn, x1⟩ := Kr hx
 have hnv := hp.nv
 have hnt := hp.nt
 have hb := hm.base
 have hn := hm.next
 have hh := hm.held
 obtain ⟨i, hi⟩ := zJ i0
 unfold GF GP
 rw [V1 N hp hm]
 simp only [oS, Bn]
 by_cases hk1 : s.ff = 1
 ·have hi1 : (i : Int) < p.fb.length := by have := xn (by omega); omega
  rw [beq_iff_eq.2 hk1, AU, if_pos hk1]
  unfold Jv
  simp only [Bn, hi, zQ]
  rw [Dw (d := 0) (show i < m.fa.length by omega)]
  simp only [oS]
  by_cases c1 : 0 ≤ m.fa.getD i 0
  ·rw [AH c1, AU, if_pos (.inl c1)]
   exact ⟨_, rfl, fun x hx => by cases hx⟩
  ·rw [AB c1, Dw (d := 0) (show i < m.fd.length by omega)]
   simp only [oS]
   by_cases c2 : m.fd.getD i 0 = s.fo
   ·rw [beq_iff_eq.2 c2, AU, if_pos (.inr c2)]
    exact ⟨_, rfl, fun x hx => by cases hx⟩
   ·rw [beq_eq_false_iff_ne.2 c2, Ao, (Pm (_R := Unit) N p s m.fe v0 hh (by omega) hN _).1, if_neg (by rintro (h | h); exact c1 h; exact c2 h)]
    exact ⟨_, rfl, fun x hx => by cases hx; rfl⟩
 ·rw [beq_eq_false_iff_ne.2 hk1, Ao, if_neg hk1]
  by_cases hk3 : s.ff = 3
  ·have hi3 : i < p.fc.length := by have := x3 hk3; omega
   have ht : p.fc[i]? = some p.fc[i] := by simp [hi3]
   rw [beq_iff_eq.2 hk3, AU, if_pos hk3, hi, QY N hN h20 hp hm ht]
   simp only [oS, zQ, ht]
   split
   ·exact ⟨_, rfl, fun x hx => by cases hx⟩
   ·exact ⟨_, rfl, fun x hx => by cases hx; rfl⟩
  ·have hi1 : (i : Int) < p.fb.length := by have := xn hk3; omega
   rw [beq_eq_false_iff_ne.2 hk3, Ao, if_neg hk3, hi, Dw (d := 0) (show i < m.fa.length by omega)]
   simp only [oS, zQ]
   by_cases c1 : m.fa.getD i 0 < 0
   ·rw [AH c1, if_pos c1]
    exact ⟨_, rfl, fun x hx => by cases hx⟩
   ·rw [AB c1, if_neg c1]
    by_cases hk2 : s.ff = 2
    ·rw [beq_iff_eq.2 hk2, AU, Dw (d := 0) (show i < m.fd.length by omega), if_pos hk2]
     exact ⟨_, rfl, fun x hx => by cases hx; rfl⟩
    ·rw [beq_eq_false_iff_ne.2 hk2, Ao, if_neg hk2]
     exact ⟨_, rfl, fun x hx => by cases hx; rfl⟩
theorem QI (N : Nat) (hN : N ≤ 1000000) (h20 : 100 ≤ N) {p : Aa} {m : Ad} (hp : Bl p) (hm : B6 p m) (s : Ae) : H5 N p m s = some (Bd p m s) := by
 unfold H5 Bd
 rw [QP]
 simp only [oS]
 cases hv : HG s
 ·rw [yV, AU, if_pos rfl]; rfl
 ·rw [zY, Ao, if_neg (by simp), Pv N p s hv]
  simp only [oS]
  cases hx : GQ p s
  ·rw [yV, AU, if_pos rfl]; rfl
  ·rw [zY, Ao, if_neg (by simp)]
   obtain ⟨o, e, ho⟩ := Nf N hN h20 hp hm hv hx
   rw [e]
   simp only [oS]
   cases ha : GP p m s with
   | none => rfl
   | some x => rw [ho x ha]; rfl
theorem NS (N : Nat) (hN : N ≤ 1000000) (h20 : 100 ≤ N) {p : Aa} {m : Ad} (hp : Bl p) (hm : B6 p m) {s : Ae} (hv : HG s = true) (hx : GQ p s = true) :
  Dj N p m s = some (match GP p m s with | none => (IP, false) | some x => (x, true)) := by
 obtain ⟨k1, k4, i0, v0, vk⟩ := Jn hv
 obtain ⟨x3, xn, x1⟩ := Kr hx
 have hnv := hp.nv
 have hnt := hp.nt
 have hb := hm.base
 have hn := hm.next
 have hh := hm.held
 obtain ⟨i, hi⟩ := zJ i0
 unfold Dj GP
 rw [Aw (by simp [Dz]; omega), Aw (by simp [Dz]; omega), Aw (by simp [Dz]; omega)]
 simp only [Bn, uG]
 by_cases hk1 : s.ff = 1
 ·have hi1 : (i : Int) < p.fb.length := by have := xn (by omega); omega
  rw [beq_iff_eq.2 hk1, AU, if_pos hk1]
  simp only [hi, zQ]
  rw [Dw (d := 0) (show i < m.fa.length by omega)]
  simp only [oS]
  by_cases c1 : 0 ≤ m.fa.getD i 0
  ·rw [AH c1, AU, if_pos (.inl c1)]; rfl
  ·rw [AB c1, Dw (d := 0) (show i < m.fd.length by omega)]
   simp only [oS]
   by_cases c2 : m.fd.getD i 0 = s.fo
   ·rw [beq_iff_eq.2 c2.symm, AU, if_pos (.inr c2)]; rfl
   ·rw [beq_eq_false_iff_ne.2 (fun h => c2 h.symm), Ao, PL N p s m.fe v0 hh (by omega) hN _, if_neg (by rintro (h | h); exact c1 h; exact c2 h)]
 ·rw [beq_eq_false_iff_ne.2 hk1, Ao, if_neg hk1]
  by_cases hk3 : s.ff = 3
  ·have hi3 : i < p.fc.length := by have := x3 hk3; omega
   have ht : p.fc[i]? = some p.fc[i] := by simp [hi3]
   have hin := KO (hp.tab _ (lM ht))
   have eh' : A4 m.fe (i : Int) = some (m.fe.getD i 0) := Dw (by omega)
   rw [beq_eq_false_iff_ne.2 (show s.ff ≠ 2 by omega), Ao, beq_iff_eq.2 hk3, AU, if_pos hk3, hi, AX, ht]
   simp only [oS, H6, zQ, ht]
   cases hs : Cd p.fc[i]
   ·rw [yV, AU, if_pos (.inl rfl)]; rfl
   ·rw [zY, Ao, LN N m _ hin.1 (by omega) (by omega) (hm.b0 _ (by omega)).1, eh']
    simp only [oS]
    by_cases h1 : m.fe.getD i 0 = H7 m (p.fc[i]).fg.toNat
    ·rw [beq_iff_eq.2 h1, AU, if_pos (.inr (.inl h1))]; rfl
    ·rw [beq_eq_false_iff_ne.2 h1, Ao]
     rw [Qa N hN h20 hp hm ht hs s hi]
     cases hst : JT p m i p.fc[i]
     ·rw [if_neg (by simp), if_neg (by rintro (h | h | h); cases h; exact h1 h; cases h)]
     ·rw [if_pos rfl, if_pos (.inr (.inr rfl))]
  ·have hi1 : (i : Int) < p.fb.length := by have := xn hk3; omega
   rw [if_neg hk3, hi, Dw (d := 0) (show i < m.fa.length by omega)]
   simp only [oS, zQ]
   by_cases hk2 : s.ff = 2
   ·rw [beq_iff_eq.2 hk2, AU, if_pos hk2]
    by_cases c1 : m.fa.getD i 0 < 0
    ·rw [AH c1, if_pos c1]; rfl
    ·rw [AB c1, if_neg c1, Dw (d := 0) (show i < m.fd.length by omega)]; rfl
   ·rw [beq_eq_false_iff_ne.2 hk2, Ao, beq_eq_false_iff_ne.2 hk3, Ao, if_neg hk2]
    by_cases c1 : m.fa.getD i 0 < 0
    ·rw [AH c1, if_pos c1]; rfl
    ·rw [AB c1, if_neg c1]
end Go.Lift
namespace Go.Lift
open Option renaming bind_some → oS
open List renaming mem_of_getElem? → lM
open List renaming getElem?_eq_some_iff → lI
open Go
theorem T8 (s : Ae) : ∀ (xs : List Am) (i : Nat) (a : List Int), i + xs.length ≤ a.length → (J4 (Wn s) i xs a).length = a.length ∧ ∀ q, (J4 (Wn s) i xs a).getD q 0 = match (if i ≤ q then xs[q - i]? else none) with
  | some t => if Vh s t = true then QE .u8 (a.getD q 0) (CX .u8 1 s.fo) else a.getD q 0
  | none => a.getD q 0
 | [], i, a, _ => by
  refine ⟨rfl, fun q => ?_⟩
  split
  ·rename_i h; split at h
   ·simp at h
   ·cases h
  ·rfl
 | x :: xs, i, a, hl => by
  have hl' : i + (xs.length + 1) ≤ a.length := by simpa using hl
  have ha : (Wn s i x a).length = a.length := by unfold Wn; split <;> simp
  obtain ⟨ih1, ih2⟩ := T8 s xs (i + 1) (Wn s i x a) (by omega)
  refine ⟨by rw [J4, ih1, ha], fun q => ?_⟩
  rw [J4, ih2 q]
  have hu : (Wn s i x a).getD q 0 = if q = i ∧ Vh s x = true then QE .u8 (a.getD q 0) (CX .u8 1 s.fo) else a.getD q 0 := by
   unfold Wn
   by_cases hc : Vh s x = true
   ·rw [if_pos hc, Ku (by omega)]
    by_cases hq : q = i
    ·subst hq; rw [if_pos rfl, if_pos ⟨rfl, hc⟩]
    ·rw [if_neg hq, if_neg (fun h => hq h.1)]
   ·rw [if_neg hc, if_neg (fun h => hc h.2)]
  by_cases h1 : i + 1 ≤ q
  ·rw [if_pos h1, if_pos (show i ≤ q by omega), hu, if_neg (by omega)]
   rw [show (x :: xs)[q - i]? = xs[q - (i + 1)]? from by rw [show q - i = (q - (i + 1)) + 1 from by omega, List.getElem?_cons_succ]]
  ·rw [if_neg h1]
   by_cases h2 : q = i
   ·subst h2
    rw [if_pos (zK _), uZ, hu]
    simp
   ·rw [if_neg (show ¬ i ≤ q by omega), hu, if_neg (by omega)]
theorem Wg {p : Aa} {s : Ae} {held : List Int} (hl : held.length = p.fc.length) : (KD p s held).length = p.fc.length ∧ ∀ q t, p.fc[q]? = some t → (KD p s held).getD q 0 = if Vh s t = true then QE .u8 (held.getD q 0) (CX .u8 1 s.fo) else held.getD q 0 := by
 obtain ⟨h1, h2⟩ := T8 s p.fc 0 held (by omega)
 refine ⟨h1.trans hl, fun q t ht => ?_⟩
 have := h2 q
 rw [if_pos (zL _), Nat.sub_zero, ht] at this
 exact this
theorem Px {m : Ad} {s v : Nat} : J8 m s v = true ↔ m.fd.getD s 0 = (v : Int) ∨ m.fa.getD s 0 = (v : Int) := by
 unfold J8; rw [xJ, decide_eq_true_iff, decide_eq_true_iff]
theorem WU {p : Aa} {m x : Ad} (hp : Bl p) (hm : B6 p m) {s : Ae} (hv : HG s = true) (hx : GQ p s = true) (h : GP p m s = some x) : B6 p x := by
 obtain ⟨k1, k4, i0, v0, vk⟩ := Jn hv
 obtain ⟨x3, xn, x1⟩ := Kr hx
 obtain ⟨i, hi⟩ := zJ i0
 have hb := hm.base
 have hn := hm.next
 have hh := hm.held
 unfold GP at h
 simp only [hi, zQ] at h
 rw [hi, zQ] at x1
 split at h
 ·rename_i hk1
  have hi1 : i < p.fb.length := by have := xn (by omega); omega
  have hx1 := x1 hk1
  have hvi := JQ hp hi1
  split at h
  ·cases h
  rename_i hc
  cases h
  obtain ⟨u1, u2⟩ := Wg (s := s) hh
  obtain ⟨b, hbv⟩ := zJ v0
  have hob := Zk (b := b) (by omega)
  have hN : ∀ q, (m.fa.set i s.fo).getD q 0 = if q = i then s.fo else m.fa.getD q 0 := fun q => Ku (by omega)
  refine { base := hb, next := by simpa using hn, held := u1, b0 := hm.b0, n0 := fun q hq => ?_, ne := fun q hq => ?_, range := fun q hq => ?_, low := fun q t ht hs v hr => ?_, high := fun q t ht hs v hbit => ?_, none := fun q t ht hs => ?_ }
  ·show -1 ≤ (m.fa.set i s.fo).getD q 0 ∧ (m.fa.set i s.fo).getD q 0 < _
   rw [hN q]
   split
   ·rename_i e; subst e; omega
   ·exact hm.n0 q hq
  ·show m.fd.getD q 0 ≠ (m.fa.set i s.fo).getD q 0
   rw [hN q]
   split
   ·rename_i e; subst e; exact fun h => hc (.inr h)
   ·exact hm.ne q hq
  ·have ht : p.fc[q]? = some p.fc[q] := by simp [hq]
   show 0 ≤ (KD p s m.fe).getD q 0 ∧ (KD p s m.fe).getD q 0 ≤ 255
   rw [u2 q _ ht, hbv]
   split
   ·exact (Uy (hm.range q hq) hob.2).2
   ·exact hm.range q hq
  ·have hq := (lI.1 ht).1
   show EJ ((KD p s m.fe).getD q 0) v = true
   have hin := KO (hp.tab t (lM ht))
   rw [Px] at hr
   have hr : m.fd.getD t.fg.toNat 0 = (v : Int) ∨ (m.fa.set i s.fo).getD t.fg.toNat 0 = (v : Int) := hr
   rw [hN] at hr
   rw [u2 q t ht, hbv]
   have hlow := hm.low q t ht hs v
   rw [Px] at hlow
   by_cases hf : t.fg.toNat = i
   ·have hup : Vh s t = true := by unfold Vh; rw [hs, vT, beq_iff_eq, hi]; omega
    rw [if_pos hup, (Uy (hm.range q hq) hob.2).1, hob.1 v, xJ, decide_eq_true_iff]
    rw [if_pos hf] at hr
    rcases hr with h | h
    ·exact .inl (hlow (.inl h))
    ·right; omega
   ·rw [if_neg hf] at hr
    have hup : Vh s t = false := by unfold Vh; rw [hs, vT, beq_eq_false_iff_ne, hi]; omega
    rw [hup, if_neg (by simp)]
    exact hlow hr
  ·have hq := (lI.1 ht).1
   have hbit : EJ ((KD p s m.fe).getD q 0) v = true := hbit
   have hin := KO (hp.tab t (lM ht))
   rw [u2 q t ht, hbv] at hbit
   split at hbit
   ·rename_i hup
    rw [(Uy (hm.range q hq) hob.2).1, hob.1 v, xJ, decide_eq_true_iff] at hbit
    rcases hbit with h | h
    ·exact hm.high q t ht hs v h
    ·unfold Vh at hup
     rw [hs, vT, beq_iff_eq, hi] at hup
     rw [hup, zQ]; omega
   ·exact hm.high q t ht hs v hbit
  ·show (KD p s m.fe).getD q 0 = 0
   have hup : Vh s t = false := by unfold Vh; rw [hs, Bool.and_false]
   rw [u2 q t ht, hup, if_neg (by simp)]
   exact hm.none q t ht hs
 ·rename_i hk1
  split at h
  ·rename_i hk3
   have hi3 : i < p.fc.length := by have := x3 hk3; omega
   have ht0 : p.fc[i]? = some p.fc[i] := by simp [hi3]
   rw [ht0] at h
   simp only at h
   split at h
   ·cases h
   rename_i hc
   cases h
   have hin0 := KO (hp.tab _ (lM ht0))
   have hr0 := JN hp hm.toMixServ (s := (p.fc[i]).fg.toNat) (by omega)
   have hs0 : Cd p.fc[i] = true := by
    cases hs : Cd p.fc[i]
    ·exact (hc (.inl hs)).elim
    ·rfl
   have hH : ∀ q, (m.fe.set i (H7 m (p.fc[i]).fg.toNat)).getD q 0 = if q = i then H7 m (p.fc[i]).fg.toNat else m.fe.getD q 0 := fun q => Ku (by omega)
   refine { base := hb, next := hn, held := by simpa using hh, b0 := hm.b0, n0 := hm.n0, ne := hm.ne, range := fun q hq => ?_, low := fun q t ht hs v hr => ?_, high := fun q t ht hs v hbit => ?_, none := fun q t ht hs => ?_ }
   ·show 0 ≤ (m.fe.set i (H7 m (p.fc[i]).fg.toNat)).getD q 0 ∧ (m.fe.set i (H7 m (p.fc[i]).fg.toNat)).getD q 0 ≤ 255
    rw [hH q]
    split
    ·exact hr0.2
    ·exact hm.range q hq
   ·show EJ ((m.fe.set i (H7 m (p.fc[i]).fg.toNat)).getD q 0) v = true
    have hr : J8 m t.fg.toNat v = true := hr
    rw [hH q]
    split
    ·rename_i e; subst e
     rw [ht0] at ht; cases ht
     rw [hr0.1]; exact hr
    ·exact hm.low q t ht hs v hr
   ·have hbit : EJ ((m.fe.set i (H7 m (p.fc[i]).fg.toNat)).getD q 0) v = true := hbit
    rw [hH q] at hbit
    split at hbit
    ·rename_i e; subst e
     rw [ht0] at ht; cases ht
     rw [hr0.1] at hbit
     exact hm.high q _ ht0 hs0 v (hm.low q _ ht0 hs0 v hbit)
    ·exact hm.high q t ht hs v hbit
   ·show (m.fe.set i (H7 m (p.fc[i]).fg.toNat)).getD q 0 = 0
    rw [hH q, if_neg (fun e => by subst e; rw [ht0] at ht; cases ht; rw [hs0] at hs; cases hs)]
    exact hm.none q t ht hs
  ·rename_i hk3
   have hi1 : i < p.fb.length := by have := xn hk3; omega
   have hvi := JQ hp hi1
   split at h
   ·cases h
   rename_i hc
   cases h
   have hN : ∀ q, (m.fa.set i (-1)).getD q 0 = if q = i then -1 else m.fa.getD q 0 := fun q => Ku (by omega)
   have hB : ∀ q, (if s.ff = 2 then m.fd.set i (m.fa.getD i 0) else m.fd).getD q 0 = if s.ff = 2 ∧ q = i then m.fa.getD i 0 else m.fd.getD q 0 := fun q => by
    by_cases hk2 : s.ff = 2
    ·rw [if_pos hk2, Ku (by omega)]
     by_cases e : q = i
     ·rw [if_pos e, if_pos ⟨hk2, e⟩]
     ·rw [if_neg e, if_neg (fun h => e h.2)]
    ·rw [if_neg hk2, if_neg (fun h => hk2 h.1)]
   have hrun : ∀ q v, J8 ⟨if s.ff = 2 then m.fd.set i (m.fa.getD i 0) else m.fd, m.fa.set i (-1), m.fe⟩ q v = true → J8 m q v = true := fun q v hr => by
    rw [Px] at hr ⊢
    simp only [hN q, hB q] at hr
    by_cases e : q = i
    ·subst e
     rw [if_pos rfl] at hr
     by_cases hk2 : s.ff = 2
     ·rw [if_pos ⟨hk2, rfl⟩] at hr; omega
     ·rw [if_neg (fun h => hk2 h.1)] at hr; omega
    ·rw [if_neg e, if_neg (fun h => e h.2)] at hr; exact hr
   refine { base := by simp only; split <;> simp [hb], next := by simpa using hn, held := hh, b0 := fun q hq => ?_, n0 := fun q hq => ?_, ne := fun q hq => ?_, range := hm.range, low := fun q t ht hs v hr => hm.low q t ht hs v (hrun _ _ hr), high := hm.high, none := hm.none }
   ·simp only [hB q]
    split
    ·rename_i e; obtain ⟨_, e⟩ := e; subst e
     have := hm.n0 q hq
     omega
    ·exact hm.b0 q hq
   ·simp only [hN q]
    split
    ·rename_i e; subst e; omega
    ·exact hm.n0 q hq
   ·simp only [hB q, hN q]
    have h1 := hm.b0 q hq
    by_cases e : q = i
    ·rw [if_pos e]
     split
     ·rename_i e2; obtain ⟨_, e2⟩ := e2; subst e2; omega
     ·omega
    ·rw [if_neg e, if_neg (fun h => e h.2)]; exact hm.ne q hq
theorem Sd (N : Nat) (hN : N ≤ 1000000) (h20 : 100 ≤ N) {p : Aa} {m : Ad} (hw : OH M1 m.fe) (s : Ae) : Fn N p m s = some (if GU p m = 0 then Bd p m s else (IP, GU p m)) := by
 unfold Fn Bd
 rw [Km N p m hN (by omega)]
 simp only [oS, Bn]
 by_cases hval : GU p m = 0
 ·obtain ⟨hp, hm⟩ := Lf hw hval
  rw [if_pos hval, hval, bne_self_eq_false, Ao, Sm]
  simp only [oS]
  cases hv : HG s
  ·rw [yV, AU, if_pos rfl]; rfl
  ·rw [zY, Ao, if_neg (by simp)]
   obtain ⟨k1, k4, i0, v0, vk⟩ := Jn hv
   have key : ∀ b : Bool, GQ p s = b → (if b = false then (IP, (4 : Int)) else match GP p m s with | none => (IP, 11) | some x => (x, 0)) = (if b = false then (IP, (4 : Int)) else match GP p m s with | none => (IP, 11) | some x => (x, 0)) := fun _ _ => rfl
   have tail : GQ p s = true → ((Dj N p m s).bind fun v15 => AR (!v15.2) (some (Ad.mk [] [] [], (11 : Int))) (some (v15.1, 0))) = some (match GP p m s with | none => (IP, 11) | some x => (x, 0)) := fun hx => by
    rw [NS N hN h20 hp hm hv hx]
    cases GP p m s <;> rfl
   have zz : (Ad.mk [] [] [], (4 : Int)) = (IP, 4) := rfl
   by_cases hk3 : s.ff = 3
   ·rw [beq_iff_eq.2 hk3, AU, show (s.ff != 3) = false from by rw [hk3]; rfl]
    have hX : GQ p s = decide (s.fh < (p.fc.length : Int)) := by unfold GQ; rw [if_pos hk3]
    by_cases c : (p.fc.length : Int) ≤ s.fh
    ·rw [AH c, AU, hX, decide_eq_false (by omega), if_pos rfl]; rfl
    ·have hx : GQ p s = true := by rw [hX, decide_eq_true (by omega)]
     rw [AB c, Ao, Ao, beq_eq_false_iff_ne.2 (show s.ff ≠ 1 by omega), Ao, Ao, hx, if_neg (by simp)]
     exact tail hx
   ·rw [beq_eq_false_iff_ne.2 hk3, Ao, bne_iff_ne.2 hk3, AU]
    have hX : GQ p s = (decide (s.fh < (p.fb.length : Int)) && (s.ff != 1 || decide (s.fo < p.fb.getD s.fh.toNat 0))) := by unfold GQ; rw [if_neg hk3]
    by_cases c : (p.fb.length : Int) ≤ s.fh
    ·rw [decide_eq_true c, AU, hX, decide_eq_false (show ¬ s.fh < (p.fb.length : Int) by omega), vM, if_pos rfl]; rfl
    ·rw [decide_eq_false c, Ao]
     by_cases hk1 : s.ff = 1
     ·rw [beq_iff_eq.2 hk1, AU, EQ (d := 0) i0 (by omega)]
      simp only [oS]
      by_cases c2 : p.fb.getD s.fh.toNat 0 ≤ s.fo
      ·rw [decide_eq_true c2, AU, hX, decide_eq_false (show ¬ s.fo < p.fb.getD s.fh.toNat 0 by omega), show (s.ff != 1) = false from by rw [hk1]; rfl, vF, Bool.and_false, if_pos rfl]; rfl
      ·have hx : GQ p s = true := by rw [hX, decide_eq_true (by omega), decide_eq_true (by omega), zA0]; rfl
       rw [decide_eq_false c2, Ao, hx, if_neg (by simp)]
       exact tail hx
     ·have hx : GQ p s = true := by rw [hX, decide_eq_true (by omega), bne_iff_ne.2 hk1]; rfl
      rw [beq_eq_false_iff_ne.2 hk1, Ao, Ao, hx, if_neg (by simp)]
      exact tail hx
 ·rw [if_neg hval, bne_iff_ne.2 hval, AU]; rfl
theorem QO (N : Nat) (hN : N ≤ 1000000) (h20 : 100 ≤ N) {p : Aa} {m : Ad} (hw : OH M1 m.fe) (s : Ae) : Ia N p m s = some (if GU p m = 0 then Bd p m s else (IP, GU p m)) := by
 unfold Ia
 rw [Ka N p m hN (by omega) hw]
 simp only [oS]
 by_cases hval : GU p m = 0
 ·obtain ⟨hp, hm⟩ := Lf hw hval
  rw [if_pos hval, hval, bne_self_eq_false, Ao, QI N hN h20 hp hm s]; rfl
 ·rw [if_neg hval, bne_iff_ne.2 hval, AU]; rfl
theorem MK {p : Aa} {m : Ad} (hp : Bl p) (hm : B6 p m) {s : Ae} (h : (Bd p m s).2 = 0) : B6 p (Bd p m s).1 := by
 unfold Bd at h ⊢
 split at h
 ·cases h
 rename_i h1
 rw [if_neg h1]
 split at h
 ·cases h
 rename_i h2
 rw [if_neg h2]
 cases ha : GP p m s with
 | none => rw [ha] at h; cases h
 | some x => exact WU hp hm (by simpa using h1) (by simpa using h2) ha
end Go.Lift
namespace Go.Lift
open Go
section
variable {N : Nat} {p : Aa} {l : List Ae}
end
end Go.Lift
namespace Go.Lift
open Go
def Or (p : Aa) (m : Ad) (s : Ae) : Option Ad := if (Bd p m s).2 = 0 ∧ s.ff ≠ 4 ∧ BG p (Bd p m s).1 = true then some (Bd p m s).1 else none
def Pw (p : Aa) : Ad → List Ae → Option Ad
 | m, [] => some m
 | m, s :: l => (Or p m s).bind fun x => Pw p x l
def Ou (p : Aa) (m : Ad) (l : List Ae) : Bool := match Pw p m l with
 | some x => IY p x
 | none => false
theorem V0 {p : Aa} {m x : Ad} {s : Ae} : Or p m s = some x ↔ HG s = true ∧ GQ p s = true ∧ GP p m s = some x ∧ s.ff ≠ 4 ∧ BG p x = true := by
 unfold Or Bd
 cases h1 : HG s
 ·simp
 cases h2 : GQ p s
 ·simp
 cases h3 : GP p m s with
 | none => simp
 | some y =>
  simp only [Bool.true_eq_false, if_false, true_and, Option.some.injEq]
  constructor
  ·intro h
   split at h
   ·rename_i hc; cases h; exact ⟨rfl, hc.1, hc.2⟩
   ·cases h
  ·rintro ⟨rfl, h4, h5⟩
   rw [if_pos ⟨h4, h5⟩]
theorem Rv {p : Aa} {m : Ad} {l : List Ae} (h : Ou p m l = true) : ∃ x, Pw p m l = some x ∧ IY p x = true := by
 unfold Ou at h
 cases hr : Pw p m l with
 | none => rw [hr] at h; cases h
 | some x => rw [hr] at h; exact ⟨x, rfl, h⟩
end Go.Lift
namespace Go.Lift
open IntKind renaming wrap → wI
open Option renaming bind_some → oS
open List renaming getElem?_eq_some_iff → lI
open List renaming getD_eq_getElem?_getD → lD
open Go
def Hw (m : Ad) (i : Nat) (b : Int) : List Int := [wI .u8 b, wI .u8 (wI .i64 (m.fa.getD i 0 + 1))]
def Mm (m : Ad) : List Int := C1 (Hw m) 0 m.fd ++ m.fe
theorem XO (N : Nat) (hN : N ≤ 1000000) (h20 : 100 ≤ N) {p : Aa} {m : Ad} (hp : Bl p) (hm : B6 p m) : IE N m = some (C2 (Mm m)) := by
 have hnv := hp.nv
 have hnt := hp.nt
 have hb := hm.base
 have hn := hm.next
 have hh := hm.held
 unfold IE
 have e1 : wI .i64 (2 * (m.fd.length : Int)) = 2 * (m.fd.length : Int) := C3 (by omega) (by omega)
 rw [e1, C3 (n := 2 * (m.fd.length : Int) + (m.fe.length : Int)) (by omega) (by omega), Aw ⟨Int.le_refl 0, by omega, by simp only [Dz]; omega⟩]
 have l1 := Gl (Fs N m fun v3 => Es N m (fun v9 => some (C2 v9)) N (v3, 0)) (fun a i => (a, i)) m.fd (fun v3 => Es N m (fun v9 => some (C2 v9)) N (v3, 0)) (Hw m) 2 100
  (fun i x hx => by simp [Hw])
  (fun n i x a hx hl => by
   have hi := (lI.1 hx).1
   rw [Fs, AH (by simp only; omega)]
   simp only [AX, hx, oS, AI (show i < 1000000 by omega)]
   have e2 : m.fa[i]? = some (m.fa.getD i 0) := by rw [lD]; simp [show i < m.fa.length by omega]
   rw [e2]
   simp only [oS]
   rw [Aw (by simp [Dz]; simp [Hw] at hl; omega)]
   rfl)
  (fun n a => by rw [Fs, AB (by simp)]) N [] (by omega) (by simp; omega)
 have l1' : Fs N m (fun v3 => Es N m (fun v9 => some (C2 v9)) N (v3, 0)) N (zG (0 : Int).toNat (0 : Int), 0) = _ := l1
 rw [l1', uG]
 have hfl : (C1 (Hw m) 0 m.fd).length ≤ 2 * m.fd.length := GO fun j x hx => by simp [Hw]
 have l2 := Gl (Es N m fun v9 => some (C2 v9)) (fun a i => (a, i)) m.fe (fun v9 => some (C2 v9)) (fun _ x => [x]) 1 100
  (fun i x hx => by simp)
  (fun n i x a hx hl => by
   have hi := (lI.1 hx).1
   rw [Es, AH (by simp only; omega)]
   simp only [AX, hx, oS, AI (show i < 1000000 by omega)]
   rw [Aw (by simp [Dz]; simp at hl; omega)])
  (fun n a => by rw [Es, AB (by simp)]) N (C1 (Hw m) 0 m.fd) (by omega) (by omega)
 have e3 : ∀ (i : Nat) (l : List Int), C1 (fun _ (x : Int) => [x]) i l = l := by
  intro i l
  induction l generalizing i with
  | nil => rfl
  | cons x l ih => rw [C1, ih]; rfl
 refine l2.trans ?_
 rw [e3]; rfl
theorem UD (xs : List Int) : ∀ b : ByteArray, (xs.foldl (fun s n => s.push (UInt8.ofNat n.toNat)) b).data.toList = b.data.toList ++ xs.map fun n => UInt8.ofNat n.toNat := by
 induction xs with
 | nil => intro b; simp
 | cons x xs ih => intro b; rw [List.foldl_cons, ih]; simp [ByteArray.push]
theorem NJ (xs : List Int) : (C2 xs).data.toList = xs.map fun n => UInt8.ofNat n.toNat := by
 unfold C2
 rw [UD]; rfl
theorem aE {a b : Int} (ha : 0 ≤ a ∧ a ≤ 255) (hb : 0 ≤ b ∧ b ≤ 255) (h : UInt8.ofNat a.toNat = UInt8.ofNat b.toNat) : a = b := by
 have := congrArg UInt8.toNat h
 simp at this
 omega
theorem Qg : ∀ {xs ys : List Int}, (∀ x, x ∈ xs → 0 ≤ x ∧ x ≤ 255) → (∀ x, x ∈ ys → 0 ≤ x ∧ x ≤ 255) → (xs.map fun n => UInt8.ofNat n.toNat) = (ys.map fun n => UInt8.ofNat n.toNat) → xs = ys
 | [], [], _, _, _ => rfl
 | [], _ :: _, _, _, h => by cases h
 | _ :: _, [], _, _, h => by cases h
 | x :: xs, y :: ys, hx, hy, h => by
  rw [yG, yG, List.cons.injEq] at h
  rw [aE (hx x (by simp)) (hy y (by simp)) h.1, Qg (fun z hz => hx z (xR _ hz)) (fun z hz => hy z (xR _ hz)) h.2]
theorem TI {xs ys : List Int} (hx : ∀ x, x ∈ xs → 0 ≤ x ∧ x ≤ 255) (hy : ∀ x, x ∈ ys → 0 ≤ x ∧ x ≤ 255) (h : (C2 xs == C2 ys) = true) : xs = ys := by
 rw [K3, beq_iff_eq] at h
 have h := congrArg Array.toList h
 rw [NJ, NJ] at h
 exact Qg hx hy h
theorem Sg (xs : List Int) : (C2 xs == C2 xs) = true := by rw [K3]; simp
theorem Rj {α β : Type} {g h : Nat → α → List β} {c : Nat} : ∀ {i : Nat} {xs ys : List α}, xs.length = ys.length → (∀ i x, (g i x).length = c) → (∀ i x, (h i x).length = c) → C1 g i xs = C1 h i ys → ∀ j x y, xs[j]? = some x → ys[j]? = some y → g (i + j) x = h (i + j) y
 | i, [], ys, _, _, _, _, j, x, y, hx, _ => by simp at hx
 | i, x :: xs, [], hl, _, _, _, _, _, _, _, _ => by simp at hl
 | i, x :: xs, y :: ys, hl, hg, hh, e, j, x', y', hx, hy => by
  rw [C1, C1] at e
  have e1 := List.append_inj e ((hg i x).trans (hh i y).symm)
  cases j with
  | zero => simp at hx hy; subst hx; subst hy; exact e1.1
  | succ j =>
   have := Rj (i := i + 1) (by simpa using hl) hg hh e1.2 j x' y' (by simpa using hx) (by simpa using hy)
   rwa [show i + 1 + j = i + (j + 1) from by omega] at this
theorem RO {p : Aa} {m : Ad} (_hp : Bl p) (hm : B6 p m) : ∀ x, x ∈ Mm m → 0 ≤ x ∧ x ≤ 255 := by
 intro x hx
 unfold Mm at hx
 rcases yB.1 hx with h | h
 ·obtain ⟨j, b, hb, hk⟩ := HK.1 h
  have hw : ∀ n : Int, 0 ≤ wI .u8 n ∧ wI .u8 n ≤ 255 := fun n => by
   simp [wI, IntKind.signed, IntKind.bits]; omega
  unfold Hw at hk
  rcases yJ.1 hk with e | e
  ·subst e; exact hw _
  ·rcases yJ.1 e with e | e
   ·subst e; exact hw _
   ·cases e
 ·obtain ⟨j, hj⟩ := zS.1 h
  have hl := (lI.1 hj).1
  have := hm.range j (by rw [← hm.held]; exact hl)
  rw [lD, hj] at this
  exact this
theorem Js {n : Int} (h : 0 ≤ n ∧ n ≤ 255) : wI .u8 n = n := by
 simp [wI, IntKind.signed, IntKind.bits]; omega
theorem YV {p : Aa} {m x : Ad} (hp : Bl p) (hm : B6 p m) (hx : B6 p x) (h : (C2 (Mm m) == C2 (Mm x)) = true) : m = x := by
 have e := TI (RO hp hm) (RO hp hx) h
 unfold Mm at e
 have hbl : m.fd.length = x.fd.length := hm.base.trans hx.base.symm
 have hfl : ∀ y : Ad, (C1 (Hw y) 0 y.fd).length = 2 * y.fd.length := fun y => by
  have : ∀ (i : Nat) (l : List Int), (C1 (Hw y) i l).length = 2 * l.length := by
   intro i l
   induction l generalizing i with
   | nil => rfl
   | cons b l ih => rw [C1, zT, ih, yC]; simp [Hw]; omega
  exact this 0 _
 obtain ⟨e1, e2⟩ := List.append_inj e (by rw [hfl, hfl, hbl])
 have key : ∀ j, j < p.fb.length → m.fd.getD j 0 = x.fd.getD j 0 ∧ m.fa.getD j 0 = x.fa.getD j 0 := fun j hj => by
  have h1 : m.fd[j]? = some (m.fd.getD j 0) := by rw [lD]; simp [hm.base, hj]
  have h2 : x.fd[j]? = some (x.fd.getD j 0) := by rw [lD]; simp [hx.base, hj]
  have h3 := Rj (c := 2) hbl (fun _ _ => by simp [Hw]) (fun _ _ => by simp [Hw]) e1 j _ _ h1 h2
  rw [zC] at h3
  have v := JQ hp hj
  have b1 := hm.b0 j hj
  have b2 := hx.b0 j hj
  have n1 := hm.n0 j hj
  have n2 := hx.n0 j hj
  unfold Hw at h3
  rw [C3 (n := m.fa.getD j 0 + 1) (by omega) (by omega), C3 (n := x.fa.getD j 0 + 1) (by omega) (by omega), Js (n := m.fd.getD j 0) (by omega), Js (n := x.fd.getD j 0) (by omega), Js (n := m.fa.getD j 0 + 1) (by omega), Js (n := x.fa.getD j 0 + 1) (by omega), List.cons.injEq, List.cons.injEq] at h3
  exact ⟨h3.1, by omega⟩
 have hB : m.fd = x.fd := GE hbl fun q hq => (key q (by rw [← hm.base]; exact hq)).1
 have hN : m.fa = x.fa := GE (hm.next.trans hx.next.symm) fun q hq => (key q (by rw [← hm.next]; exact hq)).2
 cases m; cases x
 simp only at hB hN e2
 rw [hB, hN, e2]
end Go.Lift
namespace Go.Lift
open Option renaming bind_some → oS
open List renaming mem_of_getElem? → lM
open List renaming getElem?_eq_some_iff → lI
open Go
def KR (i : Nat) (n : Int) : List Ae := (zN n.toNat).map fun v => ⟨1, (i : Int), ((v : Nat) : Int), ⟩
def Ft (p : Aa) : List Ae := C1 KR 0 p.fb ++ ((zN p.fb.length).map fun i => (⟨2, ((i : Nat) : Int), 0⟩ : Ae)) ++ ((zN p.fc.length).map fun i => (⟨3, ((i : Nat) : Int), 0⟩ : Ae))
def GM (p : Aa) (m : Ad) : List Ae := (Ft p).filter fun s => (Bd p m s).2 == 0
theorem U5 {p : Aa} (hp : Bl p) : (Ft p).length ≤ 54 := by
 have h1 : (C1 KR 0 p.fb).length ≤ 6 * p.fb.length := GO fun j x hx => by
  have := hp.ver x (lM hx)
  simp [KR]; omega
 have := hp.nv
 have := hp.nt
 unfold Ft
 simp only [zT, zO, uC]
 omega
theorem Tx (N : Nat) (hN : N ≤ 1000000) (h20 : 100 ≤ N) {p : Aa} (hp : Bl p) : JD N p = some (Ft p) := by
 have hnv := hp.nv
 have hnt := hp.nt
 unfold JD
 have l1 := Gl (DS N p fun v2 => CE N p (fun v10 => BC N p (fun v14 => some v14) N (v10, 0)) N (v2, 0)) (fun a i => (a, i)) p.fb (fun v2 => CE N p (fun v10 => BC N p (fun v14 => some v14) N (v10, 0)) N (v2, 0)) KR 6 100
  (fun i x hx => by have := hp.ver x (lM hx); simp [KR]; omega)
  (fun n i x a hx hl => by
   have hi := (lI.1 hx).1
   have hx6 := hp.ver x (lM hx)
   obtain ⟨k, hk⟩ := zJ (show 0 ≤ x by omega)
   rw [DS, AH (by simp only; omega)]
   simp only [AX, hx, oS, AI (show i < 1000000 by omega)]
   subst hk
   obtain ⟨a', e, ha⟩ := F3 (FA N (a, (i : Int)) (k : Int) fun v6 => DS N p (fun v2 => CE N p (fun v10 => BC N p (fun v14 => some v14) N (v10, 0)) N (v2, 0)) n (v6, ((i + 1 : Nat) : Int))) (fun b v => (b, v)) k (fun v6 => DS N p (fun v2 => CE N p (fun v10 => BC N p (fun v14 => some v14) N (v10, 0)) N (v2, 0)) n (v6, ((i + 1 : Nat) : Int)))
    (fun v b => b = a ++ (zN v).map fun v => (⟨1, (i : Int), ((v : Nat) : Int)⟩ : Ae))
    (fun n v b hv hb => by
     subst hb
     rw [FA, AH (by simp only; omega), Aw (by simp [Dz]; simp [KR] at hl; omega), AI (by omega)]
     exact ⟨_, rfl, by rw [xX, xC, yO]; rfl⟩)
    (fun n b hb => by rw [FA, AB (by simp)]) N 0 a (zL _) (by omega) (by simp)
   have e' : FA N (a, (i : Int)) (k : Int) (fun v6 => DS N p (fun v2 => CE N p (fun v10 => BC N p (fun v14 => some v14) N (v10, 0)) N (v2, 0)) n (v6, ((i + 1 : Nat) : Int))) N (a, 0) = _ := e
   rw [e', ha]; rfl)
  (fun n a => by rw [DS, AB (by simp)]) N [] (by omega) (by simp; omega)
 have l1' : DS N p (fun v2 => CE N p (fun v10 => BC N p (fun v14 => some v14) N (v10, 0)) N (v2, 0)) N (([] : List Ae), 0) = _ := l1
 rw [l1', uG]
 have hA : (C1 KR 0 p.fb).length ≤ 6 * p.fb.length := GO fun j x hx => by
  have := hp.ver x (lM hx)
  simp [KR]; omega
 generalize hAe : C1 KR 0 p.fb = A at hA
 obtain ⟨b', e2, hb⟩ := F3 (CE N p fun v10 => BC N p (fun v14 => some v14) N (v10, 0)) (fun b v => (b, v)) p.fb.length (fun v10 => BC N p (fun v14 => some v14) N (v10, 0))
  (fun v b => b = A ++ (zN v).map fun i => (⟨2, ((i : Nat) : Int), 0⟩ : Ae))
  (fun n v b hv hb => by
   subst hb
   rw [CE, AH (by simp only; omega), Aw (by simp [Dz]; omega), AI (by omega)]
   exact ⟨_, rfl, by rw [xX, xC, yO]; rfl⟩)
  (fun n b hb => by rw [CE, AB (by simp)]) N 0 A (zL _) (by omega) (by simp)
 have e2' : CE N p (fun v10 => BC N p (fun v14 => some v14) N (v10, 0)) N (A, 0) = _ := e2
 rw [e2', hb]
 generalize hBe : A ++ (zN p.fb.length).map (fun i => (⟨2, ((i : Nat) : Int), 0⟩ : Ae)) = B
 have hB : B.length ≤ 50 := by rw [← hBe]; simp; omega
 obtain ⟨c', e3, hc⟩ := F3 (BC N p fun v14 => some v14) (fun b v => (b, v)) p.fc.length (fun v14 => some v14)
  (fun v b => b = B ++ (zN v).map fun i => (⟨3, ((i : Nat) : Int), 0⟩ : Ae))
  (fun n v b hv hb => by
   subst hb
   rw [BC, AH (by simp only; omega), Aw (by simp [Dz]; omega), AI (by omega)]
   exact ⟨_, rfl, by rw [xX, xC, yO]; rfl⟩)
  (fun n b hb => by rw [BC, AB (by simp)]) N 0 B (zL _) (by omega) (by simp)
 have e3' : BC N p (fun v14 => some v14) N (B, 0) = _ := e3
 rw [e3', hc, ← hBe, ← hAe]; rfl
end Go.Lift
namespace Go.Lift
open Option renaming bind_some → oS
open List renaming mem_of_getElem? → lM
open List renaming getElem?_eq_some_iff → lI
open List renaming getD_eq_getElem?_getD → lD
open Go
theorem OO {p : Aa} (hp : Bl p) {s : Ae} (h : s ∈ Ft p) : HG s = true ∧ GQ p s = true := by
 have hnv := hp.nv
 unfold Ft at h
 rcases yB.1 h with h | h
 ·rcases yB.1 h with h | h
  ·obtain ⟨j, x, hx, hk⟩ := HK.1 h
   rw [zC] at hk
   unfold KR at hk
   obtain ⟨v, hv, rfl⟩ := zW.1 hk
   have hx6 := hp.ver x (lM hx)
   have hv := yY.1 hv
   have hj := (lI.1 hx).1
   refine ⟨by unfold HG; simp, ?_⟩
   unfold GQ
   have e : p.fb.getD j 0 = x := by rw [lD, hx]; rfl
   simp only
   rw [if_neg (by omega), decide_eq_true (by omega), zQ, e, decide_eq_true (by omega), zA0]; rfl
  ·obtain ⟨v, hv, rfl⟩ := zW.1 h
   have hv := yY.1 hv
   refine ⟨by unfold HG; simp, ?_⟩
   unfold GQ
   simp only
   rw [if_neg (by omega), decide_eq_true (by omega)]; rfl
 ·obtain ⟨v, hv, rfl⟩ := zW.1 h
  have hv := yY.1 hv
  refine ⟨by unfold HG; simp, ?_⟩
  unfold GQ
  simp only
  rw [if_pos trivial, decide_eq_true (by omega)]
theorem WP {p : Aa} {m : Ad} {s : Ae} (hv : HG s = true) (hx : GQ p s = true) : ((Bd p m s).2 == 0) = (GP p m s).isSome := by
 unfold Bd
 rw [hv, hx, if_neg (by simp), if_neg (by simp)]
 cases GP p m s <;> rfl
theorem TO (N : Nat) (hN : N ≤ 1000000) (h20 : 100 ≤ N) {p : Aa} {m : Ad} (hp : Bl p) (hm : B6 p m) {s : Ae} (h : s ∈ Ft p) :
  Eg N s p.fb p.fi p.fm p.fc m.fd m.fa m.fe = some (!((Bd p m s).2 == 0)) := by
 obtain ⟨hv, hx⟩ := OO hp h
 unfold Eg
 obtain ⟨o, e, _⟩ := Nf N hN h20 hp hm hv hx
 have e' : GF N ⟨p.fb, p.fi, p.fm, p.fc⟩ ⟨m.fd, m.fa, m.fe⟩ s = some (o, (GP p m s).isSome) := e
 rw [e', WP hv hx]; rfl
theorem UN (N : Nat) (hN : N ≤ 1000000) (a : List Ae) (f : Ae → Option Bool) (g : Ae → Bool) (h : a.length < N) (hf : ∀ x, x ∈ a → f x = some (g x)) :
  B0 N a f = some ((CY (fun i x => if g x = true then some (i : Int) else none) 0 a).getD (-1)) := by
 unfold B0
 have := Cn (Bc N a f fun _ => some (-1)) a (some (-1)) (fun i x => if g x = true then some (i : Int) else none)
  (fun n i x hx => by
   have hi := (lI.1 hx).1
   rw [Bc, AH (by omega), AX, hx]
   simp only [oS]
   rw [hf x (lM hx), AI (by omega)]
   simp only [oS]
   cases g x <;> rfl)
  (fun n => by rw [Bc, AB (by simp)]) N 0 (zL _) (by omega)
 refine this.trans ?_
 rw [zZ]
 cases CY (fun i x => if g x = true then some (i : Int) else none) 0 a <;> rfl
theorem QH {α : Type} {l : List α} {i : Nat} {v : α} (h : i < l.length) : (l.set i v).take (i + 1) = l.take i ++ [v] := by
 rw [yU, List.take_set_of_le (zK i)]
 congr 1
 simp [h]
theorem TL (N : Nat) (hN : N ≤ 1000000) (a : List Ae) (f : Ae → Option Bool) (g : Ae → Bool) (h : a.length < N) (h9 : a.length ≤ 1000) (hf : ∀ x, x ∈ a → f x = some (g x)) :
  ∃ X n, BW N a f = some (n, X) ∧ n ≤ X.length ∧ X.take n = a.filter fun x => !g x := by
 unfold BW
 rw [UN N hN a f g h hf]
 simp only [oS]
 cases hs : CY (fun i x => if g x = true then some (i : Int) else none) 0 a with
 | none =>
  refine ⟨a, a.length, rfl, zK _, ?_⟩
  rw [uH]
  symm
  rw [List.filter_eq_self]
  intro x hx
  obtain ⟨j, hj⟩ := zS.1 hx
  have := FE hs j x hj
  cases hg : g x
  ·rfl
  ·rw [hg] at this; cases this
 | some r =>
  obtain ⟨j, x, hx, hr⟩ := Em hs
  rw [zC] at hr
  split at hr
  ·rename_i hg
   cases hr
   have hj := (lI.1 hx).1
   have e0 : ((some (j : Int)).getD (-1) == (-1 : Int)) = false := beq_eq_false_iff_ne.2 (by simp only [yF]; omega)
   rw [e0, Ao]
   simp only [yF]
   rw [AI (by omega)]
   -- what lies before the first that goes is kept
   have hpre : (a.take (j + 1)).filter (fun x => !g x) = a.take j := by
    rw [yU, hx, xG]
    have h1 : (a.take j).filter (fun x => !g x) = a.take j := by
     rw [List.filter_eq_self]
     intro y hy
     obtain ⟨q, hq⟩ := zS.1 hy
     have hql := (lI.1 hq).1
     simp at hql
     rw [yH (by omega)] at hq
     cases hgy : g y
     ·rfl
     ·exfalso
      have : ∀ (xs : List Ae) (i j q : Nat) (y : Ae), CY (fun i x => if g x = true then some (i : Int) else none) i xs = some ((i + j : Nat) : Int) → q < j → xs[q]? = some y → g y = true → False := by
       intro xs
       induction xs with
       | nil => intro i j q y _ _ hq; simp at hq
       | cons z zs ih =>
        intro i j q y hs hqj hq hgy
        rw [Gi] at hs
        cases hz : g z
        ·rw [hz] at hs
         cases q with
         | zero => simp at hq; subst hq; rw [hz] at hgy; cases hgy
         | succ q =>
          cases j with
          | zero => omega
          | succ j => exact ih (i + 1) j q y (by rw [show i + 1 + j = i + (j + 1) from by omega]; exact hs) (by omega) (by simpa using hq) hgy
        ·rw [hz] at hs
         have hs : (some (i : Int)) = some ((i + j : Nat) : Int) := hs
         have := Option.some.inj hs
         omega
      exact this a 0 j q y (by rw [zC]; exact hs) (by omega) hq hgy
    rw [h1]
    simp [hg]
   obtain ⟨b, e, hb⟩ := F3 (AZ N f fun v4 => (Ej ((0 : Int) ≤ v4.2 ∧ (v4.2).toNat ≤ v4.1.length ∧ v4.1.length ≤ v4.1.length)).bind fun _ =>
     (Ej ((0 : Int) ≤ v4.2 ∧ 0 ≤ (v4.2).toNat ∧ (v4.2).toNat ≤ (Kd v4.1 ((v4.2).toNat) (zG ((v4.1.length - (v4.2).toNat)) ((Ae.mk 0 0 0)))).length)).bind fun _ =>
     some ((v4.2).toNat, Kd v4.1 ((v4.2).toNat) (zG ((v4.1.length - (v4.2).toNat)) ((Ae.mk 0 0 0)))))
    (fun (b : List Ae × Nat) i => (b.1, ((b.2 : Nat) : Int), i)) a.length (fun b => (Ej ((0 : Int) ≤ ((b.2 : Nat) : Int) ∧ (((b.2 : Nat) : Int)).toNat ≤ b.1.length ∧ b.1.length ≤ b.1.length)).bind fun _ =>
     (Ej ((0 : Int) ≤ ((b.2 : Nat) : Int) ∧ 0 ≤ (((b.2 : Nat) : Int)).toNat ∧ (((b.2 : Nat) : Int)).toNat ≤ (Kd b.1 ((((b.2 : Nat) : Int)).toNat) (zG ((b.1.length - (((b.2 : Nat) : Int)).toNat)) ((Ae.mk 0 0 0)))).length)).bind fun _ =>
     some ((((b.2 : Nat) : Int)).toNat, Kd b.1 ((((b.2 : Nat) : Int)).toNat) (zG ((b.1.length - (((b.2 : Nat) : Int)).toNat)) ((Ae.mk 0 0 0)))))
    (fun i b => b.1.length = a.length ∧ b.2 ≤ i ∧ b.1.drop i = a.drop i ∧ b.1.take b.2 = (a.take i).filter fun x => !g x)
    (fun n i b hi hb => by
     obtain ⟨b1, b2, b3, b4⟩ := hb
     rw [AZ, AH (by simp only; omega)]
     have hai : a[i]? = some a[i] := by simp [hi]
     have hbi : b.1[i]? = some a[i] := by
      have := congrArg (fun l => l[0]?) b3
      simp only [xF, xM] at this
      rw [this, hai]
     simp only [Bn, AX, hbi, oS]
     rw [hf a[i] (xK hi), AI (i := i) (by omega)]
     simp only [oS]
     have hnext : b.1.drop (i + 1) = a.drop (i + 1) := by
      have := congrArg (List.drop 1) b3
      rwa [List.drop_drop, List.drop_drop] at this
     cases hgi : g a[i]
     ·rw [yV, AU]
      have hbj : b.1[b.2]? = some b.1[b.2] := by simp [show b.2 < b.1.length from by omega]
      rw [hbj, AI (i := b.2) (by omega)]
      refine ⟨(b.1.set b.2 a[i], b.2 + 1), rfl, by simpa using b1, by simp only; omega, ?_, ?_⟩
      ·simp only
       rw [List.drop_set_of_lt (by omega), hnext]
      ·simp only
       rw [QH (by omega), b4, yU, hai, xG]
       simp [hgi]
     ·rw [zY, Ao]
      refine ⟨b, rfl, b1, by omega, hnext, ?_⟩
      rw [b4, yU, hai, xG]
      simp [hgi])
    (fun n b hb => by rw [AZ, AB (by simp [hb.1])]) N (j + 1) (a, j) (by omega) (by omega) ⟨rfl, by simp only; omega, rfl, hpre.symm⟩
   obtain ⟨b1, b2, b3, b4⟩ := hb
   have e' : AZ N f (fun v4 => (Ej ((0 : Int) ≤ v4.2 ∧ (v4.2).toNat ≤ v4.1.length ∧ v4.1.length ≤ v4.1.length)).bind fun _ =>
     (Ej ((0 : Int) ≤ v4.2 ∧ 0 ≤ (v4.2).toNat ∧ (v4.2).toNat ≤ (Kd v4.1 ((v4.2).toNat) (zG ((v4.1.length - (v4.2).toNat)) ((Ae.mk 0 0 0)))).length)).bind fun _ =>
     some ((v4.2).toNat, Kd v4.1 ((v4.2).toNat) (zG ((v4.1.length - (v4.2).toNat)) ((Ae.mk 0 0 0))))) N (a, (j : Int), ((j + 1 : Nat) : Int)) = _ := e
   rw [e']
   have hsl : (Kd b.1 b.2 (zG (b.1.length - b.2) (Ae.mk 0 0 0))).length = b.1.length := Kw (by rw [List.length_replicate]; omega)
   simp only [zQ]
   rw [Aw ⟨by omega, by omega, zK _⟩, Aw ⟨by omega, by omega, by rw [hsl]; omega⟩]
   refine ⟨_, _, rfl, by rw [hsl]; omega, ?_⟩
   unfold Kd
   rw [yO, List.take_append_of_le_length (by simp; omega), List.take_take, Nat.min_self, b4, uH]
  ·cases hr
theorem Um (N : Nat) (hN : N ≤ 1000000) (h20 : 100 ≤ N) {p : Aa} {m : Ad} (hv : B5 p = 0) (hm : B6 p m) : Hj N p m = some (GM p m, 0) := by
 obtain ⟨hp, _⟩ := Du hv
 unfold Hj
 rw [Ka N p m hN (by omega) (Nc hm), JC hv hm]
 simp only [oS, bne_self_eq_false, Ao]
 rw [Tx N hN h20 hp]
 simp only [oS]
 have hl := U5 hp
 obtain ⟨X, n, e, h1, h2⟩ := TL N hN (Ft p) (fun x => Eg N x p.fb p.fi p.fm p.fc m.fd m.fa m.fe) (fun s => !((Bd p m s).2 == 0)) (by omega) (by omega) (fun x hx => TO N hN h20 hp hm hx)
 rw [e]
 simp only [oS]
 rw [Aw h1, h2]
 unfold GM
 simp
theorem JB {β : Type} (g : Nat → List β) : ∀ n : Nat, C1 (fun i (_ : Nat) => g i) 0 (zN n) = (zN n).flatMap g
 | 0 => rfl
 | n + 1 => by rw [xX, Oc, JB g n, uY]; simp [C1]
def X9 (p : Aa) (m : Ad) (s : Ae) : Bool := (Bd p m s).2 == 0
def gS (p : Aa) (m : Ad) (k : Int) (i v : Nat) : List Ae := if X9 p m ⟨k, (i : Int), (v : Int)⟩ = true then [⟨k, (i : Int), (v : Int)⟩] else []
def bS (p : Aa) (m : Ad) (k : Int) (i : Nat) : List Ae := (zN 6).flatMap (gS p m k i)
def Ux (p : Aa) : Nat := max p.fb.length p.fc.length
def kS (p : Aa) (m : Ad) (k : Int) : List Ae := (zN (Ux p)).flatMap (bS p m k)
theorem Ma {β : Type} (f : Nat → β) (q : β → Bool) : ∀ n : Nat, ((zN n).flatMap fun v => if q (f v) = true then [f v] else []) = ((zN n).map f).filter q
 | 0 => rfl
 | n + 1 => by
  rw [xX, uY, Ma f q n, xC, xG]
  cases h : q (f n) <;> simp [h]
theorem Ml {β : Type} (g : Nat → List β) (a : Nat) (h : ∀ v, a ≤ v → g v = []) : ∀ n, a ≤ n → (zN n).flatMap g = (zN a).flatMap g
 | 0, hn => by rw [Nat.le_zero.1 hn]
 | n + 1, hn => by
  by_cases h1 : a = n + 1
  ·rw [h1]
  ·rw [xX, uY, Ml g a h n (by omega)]
   simp [h n (by omega)]
theorem Xd (p : Aa) (m : Ad) (k : Int) (i v : Nat) : (gS p m k i v).length ≤ 1 := by unfold gS; split <;> simp
theorem X1 (p : Aa) (m : Ad) (k : Int) (i : Nat) : (bS p m k i).length ≤ 6 := by
 unfold bS
 rw [← JB]
 have := GO (g := fun i' (_ : Nat) => gS p m k i i') (c := 1) (i := 0) (xs := zN 6) fun j x _ => Xd p m k i _
 simpa using this
theorem aD {p : Aa} (hp : Bl p) (m : Ad) (k : Int) : (kS p m k).length ≤ 72 := by
 have h1 := hp.nv
 have h2 := hp.nt
 unfold kS
 rw [← JB]
 have := GO (g := fun i' (_ : Nat) => bS p m k i') (c := 6) (i := 0) (xs := zN (Ux p)) fun j x _ => X1 p m k _
 simp only [uC] at this
 have h3 : Ux p ≤ 12 := by unfold Ux; omega
 omega
theorem aN {p : Aa} {m : Ad} {s : Ae} (h : X9 p m s = true) : HG s = true ∧ GQ p s = true := by
 unfold X9 Bd at h
 split at h
 ·cases h
 ·rename_i h1
  split at h
  ·cases h
  ·rename_i h2
   exact ⟨by simpa using h1, by simpa using h2⟩
theorem NT {p : Aa} {m : Ad} {k : Int} {i v : Nat} (h : X9 p m ⟨k, (i : Int), (v : Int)⟩ = true) : (k = 3 → i < p.fc.length) ∧ (k ≠ 3 → i < p.fb.length) ∧ (k = 1 → (v : Int) < p.fb.getD i 0) ∧ (k ≠ 1 → v = 0) := by
 obtain ⟨h1, h2⟩ := aN h
 obtain ⟨a1, a2, a3, a4, a5⟩ := Jn h1
 obtain ⟨b1, b2, b3⟩ := Kr h2
 simp only [zQ] at *
 exact ⟨fun e => by have := b1 e; omega, fun e => by have := b2 e; omega, b3, fun e => by have := a5 e; omega⟩
theorem WA {p : Aa} (hp : Bl p) (m : Ad) : kS p m 1 ++ kS p m 2 ++ kS p m 3 = GM p m := by
 have hnv := hp.nv
 have hnt := hp.nt
 unfold GM Ft
 rw [xG, xG]
 have e1 : kS p m 1 = (C1 KR 0 p.fb).filter fun s => (Bd p m s).2 == 0 := by
  unfold kS
  rw [Ml (bS p m 1) p.fb.length (fun i hi => by
   unfold bS
   rw [vY]
   intro v _
   unfold gS
   rw [if_neg]
   intro h
   have := (NT h).2.1 (by decide)
   omega) (Ux p) (by unfold Ux; omega)]
  have e : ∀ (xs : List Int) (i : Nat), (∀ j x, xs[j]? = some x → 1 ≤ x ∧ x ≤ 6 ∧ p.fb.getD (i + j) 0 = x) → ((zN xs.length).flatMap fun j => bS p m 1 (i + j)) = (C1 KR i xs).filter fun s => (Bd p m s).2 == 0 := by
   intro xs
   induction xs with
   | nil => intro i _; rfl
   | cons x xs ih =>
    intro i hx
    rw [yC, List.range_succ_eq_map, List.flatMap_cons, List.flatMap_map, C1, xG]
    have ih' := ih (i + 1) (fun j y hy => by
     have := hx (j + 1) y (by simpa using hy)
     rw [show i + 1 + j = i + (j + 1) from by omega]; exact this)
    have hx0 := hx 0 x rfl
    rw [xM] at hx0
    congr 1
    ·rw [xM]
     unfold bS KR
     rw [Ml (gS p m 1 i) x.toNat (fun v hv => by
      unfold gS
      rw [if_neg]
      intro h
      have := (NT h).2.2.1 rfl
      rw [hx0.2.2] at this
      omega) 6 (by omega)]
     exact Ma (fun v => (⟨1, (i : Int), ((v : Nat) : Int)⟩ : Ae)) (X9 p m) x.toNat
    ·rw [← ih']
     congr 1
     funext j
     rw [show i + (j + 1) = i + 1 + j from by omega]
  have := e p.fb 0 (fun j x hx => by
   have h1 := hp.ver x (lM hx)
   refine ⟨h1.1, h1.2, ?_⟩
   rw [zC, lD, hx]; rfl)
  simp only [zC] at this
  exact this
 have e23 : ∀ (k : Int) (n : Nat), k ≠ 1 → n ≤ Ux p → (∀ i v, X9 p m ⟨k, ((i : Nat) : Int), ((v : Nat) : Int)⟩ = true → i < n) → kS p m k = (((zN n).map fun i => (⟨k, ((i : Nat) : Int), 0⟩ : Ae)).filter fun s => (Bd p m s).2 == 0) := by
  intro k n hk hn hi
  unfold kS
  rw [Ml (bS p m k) n (fun i hi' => by
   unfold bS
   rw [vY]
   intro v _
   unfold gS
   rw [if_neg]
   intro h
   have := hi i v h
   omega) (Ux p) hn]
  show _ = List.filter (X9 p m) _
  rw [← Ma (fun i => (⟨k, ((i : Nat) : Int), 0⟩ : Ae)) (X9 p m) n]
  congr 1
  funext i
  unfold bS
  rw [Ml (gS p m k i) 1 (fun v hv => by
   unfold gS
   rw [if_neg]
   intro h
   have := (NT h).2.2.2 hk
   omega) 6 (by omega)]
  simp [gS]
 rw [e1, e23 2 p.fb.length (by decide) (by unfold Ux; omega) (fun i v h => (NT h).2.1 (by decide)), e23 3 p.fc.length (by decide) (by unfold Ux; omega) (fun i v h => (NT h).1 rfl)]
theorem Tc (a b : Nat) : VT (a : Int) (b : Int) = ((max a b : Nat) : Int) := by
 unfold VT
 omega
theorem R0 (N : Nat) (hN : N ≤ 1000000) (h20 : 100 ≤ N) {p : Aa} {m : Ad} (hv : B5 p = 0) (hm : B6 p m) : Fz N p m = some (GM p m) := by
 obtain ⟨hp, _⟩ := Du hv
 have hnv := hp.nv
 have hnt := hp.nt
 have hmx : Ux p ≤ 12 := by unfold Ux; omega
 unfold Fz
 have hmix := JC hv hm
 -- one number
 have inn : ∀ (k : Int) (c0 a : List Ae) (i : Nat) (d0 : List Ae) (j : List Ae → Option (List Ae)), a.length ≤ 1000 →
   Cu N p m (c0, k) (d0, (i : Int)) j N (a, 0) = j (a ++ bS p m k i) := by
  intro k c0 a i d0 j ha
  have := Gl (Cu N p m (c0, k) (d0, (i : Int)) j) (fun a i => (a, i)) (zN 6) j (fun v _ => gS p m k i v) 1 2000
   (fun v x _ => Xd _ _ _ _ _)
   (fun n v x a hx hl => by
    have hi := (lI.1 hx).1
    simp only [uC] at hi
    rw [Cu, AH (by simp only; omega)]
    simp only [Bn]
    rw [Sd N hN h20 (Nc hm), if_pos hmix]
    simp only [oS, AI (show v < 1000000 by omega)]
    unfold gS X9
    cases hq : (Bd p m ⟨k, (i : Int), (v : Int)⟩).2 == 0
    ·rw [Ao, if_neg (by simp), xO]
    ·rw [AU, if_pos rfl, Aw (by simp [Dz]; unfold gS X9 at hl; rw [hq] at hl; simp at hl; omega)])
   (fun n a => by rw [Cu, AB (by simp)]) N a (by simp; omega) (by simp; omega)
  rw [JB] at this
  exact this
 have mid : ∀ (k : Int) (c0 a : List Ae) (j : List Ae → Option (List Ae)), a.length ≤ 500 →
   Cv N p m (c0, k) j N (a, 0) = j (a ++ kS p m k) := by
  intro k c0 a j ha
  have := Gl (Cv N p m (c0, k) j) (fun a i => (a, i)) (zN (Ux p)) j (fun i _ => bS p m k i) 6 900
   (fun v x _ => X1 _ _ _ _)
   (fun n i x a hx hl => by
    have hi := (lI.1 hx).1
    simp only [uC] at hi
    rw [Cv, AH (by simp only; rw [Tc]; unfold Ux at hi; omega)]
    rw [inn k c0 a i a _ (by omega)]
    simp only [AI (show i < 1000000 by omega)])
   (fun n a => by rw [Cv, AB (by simp [Tc, Ux])]) N a (by simp; omega) (by simp; omega)
  rw [JB] at this
  exact this
 have hk := aD hp m
 have go : ∀ (k : Int) (n : Nat) (a : List Ae), k ≤ 3 → 1 ≤ k → a.length ≤ 300 → BF N p m (fun v2 => some v2) (n + 1) (a, k) = BF N p m (fun v2 => some v2) n (a ++ kS p m k, k + 1) := by
  intro k n a h1 h2 ha
  rw [BF, AH h1]
  rw [mid k a a _ (by omega), C3 (by omega) (by omega)]
 obtain ⟨N', hN'⟩ : ∃ q, N = q + 4 := ⟨N - 4, by omega⟩
 have e0 : BF N p m (fun v2 => some v2) N ([], 1) = BF N p m (fun v2 => some v2) (N' + 4) ([], 1) := by rw [hN']
 rw [e0, go 1 (N' + 3) [] (by decide) (by decide) (by simp), uG]
 rw [show (1 : Int) + 1 = 2 from rfl, go 2 (N' + 2) _ (by decide) (by decide) (by have := hk 1; omega)]
 rw [show (2 : Int) + 1 = 3 from rfl, go 3 (N' + 1) _ (by decide) (by decide) (by have h1 := hk 1; have h2 := hk 2; rw [zT]; omega)]
 rw [BF, AB (by simp), WA hp]
end Go.Lift
namespace Go.Lift
open List renaming mem_of_getElem? → lM
open List renaming getElem?_eq_some_iff → lI
namespace Bfs
section
variable {α σ : Type}
def code (rk : σ → Nat) (K : Nat) (w : List σ) : Nat := w.foldl (fun c s => c * K + rk s) 0
theorem Kq (rk : σ → Nat) (K : Nat) (w : List σ) (s : σ) : code rk K (w ++ [s]) = code rk K w * K + rk s := by
 simp [code]
theorem T4 (rk : σ → Nat) (K : Nat) : code rk K ([] : List σ) = 0 := rfl
def Dig (rk : σ → Nat) (K : Nat) (w : List σ) : Prop := ∀ s, s ∈ w → 1 ≤ rk s ∧ rk s ≤ K
theorem Dig.snoc {rk : σ → Nat} {K : Nat} {w : List σ} {s : σ} (h : Dig rk K w) (hs : 1 ≤ rk s ∧ rk s ≤ K) : Dig rk K (w ++ [s]) := by
 intro x hx; rcases yB.1 hx with h1 | h1
 ·exact h x h1
 ·rw [yQ.1 h1]; exact hs
theorem Vs {c d K a b : Nat} (h : c < d) (_ : 1 ≤ b) (ha : a ≤ K) : c * K + a < d * K + b := by
 have : c * K + K ≤ d * K := by rw [← yA]; exact zD K h
 omega
theorem Yc {c d K a : Nat} (h : c ≤ d) : c * K + a ≤ d * K + a := Nat.add_le_add_right (zD K h) a
theorem list_snoc {β : Type} (l : List β) : l = [] ∨ ∃ u s, l = u ++ [s] := by
 cases h : l.reverse with
 | nil => exact .inl (List.reverse_eq_nil_iff.1 h)
 | cons s r => exact .inr ⟨r.reverse, s, by rw [← List.reverse_cons, ← h, List.reverse_reverse]⟩
abbrev Nd (α σ : Type) := α × Int × σ
def put [DecidableEq α] (i : Nat) (l : List (Nd α σ)) (q : σ × α) : List (Nd α σ) := if (l.any fun n => decide (n.1 = q.2)) = true then l else l ++ [(q.2, (i : Int), q.1)]
def inner [DecidableEq α] (most i : Nat) : List (σ × α) → List (Nd α σ) → Option (List (Nd α σ))
 | [], l => some l
 | q :: qs, l => if most < (put i l q).length then none else inner most i qs (put i l q)
def go [DecidableEq α] (nxt : α → List (σ × α)) (most : Nat) : Nat → Nat → List (Nd α σ) → Option (List (Nd α σ))
 | 0, _, _ => none
 | n + 1, i, l => match l[i]? with
  | none => some l
  | some nd => (inner most i (nxt nd.1) l).bind fun l' => go nxt most n (i + 1) l'
structure Inv (nxt : α → List (σ × α)) (rk : σ → Nat) (K : Nat) (root : α) (i : Nat) (done : List (σ × α)) (l : List (Nd α σ)) (ws : List (List σ)) : Prop where
 len : ws.length = l.length
 root : ∃ s, l[0]? = some (root, -1, s)
 root' : ws[0]? = some []
 par : ∀ (k : Nat) x f s, 0 < k → l[k]? = some (x, f, s) → ∃ (j : Nat) (y : α) (g : Int) (t : σ) (w : List σ), f = (j : Int) ∧ j < k ∧ l[j]? = some (y, g, t) ∧ (s, x) ∈ nxt y ∧ ws[j]? = some w ∧ ws[k]? = some (w ++ [s]) ∧ (j < i ∨ (j = i ∧ (s, x) ∈ done))
 nodup : ∀ (a b : Nat) x f s g t, l[a]? = some (x, f, s) → l[b]? = some (x, g, t) → a = b
 inc : ∀ (a b : Nat) u w, ws[a]? = some u → ws[b]? = some w → a < b → code rk K u < code rk K w
 dig : ∀ (k : Nat) w, ws[k]? = some w → Dig rk K w
 closed : ∀ (j : Nat) x f s w, l[j]? = some (x, f, s) → ws[j]? = some w → ∀ q, (j < i ∧ q ∈ nxt x) ∨ (j = i ∧ q ∈ done) → ∃ (k : Nat) (f' : Int) (s' : σ) (w' : List σ), l[k]? = some (q.2, f', s') ∧ ws[k]? = some w' ∧ code rk K w' ≤ code rk K (w ++ [q.1])
theorem get_app {β : Type} {l : List β} {y x : β} {k : Nat} (h : (l ++ [y])[k]? = some x) : l[k]? = some x ∨ (k = l.length ∧ x = y) := by
 rcases Nat.lt_trichotomy k l.length with h1 | h1 | h1
 ·rw [yE h1] at h; exact .inl h
 ·subst h1; simp at h; exact .inr ⟨rfl, h.symm⟩
 ·rw [yX (by simp; omega)] at h; cases h
theorem get_app_of {β : Type} {l : List β} {y x : β} {k : Nat} (h : l[k]? = some x) : (l ++ [y])[k]? = some x := by
 rw [yE ((lI.1 h).1)]; exact h
theorem get_app_new {β : Type} {l : List β} {y : β} : (l ++ [y])[l.length]? = some y := by simp
theorem lt_get {β : Type} {l : List β} {k : Nat} {x : β} (h : l[k]? = some x) : k < l.length := (lI.1 h).1
theorem get_ex {β : Type} {l : List β} {k : Nat} (h : k < l.length) : ∃ x, l[k]? = some x := ⟨l[k], yI h⟩
theorem YL [DecidableEq α] {nxt : α → List (σ × α)} {rk : σ → Nat} {K : Nat} {root : α} {i : Nat} {done : List (σ × α)} {l : List (Nd α σ)} {ws : List (List σ)} {x : α} {f : Int} {s : σ} {q : σ × α}
  (hI : Inv nxt rk K root i done l ws) (hx : l[i]? = some (x, f, s)) (hq : q ∈ nxt x) (hd : ∀ r, r ∈ done → rk r.1 < rk q.1) (hr : 1 ≤ rk q.1 ∧ rk q.1 ≤ K) :
  ∃ ws', Inv nxt rk K root i (done ++ [q]) (put i l q) ws' ∧ (∀ (k : Nat) w, ws[k]? = some w → ws'[k]? = some w) ∧ (∀ (k : Nat) n, l[k]? = some n → (put i l q)[k]? = some n) := by
 obtain ⟨w0, hw0⟩ := get_ex (l := ws) (k := i) (by rw [hI.len]; exact lt_get hx)
 unfold put
 by_cases hin : (l.any fun n => decide (n.1 = q.2)) = true
 ·rw [if_pos hin]
  refine ⟨ws, ⟨hI.len, hI.root, hI.root', ?_, hI.nodup, hI.inc, hI.dig, ?_⟩, fun _ _ h => h, fun _ _ h => h⟩
  ·intro k y g t hk hy
   obtain ⟨j, y', g', t', w, h1, h2, h3, h4, h5, h6, h7⟩ := hI.par k y g t hk hy
   exact ⟨j, y', g', t', w, h1, h2, h3, h4, h5, h6, h7.imp id fun h => ⟨h.1, y9 _ h.2⟩⟩
  ·intro j y g t w hy hw r hr'
   by_cases hold : (j < i ∧ r ∈ nxt y) ∨ (j = i ∧ r ∈ done)
   ·exact hI.closed j y g t w hy hw r hold
   ·have hjr : j = i ∧ r = q := by
     rcases hr' with h | ⟨h1, h2⟩
     ·exact absurd (.inl h) hold
     ·rcases yB.1 h2 with h3 | h3
      ·exact absurd (.inr ⟨h1, h3⟩) hold
      ·exact ⟨h1, yQ.1 h3⟩
    obtain ⟨rfl, rfl⟩ := hjr
    rw [hw0] at hw; cases hw
    obtain ⟨n, hn1, hn2⟩ := xE.1 hin
    obtain ⟨k, hk⟩ := zS.1 hn1
    obtain ⟨nx, nf, ns⟩ := n
    have hn2 : nx = r.2 := of_decide_eq_true hn2
    subst hn2
    obtain ⟨wk, hwk⟩ := get_ex (l := ws) (k := k) (by rw [hI.len]; exact lt_get hk)
    refine ⟨k, nf, ns, wk, hk, hwk, ?_⟩
    rw [Kq]
    rcases uJ k with rfl | hk0
    ·rw [hI.root'] at hwk; cases hwk; rw [T4]; omega
    ·obtain ⟨j', y', g', t', w, h1, h2, h3, h4, h5, h6, h7⟩ := hI.par k _ _ _ hk0 hk
     rw [h6] at hwk; cases hwk
     rw [Kq]
     have hdg : 1 ≤ rk ns ∧ rk ns ≤ K := hI.dig k _ h6 ns (by simp)
     rcases h7 with h7 | ⟨h7, h8⟩
     ·exact Nat.le_of_lt (Vs (hI.inc _ _ _ _ h5 hw0 h7) hr.1 hdg.2)
     ·subst h7; rw [hw0] at h5; cases h5
      have := hd _ h8
      simp only at this; omega
 ·rw [if_neg hin]
  have hnew : ∀ (k : Nat) y g t, l[k]? = some (y, g, t) → y ≠ q.2 := fun k y g t hy e => hin (xE.2 ⟨_, lM hy, decide_eq_true e⟩)
  have hbig : ∀ (k : Nat) u, ws[k]? = some u → code rk K u < code rk K (w0 ++ [q.1]) := by
   intro k u hu
   rw [Kq]
   obtain ⟨⟨nx, nf, ns⟩, hk⟩ := get_ex (l := l) (k := k) (by rw [← hI.len]; exact lt_get hu)
   rcases uJ k with rfl | hk0
   ·rw [hI.root'] at hu; cases hu; rw [T4]; omega
   ·obtain ⟨j', y', g', t', w, h1, h2, h3, h4, h5, h6, h7⟩ := hI.par k _ _ _ hk0 hk
    rw [h6] at hu; cases hu
    rw [Kq]
    have hdg : 1 ≤ rk ns ∧ rk ns ≤ K := hI.dig k _ h6 ns (by simp)
    rcases h7 with h7 | ⟨h7, h8⟩
    ·exact Vs (hI.inc _ _ _ _ h5 hw0 h7) hr.1 hdg.2
    ·subst h7; rw [hw0] at h5; cases h5
     have := hd _ h8
     simp only at this; omega
  refine ⟨ws ++ [w0 ++ [q.1]], ⟨by simp [hI.len], ?_, get_app_of hI.root', ?_, ?_, ?_, ?_, ?_⟩, fun _ _ h => get_app_of h, fun _ _ h => get_app_of h⟩
  ·obtain ⟨s0, hs0⟩ := hI.root; exact ⟨s0, get_app_of hs0⟩
  ·intro k y g t hk hy
   rcases get_app hy with hy | ⟨hk1, hy⟩
   ·obtain ⟨j, y', g', t', w, h1, h2, h3, h4, h5, h6, h7⟩ := hI.par k y g t hk hy
    exact ⟨j, y', g', t', w, h1, h2, get_app_of h3, h4, get_app_of h5, get_app_of h6, h7.imp id fun h => ⟨h.1, y9 _ h.2⟩⟩
   ·cases hy
    refine ⟨i, x, f, s, w0, rfl, by rw [hk1]; exact lt_get hx, get_app_of hx, hq, get_app_of hw0, by rw [hk1, ← hI.len]; exact get_app_new, .inr ⟨rfl, by simp⟩⟩
  ·intro a b y g t g' t' ha hb
   rcases get_app ha with ha | ⟨ha1, ha⟩ <;> rcases get_app hb with hb | ⟨hb1, hb⟩
   ·exact hI.nodup a b y g t g' t' ha hb
   ·cases hb; exact absurd rfl (hnew _ _ _ _ ha)
   ·cases ha; exact absurd rfl (hnew _ _ _ _ hb)
   ·omega
  ·intro a b u w ha hb hab
   rcases get_app ha with ha | ⟨ha1, ha⟩ <;> rcases get_app hb with hb | ⟨hb1, hb⟩
   ·exact hI.inc a b u w ha hb hab
   ·rw [hb]; exact hbig _ _ ha
   ·have := lt_get hb; omega
   ·omega
  ·intro k w hw
   rcases get_app hw with hw | ⟨hw1, hw⟩
   ·exact hI.dig k w hw
   ·rw [hw]; exact (hI.dig _ _ hw0).snoc hr
  ·intro j y g t w hy hw r hr'
   rcases get_app hy with hy1 | ⟨hy1, hy2⟩
   ·have hw1 : ws[j]? = some w := by
     rcases get_app hw with h | ⟨h, _⟩
     ·exact h
     ·have := lt_get hy1; rw [← hI.len] at this; omega
    by_cases hold : (j < i ∧ r ∈ nxt y) ∨ (j = i ∧ r ∈ done)
    ·obtain ⟨k, f', s', w', h1, h2, h3⟩ := hI.closed j y g t w hy1 hw1 r hold
     exact ⟨k, f', s', w', get_app_of h1, get_app_of h2, h3⟩
    ·have hjr : j = i ∧ r = q := by
      rcases hr' with h | ⟨h1, h2⟩
      ·exact absurd (.inl h) hold
      ·rcases yB.1 h2 with h3 | h3
       ·exact absurd (.inr ⟨h1, h3⟩) hold
       ·exact ⟨h1, yQ.1 h3⟩
     obtain ⟨rfl, rfl⟩ := hjr
     rw [hw0] at hw1; cases hw1
     exact ⟨l.length, _, _, _, get_app_new, by rw [← hI.len]; exact get_app_new, zK _⟩
   ·have := lt_get hx
    rcases hr' with h | h <;> omega
theorem Ru [DecidableEq α] {nxt : α → List (σ × α)} {rk : σ → Nat} {K : Nat} {root : α} {i most : Nat} {x : α} {f : Int} {s : σ} (hP : (nxt x).Pairwise fun a b => rk a.1 < rk b.1) (hD : ∀ q, q ∈ nxt x → 1 ≤ rk q.1 ∧ rk q.1 ≤ K) :
  ∀ (qs done : List (σ × α)) (l l' : List (Nd α σ)) (ws : List (List σ)), done ++ qs = nxt x → Inv nxt rk K root i done l ws → l[i]? = some (x, f, s) → inner most i qs l = some l' →
   ∃ ws', Inv nxt rk K root i (nxt x) l' ws' ∧ (∀ (k : Nat) w, ws[k]? = some w → ws'[k]? = some w) ∧ (∀ (k : Nat) n, l[k]? = some n → l'[k]? = some n)
 | [], done, l, l', ws, he, hI, hx, h => by
  cases h; rw [xO] at he; subst he; exact ⟨ws, hI, fun _ _ h => h, fun _ _ h => h⟩
 | q :: qs, done, l, l', ws, he, hI, hx, h => by
  have hqm : q ∈ nxt x := by rw [← he]; simp
  have hlt : ∀ r, r ∈ done → rk r.1 < rk q.1 := fun r hr => by
   rw [← he] at hP
   exact (uN.1 hP).2.2 r hr q (by simp)
  obtain ⟨ws1, h1, h2, h3⟩ := YL hI hx hqm hlt (hD q hqm)
  simp only [inner] at h
  split at h
  ·cases h
  ·obtain ⟨ws2, g1, g2, g3⟩ := Ru hP hD qs (done ++ [q]) _ l' ws1 (by rw [yO]; exact he) h1 (h3 _ _ hx) h
   exact ⟨ws2, g1, fun k w hw => g2 k w (h2 k w hw), fun k n hn => g3 k n (h3 k n hn)⟩
theorem WL {nxt : α → List (σ × α)} {rk : σ → Nat} {K : Nat} {root : α} {i : Nat} {x : α} {f : Int} {s : σ} {l : List (Nd α σ)} {ws : List (List σ)} (h : Inv nxt rk K root i (nxt x) l ws) (hx : l[i]? = some (x, f, s)) : Inv nxt rk K root (i + 1) [] l ws := by
 refine ⟨h.len, h.root, h.root', ?_, h.nodup, h.inc, h.dig, ?_⟩
 ·intro k y g t hk hy
  obtain ⟨j, y', g', t', w, h1, h2, h3, h4, h5, h6, h7⟩ := h.par k y g t hk hy
  exact ⟨j, y', g', t', w, h1, h2, h3, h4, h5, h6, .inl (by rcases h7 with h7 | h7 <;> omega)⟩
 ·intro j y g t w hy hw r hr
  rcases hr with ⟨h1, h2⟩ | ⟨_, h2⟩
  ·refine h.closed j y g t w hy hw r ?_
   by_cases hj : j < i
   ·exact .inl ⟨hj, h2⟩
   ·have : j = i := by omega
    subst this; rw [hx] at hy; cases hy; exact .inr ⟨rfl, h2⟩
  ·cases h2
theorem inv_go [DecidableEq α] {nxt : α → List (σ × α)} {rk : σ → Nat} {K : Nat} {root : α} {most : Nat} (P : α → Prop) (hP : ∀ x, P x → (nxt x).Pairwise fun a b => rk a.1 < rk b.1) (hD : ∀ x, P x → ∀ q, q ∈ nxt x → (1 ≤ rk q.1 ∧ rk q.1 ≤ K) ∧ P q.2) (hroot : P root) :
  ∀ (n i : Nat) (l l' : List (Nd α σ)) (ws : List (List σ)), i ≤ l.length → Inv nxt rk K root i [] l ws → (∀ (k : Nat) x f s, l[k]? = some (x, f, s) → P x) → go nxt most n i l = some l' → ∃ ws', Inv nxt rk K root l'.length [] l' ws' ∧ (∀ (k : Nat) x f s, l'[k]? = some (x, f, s) → P x)
 | 0, i, l, l', ws, _, _, _, h => by cases h
 | n + 1, i, l, l', ws, hi, hI, hA, h => by
  simp only [go] at h
  split at h
  ·rename_i hn
   cases h
   have : i = l.length := by
    have := List.getElem?_eq_none_iff.1 hn; omega
   subst this
   exact ⟨ws, hI, hA⟩
  ·rename_i nd hn
   obtain ⟨x, f, s⟩ := nd
   cases hin : inner most i (nxt x) l with
   | none => rw [hin] at h; cases h
   | some l1 =>
    rw [hin] at h
    have hx := hA _ _ _ _ hn
    obtain ⟨ws1, h1, h2, h3⟩ := Ru (hP x hx) (fun q hq => (hD x hx q hq).1) (nxt x) [] l l1 ws rfl hI hn hin
    have hA1 : ∀ (k : Nat) y g t, l1[k]? = some (y, g, t) → P y := fun k y g t hy => by
     rcases uJ k with rfl | hk
     ·obtain ⟨s0, hs0⟩ := h1.root; rw [hs0] at hy; cases hy; exact hroot
     ·obtain ⟨j, y', g', t', w, e1, e2, e3, e4, e5, e6, e7⟩ := h1.par k y g t hk hy
      have hj : P y' := by
       have hjl : j < l.length := by rcases e7 with h | h <;> have := lt_get hn <;> omega
       obtain ⟨⟨z, zf, zs⟩, hz⟩ := get_ex hjl
       have := h3 _ _ hz
       rw [e3] at this; cases this
       exact hA _ _ _ _ hz
      exact (hD y' hj _ e4).2
    exact inv_go P hP hD hroot n (i + 1) l1 l' ws1 (by have := lt_get (h3 _ _ hn); omega) (WL h1 (h3 _ _ hn)) hA1 h
theorem inv_start {nxt : α → List (σ × α)} {rk : σ → Nat} {K : Nat} {root : α} {s : σ} : Inv nxt rk K root 0 [] [(root, -1, s)] [[]] := by
 refine ⟨rfl, ⟨s, rfl⟩, rfl, ?_, ?_, ?_, ?_, ?_⟩
 ·intro k x f s hk h; rw [yX (by simp; omega)] at h; cases h
 ·intro a b x f s g t ha hb; have := lt_get ha; have := lt_get hb; simp at *; omega
 ·intro a b u w ha hb hab; have := lt_get hb; simp at this; omega
 ·intro k w hw
  have := lt_get hw; simp at this; subst this; simp at hw; subst hw
  intro s hs; cases hs
 ·intro j x f s w _ _ q h
  rcases h with h | h
  ·omega
  ·cases h.2
def run (nxt : α → List (σ × α)) (x : α) : List σ → α → Prop
 | [], y => y = x
 | s :: w, y => ∃ z, (s, z) ∈ nxt x ∧ run nxt z w y
theorem Ha {nxt : α → List (σ × α)} : ∀ {u w : List σ} {x y : α}, run nxt x (u ++ w) y ↔ ∃ z, run nxt x u z ∧ run nxt z w y
 | [], w, x, y => by simp [run]
 | s :: u, w, x, y => by
  simp only [uS, run]
  constructor
  ·rintro ⟨z, h1, h2⟩
   obtain ⟨z', h3, h4⟩ := Ha.1 h2
   exact ⟨z', ⟨z, h1, h3⟩, h4⟩
  ·rintro ⟨z', ⟨z, h1, h3⟩, h4⟩
   exact ⟨z, h1, Ha.2 ⟨z', h3, h4⟩⟩
theorem way_run {nxt : α → List (σ × α)} {rk : σ → Nat} {K : Nat} {root : α} {i : Nat} {l : List (Nd α σ)} {ws : List (List σ)} (h : Inv nxt rk K root i [] l ws) : ∀ (n k : Nat) {x : α} {f : Int} {s : σ} {w : List σ}, k < n → l[k]? = some (x, f, s) → ws[k]? = some w → run nxt root w x
 | 0, k, _, _, _, _, hk, _, _ => by omega
 | n + 1, k, x, f, s, w, hk, hx, hw => by
  rcases uJ k with rfl | hk0
  ·obtain ⟨s0, hs0⟩ := h.root; rw [hs0] at hx; cases hx
   rw [h.root'] at hw; cases hw; rfl
  ·obtain ⟨j, y', g', t', w', e1, e2, e3, e4, e5, e6, e7⟩ := h.par k _ _ _ hk0 hx
   rw [e6] at hw; cases hw
   exact Ha.2 ⟨y', way_run h n j (by omega) e3 e5, x, e4, rfl⟩
theorem reach_node {nxt : α → List (σ × α)} {rk : σ → Nat} {K : Nat} {root : α} {l : List (Nd α σ)} {ws : List (List σ)} (h : Inv nxt rk K root l.length [] l ws) : ∀ (n : Nat) {w : List σ} {y : α}, w.length = n → run nxt root w y → ∃ (k : Nat) (f : Int) (s : σ) (u : List σ), l[k]? = some (y, f, s) ∧ ws[k]? = some u ∧ code rk K u ≤ code rk K w
 | 0, w, y, hn, hr => by
  rw [List.length_eq_zero_iff.1 hn] at hr ⊢
  simp only [run] at hr; subst hr
  obtain ⟨s, hs⟩ := h.root
  exact ⟨0, _, _, _, hs, h.root', zK _⟩
 | n + 1, w, y, hn, hr => by
  rcases list_snoc w with rfl | ⟨w', s, rfl⟩
  ·simp at hn
  obtain ⟨z, h1, h2⟩ := Ha.1 hr
  simp only [run] at h2
  obtain ⟨z', h2, rfl⟩ := h2
  simp only [zT, zX] at hn
  obtain ⟨k, f, t, u, g1, g2, g3⟩ := reach_node h n (by omega) h1
  obtain ⟨k', f', s', u', e1, e2, e3⟩ := h.closed k z f t u g1 g2 (s, y) (.inl ⟨lt_get g1, h2⟩)
  refine ⟨k', f', s', u', e1, e2, xU e3 ?_⟩
  rw [Kq, Kq]
  exact Yc g3
theorem P6 [DecidableEq α] {most more i : Nat} (hm : most ≤ more) : ∀ (qs : List (σ × α)) (l l' : List (Nd α σ)), inner most i qs l = some l' → inner more i qs l = some l'
 | [], l, l', h => h
 | q :: qs, l, l', h => by
  simp only [inner] at h ⊢
  split at h
  ·cases h
  ·rw [if_neg (by omega)]; exact P6 hm qs _ _ h
theorem go_more [DecidableEq α] {nxt : α → List (σ × α)} {most more : Nat} (hm : most ≤ more) : ∀ (n m i : Nat) (l l' : List (Nd α σ)), n ≤ m → go nxt most n i l = some l' → go nxt more m i l = some l'
 | 0, m, i, l, l', _, h => by cases h
 | n + 1, m, i, l, l', hnm, h => by
  obtain ⟨m, rfl⟩ : ∃ k, m = k + 1 := ⟨m - 1, by omega⟩
  simp only [go] at h ⊢
  cases hl : l[i]? with
  | none => rw [hl] at h; exact h
  | some nd =>
   rw [hl] at h
   simp only at h ⊢
   cases hin : inner most i (nxt nd.1) l with
   | none => rw [hin] at h; cases h
   | some l1 =>
    rw [hin] at h
    rw [P6 hm _ _ _ hin]
    exact go_more hm n m (i + 1) l1 l' (by omega) h
theorem inner_len [DecidableEq α] {most i : Nat} : ∀ (qs : List (σ × α)) (l l' : List (Nd α σ)), l.length ≤ most → inner most i qs l = some l' → l'.length ≤ most
 | [], l, l', h0, h => by cases h; exact h0
 | q :: qs, l, l', h0, h => by
  simp only [inner] at h
  split at h
  ·cases h
  ·exact inner_len qs _ _ (by omega) h
theorem go_len [DecidableEq α] {nxt : α → List (σ × α)} {most : Nat} : ∀ (n i : Nat) (l l' : List (Nd α σ)), l.length ≤ most → go nxt most n i l = some l' → l'.length ≤ most
 | 0, i, l, l', _, h => by cases h
 | n + 1, i, l, l', h0, h => by
  simp only [go] at h
  split at h
  ·cases h; exact h0
  ·rename_i nd hn
   cases hin : inner most i (nxt nd.1) l with
   | none => rw [hin] at h; cases h
   | some l1 => rw [hin] at h; exact go_len n (i + 1) l1 l' (inner_len _ _ _ h0 hin) h
end
end Bfs
end Go.Lift
namespace Go.Lift
open IntKind renaming wrap → wI
open Option renaming bind_some → oS
open List renaming mem_of_getElem? → lM
open List renaming getElem?_eq_some_iff → lI
open List renaming getD_eq_getElem?_getD → lD
open Go
theorem Tg : ∀ {l : List Int}, Z4 l = 0 → ∀ x, x ∈ l → x = 0
 | [], _, x, hx => by cases hx
 | y :: ys, h, x, hx => by
  unfold Z4 at h
  split at h
  ·rename_i hy
   rcases yJ.1 hx with rfl | hx
   ·exact hy
   ·exact Tg h x hx
  ·rename_i hy; exact absurd h hy
theorem RJ {a b : Ad} (h : UZ a b = 0) : a = b := by
 have := Tg h
 have h1 := Ps _ _ (this (Kb a.fd b.fd) (by simp))
 have h2 := Ps _ _ (this (Kb a.fa b.fa) (by simp))
 have h3 := Ps _ _ (this (Kb a.fe b.fe) (by simp))
 cases a; cases b; simp only at h1 h2 h3; subst h1; subst h2; subst h3; rfl
instance eP : DecidableEq Ad := fun a b => if h : UZ a b = 0 then isTrue (RJ h) else isFalse (fun e => h (by rw [e]; exact RD b))
theorem Xi (a b : Ad) : (UZ a b == 0) = decide (a = b) := by
 by_cases h : a = b
 ·rw [decide_eq_true h, h, RD]; rfl
 ·rw [decide_eq_false h]
  exact beq_eq_false_iff_ne.2 fun e => h (RJ e)
def RG (p : Aa) (m : Ad) (ss : List Ae) : List (Ae × Ad) := ss.filterMap fun s => if BG p (Bd p m s).1 = true then some (s, (Bd p m s).1) else none
def JW (p : Aa) (m : Ad) : List (Ae × Ad) := RG p m (GM p m)
def NG (s : Ae) : Nat := if s.ff = 1 then 1 + 8 * s.fh.toNat + s.fo.toNat else if s.ff = 2 then 60 + s.fh.toNat else 70 + s.fh.toNat
theorem JF {p : Aa} {m : Ad} {s : Ae} (h : s ∈ GM p m) : s ∈ Ft p ∧ (Bd p m s).2 = 0 := by
 unfold GM at h
 have := List.mem_filter.1 h
 exact ⟨this.1, by simpa using this.2⟩
theorem Vz {p : Aa} {m : Ad} {ss : List Ae} {q : Ae × Ad} : q ∈ RG p m ss ↔ q.1 ∈ ss ∧ q.2 = (Bd p m q.1).1 ∧ BG p q.2 = true := by
 unfold RG
 rw [List.mem_filterMap]
 constructor
 ·rintro ⟨s, h1, h2⟩
  split at h2
  ·rename_i h3; cases h2; exact ⟨h1, rfl, h3⟩
  ·cases h2
 ·rintro ⟨h1, h2, h3⟩
  refine ⟨q.1, h1, ?_⟩
  rw [← h2, if_pos h3]
theorem N7 {p : Aa} {m : Ad} {q : Ae × Ad} : q ∈ JW p m ↔ q.1 ∈ GM p m ∧ q.2 = (Bd p m q.1).1 ∧ BG p q.2 = true := Vz
theorem US {p : Aa} {m : Ad} (hp : Bl p) (hm : B6 p m) {q : Ae × Ad} (h : q ∈ JW p m) : B6 p q.2 ∧ BG p q.2 = true := by
 obtain ⟨h1, h2, h3⟩ := N7.1 h
 exact ⟨by rw [h2]; exact MK hp hm (JF h1).2, h3⟩
theorem P7 {p : Aa} (hp : Bl p) {s : Ae} (h : s ∈ Ft p) : s.ff ≤ 3 ∧ 1 ≤ NG s ∧ NG s ≤ 100 := by
 obtain ⟨h1, h2⟩ := OO hp h
 obtain ⟨a1, a2, a3, a4, a5⟩ := Jn h1
 obtain ⟨b1, b2, b3⟩ := Kr h2
 have hnv := hp.nv
 have hnt := hp.nt
 have hk : s.ff ≤ 3 := by
  unfold Ft at h
  rcases yB.1 h with h | h
  ·rcases yB.1 h with h | h
   ·obtain ⟨j, x, hx, hk⟩ := HK.1 h
    unfold KR at hk
    obtain ⟨v, hv, rfl⟩ := zW.1 hk
    exact (by decide : (1 : Int) ≤ 3)
   ·obtain ⟨v, hv, rfl⟩ := zW.1 h
    exact (by decide : (2 : Int) ≤ 3)
  ·obtain ⟨v, hv, rfl⟩ := zW.1 h
   exact (by decide : (3 : Int) ≤ 3)
 refine ⟨hk, ?_⟩
 unfold NG
 by_cases h1 : s.ff = 1
 ·rw [if_pos h1]
  have := b2 (by omega)
  have h3 := b3 h1
  have h4 := (JQ hp (i := s.fh.toNat) (by omega)).2
  omega
 ·rw [if_neg h1]
  by_cases h2 : s.ff = 2
  ·rw [if_pos h2]
   have := b2 (by omega)
   omega
  ·rw [if_neg h2]
   have := b1 (by omega)
   omega
theorem Y6 (i : Nat) (n : Int) : (KR i n).Pairwise fun a b => NG a < NG b := by
 unfold KR
 rw [vJ]
 refine List.Pairwise.imp ?_ vC
 intro a b h
 simp [NG]; omega
theorem Yk {p : Aa} (hp : Bl p) : (Ft p).Pairwise fun a b => NG a < NG b := by
 have hnv := hp.nv
 have hnt := hp.nt
 have e1 : ∀ (xs : List Int) (i : Nat), (∀ x, x ∈ xs → x ≤ 6) → (C1 KR i xs).Pairwise fun a b => NG a < NG b := by
  intro xs
  induction xs with
  | nil => intro i _; exact List.Pairwise.nil
  | cons x xs ih =>
   intro i hx
   rw [C1, uN]
   refine ⟨Y6 i x, ih (i + 1) fun y hy => hx y (xR _ hy), ?_⟩
   intro a ha b hb
   unfold KR at ha
   obtain ⟨v, hv, rfl⟩ := zW.1 ha
   obtain ⟨j, y, hy, hb⟩ := HK.1 hb
   unfold KR at hb
   obtain ⟨w, hw, rfl⟩ := zW.1 hb
   have := hx x (by simp)
   have := yY.1 hv
   simp [NG]; omega
 unfold Ft
 rw [uN, uN]
 refine ⟨⟨e1 _ 0 fun x hx => (hp.ver x hx).2, ?_, ?_⟩, ?_, ?_⟩
 ·rw [vJ]
  refine List.Pairwise.imp ?_ vC
  intro a b h
  simp [NG]; omega
 ·intro a ha b hb
  obtain ⟨w, hw, rfl⟩ := zW.1 hb
  obtain ⟨j, y, hy, ha⟩ := HK.1 ha
  unfold KR at ha
  obtain ⟨v, hv, rfl⟩ := zW.1 ha
  have := yY.1 hv
  have := (hp.ver y (lM hy)).2
  have := (lI.1 hy).1
  simp [NG]; omega
 ·rw [vJ]
  refine List.Pairwise.imp ?_ vC
  intro a b h
  simp [NG]; omega
 ·intro a ha b hb
  obtain ⟨w, hw, rfl⟩ := zW.1 hb
  have hw := yY.1 hw
  rcases yB.1 ha with ha | ha
  ·obtain ⟨j, y, hy, ha⟩ := HK.1 ha
   unfold KR at ha
   obtain ⟨v, hv, rfl⟩ := zW.1 ha
   have := yY.1 hv
   have := (hp.ver y (lM hy)).2
   have := (lI.1 hy).1
   simp [NG]; omega
  ·obtain ⟨v, hv, rfl⟩ := zW.1 ha
   have := yY.1 hv
   simp [NG]; omega
theorem aQ {p : Aa} {m : Ad} {ss : List Ae} (h : ss.Pairwise fun a b => NG a < NG b) : (RG p m ss).Pairwise fun a b => NG a.1 < NG b.1 := by
 unfold RG
 rw [List.pairwise_filterMap]
 refine List.Pairwise.imp ?_ h
 intro a b hab x hx y hy
 split at hx
 ·cases hx
  split at hy
  ·cases hy; exact hab
  ·cases hy
 ·cases hx
theorem aW {p : Aa} (hp : Bl p) (m : Ad) : (JW p m).Pairwise fun a b => NG a.1 < NG b.1 := aQ ((Yk hp).filter _)
theorem Ye {p : Aa} {s : Ae} (hv : HG s = true) (hx : GQ p s = true) (hk : s.ff ≠ 4) : s ∈ Ft p := by
 obtain ⟨a1, a2, a3, a4, a5⟩ := Jn hv
 obtain ⟨b1, b2, b3⟩ := Kr hx
 obtain ⟨k, i, v⟩ := s
 simp only at *
 unfold Ft
 obtain ⟨i, rfl⟩ := zJ a3
 by_cases h1 : k = 1
 ·subst h1
  have h2 := b2 (by decide)
  have h3 := b3 rfl
  obtain ⟨v, rfl⟩ := zJ a4
  refine y9 _ (y9 _ (HK.2 ⟨i, p.fb.getD i 0, ?_, ?_⟩))
  ·rw [lD]
   have hi : i < p.fb.length := by omega
   simp [hi]
  ·unfold KR
   refine zW.2 ⟨v, yY.2 ?_, by simp⟩
   simp only [zQ] at h3
   omega
 ·have hv0 := a5 h1
  subst hv0
  by_cases h2 : k = 2
  ·subst h2
   have := b2 (by decide)
   exact y9 _ (List.mem_append_right _ (zW.2 ⟨i, yY.2 (by omega), rfl⟩))
  ·have h3 : k = 3 := by omega
   subst h3
   have := b1 rfl
   exact List.mem_append_right _ (zW.2 ⟨i, yY.2 (by omega), rfl⟩)
theorem Ro {p : Aa} {m x : Ad} {s : Ae} : Or p m s = some x → (s, x) ∈ JW p m := by
 intro h
 obtain ⟨h1, h2, h3, h4, h5⟩ := V0.1 h
 unfold Or at h
 split at h
 ·rename_i h6
  cases h
  refine N7.2 ⟨?_, rfl, h6.2.2⟩
  unfold GM
  exact List.mem_filter.2 ⟨Ye h1 h2 h4, by simpa using h6.1⟩
 ·cases h
theorem V6 {p : Aa} (hp : Bl p) {m x : Ad} {s : Ae} (h : (s, x) ∈ JW p m) : Or p m s = some x := by
 obtain ⟨h1, h2, h3⟩ := N7.1 h
 have h1 : s ∈ GM p m := h1
 obtain ⟨h4, h5⟩ := JF h1
 have := (P7 hp h4).1
 have h2 : x = (Bd p m s).1 := h2
 have h3 : BG p x = true := h3
 unfold Or
 rw [if_pos ⟨h5, by omega, by rw [← h2]; exact h3⟩, h2]
theorem NL {p : Aa} (hp : Bl p) : ∀ {w : List Ae} {m x : Ad}, Pw p m w = some x ↔ Bfs.run (JW p) m w x
 | [], m, x => by simp only [Pw, Bfs.run, Option.some.injEq]; exact eq_comm
 | s :: w, m, x => by
  simp only [Pw, Bfs.run]
  constructor
  ·intro h
   cases hs : Or p m s with
   | none => rw [hs] at h; cases h
   | some z => rw [hs] at h; exact ⟨z, Ro hs, (NL hp).1 h⟩
  ·rintro ⟨z, h1, h2⟩
   rw [V6 hp h1]
   exact (NL hp).2 h2
abbrev Kf := Bfs.Nd Ad Ae
def Ki (n : Kf) : AE := ⟨n.1, n.2.1, n.2.2⟩
def N5 : Ae := ⟨0, 0, 0⟩
theorem WO {N : Nat} {p : Aa} {a b : Ad} (hN : N ≤ 1000000) (h20 : 100 ≤ N) (hp : Bl p) (ha : B6 p a) (hb : B6 p b) : Fx N a b = some (decide (a = b)) := by
 have hnv := hp.nv
 have hnt := hp.nt
 unfold Fx
 rw [TW hN (by rw [ha.base]; omega) (by rw [ha.next]; omega) (by rw [ha.held]; omega) (by rw [hb.held]; omega) (Nc ha) (Nc hb)]
 simp only [oS]
 rw [Xi]
theorem S3 {N : Nat} (hN : N ≤ 1000000) (h20 : 100 ≤ N) {p : Aa} (hp : Bl p) {x : Ad} (hx : B6 p x) {l : List Kf} (hl : l.length < N) (hA : ∀ n, n ∈ l → B6 p n.1) :
  ∃ r, EV N (l.map Ki) x = some r ∧ decide (r < 0) = !(l.any fun n => decide (n.1 = x)) := by
 unfold EV
 have := Cn (CC N (l.map Ki) x fun _ => some (-1)) l (some (-1)) (fun i n => if n.1 = x then some (i : Int) else none)
  (fun n i nd hnd => by
   have hi := (lI.1 hnd).1
   rw [CC, AH (by rw [zO]; omega), AX, zF, hnd]
   simp only [yS, oS, Ki]
   have e := WO hN h20 hp (hA nd (lM hnd)) hx
   rw [show (Ad.mk nd.1.fd nd.1.fa nd.1.fe) = nd.1 from rfl, e, AI (by omega)]
   simp only [oS]
   by_cases h : nd.1 = x
   ·rw [decide_eq_true h, if_pos h]; rfl
   ·rw [decide_eq_false h, if_neg h]; rfl)
  (fun n => by rw [CC, AB (by simp)]) N 0 (zL _) (by omega)
 have e' : CC N (l.map Ki) x (fun _ => some (-1)) N 0 = _ := this
 rw [e', zZ]
 cases hs : CY (fun i (n : Kf) => if n.1 = x then some (i : Int) else none) 0 l with
 | none =>
  refine ⟨_, rfl, ?_⟩
  have : (l.any fun n => decide (n.1 = x)) = false := by
   rw [vI]
   intro n hn
   obtain ⟨j, hj⟩ := zS.1 hn
   have := FE hs j n hj
   split at this
   ·cases this
   ·rename_i h; simpa using h
  rw [this]; rfl
 | some r =>
  refine ⟨_, rfl, ?_⟩
  obtain ⟨j, n, hj, hr⟩ := Em hs
  split at hr
  ·rename_i h
   cases hr
   have : (l.any fun n => decide (n.1 = x)) = true := xE.2 ⟨n, lM hj, decide_eq_true h⟩
   rw [this]
   exact decide_eq_false (by omega)
  ·cases hr
theorem TY {i : Nat} {l : List Kf} {q : Ae × Ad} {k : Nat} {n : Kf} (h : l[k]? = some n) : (Bfs.put i l q)[k]? = some n := by
 unfold Bfs.put
 split
 ·exact h
 ·exact Bfs.get_app_of h
theorem VF {i : Nat} {l : List Kf} {q : Ae × Ad} {n : Kf} (h : n ∈ Bfs.put i l q) : n ∈ l ∨ n.1 = q.2 := by
 unfold Bfs.put at h
 split at h
 ·exact .inl h
 ·rcases yB.1 h with h | h
  ·exact .inl h
  ·rw [yQ.1 h]; exact .inr rfl
theorem SZ {p : Aa} {m : Ad} {s : Ae} {ss : List Ae} : RG p m (s :: ss) = if BG p (Bd p m s).1 = true then (s, (Bd p m s).1) :: RG p m ss else RG p m ss := by
 unfold RG
 rw [List.filterMap_cons]
 split <;> rename_i h
 ·split at h
  ·cases h
  ·rename_i h2; rw [if_neg h2]
 ·split at h
  ·rename_i h2; cases h; rw [if_pos h2]
  ·cases h
theorem LM {p : Aa} {most i : Nat} : ∀ {qs : List (Ae × Ad)} {l l' : List Kf}, Bfs.inner most i qs l = some l' → (∀ q, q ∈ qs → B6 p q.2 ∧ BG p q.2 = true) → (∀ n, n ∈ l → B6 p n.1 ∧ BG p n.1 = true) → (∀ n, n ∈ l' → B6 p n.1 ∧ BG p n.1 = true) ∧ (∀ (k : Nat) n, l[k]? = some n → l'[k]? = some n)
 | [], l, l', h, _, hA => by cases h; exact ⟨hA, fun _ _ h => h⟩
 | q :: qs, l, l', h, hq, hA => by
  simp only [Bfs.inner] at h
  split at h
  ·cases h
  ·obtain ⟨h1, h2⟩ := LM h (fun q hq' => hq q (xR _ hq')) (fun n hn => by
    rcases VF hn with h | h
    ·exact hA n h
    ·rw [h]; exact hq q (by simp))
   exact ⟨h1, fun k n hn => h2 k n (TY hn)⟩
theorem R5 (N : Nat) (hN : N ≤ 1000000) (h20 : 100 ≤ N) {p : Aa} {m : Ad} (hp : Bl p) (hm : B6 p m) {s : Ae} (hs : s ∈ GM p m) : ∃ b, Dj N p m s = some ((Bd p m s).1, b) := by
 obtain ⟨h1, h2⟩ := JF hs
 obtain ⟨h3, h4⟩ := OO hp h1
 rw [NS N hN h20 hp hm h3 h4]
 unfold Bd at h2 ⊢
 rw [h3, h4, if_neg (by simp), if_neg (by simp)] at h2 ⊢
 cases h : GP p m s with
 | none => rw [h] at h2; cases h2
 | some x => exact ⟨true, rfl⟩
theorem LP {N : Nat} (hN : N ≤ 1000000) (h20 : 100 ≤ N) {p : Aa} (hp : Bl p) {m : Ad} (hm : B6 p m) {f : Int} {t : Ae} {most i : Nat} (hmo : most ≤ 20000) {v1 : List AE × Int} (hv1 : v1.2 = (i : Int)) (ss : List Ae) (hss : ∀ s, s ∈ ss → s ∈ GM p m) (hsl : ss.length ≤ 1000) (j : List AE → Option (List AE × Bool)) :
  ∀ (n k : Nat) (l : List Kf), k ≤ ss.length → ss.length - k < n → l[i]? = some (m, f, t) → (∀ n, n ∈ l → B6 p n.1 ∧ BG p n.1 = true) → l.length ≤ most → (l.length < N ∧ most < N ∨ ∃ l', Bfs.inner most i (RG p m (ss.drop k)) l = some l' ∧ l'.length < N) →
   B1 N p (most : Int) v1 ss j n (l.map Ki, (k : Int)) = match Bfs.inner most i (RG p m (ss.drop k)) l with
    | none => some ([], false)
    | some l' => j (l'.map Ki)
 | 0, k, l, _, h, _, _, _, _ => by omega
 | n + 1, k, l, hk, h, hi, hA, hlm, hfu => by
  by_cases h1 : k < ss.length
  ·have hs : ss[k]? = some ss[k] := by simp [h1]
   have hsm := hss _ (lM hs)
   have hl1 : l.length < N := by
    rcases hfu with h | ⟨l', h, h2⟩
    ·exact h.1
    ·have hk := (LM (p := p) h (fun q hq => by
      obtain ⟨g1, g2, g3⟩ := Vz.1 hq
      exact ⟨by rw [g2]; exact MK hp hm (JF (hss _ (List.mem_of_mem_drop g1))).2, g3⟩) hA).2
     by_cases h0 : l.length = 0
     ·omega
     ·have := hk (l.length - 1) l[l.length - 1] (by simp)
      have := (lI.1 this).1
      omega
   rw [B1, AH (by simp only; omega)]
   simp only [Bn, hv1, AX, zF, hi, hs, yS, oS, Ki]
   obtain ⟨b, ea⟩ := R5 N hN h20 hp hm hsm
   rw [show (Ad.mk m.fd m.fa m.fe) = m from rfl, ea]
   simp only [oS]
   have hxo := MK hp hm (JF hsm).2
   rw [Jt N p _ hN h20 hp hxo]
   simp only [oS]
   rw [Ho hs, SZ] at hfu ⊢
   cases hr : BG p (Bd p m ss[k]).1
   ·rw [hr] at hfu
    rw [Ao, Ao, if_neg (by simp), AB (by rw [zO]; omega), AI (by omega)]
    rw [if_neg (by simp)] at hfu
    exact LP hN h20 hp hm hmo hv1 ss hss hsl j n (k + 1) l (by omega) (by omega) hi hA hlm hfu
   ·rw [hr] at hfu
    rw [AU, if_pos rfl]
    rw [if_pos rfl] at hfu
    obtain ⟨r, er, hr2⟩ := S3 hN h20 hp hxo hl1 (fun n hn => (hA n hn).1)
    have er' : EV N (l.map fun n => AE.mk n.1 n.2.1 n.2.2) (Bd p m ss[k]).1 = some r := er
    have em : (l.map fun n : Kf => AE.mk n.1 n.2.1 n.2.2) = l.map Ki := rfl
    rw [← em, er']
    simp only [oS]
    rw [hr2]
    have hput : Bfs.put i l (ss[k], (Bd p m ss[k]).1) = if (l.any fun n => decide (n.1 = (Bd p m ss[k]).1)) = true then l else l ++ [((Bd p m ss[k]).1, (i : Int), ss[k])] := rfl
    simp only [Bfs.inner] at hfu ⊢
    have hA2 : ∀ n, n ∈ Bfs.put i l (ss[k], (Bd p m ss[k]).1) → B6 p n.1 ∧ BG p n.1 = true := fun n hn => by
     rcases VF hn with h | h
     ·exact hA n h
     ·rw [h]; exact ⟨hxo, hr⟩
    have hi2 : (Bfs.put i l (ss[k], (Bd p m ss[k]).1))[i]? = some (m, f, t) := TY hi
    have main : (AR (decide ((most : Int) < (((Bfs.put i l (ss[k], (Bd p m ss[k]).1)).map Ki).length : Int))) (some (([] : List AE), false)) (B1 N p (most : Int) v1 ss j n ((Bfs.put i l (ss[k], (Bd p m ss[k]).1)).map Ki, (wI .i64 ((k : Int) + 1))))) =
      match (if most < (Bfs.put i l (ss[k], (Bd p m ss[k]).1)).length then none else Bfs.inner most i (RG p m (ss.drop (k + 1))) (Bfs.put i l (ss[k], (Bd p m ss[k]).1))) with
      | none => some ([], false)
      | some l' => j (l'.map Ki) := by
     by_cases hb : most < (Bfs.put i l (ss[k], (Bd p m ss[k]).1)).length
     ·rw [if_pos hb, AH (by rw [zO]; omega)]
     ·rw [if_neg hb] at hfu
      rw [if_neg hb, AB (by rw [zO]; omega), AI (by omega)]
      exact LP hN h20 hp hm hmo hv1 ss hss hsl j n (k + 1) _ (by omega) (by omega) hi2 hA2 (by omega) (hfu.imp (fun h => ⟨by omega, h.2⟩) id)
    cases hin : (l.any fun n => decide (n.1 = (Bd p m ss[k]).1))
    ·rw [hin] at hput
     rw [yV, AU, Aw (by simp [Dz]; omega)]
     rw [if_neg (by simp)] at hput
     rw [hput, xC] at main
     rw [hput]
     exact main
    ·rw [hin] at hput
     rw [zY, Ao]
     rw [if_pos rfl] at hput
     rw [hput] at main
     rw [hput]
     exact main
  ·have : k = ss.length := by omega
   subst this
   rw [B1, AB (by simp), yR (zK _)]
   rfl
theorem VC {p : Aa} {m : Ad} (hm : B6 p m) (hr : BG p m = true) : ∀ n, n ∈ ([(m, -1, N5)] : List Kf) → B6 p n.1 ∧ BG p n.1 = true := fun n hn => by
 rw [yQ.1 hn]; exact ⟨hm, hr⟩
theorem Q9 {p : Aa} (hp : Bl p) (m : Ad) : (GM p m).length ≤ 54 := xU (List.length_filter_le _ _) (U5 hp)
theorem MH {N : Nat} (hN : N ≤ 1000000) (h20 : 100 ≤ N) {p : Aa} (hv : B5 p = 0) {most : Nat} (hmo : most ≤ 20000) (j : List AE → Option (List AE × Bool)) :
  ∀ (n i : Nat) (l : List Kf), i ≤ l.length → (∀ n, n ∈ l → B6 p n.1 ∧ BG p n.1 = true) → l.length ≤ most → (most < N ∧ most < n + i ∨ ∃ l', Bfs.go (JW p) most n i l = some l' ∧ l'.length < N) →
   BZ N p (most : Int) j n (l.map Ki, (i : Int)) = match Bfs.go (JW p) most n i l with
    | none => some ([], false)
    | some l' => j (l'.map Ki)
 | 0, i, l, hi, _, hlm, hfu => by
  rcases hfu with h | ⟨l', h, _⟩
  ·omega
  ·cases h
 | n + 1, i, l, hi, hA, hlm, hfu => by
  obtain ⟨hp, _⟩ := Du hv
  simp only [Bfs.go] at hfu ⊢
  rw [BZ]
  by_cases h1 : i < l.length
  ·obtain ⟨⟨m, f, t⟩, hx⟩ := Bfs.get_ex h1
   have hm := (hA _ (lM hx)).1
   rw [hx] at hfu ⊢
   simp only at hfu ⊢
   rw [AH (by rw [zO]; omega)]
   simp only [AX, zF, hx, yS, oS, Ki]
   rw [show (Ad.mk m.fd m.fa m.fe) = m from rfl, R0 N hN h20 hv hm]
   simp only [oS]
   have hgo : RG p m ((GM p m).drop 0) = JW p m := rfl
   have hsl := Q9 hp m
   have e := LP hN h20 hp hm hmo (v1 := (l.map Ki, (i : Int))) rfl (GM p m) (fun s hs => hs) (by omega) (fun (v7 : (List AE)) =>
    BZ N p (most : Int) j n (v7, (wI .i64 ((i : Int) + 1)))) N 0 l (zL _) (by omega) hx hA hlm (by
     rcases hfu with ⟨g1, g2⟩ | ⟨l', h, hl'⟩
     ·exact .inl ⟨by omega, g1⟩
     ·right
      rw [hgo]
      cases hin : Bfs.inner most i (JW p m) l with
      | none => rw [hin] at h; cases h
      | some l1 =>
       rw [hin] at h
       refine ⟨l1, rfl, ?_⟩
       have : l1.length ≤ l'.length := by
        have : ∀ (n i : Nat) (l l' : List Kf), Bfs.go (JW p) most n i l = some l' → l.length ≤ l'.length := by
         intro n
         induction n with
         | zero => intro i l l' h; cases h
         | succ n ih =>
          intro i l l' h
          simp only [Bfs.go] at h
          split at h
          ·cases h; exact zK _
          ·rename_i nd _
           cases hin : Bfs.inner most i (JW p nd.1) l with
           | none => rw [hin] at h; cases h
           | some l1 =>
            rw [hin] at h
            refine xU ?_ (ih _ _ _ h)
            have : ∀ (qs : List (Ae × Ad)) (l l1 : List Kf), Bfs.inner most i qs l = some l1 → l.length ≤ l1.length := by
             intro qs
             induction qs with
             | nil => intro l l1 h; cases h; exact zK _
             | cons q qs ih =>
              intro l l1 h
              simp only [Bfs.inner] at h
              split at h
              ·cases h
              ·refine xU ?_ (ih _ _ h)
               unfold Bfs.put; split
               ·exact zK _
               ·simp
            exact this _ _ _ hin
        exact this _ _ _ _ h
       omega)
   have e' : B1 N p (most : Int) (l.map Ki, (i : Int)) (GM p m) (fun (v7 : (List AE)) => BZ N p (most : Int) j n (v7, (wI .i64 ((i : Int) + 1)))) N (l.map Ki, 0) = _ := e
   rw [e', hgo]
   cases hin : Bfs.inner most i (JW p m) l with
   | none => rfl
   | some l1 =>
    rw [hin] at hfu
    obtain ⟨k1, k2⟩ := LM hin (fun q hq => US hp hm hq) hA
    have := (lI.1 (k2 _ _ hx)).1
    simp only [oS] at hfu ⊢
    rw [AI (by omega)]
    exact MH hN h20 hv hmo j n (i + 1) l1 (by omega) k1 (Bfs.inner_len _ _ _ hlm hin) (hfu.imp (fun h => ⟨h.1, by omega⟩) id)
  ·have hi' : i = l.length := by omega
   subst hi'
   rw [yX (zK _)]
   rw [AB (by simp)]
def Jh (p : Aa) (m : Ad) (most n : Nat) : Option (List Kf) := Bfs.go (JW p) most n 0 [(m, -1, N5)]
theorem NZ {N : Nat} (hN : N ≤ 1000000) (h20 : 100 ≤ N) {p : Aa} (hv : B5 p = 0) {m : Ad} (hm : B6 p m) (hr : BG p m = true) {most : Nat} (hmo : most ≤ 20000) (h1 : 1 ≤ most) (hfu : most < N ∨ ∃ l', Jh p m most N = some l' ∧ l'.length < N) :
  Di N p m (most : Int) = some (match Jh p m most N with
   | none => ([], false)
   | some l' => (l'.map Ki, true)) := by
 unfold Di
 have e := MH hN h20 hv hmo (fun (v2 : (List AE)) => some (v2, true)) N 0 [(m, -1, N5)] (zL _) (VC hm hr) h1 (hfu.imp (fun h => ⟨h, by omega⟩) id)
 have e' : BZ N p (most : Int) (fun (v2 : (List AE)) => some (v2, true)) N (([(AE.mk m ((-1)) ((Ae.mk 0 0 0)))] : List AE), 0) = _ := e
 rw [e']
 unfold Jh
 cases Bfs.go (JW p) most N 0 [(m, -1, N5)] <;> rfl
structure YJ (p : Aa) (m : Ad) (l : List Kf) (ws : List (List Ae)) : Prop where
 inv : Bfs.Inv (JW p) NG 100 m l.length [] l ws
 ok : ∀ (k : Nat) x f s, l[k]? = some (x, f, s) → B6 p x ∧ BG p x = true
theorem UO {p : Aa} (hp : Bl p) {m : Ad} (hm : B6 p m) (hr : BG p m = true) {most n : Nat} {l : List Kf} (h : Jh p m most n = some l) : ∃ ws, YJ p m l ws := by
 obtain ⟨ws, h1, h2⟩ := Bfs.inv_go (rk := NG) (K := 100) (fun x => B6 p x ∧ BG p x = true) (fun x _ => aW hp x) (fun x hx q hq => by
  refine ⟨?_, US hp hx.1 hq⟩
  exact (P7 hp (JF (N7.1 hq).1).1).2) ⟨hm, hr⟩ n 0 [(m, -1, N5)] l [[]] (zL _) Bfs.inv_start (fun k x f s hk => by
   have := Bfs.lt_get hk
   simp at this; subst this
   cases hk; exact ⟨hm, hr⟩) h
 exact ⟨ws, h1, h2⟩
theorem Y4 {p : Aa} (hp : Bl p) {m : Ad} {l : List Kf} {ws : List (List Ae)} (h : YJ p m l ws) {k : Nat} {x : Ad} {f : Int} {s : Ae} {w : List Ae} (hx : l[k]? = some (x, f, s)) (hw : ws[k]? = some w) : Pw p m w = some x :=
 (NL hp).2 (Bfs.way_run h.inv (k + 1) k (Nat.lt_succ_self k) hx hw)
theorem RS {p : Aa} (hp : Bl p) {m x : Ad} {l : List Kf} {ws : List (List Ae)} (h : YJ p m l ws) {w : List Ae} (hw : Pw p m w = some x) : ∃ (k : Nat) (f : Int) (s : Ae) (u : List Ae), l[k]? = some (x, f, s) ∧ ws[k]? = some u ∧ Bfs.code NG 100 u ≤ Bfs.code NG 100 w :=
 Bfs.reach_node h.inv w.length rfl ((NL hp).1 hw)
theorem SD {p : Aa} {m : Ad} {l : List Kf} {ws : List (List Ae)} (h : YJ p m l ws) : ∀ (n k : Nat) {w : List Ae}, k < n → ws[k]? = some w → w.length ≤ k
 | 0, k, _, hk, _ => by omega
 | n + 1, k, w, hk, hw => by
  obtain ⟨⟨x, f, s⟩, hx⟩ := Bfs.get_ex (l := l) (k := k) (by rw [← h.inv.len]; exact Bfs.lt_get hw)
  rcases uJ k with rfl | hk0
  ·rw [h.inv.root'] at hw; cases hw; exact zK _
  ·obtain ⟨j, y', g', t', w', e1, e2, e3, e4, e5, e6, e7⟩ := h.inv.par k _ _ _ hk0 hx
   rw [e6] at hw; cases hw
   have := SD h n j (by omega) e5
   simp; omega
theorem NQ {p : Aa} {m : Ad} {l : List Kf} {ws : List (List Ae)} (h : YJ p m l ws) (N : Nat) (j : List Ae → Option (List Ae)) : ∀ (n k : Nat) {w acc : List Ae}, k < n → ws[k]? = some w → acc.length + k ≤ 20000 →
  En N (l.map Ki) j n ((k : Int), acc) = j (w ++ acc)
 | 0, k, _, _, hk, _, _ => by omega
 | n + 1, k, w, acc, hk, hw, ha => by
  obtain ⟨⟨x, f, s⟩, hx⟩ := Bfs.get_ex (l := l) (k := k) (by rw [← h.inv.len]; exact Bfs.lt_get hw)
  rw [En]
  simp only [AX, zF, hx, yS, oS, Ki]
  rcases uJ k with rfl | hk0
  ·obtain ⟨s0, hs0⟩ := h.inv.root; rw [hs0] at hx; cases hx
   rw [h.inv.root'] at hw; cases hw
   rw [AB (by decide)]; rfl
  ·obtain ⟨i, y', g', t', w', e1, e2, e3, e4, e5, e6, e7⟩ := h.inv.par k _ _ _ hk0 hx
   rw [e6] at hw; cases hw
   subst e1
   rw [AH (vS i), Aw (by simp [Dz]; omega)]
   have := NQ h N j n i (w := w') (acc := [Ae.mk s.ff s.fh s.fo] ++ acc) (by omega) e5 (by simp; omega)
   rw [this, yO]
def LJ (p : Aa) (l : List Kf) : Option Nat := CY (fun i (n : Kf) => if IY p n.1 = true then some i else none) 0 l
theorem Rk {p : Aa} {l : List Kf} {k : Nat} (h : LJ p l = some k) : (∃ x f s, l[k]? = some (x, f, s) ∧ IY p x = true) ∧ ∀ j x f s, j < k → l[j]? = some (x, f, s) → IY p x = false := by
 have : ∀ (xs : List Kf) (i k : Nat), CY (fun i (n : Kf) => if IY p n.1 = true then some i else none) i xs = some (i + k) → (∃ x f s, xs[k]? = some (x, f, s) ∧ IY p x = true) ∧ ∀ j x f s, j < k → xs[j]? = some (x, f, s) → IY p x = false := by
  intro xs
  induction xs with
  | nil => intro i k h; cases h
  | cons n xs ih =>
   intro i k h
   rw [Gi] at h
   cases hg : IY p n.1
   ·rw [hg] at h
    simp only [Bool.false_eq_true, if_false] at h
    cases k with
    | zero =>
     exfalso
     obtain ⟨j, x, _, hj⟩ := Em h
     split at hj
     ·have := Option.some.inj hj; omega
     ·cases hj
    | succ k =>
     obtain ⟨⟨x, f, s, h1, h2⟩, h3⟩ := ih (i + 1) k (by rw [show i + 1 + k = i + (k + 1) from by omega]; exact h)
     refine ⟨⟨x, f, s, by simpa using h1, h2⟩, ?_⟩
     intro j x f s hj hx
     cases j with
     | zero => simp at hx; subst hx; exact hg
     | succ j => exact h3 j x f s (by omega) (by simpa using hx)
   ·rw [hg] at h
    simp only [if_true, Option.some.injEq] at h
    have : k = 0 := by omega
    subst this
    exact ⟨⟨n.1, n.2.1, n.2.2, rfl, hg⟩, fun j _ _ _ hj => by omega⟩
 exact this l 0 k (by rw [zC]; exact h)
theorem V3 {p : Aa} {l : List Kf} (h : LJ p l = none) {k : Nat} {x : Ad} {f : Int} {s : Ae} (hx : l[k]? = some (x, f, s)) : IY p x = false := by
 have := FE h k _ hx
 split at this
 ·cases this
 ·rename_i h; simpa using h
def Na (p : Aa) (l : List Kf) (ws : List (List Ae)) : List Ae × Int := match LJ p l with
 | none => ([], 14)
 | some k => (ws.getD k [], 0)
theorem TS {N : Nat} (hN : N ≤ 1000000) (h20 : 100 ≤ N) {p : Aa} (hv : B5 p = 0) {m : Ad} (hm : B6 p m) (hr : BG p m = true) {l : List Kf} (hs : Jh p m 20000 N = some l) (hl : l.length < N) {ws : List (List Ae)} (h : YJ p m l ws) :
  EY N p m = some (Na p l ws) := by
 obtain ⟨hp, _⟩ := Du hv
 have hl2 : l.length ≤ 20000 := Bfs.go_len _ _ _ _ (by simp) hs
 unfold EY
 rw [Km N p m hN (by omega), JC hv hm]
 simp only [oS, bne_self_eq_false, Ao]
 rw [Jt N p m hN h20 hp hm, hr]
 simp only [oS, zY, Ao]
 have e := NZ hN h20 hv hm hr (most := 20000) (by omega) (by omega) (.inr ⟨l, hs, hl⟩)
 rw [hs] at e
 have e' : Di N p m 20000 = some (l.map Ki, true) := e
 rw [e']
 simp only [oS, zY, Ao]
 have := Cn (CG N p (l.map Ki, true) fun _ => some (([] : List Ae), 14)) l (some ([], 14)) (fun i n => (if IY p n.1 = true then some i else none).map fun k => (ws.getD k [], 0))
  (fun n i nd hnd => by
   have hi := (lI.1 hnd).1
   rw [CG, AH (by simp only [zO]; omega)]
   simp only [AX, zF, hnd, yS, oS, Ki]
   have hok := (h.ok _ _ _ _ (show l[i]? = some (nd.1, nd.2.1, nd.2.2) from hnd)).1
   rw [show (Ad.mk nd.1.fd nd.1.fa nd.1.fe) = nd.1 from rfl, Ua N p nd.1 hN h20 (Nc hok), AI (by omega)]
   simp only [oS]
   cases hg : IY p nd.1
   ·rfl
   ·rw [AU, if_pos rfl]
    obtain ⟨w, hw⟩ := Bfs.get_ex (l := ws) (k := i) (by rw [h.inv.len]; exact hi)
    have e2 := NQ h N (fun v2 => some v2) N i (w := w) (acc := []) (by omega) hw (by simp; omega)
    unfold Hh
    rw [e2, xO]
    simp only [oS, yS, BV]
    rw [lD, hw]; rfl)
  (fun n => by rw [CG, AB (by simp)]) N 0 (zL _) (by omega)
 have e3 : CG N p (l.map Ki, true) (fun _ => some (([] : List Ae), 14)) N 0 = _ := this
 rw [e3, zZ, L9]
 unfold Na LJ
 cases CY (fun i (n : Kf) => if IY p n.1 = true then some i else none) 0 l <;> rfl
def E6 (n : AG) : Kf := (n.fp, n.fg, n.ft)
def KB (x : Ad) : List (Ad × Int) → Option Int
 | [] => none
 | e :: r => if x = e.1 then some e.2 else KB x r
def MU (q : List (Ad × Int)) : List (ByteArray × Int) := q.map fun e => (C2 (Mm e.1), e.2)
theorem Yn {p : Aa} (hp : Bl p) {x y : Ad} (hx : B6 p x) (hy : B6 p y) : (C2 (Mm x) == C2 (Mm y)) = decide (x = y) := by
 by_cases h : x = y
 ·rw [decide_eq_true h, h, Sg]
 ·rw [decide_eq_false h]
  cases hb : C2 (Mm x) == C2 (Mm y)
  ·rfl
  ·exact absurd (YV hp hx hy hb) h
theorem Qy {p : Aa} (hp : Bl p) {x : Ad} (hx : B6 p x) : ∀ {q : List (Ad × Int)}, (∀ e, e ∈ q → B6 p e.1) → Jg (C2 (Mm x)) (MU q) = KB x q
 | [], _ => rfl
 | e :: q, h => by
  have ih := Qy hp hx (q := q) fun e he => h e (xR _ he)
  show (if (C2 (Mm x) == C2 (Mm e.1)) = true then some e.2 else Jg (C2 (Mm x)) (MU q)) = if x = e.1 then some e.2 else KB x q
  rw [Yn hp hx (h e (by simp)), ih]
  by_cases h : x = e.1
  ·rw [decide_eq_true h, if_pos rfl, if_pos h]
  ·rw [decide_eq_false h, if_neg (by simp), if_neg h]
theorem Mx (x y : Ad) (r : Int) : ∀ q : List (Ad × Int), KB x (q ++ [(y, r)]) = match KB x q with
  | some v => some v
  | none => if x = y then some r else none
 | [] => rfl
 | e :: q => by
  simp only [uS, KB]
  by_cases h : x = e.1
  ·rw [if_pos h, if_pos h]
  ·rw [if_neg h, if_neg h, Mx x y r q]
theorem Xv (q : List (Ad × Int)) (x : Ad) (r : Int) : MU (q ++ [(x, r)]) = MU q ++ [(C2 (Mm x), r)] := by simp [MU]
structure Pt (p : Aa) (q : List (Ad × Int)) (l : List Kf) : Prop where
 ok : ∀ e, e ∈ q → B6 p e.1
 none : ∀ x, B6 p x → KB x q = none → ∀ n, n ∈ l → n.1 ≠ x
 some : ∀ x r, B6 p x → KB x q = some r → (r = -1 ∧ BG p x = false) ∨ ∃ (j : Nat) (f : Int) (s : Ae), r = (j : Int) ∧ l[j]? = some (x, f, s)
structure NB (p : Aa) (i : Nat) (done : List (Ae × Ad)) (pl : List AG) : Prop where
 to : ∀ (b : Nat) nd, pl[b]? = some nd → ∀ r, r ∈ nd.fa → ∃ s y, ((b < i ∧ (s, y) ∈ JW p nd.fp) ∨ (b = i ∧ (s, y) ∈ done)) ∧ ∃ (a : Nat) (f : Int) (t : Ae), r = (a : Int) ∧ (pl.map E6)[a]? = some (y, f, t)
 of : ∀ (b : Nat) nd, pl[b]? = some nd → ∀ s y, ((b < i ∧ (s, y) ∈ JW p nd.fp) ∨ (b = i ∧ (s, y) ∈ done)) → ∃ (a : Nat) (f : Int) (t : Ae), ((a : Nat) : Int) ∈ nd.fa ∧ (pl.map E6)[a]? = some (y, f, t)
def MT (pl : List AG) (i : Nat) (nd : AG) (r : Int) : List AG := if 0 ≤ r then pl.set i ⟨nd.fp, nd.fg, nd.ft, nd.fa ++ [r]⟩ else pl
theorem N3 {pl : List AG} {i : Nat} {nd : AG} {r : Int} (h : pl[i]? = some nd) : (MT pl i nd r).map E6 = pl.map E6 := by
 unfold MT
 split
 ·apply List.ext_getElem?
  intro k
  rw [zF, zF, xA]
  by_cases hk : i = k
  ·subst hk
   rw [if_pos rfl, if_pos (Bfs.lt_get h), h]; rfl
  ·rw [if_neg hk]
 ·rfl
theorem MN {pl : List AG} {i : Nat} {nd : AG} {r : Int} (h : pl[i]? = some nd) {b : Nat} {nb : AG} (hb : (MT pl i nd r)[b]? = some nb) : (b ≠ i ∧ pl[b]? = some nb) ∨ (b = i ∧ nb.fp = nd.fp ∧ nb.fg = nd.fg ∧ nb.ft = nd.ft ∧ nb.fa = if 0 ≤ r then nd.fa ++ [r] else nd.fa) := by
 unfold MT at hb
 split at hb
 ·rename_i hr
  rw [xA] at hb
  by_cases hk : i = b
  ·subst hk
   rw [if_pos rfl, if_pos (Bfs.lt_get h)] at hb
   cases hb
   exact .inr ⟨rfl, rfl, rfl, rfl, by rw [if_pos hr]⟩
  ·rw [if_neg hk] at hb
   exact .inl ⟨fun e => hk e.symm, hb⟩
 ·rename_i hr
  by_cases hk : b = i
  ·subst hk; rw [h] at hb; cases hb
   exact .inr ⟨rfl, rfl, rfl, rfl, by rw [if_neg hr]⟩
  ·exact .inl ⟨hk, hb⟩
theorem S4 {p : Aa} {i : Nat} {done : List (Ae × Ad)} {pl pl2 : List AG} {nd : AG} {s : Ae} {x : Ad} {a : Nat} {f : Int} {t : Ae} (h : NB p i done pl)
  (hkeep : ∀ (b : Nat) nb, pl2[b]? = some nb → pl[b]? = some nb ∨ (i < b ∧ nb.fa = [])) (hk2 : ∀ (b : Nat) n, (pl.map E6)[b]? = some n → (pl2.map E6)[b]? = some n) (hi : pl2[i]? = some nd) (ha : (pl2.map E6)[a]? = some (x, f, t)) : NB p i (done ++ [(s, x)]) (MT pl2 i nd (a : Int)) := by
 constructor
 ·intro b nb hb r hr
  rw [N3 hi]
  rcases MN hi hb with ⟨h1, h2⟩ | ⟨h1, h2, h3, h4, h5⟩
  ·rcases hkeep b nb h2 with h3 | ⟨h3, h4⟩
   ·obtain ⟨s', y, g1, a', f', t', g2, g3⟩ := h.to b nb h3 r hr
    refine ⟨s', y, ?_, a', f', t', g2, hk2 _ _ g3⟩
    rcases g1 with g1 | g1
    ·exact .inl g1
    ·exact absurd g1.1 h1
   ·rw [h4] at hr; cases hr
  ·subst h1
   rw [h5, if_pos (vS a)] at hr
   rcases yB.1 hr with hr | hr
   ·rcases hkeep b nd hi with h6 | ⟨h6, _⟩
    ·obtain ⟨s', y, g1, a', f', t', g2, g3⟩ := h.to b nd h6 r hr
     refine ⟨s', y, ?_, a', f', t', g2, hk2 _ _ g3⟩
     rcases g1 with g1 | g1
     ·exact .inl ⟨g1.1, by rw [h2]; exact g1.2⟩
     ·exact .inr ⟨rfl, y9 _ g1.2⟩
    ·omega
   ·rw [yQ.1 hr]
    exact ⟨s, x, .inr ⟨rfl, by simp⟩, a, f, t, rfl, ha⟩
 ·intro b nb hb s' y hs
  rw [N3 hi]
  rcases MN hi hb with ⟨h1, h2⟩ | ⟨h1, h2, h3, h4, h5⟩
  ·rcases hkeep b nb h2 with h3 | ⟨h3, h4⟩
   ·obtain ⟨a', f', t', g2, g3⟩ := h.of b nb h3 s' y (by
     rcases hs with hs | hs
     ·exact .inl hs
     ·exact absurd hs.1 h1)
    exact ⟨a', f', t', g2, hk2 _ _ g3⟩
   ·rcases hs with hs | hs <;> omega
  ·subst h1
   rw [h5, if_pos (vS a)]
   rcases hkeep b nd hi with h6 | ⟨h6, _⟩
   ·rcases hs with hs | ⟨_, hs⟩
    ·omega
    ·rcases yB.1 hs with hs | hs
     ·obtain ⟨a', f', t', g2, g3⟩ := h.of b nd h6 s' y (.inr ⟨rfl, hs⟩)
      exact ⟨a', f', t', y9 _ g2, hk2 _ _ g3⟩
     ·cases yQ.1 hs
      exact ⟨a, f, t, by simp, ha⟩
   ·omega
theorem Ic {N : Nat} (hN : N ≤ 1000000) (h20 : 100 ≤ N) {p : Aa} (hv : B5 p = 0) {m : Ad} (hm : B6 p m) {most i : Nat} (hmo : most ≤ 20000) {v2 : List AG × List (ByteArray × Int) × Int} (hv2 : v2.2.2 = (i : Int)) (ss : List Ae) (e0 : Int) (hss : ∀ s, s ∈ ss → s ∈ GM p m) (hsl : ss.length ≤ 1000) (j : List AG × List (ByteArray × Int) → Option (List AG × Int)) :
  ∀ (n k : Nat) (pl : List AG) (q : List (Ad × Int)) (l' : List Kf), k ≤ ss.length → ss.length - k < n → (∃ nd, pl[i]? = some nd ∧ nd.fp = m) → (∀ n, n ∈ pl.map E6 → B6 p n.1 ∧ BG p n.1 = true) → pl.length ≤ most → Pt p q (pl.map E6) → NB p i (RG p m (ss.take k)) pl →
   (∃ nd, pl[i]? = some nd ∧ nd.fa.length ≤ k) → Bfs.inner most i (RG p m (ss.drop k)) (pl.map E6) = some l' →
   ∃ pl' q', CI N p v2 (ss, e0) j n (pl, MU q, (k : Int)) = j (pl', MU q') ∧ pl'.map E6 = l' ∧ Pt p q' l' ∧ NB p i (RG p m ss) pl' ∧ (∀ (b : Nat) nb, pl'[b]? = some nb → b ≠ i → pl[b]? = some nb ∨ nb.fa = [])
 | 0, k, pl, q, l', _, h, _, _, _, _, _, _, _ => by omega
 | n + 1, k, pl, q, l', hk, h, hi, hA, hlm, hpl, hnx, hfl, hin => by
  obtain ⟨hp, _⟩ := Du hv
  obtain ⟨nd, hnd, hndm⟩ := hi
  obtain ⟨nd', hnd', hfl⟩ := hfl
  rw [hnd] at hnd'; cases hnd'
  by_cases h1 : k < ss.length
  ·have hs : ss[k]? = some ss[k] := by simp [h1]
   have hsm := hss _ (lM hs)
   have hstep := (JF hsm).2
   have hxo := MK hp hm hstep
   have hil := Bfs.lt_get hnd
   rw [CI, AH (by simp only; omega)]
   simp only [Bn, hv2, AX, hnd, hs, oS]
   rw [show (Ad.mk nd.fp.fd nd.fp.fa nd.fp.fe) = m from hndm, QO N hN h20 (Nc hm), if_pos (JC hv hm)]
   simp only [oS]
   rw [hstep, bne_self_eq_false, Ao, XO N hN h20 hp hxo]
   simp only [oS]
   rw [Qy hp hxo hpl.ok]
   have htk : ss.take (k + 1) = ss.take k ++ [ss[k]] := by rw [yU, hs]; rfl
   have hgo : RG p m (ss.take (k + 1)) = if BG p (Bd p m ss[k]).1 = true then RG p m (ss.take k) ++ [(ss[k], (Bd p m ss[k]).1)] else RG p m (ss.take k) := by
    rw [htk]; unfold RG; rw [List.filterMap_append]
    cases hr : BG p (Bd p m ss[k]).1 <;> simp [hr]
   rw [Ho hs, SZ] at hin
   -- what follows when the node's number is known
   have tail : ∀ (pl2 : List AG) (q2 : List (Ad × Int)) (r : Int) (nd2 : AG), pl2[i]? = some nd2 → nd2.fp = m → nd2.fa.length ≤ k → pl2.length ≤ most →
     AR (decide (0 ≤ r)) ((A4 pl2 (i : Int)).bind fun v26 => (Ej (v26.fa.length + (([r] : List Int)).length ≤ Dz)).bind fun _ => (A4 pl2 (i : Int)).bind fun v28 =>
      AR (decide ((20000 : Int) < ((pl2.set ((i : Int)).toNat (AG.mk (Ad.mk v28.fp.fd v28.fp.fa v28.fp.fe) v28.fg (Ae.mk v28.ft.ff v28.ft.fh v28.ft.fo) (v26.fa ++ ([r] : List Int)))).length : Int))) (some (([] : List AG), 3))
       (CI N p v2 (ss, e0) j n (pl2.set ((i : Int)).toNat (AG.mk (Ad.mk v28.fp.fd v28.fp.fa v28.fp.fe) v28.fg (Ae.mk v28.ft.ff v28.ft.fh v28.ft.fo) (v26.fa ++ ([r] : List Int))), MU q2, (wI .i64 ((k : Int) + 1)))))
      (AR (decide ((20000 : Int) < (pl2.length : Int))) (some (([] : List AG), 3)) (CI N p v2 (ss, e0) j n (pl2, MU q2, (wI .i64 ((k : Int) + 1))))) =
     CI N p v2 (ss, e0) j n (MT pl2 i nd2 r, MU q2, ((k + 1 : Nat) : Int)) := by
    intro pl2 q2 r nd2 h2 h3 h4 h5
    by_cases hr : 0 ≤ r
    ·rw [AH hr]
     simp only [AX, h2, oS, zQ]
     rw [Aw (by simp [Dz]; omega), AB (by rw [xY]; omega), AI (by omega)]
     unfold MT; rw [if_pos hr]
    ·rw [AB hr, AB (by omega), AI (by omega)]
     unfold MT; rw [if_neg hr]
   cases hlq : KB (Bd p m ss[k]).1 q with
   | some r =>
    simp only [Option.isSome_some, zY, Ao, yF]
    have ht := tail pl q r nd hnd hndm hfl hlm
    simp only [AX, hnd, oS] at ht
    rw [show (Ad.mk nd.fp.fd nd.fp.fa nd.fp.fe) = m from hndm] at ht
    rw [ht]
    rcases hpl.some _ _ hxo hlq with ⟨hr, hnr⟩ | ⟨a, f, t, hr, ha⟩
    ·subst hr
     rw [hnr, if_neg (by simp)] at hin
     rw [hnr, if_neg (by simp)] at hgo
     have hadd : MT pl i nd (-1) = pl := by unfold MT; rw [if_neg (by decide)]
     rw [hadd]
     exact Ic hN h20 hv hm hmo hv2 ss e0 hss hsl j n (k + 1) pl q l' (by omega) (by omega) ⟨nd, hnd, hndm⟩ hA hlm hpl (by rw [hgo]; exact hnx) ⟨nd, hnd, by omega⟩ hin
    ·subst hr
     have hrob : BG p (Bd p m ss[k]).1 = true := (hA _ (lM ha)).2
     rw [hrob, if_pos rfl] at hin hgo
     have hput : Bfs.put i (pl.map E6) (ss[k], (Bd p m ss[k]).1) = pl.map E6 := by
      unfold Bfs.put
      rw [if_pos]
      exact xE.2 ⟨_, lM ha, decide_eq_true rfl⟩
     simp only [Bfs.inner] at hin
     rw [hput, if_neg (by rw [zO]; omega)] at hin
     have hpr := N3 (r := (a : Int)) hnd
     have hnx2 := S4 (s := ss[k]) hnx (pl2 := pl) (fun b nb hb => .inl hb) (fun b n hb => hb) hnd ha
     obtain ⟨nd3, hnd3⟩ := Bfs.get_ex (l := MT pl i nd (a : Int)) (k := i) (by
      have := congrArg xI hpr; simp only [zO] at this; omega)
     obtain ⟨g1, g2⟩ | ⟨_, g2, g3, g4, g5⟩ := MN hnd hnd3
     ·exact absurd rfl g1
     obtain ⟨pl', q', r1, r2, r3, r4, r5⟩ := Ic hN h20 hv hm hmo hv2 ss e0 hss hsl j n (k + 1) (MT pl i nd (a : Int)) q l' (by omega) (by omega) ⟨nd3, hnd3, by rw [g2]; exact hndm⟩ (by rw [hpr]; exact hA) (by have := congrArg xI hpr; simp only [zO] at this; omega)  (by rw [hpr]; exact hpl) (by rw [hgo]; exact hnx2) ⟨nd3, hnd3, by rw [g5]; split <;> (try simp only [zT, zX]) <;> omega⟩ (by rw [hpr]; exact hin)
     refine ⟨pl', q', r1, r2, r3, r4, ?_⟩
     intro b nb hb hbi
     rcases r5 b nb hb hbi with h2 | h2
     ·rcases MN hnd h2 with ⟨_, h3⟩ | ⟨h3, _⟩
      ·exact .inl h3
      ·exact absurd h3 hbi
     ·exact .inr h2
   | none =>
    simp only [Option.isSome_none, yV, AU]
    rw [Ld N p _ hN h20 (Nc hxo) (JC hv hxo)]
    simp only [oS, bne_self_eq_false, Ao]
    have hms : ∀ r, Ns (C2 (Mm (Bd p m ss[k]).1)) r (MU q) = MU (q ++ [((Bd p m ss[k]).1, r)]) := fun r => by
     rw [Xv]; exact MP _ _ (by rw [Qy hp hxo hpl.ok, hlq])
    have hok2 : ∀ r e, e ∈ q ++ [((Bd p m ss[k]).1, r)] → B6 p e.1 := fun r e he => by
     rcases yB.1 he with he | he
     ·exact hpl.ok e he
     ·rw [yQ.1 he]; exact hxo
    cases hrob : BG p (Bd p m ss[k]).1
    ·rw [yV, AU]
     rw [hrob, if_neg (by simp)] at hin hgo
     rw [hms]
     have ht := tail pl (q ++ [((Bd p m ss[k]).1, -1)]) (-1) nd hnd hndm hfl hlm
     simp only [AX, hnd, oS] at ht
     rw [show (Ad.mk nd.fp.fd nd.fp.fa nd.fp.fe) = m from hndm] at ht
     rw [ht]
     have hadd : MT pl i nd (-1) = pl := by unfold MT; rw [if_neg (by decide)]
     rw [hadd]
     refine Ic hN h20 hv hm hmo hv2 ss e0 hss hsl j n (k + 1) pl _ l' (by omega) (by omega) ⟨nd, hnd, hndm⟩ hA hlm ⟨hok2 (-1), ?_, ?_⟩ (by rw [hgo]; exact hnx) ⟨nd, hnd, by omega⟩ hin
     ·intro x hx hq
      rw [Mx] at hq
      cases hq2 : KB x q with
      | none => exact hpl.none x hx hq2
      | some v => rw [hq2] at hq; cases hq
     ·intro x r hx hq
      rw [Mx] at hq
      cases hq2 : KB x q with
      | none =>
       rw [hq2] at hq
       simp only at hq
       split at hq
       ·rename_i he
        cases hq; left; exact ⟨rfl, by rw [he]; exact hrob⟩
       ·cases hq
      | some v => rw [hq2] at hq; cases hq; exact hpl.some x _ hx hq2
    ·rw [zY, Ao]
     rw [hrob, if_pos rfl] at hin hgo
     rw [hms]
     have hnew : ((pl.map E6).any fun n => decide (n.1 = (Bd p m ss[k]).1)) = false := by
      rw [vI]
      intro n hn
      simpa using hpl.none _ hxo hlq n hn
     have hput : Bfs.put i (pl.map E6) (ss[k], (Bd p m ss[k]).1) = (pl ++ [AG.mk (Bd p m ss[k]).1 (i : Int) ss[k] []]).map E6 := by
      unfold Bfs.put
      rw [hnew, if_neg (by simp), xC]; rfl
     simp only [Bfs.inner] at hin
     rw [hput] at hin
     split at hin
     ·cases hin
     rename_i hmm
     rw [zO, zT, zX] at hmm
     rw [Aw (by simp [Dz]; omega)]
     have hnd2 : (pl ++ [AG.mk (Bd p m ss[k]).1 (i : Int) ss[k] []])[i]? = some nd := Bfs.get_app_of hnd
     have ht := tail (pl ++ [AG.mk (Bd p m ss[k]).1 (i : Int) ss[k] []]) (q ++ [((Bd p m ss[k]).1, (pl.length : Int))]) (pl.length : Int) nd hnd2 hndm hfl (by rw [zT, zX]; omega)
     simp only [AX] at ht
     rw [ht]
     have hpr := N3 (r := (pl.length : Int)) hnd2
     have hlast : ((pl ++ [AG.mk (Bd p m ss[k]).1 (i : Int) ss[k] []]).map E6)[pl.length]? = some ((Bd p m ss[k]).1, (i : Int), ss[k]) := by
      rw [zF, Bfs.get_app_new]; rfl
     have hold : ∀ (b : Nat) n, (pl.map E6)[b]? = some n → ((pl ++ [AG.mk (Bd p m ss[k]).1 (i : Int) ss[k] []]).map E6)[b]? = some n := fun b n hb => by
      rw [xC]; exact Bfs.get_app_of hb
     have hkeep : ∀ (b : Nat) nb, (pl ++ [AG.mk (Bd p m ss[k]).1 (i : Int) ss[k] []])[b]? = some nb → pl[b]? = some nb ∨ (i < b ∧ nb.fa = []) := fun b nb hb => by
      rcases Bfs.get_app hb with h2 | ⟨h2, h3⟩
      ·exact .inl h2
      ·exact .inr ⟨by omega, by rw [h3]⟩
     have hnx2 := S4 (s := ss[k]) hnx hkeep hold hnd2 hlast
     have hpl2 : Pt p (q ++ [((Bd p m ss[k]).1, (pl.length : Int))]) ((pl ++ [AG.mk (Bd p m ss[k]).1 (i : Int) ss[k] []]).map E6) := by
      refine ⟨hok2 _, ?_, ?_⟩
      ·intro x hx hq n hn
       rw [Mx] at hq
       cases hq2 : KB x q with
       | none =>
        rw [hq2] at hq
        simp only at hq
        split at hq
        ·cases hq
        ·rename_i hne
         rw [xC] at hn
         rcases yB.1 hn with hn | hn
         ·exact hpl.none x hx hq2 n hn
         ·simp at hn; subst hn
          exact fun e => hne e.symm
       | some v => rw [hq2] at hq; cases hq
      ·intro x r hx hq
       rw [Mx] at hq
       cases hq2 : KB x q with
       | none =>
        rw [hq2] at hq
        simp only at hq
        split at hq
        ·rename_i he
         cases hq
         exact .inr ⟨pl.length, _, _, rfl, by rw [he]; exact hlast⟩
        ·cases hq
       | some v =>
        rw [hq2] at hq; cases hq
        rcases hpl.some x _ hx hq2 with g | ⟨a, f, t, g1, g2⟩
        ·exact .inl g
        ·exact .inr ⟨a, f, t, g1, hold _ _ g2⟩
     obtain ⟨nd3, hnd3⟩ := Bfs.get_ex (l := MT (pl ++ [AG.mk (Bd p m ss[k]).1 (i : Int) ss[k] []]) i nd (pl.length : Int)) (k := i) (by
      have := congrArg xI hpr; simp only [zO, zT, zX] at this; omega)
     obtain ⟨g1, g2⟩ | ⟨_, g2, g3, g4, g5⟩ := MN hnd2 hnd3
     ·exact absurd rfl g1
     obtain ⟨pl', q', r1, r2, r3, r4, r5⟩ := Ic hN h20 hv hm hmo hv2 ss e0 hss hsl j n (k + 1) (MT (pl ++ [AG.mk (Bd p m ss[k]).1 (i : Int) ss[k] []]) i nd (pl.length : Int)) _ l' (by omega) (by omega) ⟨nd3, hnd3, by rw [g2]; exact hndm⟩ (by
       rw [hpr]
       intro n hn
       rw [xC] at hn
       rcases yB.1 hn with hn | hn
       ·exact hA n hn
       ·simp at hn; subst hn; exact ⟨hxo, hrob⟩) (by have := congrArg xI hpr; simp only [zO, zT, zX] at this; omega)  (by rw [hpr]; exact hpl2) (by rw [hgo]; exact hnx2) ⟨nd3, hnd3, by rw [g5]; split <;> (try simp only [zT, zX]) <;> omega⟩ (by rw [hpr]; exact hin)
     refine ⟨pl', q', r1, r2, r3, r4, ?_⟩
     intro b nb hb hbi
     rcases r5 b nb hb hbi with h2 | h2
     ·rcases MN hnd2 h2 with ⟨_, h3⟩ | ⟨h3, _⟩
      ·rcases hkeep b nb h3 with h4 | ⟨_, h4⟩
       ·exact .inl h4
       ·exact .inr h4
      ·exact absurd h3 hbi
     ·exact .inr h2
  ·have : k = ss.length := by omega
   subst this
   rw [yR (zK _)] at hin
   have hin : some (pl.map E6) = some l' := hin
   cases hin
   rw [uH] at hnx
   rw [CI, AB (by simp)]
   exact ⟨pl, q, rfl, rfl, hpl, hnx, fun b nb hb _ => .inl hb⟩
end Go.Lift
