/- Lemmas for CoreFreeCardSaid, which YtbfklmmnpdifaaaGreatDoorFinC4 proves. -/
import Derived.Test.YtbfklmmnpdifaaaGreatDoorDec
import Derived.KernelRfl
open Bool renaming and_eq_true → zA6, and_eq_true_iff → zH6, and_true → zK9, false_and → zK2, false_or → zJ7, not_false → zE0, not_true → zC0, or_eq_false_iff → zI9, or_eq_true → zG1, or_true → zL5, true_and → zE7
open Int renaming eq_ofNat_of_zero_le → zA7, natCast_nonneg → zK7, ofNat_inj → zL3, tmod → zB7, toNat_natCast → zB3
open List renaming all_eq_true → zA3, any_eq_false → zK0, any_eq_true → zF3, append_assoc → zD1, append_nil → zG2, cons_append → zI5, drop_eq_nil_of_le → zD4, drop_zero → zB9, eq_nil_of_length_eq_zero → zD3, filter_append → zF5, flatMap_append → zJ3, flatMap_eq_nil_iff → zL4, getD_cons_succ → zJ2, getD_cons_zero → zK3, getElem?_append_left → zC7, getElem?_append_right → zC6, getElem?_drop → zF4, getElem?_eq_getElem → zC9, getElem?_eq_none → zE1, getElem?_map → zA2, getElem?_set → zF0, getElem?_take_of_lt → zC8, getElem_mem → zF2, length → zF8, length_append → zB6, length_cons → zC3, length_map → zA9, length_range → zH5, length_set → zG8, length_singleton → zB8, map_append → zE6, map_cons → zC5, mem_append → zC2, mem_append_left → zE9, mem_cons → zB2, mem_cons_of_mem → zH0, mem_iff_getElem? → zB4, mem_map → zB5, mem_range → zE2, mem_singleton → zD8, nil_append → zG0, pairwise_append → zI2, pairwise_lt_range → zJ6, pairwise_map → zK8, range → zB1, range_succ → zG7, replicate → zA5, take_add_one → zD9, take_length → zH7
open Nat renaming add_assoc → zF6, add_zero → zF7, eq_zero_or_pos → zH9, le_refl → zB0, le_trans → zG5, mul_le_mul_right → zA4, sub_self → zJ4, succ_mul → zC1, zero_add → zA1, zero_le → zA8
open Option renaming getD_some → zC4, map_some → zD6
namespace Go.Lift
open IntKind renaming wrap → wI
open Option renaming bind_some → oS
open List renaming getElem?_eq_some_iff → lI
theorem AT {α : Type} (xs : List α) (i : Nat) : Bj xs (i : Int) = xs[i]? := by
 unfold Bj; simp
theorem CO {n : Int} (h0 : -9223372036854775808 ≤ n) (h1 : n ≤ 9223372036854775807) : wI .i64 n = n := by
 simp [wI, IntKind.signed, IntKind.bits]; omega
theorem AF {i : Nat} (h : i < 1000000) : wI .i64 ((i : Int) + 1) = ((i + 1 : Nat) : Int) := by
 rw [CO (by omega) (by omega)]; simp
@[simp] theorem AQ {α : Type} {a b : Option α} : AP true a b = a := rfl
@[simp] theorem Al {α : Type} {a b : Option α} : AP false a b = b := rfl
theorem AB {α : Type} {p : Prop} [Decidable p] {a b : Option α} (h : p) : AP (decide p) a b = a := by simp [h]
theorem Ay {α : Type} {p : Prop} [Decidable p] {a b : Option α} (h : ¬ p) : AP (decide p) a b = b := by simp [h]
def Jt : List Int → List Int → Int
 | [], [] => 0
 | [], _ :: _ => -1
 | _ :: _, [] => 1
 | a :: as1, b :: bs => if a < b then -1 else if b < a then 1 else Jt as1 bs
theorem Ga {α : Type} {xs : List α} {i : Nat} {x : α} (h : xs[i]? = some x) : xs.drop i = x :: xs.drop (i + 1) := by
 obtain ⟨hi, rfl⟩ := lI.1 h
 exact List.drop_eq_getElem_cons hi
theorem UT (N : Nat) (a b : List Int) (hb : a.length < 1000000) : ∀ (n i : Nat), i ≤ a.length → i ≤ b.length → a.length - i < n →
  DB N a b (fun _ => AP (decide ((a.length : Int) < (b.length : Int))) (some (-1)) (AP (decide ((b.length : Int) < (a.length : Int))) (some 1) (some 0))) n (i : Int) = some (Jt (a.drop i) (b.drop i))
 | 0, i, _, _, h => by omega
 | n + 1, i, hi, hj, h => by
  unfold DB
  simp only [Bb]
  by_cases h1 : i < a.length
  ·rw [AB (p := (i : Int) < (a.length : Int)) (by omega)]
   have ha : a[i]? = some a[i] := by simp [h1]
   rw [Ga ha]
   by_cases h2 : i < b.length
   ·have hbb : b[i]? = some b[i] := by simp [h2]
    rw [show decide ((i : Int) < (b.length : Int)) = true from decide_eq_true (by omega), AQ, AT, AT, ha, hbb, Ga hbb]
    simp only [oS, Jt]
    rw [AF (by omega), UT N a b hb n (i + 1) (by omega) (by omega) (by omega)]
    by_cases h3 : a[i] < b[i]
    ·simp [h3]
    ·by_cases h4 : b[i] < a[i]
     ·simp [h3, h4]
     ·simp [h3, h4]
   ·rw [show decide ((i : Int) < (b.length : Int)) = false from decide_eq_false (by omega), Al, Ay (by omega), AB (by omega), zD4 (by omega : b.length ≤ i)]
    simp [Jt]
  ·rw [Ay (p := (i : Int) < (a.length : Int)) (by omega), Al, zD4 (by omega : a.length ≤ i)]
   by_cases h2 : a.length < b.length
   ·rw [AB (by omega)]
    have hbb : b[i]? = some b[i] := by simp [show i < b.length from by omega]
    rw [Ga hbb]; simp [Jt]
   ·rw [Ay (by omega), Ay (by omega), zD4 (by omega : b.length ≤ i)]
    simp [Jt]
theorem OV {N : Nat} {a b : List Int} (h : a.length < N) (hN : N ≤ 1000000) : DJ N a b = some (Jt a b) := by
 have := UT N a b (by omega) N 0 (by omega) (by omega) (by omega)
 simpa [DJ] using this
theorem Qv : ∀ a : List Int, Jt a a = 0
 | [] => rfl
 | a :: as1 => by simp [Jt, Qv as1]
theorem ON : ∀ a b : List Int, Jt a b = 0 → a = b
 | [], [], _ => rfl
 | [], _ :: _, h => by simp [Jt] at h
 | _ :: _, [], h => by simp [Jt] at h
 | a :: as1, b :: bs, h => by
  unfold Jt at h
  split at h
  ·omega
  ·split at h
   ·omega
   ·rw [ON as1 bs h, show a = b from by omega]
def ZV : List Int → Int
 | [] => 0
 | x :: xs => if x = 0 then ZV xs else x
theorem aY (N : Nat) (a : List Int) (hb : a.length < 1000000) (hw : OQ Mf a) : ∀ (n i : Nat), i ≤ a.length → a.length - i < n →
  C2 N a (fun v => some v) n (a.take i, (i : Int)) = some a
 | 0, i, _, h => by omega
 | n + 1, i, hi, h => by
  unfold C2
  by_cases h1 : i < a.length
  ·have ha : a[i]? = some a[i] := by simp [h1]
   rw [AB (by simpa using h1)]
   simp only
   rw [AT, ha]
   have hr : wI .i64 a[i] = a[i] := by
    have := hw a[i] (zF2 h1)
    unfold Mf at this
    have h2 : 0 ≤ a[i] ∧ a[i] ≤ 255 := by simpa [Lit.wf, IntKind.min, IntKind.max, IntKind.signed, IntKind.bits] using this
    exact CO (by omega) (by omega)
   simp only [oS, hr]
   have hlen : (a.take i).length + ([a[i]] : List Int).length ≤ C5 := by
    simp [C5]; omega
   rw [show DF ((a.take i).length + ([a[i]] : List Int).length ≤ C5) = some () from by unfold DF; rw [if_pos hlen]]
   simp only [oS]
   rw [AF (by omega), show a.take i ++ [a[i]] = a.take (i + 1) from by rw [zD9, ha]; rfl]
   exact aY N a hb hw n (i + 1) (by omega) (by omega)
  ·rw [Ay (by simpa using h1)]
   simp only
   rw [List.take_of_length_le (by omega)]
theorem Ou {N : Nat} {a : List Int} (h : a.length < N) (hN : N ≤ 1000000) (hw : OQ Mf a) : DD N a = some a := by
 have := aY N a (by omega) hw N 0 (by omega) (by omega)
 simpa [DD] using this
def eQ (a : Ac) : Prop := a.fd.length ≤ 8 ∧ a.fb.length ≤ 8 ∧ a.fe.length ≤ 14
def TV (a b : Ac) : Int := ZV [Jt a.fd b.fd, Jt a.fb b.fb, Jt a.fe b.fe]
theorem Qu (a : Ac) : TV a a = 0 := by unfold TV; simp [Qv, ZV]
def CE {α R : Type} (f : Nat → α → Option R) : Nat → List α → Option R
 | _, [] => none
 | i, x :: xs => match f i x with
  | some r => some r
  | none => CE f (i + 1) xs
theorem FJ {α R : Type} (f : Nat → α → Option R) (i : Nat) (x : α) (xs : List α) : CE f i (x :: xs) = match f i x with
  | some r => some r
  | none => CE f (i + 1) xs := rfl
def BL {R : Type} (a : Option R) (b : Option R) : Option R := match a with
 | some r => some r
 | none => b
theorem BQ {α R : Type} (L : Nat → Int → Option R) (xs : List α) (j : Option R) (f : Nat → α → Option R)
  (hs : ∀ (n i : Nat) (x : α), xs[i]? = some x → L (n + 1) (i : Int) = BL (f i x) (L n ((i + 1 : Nat) : Int))) (he : ∀ n : Nat, L (n + 1) (xs.length : Int) = j) :
  ∀ n i : Nat, i ≤ xs.length → xs.length - i < n → L n (i : Int) = BL (CE f i (xs.drop i)) j
 | 0, i, _, h => by omega
 | n + 1, i, hi, h => by
  by_cases h1 : i < xs.length
  ·have hx : xs[i]? = some xs[i] := by simp [h1]
   rw [hs n i _ hx, Ga hx, BQ L xs j f hs he n (i + 1) (by omega) (by omega)]
   rw [FJ]
   cases f i xs[i] <;> rfl
  ·have : i = xs.length := by omega
   subst this
   rw [he n, zD4 (zB0 _)]
   rfl
theorem Rg (N : Nat) (k n : Int) : Dz N k n = some (decide (0 ≤ k) && decide (k < n)) := by
 unfold Dz
 simp only [Bb]
 by_cases h : 0 ≤ k
 ·rw [AB h]; simp [h]
 ·rw [Ay h]; simp [h]
theorem N2 (N : Nat) (t : An) : A7 N t = some (t.ff == 3 || t.ff == 4) := by
 unfold A7
 simp only [Bb]
 cases h : t.ff == 3 <;> simp
def sq (l : List (List Bool)) (n m : Int) : Bool := decide ((l.length : Int) = n) && l.all fun r => decide ((r.length : Int) = m)
theorem Pn {α : Type} (p : α → Bool) {R : Type} (r : Nat → R) : ∀ (i : Nat) (xs : List α), (CE (fun i x => if p x then none else some (r i)) i xs).isNone = xs.all p
 | i, [] => rfl
 | i, x :: xs => by
  unfold CE
  cases h : p x <;> simp [h, Pn p r (i + 1) xs]
theorem QB (N : Nat) (l : List (List Bool)) (n m : Int) (h : n < (N : Int)) (hN : N ≤ 1000000) : DO N l n m = some (sq l n m) := by
 unfold DO sq
 by_cases h1 : (l.length : Int) = n
 ·subst h1
  simp only [bne_self_eq_false, Al, decide_true, zE7]
  have := BQ (CC N l (l.length : Int) m (fun _ => some true)) l (some true) (fun _ r => if decide ((r.length : Int) = m) then none else some false)
   (fun n i x hx => by
    have hi := (lI.1 hx).1
    rw [CC, AB (by omega), AT, hx]
    simp only [oS]
    rw [AF (by omega)]
    by_cases h2 : (x.length : Int) = m
    ·simp [h2, BL]
    ·have : ((x.length : Int) != m) = true := by simpa using h2
     simp [h2, this, BL])
   (fun n => by rw [CC, Ay (by omega)]) N 0 (by omega) (by omega)
  simp only [Int.ofNat_zero, zB9] at this
  rw [this]
  have h3 := Pn (fun r : List Bool => decide ((r.length : Int) = m)) (fun _ => false) 0 l
  cases hsc : CE (fun (_ : Nat) (r : List Bool) => if decide ((r.length : Int) = m) = true then none else some false) 0 l with
  | none => rw [hsc] at h3; rw [← h3]; rfl
  | some b =>
   rw [hsc] at h3
   rw [← h3]
   have : ∀ (i : Nat) (xs : List (List Bool)) b, CE (fun (_ : Nat) (r : List Bool) => if decide ((r.length : Int) = m) = true then none else some false) i xs = some b → b = false := by
    intro i xs
    induction xs generalizing i with
    | nil => intro b hb; cases hb
    | cons x xs ih =>
     intro b hb
     unfold CE at hb
     split at hb
     ·rename_i r hr; cases hb; split at hr <;> simp at hr; exact hr
     ·exact ih _ b hb
   rw [this 0 l b hsc]; rfl
 ·have : ((l.length : Int) != n) = true := by simpa using h1
  simp [this, h1]
theorem QM (N : Nat) (l : List (List Bool)) (n m : Int) (h : n < (N : Int)) (hN : N ≤ 1000000) : FL N l n m = some (sq l n m) := by
 unfold FL sq
 simp only [Bb]
 by_cases h1 : (l.length : Int) = n
 ·subst h1
  simp only [beq_self_eq_true, AQ, decide_true, zE7]
  have := BQ (Bu N l (fun x => El N x m) (fun _ => some (-1))) l (some (-1)) (fun i r => if decide ((r.length : Int) = m) then none else some (i : Int))
   (fun n i x hx => by
    have hi := (lI.1 hx).1
    rw [Bu, AB (by omega), AT, hx]
    simp only [oS, El]
    rw [AF (by omega)]
    by_cases h2 : (x.length : Int) = m
    ·simp [h2, BL]
    ·have : ((x.length : Int) != m) = true := by simpa using h2
     simp [h2, this, BL])
   (fun n => by rw [Bu, Ay (by omega)]) N 0 (by omega) (by omega)
  simp only [Int.ofNat_zero, zB9] at this
  unfold De DM
  rw [this]
  have h3 := Pn (fun r : List Bool => decide ((r.length : Int) = m)) (fun i : Nat => (i : Int)) 0 l
  cases hsc : CE (fun (i : Nat) (r : List Bool) => if decide ((r.length : Int) = m) = true then none else some (i : Int)) 0 l with
  | none => rw [hsc] at h3; rw [← h3]; rfl
  | some b =>
   rw [hsc] at h3
   rw [← h3]
   have : ∀ (i : Nat) (xs : List (List Bool)) b, CE (fun (i : Nat) (r : List Bool) => if decide ((r.length : Int) = m) = true then none else some (i : Int)) i xs = some b → 0 ≤ b := by
    intro i xs
    induction xs generalizing i with
    | nil => intro b hb; cases hb
    | cons x xs ih =>
     intro b hb
     rw [FJ] at hb
     split at hb
     ·rename_i r hr
      cases hb
      split at hr
      ·cases hr
      ·cases hr; omega
     ·exact ih _ b hb
   have := this 0 l b hsc
   simp [BL, this]
 ·have : ((l.length : Int) == n) = false := by simpa using h1
  simp [this, h1]
open List renaming mem_of_getElem? → lM
open List renaming getD_eq_getElem?_getD → lD
def JW (l : List (List Bool)) : Option Int := CE (fun i row => if row.getD i false then none else some 1) 0 l
theorem S9 {row : List Bool} {i : Nat} (h : i < row.length) : Bj row (i : Int) = some (row.getD i false) := by
 rw [AT, lD]; simp [h]
theorem YN (N : Nat) (t : An) (h : t.fk.length < N) (hN : N ≤ 1000000) (hsq : ∀ row, row ∈ t.fk → row.length = t.fk.length) (j : Option Int) :
  B7 N t (fun _ => j) N 0 = BL (JW t.fk) j := by
 have := BQ (B7 N t (fun _ => j)) t.fk j (fun i row => if row.getD i false then none else some 1)
  (fun n i x hx => by
   have hi := (lI.1 hx).1
   have hl := hsq x (lM hx)
   rw [B7, AB (by omega), AT, hx]
   simp only [oS]
   rw [S9 (by omega), AF (by omega)]
   simp only [oS]
   cases x.getD i false <;> rfl)
  (fun n => by rw [B7, Ay (by omega)]) N 0 (by omega) (by omega)
 simpa [JW] using this
theorem Rc (N : Nat) (t : An) (h : t.fk.length < N) (hN : N ≤ 1000000) (hsq : ∀ row, row ∈ t.fk → row.length = t.fk.length) (j : Option Int) :
  Du N t (fun _ => j) N 0 = BL (JW t.fk) j := by
 have := BQ (Du N t (fun _ => j)) t.fk j (fun i row => if row.getD i false then none else some 1)
  (fun n i x hx => by
   have hi := (lI.1 hx).1
   have hl := hsq x (lM hx)
   rw [Du, AB (by omega), AT, hx]
   simp only [oS]
   rw [S9 (by omega), AF (by omega)]
   simp only [oS]
   cases x.getD i false <;> rfl)
  (fun n => by rw [Du, Ay (by omega)]) N 0 (by omega) (by omega)
 simpa [JW] using this
theorem OL {l : List (List Bool)} {n m : Int} (h : sq l n m = true) : (l.length : Int) = n ∧ ∀ row, row ∈ l → (row.length : Int) = m := by
 unfold sq at h
 simp only [zA6, decide_eq_true_eq, zA3] at h
 exact h
def D2 (p : Aa) (t : An) : Int :=
 if t.ff < 1 ∨ 4 < t.ff ∨ (t.fr = true ∧ (t.ff = 3 ∨ t.ff = 4)) then 1
 else if t.fg < 0 ∨ (p.fa.length : Int) ≤ t.fg ∨ t.fj < 0 ∨ (p.fa.length : Int) ≤ t.fj then 4
 else
  let f := p.fa.getD t.fg.toNat 0
  let g := p.fa.getD t.fj.toNat 0
  if sq t.fq f g = false then 6
  else if t.ff = 4 then (if sq t.fk f f = false then 6 else (JW t.fk).getD 0)
  else if t.fk.length = 0 then 0 else 6
theorem Ei {α : Type} {xs : List α} {i : Int} {d : α} (h0 : 0 ≤ i) (h1 : i < (xs.length : Int)) : Bj xs i = some (xs.getD i.toNat d) := by
 obtain ⟨k, rfl⟩ := zA7 h0
 rw [AT, lD, zB3]
 simp [show k < xs.length from by omega]
theorem XL {t : An} (A B : Option Int) (hk : ¬ (t.fr = true ∧ (t.ff = 3 ∨ t.ff = 4))) : AP t.fr (AP (t.ff == 3 || t.ff == 4) A B) B = B := by
 cases ha : t.fr
 ·rfl
 ·have : (t.ff == 3 || t.ff == 4) = false := by
   rw [zI9]
   constructor
   ·simp only [beq_eq_false_iff_ne]; intro h; exact hk ⟨ha, .inl h⟩
   ·simp only [beq_eq_false_iff_ne]; intro h; exact hk ⟨ha, .inr h⟩
  rw [this]; rfl
theorem Kp {p : Aa} {i : Int} (hv : ∀ v, v ∈ p.fa → 1 ≤ v ∧ v ≤ 6) (h0 : 0 ≤ i) (h1 : i < (p.fa.length : Int)) : 1 ≤ p.fa.getD i.toNat 0 ∧ p.fa.getD i.toNat 0 ≤ 6 := by
 refine hv _ ?_
 rw [lD, zC9 (by omega)]
 exact zF2 _
theorem VP (N : Nat) (p : Aa) (t : An) (hN : N ≤ 1000000) (h6 : 7 ≤ N) (hv : ∀ v, v ∈ p.fa → 1 ≤ v ∧ v ≤ 6) : E9 N p t = some (D2 p t) := by
 unfold E9 D2
 simp only [Bb, N2, oS]
 by_cases k1 : t.ff < 1
 ·simp [k1]
 by_cases k2 : 4 < t.ff
 ·simp [k1, k2]
 rw [Ay k1, Ay k2]
 by_cases hk : t.fr = true ∧ (t.ff = 3 ∨ t.ff = 4)
 ·obtain ⟨ha, k | k⟩ := hk <;> simp [ha, k]
 rw [Al, XL _ _ hk, if_neg (fun h => h.elim k1 fun h => h.elim k2 hk)]
 by_cases f1 : t.fg < 0
 ·simp [f1]
 by_cases f2 : (p.fa.length : Int) ≤ t.fg
 ·simp [f1, f2]
 by_cases f3 : t.fj < 0
 ·simp [f1, f2, f3]
 by_cases f4 : (p.fa.length : Int) ≤ t.fj
 ·simp [f1, f2, f3, f4]
 rw [Ay f1, Ay f2, Ay f3, if_neg (fun h => h.elim f1 fun h => h.elim f2 fun h => h.elim f3 f4)]
 have hf := Kp hv (i := t.fg) (by omega) (by omega)
 rw [decide_eq_false f4, Al, Ei (d := 0) (by omega : 0 ≤ t.fg) (by omega), Ei (d := 0) (by omega : 0 ≤ t.fj) (by omega)]
 simp only [oS]
 generalize p.fa.getD t.fg.toNat 0 = f at *
 generalize p.fa.getD t.fj.toNat 0 = g at *
 rw [QB N t.fq f g (by omega) hN, QB N t.fk f f (by omega) hN]
 simp only [oS]
 cases hq : sq t.fq f g
 ·rfl
 simp only [zC0, Al]
 by_cases k4 : t.ff = 4
 ·have : (t.ff != 4) = false := by simp [k4]
  rw [this, Al]
  simp only [k4, if_true]
  cases hr : sq t.fk f f
  ·rfl
  ·have h7 := OL hr
   simp only [zC0, Al]
   rw [YN N t (by omega) hN (fun row hm => by have := h7.2 row hm; omega)]
   cases JW t.fk <;> simp [BL]
 ·have : (t.ff != 4) = true := by simpa using k4
  rw [this, AQ]
  simp only [k4, if_false]
  by_cases hr : t.fk.length = 0
  ·simp [hr]
  ·have : ((t.fk.length : Int) != 0) = true := bne_iff_ne.2 (by omega)
   rw [this]; simp [hr]
theorem Yz (N : Nat) (k : Int) (a : Bool) : HE N k a = some (k == 1 || (k == 2 || ((k == 3 || k == 4) && !a))) := by
 unfold HE
 simp only [Bb]
 cases h1 : k == 1 <;> cases h2 : k == 2 <;> cases h3 : k == 3 <;> cases h4 : k == 4 <;> cases a <;> rfl
theorem O7 (N : Nat) (p : Aa) (t : An) (hN : N ≤ 1000000) (h6 : 7 ≤ N) (hv : ∀ v, v ∈ p.fa → 1 ≤ v ∧ v ≤ 6) : G5 N p t = some (D2 p t) := by
 unfold G5 D2
 simp only [Bb, Yz, Rg, oS]
 by_cases hb : t.ff < 1 ∨ 4 < t.ff ∨ (t.fr = true ∧ (t.ff = 3 ∨ t.ff = 4))
 ·have : (t.ff == 1 || (t.ff == 2 || ((t.ff == 3 || t.ff == 4) && !t.fr))) = false := by
   rcases hb with h | h | ⟨ha, h | h⟩
   ·rw [beq_eq_false_iff_ne.2 (by omega : t.ff ≠ 1), beq_eq_false_iff_ne.2 (by omega : t.ff ≠ 2), beq_eq_false_iff_ne.2 (by omega : t.ff ≠ 3), beq_eq_false_iff_ne.2 (by omega : t.ff ≠ 4)]; rfl
   ·rw [beq_eq_false_iff_ne.2 (by omega : t.ff ≠ 1), beq_eq_false_iff_ne.2 (by omega : t.ff ≠ 2), beq_eq_false_iff_ne.2 (by omega : t.ff ≠ 3), beq_eq_false_iff_ne.2 (by omega : t.ff ≠ 4)]; rfl
   ·simp [ha, h]
   ·simp [ha, h]
  rw [this, if_pos hb]; rfl
 ·have : (t.ff == 1 || (t.ff == 2 || ((t.ff == 3 || t.ff == 4) && !t.fr))) = true := by
   have hk : t.ff = 1 ∨ t.ff = 2 ∨ t.ff = 3 ∨ t.ff = 4 := by
    have h1 : ¬ t.ff < 1 := fun h => hb (.inl h)
    have h2 : ¬ 4 < t.ff := fun h => hb (.inr (.inl h))
    omega
   rcases hk with h | h | h | h
   ·simp [h]
   ·simp [h]
   ·cases ha : t.fr
    ·simp [h]
    ·exact (hb (.inr (.inr ⟨ha, .inl h⟩))).elim
   ·cases ha : t.fr
    ·simp [h]
    ·exact (hb (.inr (.inr ⟨ha, .inr h⟩))).elim
  rw [this, if_neg hb]
  simp only [zC0, Al]
  by_cases f1 : t.fg < 0
  ·simp [f1, show ¬ (0 ≤ t.fg) from by omega]
  by_cases f2 : (p.fa.length : Int) ≤ t.fg
  ·simp [f2, show ¬ (t.fg < (p.fa.length : Int)) from by omega]
  by_cases f3 : t.fj < 0
  ·simp [f3, show 0 ≤ t.fg from by omega, show t.fg < (p.fa.length : Int) from by omega, show ¬ (0 ≤ t.fj) from by omega]
  by_cases f4 : (p.fa.length : Int) ≤ t.fj
  ·simp [f4, show 0 ≤ t.fg from by omega, show t.fg < (p.fa.length : Int) from by omega, show ¬ (t.fj < (p.fa.length : Int)) from by omega]
  rw [if_neg (fun h => h.elim f1 fun h => h.elim f2 fun h => h.elim f3 f4)]
  have hf := Kp hv (i := t.fg) (by omega) (by omega)
  have hg := Kp hv (i := t.fj) (by omega) (by omega)
  rw [decide_eq_true (by omega : 0 ≤ t.fg), decide_eq_true (by omega : t.fg < (p.fa.length : Int)), decide_eq_true (by omega : 0 ≤ t.fj), decide_eq_true (by omega : t.fj < (p.fa.length : Int)), Ei (d := 0) (by omega : 0 ≤ t.fg) (by omega), Ei (d := 0) (by omega : 0 ≤ t.fj) (by omega)]
  simp only [Bool.and_self, zC0, Al, oS]
  generalize p.fa.getD t.fg.toNat 0 = f at *
  generalize p.fa.getD t.fj.toNat 0 = g at *
  rw [QM N t.fq f g (by omega) hN, QM N t.fk f f (by omega) hN]
  simp only [oS]
  cases hq : sq t.fq f g
  ·rfl
  simp only [zC0, Al]
  by_cases k4 : t.ff = 4
  ·simp only [k4, beq_self_eq_true, AQ, if_true]
   cases hr : sq t.fk f f
   ·rfl
   ·have h7 := OL hr
    simp only [zC0, Al]
    rw [Rc N t (by omega) hN (fun row hm => by have := h7.2 row hm; omega)]
    cases JW t.fk <;> simp [BL]
  ·have : (t.ff == 4) = false := beq_eq_false_iff_ne.2 k4
   rw [this, Al]
   simp only [k4, if_false, zE0, AQ]
   by_cases hr : t.fk.length = 0
   ·rw [Rc N t (by omega) hN (fun row hm => by rw [zD3 hr] at hm; cases hm), zD3 hr]
    simp [JW, CE, BL]
   ·rw [decide_eq_true (by omega : 0 < (t.fk.length : Int))]
    simp [hr]
def Ge (p : Aa) (i : Nat) (v : Int) : Option Int :=
 if v < 1 ∨ 6 < v ∨ p.fi.getD i 0 < 0 ∨ v ≤ p.fi.getD i 0 ∨ p.fm.getD i 0 < 0 ∨ v ≤ p.fm.getD i 0 then some 7 else none
def Me (p : Aa) (_ : Nat) (t : An) : Option Int := if D2 p t = 0 then none else some (D2 p t)
def BM (p : Aa) : Int :=
 if 6 < p.fa.length ∨ 12 < p.fc.length then 3
 else if p.fi.length ≠ p.fa.length ∨ p.fm.length ≠ p.fa.length then 6
 else ((BL (CE (Ge p) 0 p.fa) (CE (Me p) 0 p.fc)).getD 0)
theorem Fd {α R : Type} {f : Nat → α → Option R} : ∀ {i : Nat} {xs : List α}, CE f i xs = none → ∀ j x, xs[j]? = some x → f (i + j) x = none
 | _, [], _, j, x, hx => by simp at hx
 | i, y :: ys, h, j, x, hx => by
  rw [FJ] at h
  split at h
  ·cases h
  ·rename_i h0
   cases j with
   | zero => simp at hx; subst hx; exact h0
   | succ j =>
    have := Fd h j x (by simpa using hx)
    rwa [show i + 1 + j = i + (j + 1) from by omega] at this
theorem Pe {p : Aa} (h : CE (Ge p) 0 p.fa = none) : ∀ v, v ∈ p.fa → 1 ≤ v ∧ v ≤ 6 := by
 intro v hv
 obtain ⟨i, hi⟩ := zB4.1 hv
 have := Fd h i v hi
 unfold Ge at this
 split at this
 ·cases this
 ·rename_i hn
  constructor
  ·exact Int.not_lt.1 fun h => hn (.inl h)
  ·exact Int.not_lt.1 fun h => hn (.inr (.inl h))
theorem Da {α : Type} {xs : List α} {i : Nat} {d : α} (h : i < xs.length) : Bj xs (i : Int) = some (xs.getD i d) := by
 rw [AT, lD]; simp [h]
theorem Uy (N : Nat) (p : Aa) (hN : N ≤ 1000000) (h1 : p.fa.length < N) (h2 : p.fi.length = p.fa.length) (h3 : p.fm.length = p.fa.length) (j : Option Int) :
  Bk N p (fun _ => j) N 0 = BL (CE (Ge p) 0 p.fa) j := by
 have := BQ (Bk N p (fun _ => j)) p.fa j (Ge p)
  (fun n i x hx => by
   have hi := (lI.1 hx).1
   rw [Bk, AB (by omega), AT, hx]
   simp only [oS, Bb]
   rw [Da (d := 0) (by omega), Da (d := 0) (by omega), AF (by omega)]
   simp only [oS]
   unfold Ge
   generalize p.fi.getD i 0 = a
   generalize p.fm.getD i 0 = b
   by_cases k1 : x < 1 <;> by_cases k2 : 6 < x <;> by_cases k3 : a < 0 <;> by_cases k4 : x ≤ a <;> by_cases k5 : b < 0 <;> by_cases k6 : x ≤ b <;> simp [k1, k2, k3, k4, k5, k6, BL])
  (fun n => by rw [Bk, Ay (by omega)]) N 0 (by omega) (by omega)
 simpa using this
theorem RZ (N : Nat) (p : Aa) (hN : N ≤ 1000000) (h1 : p.fa.length < N) (h2 : p.fi.length = p.fa.length) (h3 : p.fm.length = p.fa.length) (j : Option Int) :
  B6 N p (fun _ => j) N 0 = BL (CE (Ge p) 0 p.fa) j := by
 have := BQ (B6 N p (fun _ => j)) p.fa j (Ge p)
  (fun n i x hx => by
   have hi := (lI.1 hx).1
   rw [B6, AB (by omega), AT, hx]
   simp only [oS, Bb, Rg]
   rw [Da (d := 0) (by omega), Da (d := 0) (by omega), AF (by omega)]
   simp only [oS]
   unfold Ge
   generalize p.fi.getD i 0 = a
   generalize p.fm.getD i 0 = b
   have e1 : decide (0 ≤ a) = !decide (a < 0) := by rw [← decide_not]; congr 1; simp
   have e2 : decide (a < x) = !decide (x ≤ a) := by rw [← decide_not]; congr 1; simp
   have e3 : decide (0 ≤ b) = !decide (b < 0) := by rw [← decide_not]; congr 1; simp
   have e4 : decide (b < x) = !decide (x ≤ b) := by rw [← decide_not]; congr 1; simp
   rw [e1, e2, e3, e4]
   by_cases k1 : x < 1 <;> by_cases k2 : 6 < x <;> by_cases k3 : a < 0 <;> by_cases k4 : x ≤ a <;> by_cases k5 : b < 0 <;> by_cases k6 : x ≤ b <;> simp [k1, k2, k3, k4, k5, k6, BL])
  (fun n => by rw [B6, Ay (by omega)]) N 0 (by omega) (by omega)
 simpa using this
theorem V6 (N : Nat) (p : Aa) (hN : N ≤ 1000000) (h6 : 7 ≤ N) (h1 : p.fc.length < N) (hv : ∀ v, v ∈ p.fa → 1 ≤ v ∧ v ≤ 6) (j : Option Int) :
  Be N p (fun _ => j) N 0 = BL (CE (Me p) 0 p.fc) j := by
 have := BQ (Be N p (fun _ => j)) p.fc j (Me p)
  (fun n i x hx => by
   have hi := (lI.1 hx).1
   rw [Be, AB (by omega), AT, hx]
   simp only [oS]
   rw [VP N p x hN h6 hv, AF (by omega)]
   simp only [oS]
   unfold Me
   by_cases k : D2 p x = 0
   ·simp [k, BL]
   ·rw [bne_iff_ne.2 k, if_neg k]; rfl)
  (fun n => by rw [Be, Ay (by omega)]) N 0 (by omega) (by omega)
 simpa using this
theorem T7 (N : Nat) (p : Aa) (hN : N ≤ 1000000) (h6 : 7 ≤ N) (h1 : p.fc.length < N) (hv : ∀ v, v ∈ p.fa → 1 ≤ v ∧ v ≤ 6) (j : Option Int) :
  BW N p (fun _ => j) N 0 = BL (CE (Me p) 0 p.fc) j := by
 have := BQ (BW N p (fun _ => j)) p.fc j (Me p)
  (fun n i x hx => by
   have hi := (lI.1 hx).1
   rw [BW, AB (by omega), AT, hx]
   simp only [oS]
   rw [O7 N p x hN h6 hv, AF (by omega)]
   simp only [oS]
   unfold Me
   by_cases k : D2 p x = 0
   ·simp [k, BL]
   ·rw [bne_iff_ne.2 k, if_neg k]; rfl)
  (fun n => by rw [BW, Ay (by omega)]) N 0 (by omega) (by omega)
 simpa using this
theorem JL (N : Nat) (p : Aa) (hN : N ≤ 1000000) (h : 20 ≤ N) : Bn N p = some (BM p) := by
 unfold Bn BM
 simp only [Bb]
 by_cases k1 : 6 < p.fa.length
 ·rw [AB (by omega)]; simp [k1]
 rw [Ay (by omega)]
 by_cases k2 : 12 < p.fc.length
 ·rw [decide_eq_true (by omega : (12 : Int) < (p.fc.length : Int))]; simp [k2]
 rw [decide_eq_false (by omega : ¬ (12 : Int) < (p.fc.length : Int)), Al, if_neg (by omega)]
 by_cases k3 : p.fi.length = p.fa.length
 ·by_cases k4 : p.fm.length = p.fa.length
  ·rw [k3, k4]
   simp only [bne_self_eq_false, Al, ne_eq, not_true_eq_false, or_self, if_false]
   rw [Uy N p hN (by omega) k3 k4]
   cases hs : CE (Ge p) 0 p.fa with
   | some r => rfl
   | none =>
    simp only [BL]
    rw [V6 N p hN (by omega) (by omega) (Pe hs)]
    cases CE (Me p) 0 p.fc <;> rfl
  ·have : ((p.fm.length : Int) != (p.fa.length : Int)) = true := bne_iff_ne.2 (by omega)
   rw [this, k3]; simp [k4]
 ·have : ((p.fi.length : Int) != (p.fa.length : Int)) = true := bne_iff_ne.2 (by omega)
  rw [this]; simp [k3]
theorem H9 (N : Nat) (p : Aa) (hN : N ≤ 1000000) (h : 20 ≤ N) : Cb N p = some (BM p) := by
 unfold Cb BM
 simp only [Bb]
 by_cases k1 : 6 < p.fa.length
 ·rw [AB (by omega)]; simp [k1]
 rw [Ay (by omega)]
 by_cases k2 : 12 < p.fc.length
 ·rw [decide_eq_true (by omega : (12 : Int) < (p.fc.length : Int))]; simp [k2]
 rw [decide_eq_false (by omega : ¬ (12 : Int) < (p.fc.length : Int)), Al, if_neg (by omega)]
 by_cases k3 : p.fi.length = p.fa.length
 ·by_cases k4 : p.fm.length = p.fa.length
  ·rw [k3, k4]
   simp only [bne_self_eq_false, Al, ne_eq, not_true_eq_false, or_self, if_false]
   rw [RZ N p hN (by omega) k3 k4]
   cases hs : CE (Ge p) 0 p.fa with
   | some r => rfl
   | none =>
    simp only [BL]
    rw [T7 N p hN (by omega) (by omega) (Pe hs)]
    cases CE (Me p) 0 p.fc <;> rfl
  ·have : ((p.fm.length : Int) != (p.fa.length : Int)) = true := bne_iff_ne.2 (by omega)
   rw [this, k3]; simp [k4]
 ·have : ((p.fi.length : Int) != (p.fa.length : Int)) = true := bne_iff_ne.2 (by omega)
  rw [this]; simp [k3]
theorem JO {n : Int} (h : Mf n) : 0 ≤ n ∧ n ≤ 255 := by
 unfold Mf at h
 simpa [Lit.wf, IntKind.min, IntKind.max, IntKind.signed, IntKind.bits] using h
theorem Qk : ∀ k : Fin 256, Dc .u8 0 (k.val : Int) = 0 := by decide +kernel
theorem Qh : ∀ k : Fin 256, Dc .u8 (k.val : Int) 0 = (k.val : Int) := by decide +kernel
theorem WV {n : Int} (h : Mf n) : Dc .u8 0 n = 0 := by
 have := JO h
 obtain ⟨k, rfl⟩ := zA7 this.1
 exact Qk ⟨k, by omega⟩
theorem Xd {n : Int} (h : Mf n) : Dc .u8 n 0 = n := by
 have := JO h
 obtain ⟨k, rfl⟩ := zA7 this.1
 exact Qh ⟨k, by omega⟩
theorem DT {α R : Type} {f : Nat → α → Option R} : ∀ {i : Nat} {xs : List α} {r : R}, CE f i xs = some r → ∃ j x, xs[j]? = some x ∧ f (i + j) x = some r
 | _, [], _, h => by cases h
 | i, y :: ys, r, h => by
  rw [FJ] at h
  split at h
  ·rename_i r' h0
   cases h
   exact ⟨0, y, rfl, h0⟩
  ·obtain ⟨j, x, h1, h2⟩ := DT h
   exact ⟨j + 1, x, by simpa using h1, by rwa [show i + (j + 1) = i + 1 + j from by omega]⟩
structure Bc (p : Aa) : Prop where
 nv : p.fa.length ≤ 6
 nt : p.fc.length ≤ 12
 now : p.fi.length = p.fa.length
 tgt : p.fm.length = p.fa.length
 ver : ∀ v, v ∈ p.fa → 1 ≤ v ∧ v ≤ 6
 tab : ∀ t, t ∈ p.fc → D2 p t = 0
theorem TS (l : List (List Bool)) : (JW l).getD 0 = 0 ∨ (JW l).getD 0 = 1 := by
 cases h : JW l with
 | none => exact .inl rfl
 | some r =>
  obtain ⟨j, x, _, h⟩ := DT h
  split at h
  ·cases h
  ·cases h; exact .inr rfl
theorem RI (p : Aa) (t : An) : D2 p t = 0 ∨ D2 p t = 1 ∨ D2 p t = 4 ∨ D2 p t = 6 := by
 unfold D2
 split
 ·exact .inr (.inl rfl)
 split
 ·exact .inr (.inr (.inl rfl))
 simp only
 split
 ·exact .inr (.inr (.inr rfl))
 split
 ·split
  ·exact .inr (.inr (.inr rfl))
  ·rcases TS t.fk with h | h
   ·exact .inl h
   ·exact .inr (.inl h)
 ·split
  ·exact .inl rfl
  ·exact .inr (.inr (.inr rfl))
theorem Ju (p : Aa) : (BM p = 0 ∧ Bc p) ∨ (BM p = 1 ∨ BM p = 3 ∨ BM p = 4 ∨ BM p = 6 ∨ BM p = 7) := by
 unfold BM
 split
 ·simp
 rename_i k1
 split
 ·simp
 rename_i k2
 cases hs : CE (Ge p) 0 p.fa with
 | some r =>
  obtain ⟨j, x, _, h⟩ := DT hs
  unfold Ge at h
  split at h
  ·cases h; simp [BL]
  ·cases h
 | none =>
  cases ht : CE (Me p) 0 p.fc with
  | some r =>
   obtain ⟨j, t, _, h⟩ := DT ht
   unfold Me at h
   split at h
   ·cases h
   ·rename_i hne
    cases h
    simp only [BL, zC4]
    right
    rcases RI p t with h | h | h | h
    ·exact (hne h).elim
    ·exact .inl h
    ·exact .inr (.inr (.inl h))
    ·exact .inr (.inr (.inr (.inl h)))
  | none =>
   left
   refine ⟨rfl, by omega, by omega, by omega, by omega, Pe hs, fun t hm => ?_⟩
   obtain ⟨j, hj⟩ := zB4.1 hm
   have := Fd ht j t hj
   unfold Me at this
   split at this
   ·assumption
   ·cases this
def HG (m : Ac) (s : Nat) : Int :=
 if 0 ≤ m.fb.getD s 0 then P0 .u8 (DX .u8 1 (m.fd.getD s 0)) (DX .u8 1 (m.fb.getD s 0)) else DX .u8 1 (m.fd.getD s 0)
def ME (m : Ac) (i : Nat) (v : Int) : Option Int :=
 if m.fd.getD i 0 < 0 ∨ v ≤ m.fd.getD i 0 ∨ m.fb.getD i 0 < -1 ∨ v ≤ m.fb.getD i 0 then some 7
 else if m.fd.getD i 0 = m.fb.getD i 0 then some 1 else none
def B1 (t : An) : Bool := t.ff == 3 || t.ff == 4
def YS (p : Aa) (t : An) : Int := wI .u8 (DX .u8 1 (p.fa.getD t.fg.toNat 0) - 1)
def Kd (p : Aa) (m : Ac) (i : Nat) (t : An) : Option Int :=
 if B1 t = true then (if Dc .u8 (HG m t.fg.toNat) (m.fe.getD i 0) ≠ 0 ∨ Dc .u8 (m.fe.getD i 0) (YS p t) ≠ 0 then some 1 else none)
 else if m.fe.getD i 0 ≠ 0 then some 1 else none
def F9 (p : Aa) (m : Ac) : Int :=
 if BM p ≠ 0 then BM p
 else if m.fd.length ≠ p.fa.length ∨ m.fb.length ≠ p.fa.length ∨ m.fe.length ≠ p.fc.length then 6
 else (BL (CE (ME m) 0 p.fa) (CE (Kd p m) 0 p.fc)).getD 0
theorem JI {p : Aa} {t : An} (h : D2 p t = 0) : 0 ≤ t.fg ∧ t.fg < (p.fa.length : Int) ∧ 0 ≤ t.fj ∧ t.fj < (p.fa.length : Int) := by
 unfold D2 at h
 split at h
 ·cases h
 ·split at h
  ·cases h
  ·omega
theorem MT (N : Nat) (m : Ac) (s : Int) (h0 : 0 ≤ s) (h1 : s < (m.fd.length : Int)) (h2 : s < (m.fb.length : Int)) (hb : 0 ≤ m.fd.getD s.toNat 0) : Fy N m s = some (HG m s.toNat) := by
 unfold Fy HG
 rw [Ei (d := 0) h0 h1, Ei (d := 0) h0 h2]
 simp only [oS, Bb]
 rw [show DF (0 ≤ m.fd.getD s.toNat 0) = some () from by unfold DF; rw [if_pos hb]]
 simp only [oS]
 by_cases h : 0 ≤ m.fb.getD s.toNat 0
 ·rw [AB h, if_pos h, show DF (0 ≤ m.fb.getD s.toNat 0) = some () from by unfold DF; rw [if_pos h]]; rfl
 ·rw [Ay h, if_neg h]
theorem KP (N : Nat) (m : Ac) (s : Int) (h0 : 0 ≤ s) (h1 : s < (m.fd.length : Int)) (h2 : s < (m.fb.length : Int)) (hb : 0 ≤ m.fd.getD s.toNat 0) : B2 N m s = some (HG m s.toNat) := by
 unfold B2 HG
 rw [Ei (d := 0) h0 h1, Ei (d := 0) h0 h2]
 simp only [oS, Bb]
 rw [show DF (0 ≤ m.fd.getD s.toNat 0) = some () from by unfold DF; rw [if_pos hb]]
 simp only [oS]
 by_cases h : 0 ≤ m.fb.getD s.toNat 0
 ·rw [AB h, if_pos h, show DF (0 ≤ m.fb.getD s.toNat 0) = some () from by unfold DF; rw [if_pos h]]; rfl
 ·rw [Ay h, if_neg h]
theorem R3 (N : Nat) (p : Aa) (m : Ac) (hN : N ≤ 1000000) (h1 : p.fa.length < N) (h2 : m.fd.length = p.fa.length) (h3 : m.fb.length = p.fa.length) (j : Option Int) :
  Ev N p m (fun _ => j) N 0 = BL (CE (ME m) 0 p.fa) j := by
 have := BQ (Ev N p m (fun _ => j)) p.fa j (ME m)
  (fun n i x hx => by
   have hi := (lI.1 hx).1
   rw [Ev, AB (by omega), AT, hx]
   simp only [oS, Bb]
   rw [Da (d := 0) (by omega), Da (d := 0) (by omega), AF (by omega)]
   simp only [oS]
   unfold ME
   generalize m.fd.getD i 0 = a
   generalize m.fb.getD i 0 = b
   by_cases k7 : a = b
   ·subst k7
    by_cases k3 : a < 0 <;> by_cases k4 : x ≤ a <;> by_cases k5 : a < -1 <;> simp [k3, k4, k5, BL]
   ·have k8 : (a == b) = false := beq_eq_false_iff_ne.2 k7
    by_cases k3 : a < 0 <;> by_cases k4 : x ≤ a <;> by_cases k5 : b < -1 <;> by_cases k6 : x ≤ b <;> simp [k3, k4, k5, k6, k7, k8, BL])
  (fun n => by rw [Ev, Ay (by omega)]) N 0 (by omega) (by omega)
 simpa using this
theorem Ru (N : Nat) (p : Aa) (m : Ac) (hN : N ≤ 1000000) (h1 : p.fa.length < N) (h2 : m.fd.length = p.fa.length) (h3 : m.fb.length = p.fa.length) (j : Option Int) :
  Ch N p m (fun _ => j) N 0 = BL (CE (ME m) 0 p.fa) j := by
 have := BQ (Ch N p m (fun _ => j)) p.fa j (ME m)
  (fun n i x hx => by
   have hi := (lI.1 hx).1
   rw [Ch, AB (by omega), show Bj p.fa (i : Int) = some x from by rw [AT, hx]]
   simp only [oS, Bb]
   rw [Da (d := 0) (by omega), Da (d := 0) (by omega), AF (by omega)]
   simp only [oS]
   unfold ME
   generalize m.fd.getD i 0 = a
   generalize m.fb.getD i 0 = b
   by_cases k7 : a = b
   ·subst k7
    by_cases k3 : a < 0 <;> by_cases k4 : x ≤ a <;> by_cases k5 : a < -1 <;> simp [k3, k4, k5, BL]
   ·have k8 : (a == b) = false := beq_eq_false_iff_ne.2 k7
    by_cases k3 : a < 0 <;> by_cases k4 : x ≤ a <;> by_cases k5 : b < -1 <;> by_cases k6 : x ≤ b <;> simp [k3, k4, k5, k6, k7, k8, BL])
  (fun n => by rw [Ch, Ay (by omega)]) N 0 (by omega) (by omega)
 simpa using this
structure MixServ (p : Aa) (m : Ac) : Prop where
 base : m.fd.length = p.fa.length
 next : m.fb.length = p.fa.length
 held : m.fe.length = p.fc.length
 b0 : ∀ i, i < p.fa.length → 0 ≤ m.fd.getD i 0 ∧ m.fd.getD i 0 < p.fa.getD i 0
 n0 : ∀ i, i < p.fa.length → -1 ≤ m.fb.getD i 0 ∧ m.fb.getD i 0 < p.fa.getD i 0
 ne : ∀ i, i < p.fa.length → m.fd.getD i 0 ≠ m.fb.getD i 0
theorem Rp {p : Aa} {m : Ac} (h2 : m.fd.length = p.fa.length) (h3 : m.fb.length = p.fa.length) (h4 : m.fe.length = p.fc.length) (h : CE (ME m) 0 p.fa = none) : MixServ p m := by
 have key : ∀ i, i < p.fa.length → ¬ (m.fd.getD i 0 < 0 ∨ p.fa.getD i 0 ≤ m.fd.getD i 0 ∨ m.fb.getD i 0 < -1 ∨ p.fa.getD i 0 ≤ m.fb.getD i 0) ∧ ¬ m.fd.getD i 0 = m.fb.getD i 0 := by
  intro i hi
  have hx : p.fa[i]? = some (p.fa.getD i 0) := by rw [lD]; simp [hi]
  have := Fd h i _ hx
  rw [zA1] at this
  unfold ME at this
  split at this
  ·cases this
  ·split at this
   ·cases this
   ·rename_i k1 k2; exact ⟨k1, k2⟩
 exact ⟨h2, h3, h4, fun i hi => by have := (key i hi).1; omega, fun i hi => by have := (key i hi).1; omega, fun i hi => (key i hi).2⟩
theorem SE {m : Ac} (hw : OQ Mf m.fe) {i : Nat} (h : i < m.fe.length) : Mf (m.fe.getD i 0) := by
 refine hw _ ?_
 rw [lD, zC9 h]
 exact zF2 _
theorem Ks (N : Nat) (t : An) : FX N t = some (B1 t) := by
 unfold FX B1
 simp only [Bb]
 cases h : t.ff == 3 <;> simp
theorem HA (N : Nat) (t : An) : A7 N t = some (B1 t) := N2 N t
theorem T1 (N : Nat) (p : Aa) (m : Ac) (hN : N ≤ 1000000) (h1 : p.fc.length < N) (hp : Bc p) (hm : MixServ p m) (hw : OQ Mf m.fe) (j : Option Int) :
  D7 N p m (fun _ => j) N 0 = BL (CE (Kd p m) 0 p.fc) j := by
 have := BQ (D7 N p m (fun _ => j)) p.fc j (Kd p m)
  (fun n i x hx => by
   have hi := (lI.1 hx).1
   have hin := JI (hp.tab x (lM hx))
   have hheld := SE hw (show i < m.fe.length from by rw [hm.held]; exact hi)
   have hv := Kp hp.ver hin.1 hin.2.1
   rw [D7, AB (by omega), AT, hx]
   simp only [oS, Bb, Ks]
   rw [MT N m x.fg hin.1 (by rw [hm.base]; exact hin.2.1) (by rw [hm.next]; exact hin.2.1) (hm.b0 _ (by omega)).1, Ei (d := 0) hin.1 hin.2.1, Da (d := 0) (show i < m.fe.length from by rw [hm.held]; exact hi), AF (by omega)]
   simp only [oS]
   rw [show DF (0 ≤ p.fa.getD x.fg.toNat 0) = some () from by unfold DF; rw [if_pos (by omega)]]
   simp only [oS]
   unfold Kd YS
   rw [WV hheld, Xd hheld]
   generalize Dc .u8 (HG m x.fg.toNat) (m.fe.getD i 0) = A
   generalize Dc .u8 (m.fe.getD i 0) (wI .u8 (DX .u8 1 (p.fa.getD x.fg.toNat 0) - 1)) = B
   generalize m.fe.getD i 0 = H
   cases B1 x
   ·simp only [Al, bne_self_eq_false]
    by_cases k : H = 0
    ·simp [k, BL]
    ·have : (H != 0) = true := bne_iff_ne.2 k
     simp [k, this, BL]
   ·simp only [AQ]
    by_cases k : A = 0
    ·by_cases k2 : B = 0
     ·simp [k, k2, BL]
     ·have : (B != 0) = true := bne_iff_ne.2 k2
      simp [k, k2, this, BL]
    ·have : (A != 0) = true := bne_iff_ne.2 k
     simp [k, this, BL])
  (fun n => by rw [D7, Ay (by omega)]) N 0 (by omega) (by omega)
 simpa using this
theorem Ur (N : Nat) (p : Aa) (m : Ac) (hN : N ≤ 1000000) (h1 : p.fc.length < N) (hp : Bc p) (hm : MixServ p m) (j : Option Int) :
  B4 N p m (fun _ => j) N 0 = BL (CE (Kd p m) 0 p.fc) j := by
 have := BQ (B4 N p m (fun _ => j)) p.fc j (Kd p m)
  (fun n i x hx => by
   have hi := (lI.1 hx).1
   have hin := JI (hp.tab x (lM hx))
   have hv := Kp hp.ver hin.1 hin.2.1
   rw [B4, AB (by omega), AT, hx]
   simp only [oS, Bb, HA]
   rw [KP N m x.fg hin.1 (by rw [hm.base]; exact hin.2.1) (by rw [hm.next]; exact hin.2.1) (hm.b0 _ (by omega)).1, Ei (d := 0) hin.1 hin.2.1, Da (d := 0) (show i < m.fe.length from by rw [hm.held]; exact hi), AF (by omega)]
   simp only [oS]
   rw [show DF (0 ≤ p.fa.getD x.fg.toNat 0) = some () from by unfold DF; rw [if_pos (by omega)]]
   simp only [oS]
   unfold Kd YS
   generalize Dc .u8 (HG m x.fg.toNat) (m.fe.getD i 0) = A
   generalize Dc .u8 (m.fe.getD i 0) (wI .u8 (DX .u8 1 (p.fa.getD x.fg.toNat 0) - 1)) = B
   generalize m.fe.getD i 0 = H
   cases B1 x
   ·simp only [zE0, AQ, Al]
    by_cases k : H = 0
    ·simp [k, BL]
    ·have : (H != 0) = true := bne_iff_ne.2 k
     simp [k, this, BL]
   ·simp only [zC0, Al, AQ]
    by_cases k : A = 0
    ·by_cases k2 : B = 0
     ·simp [k, k2, BL]
     ·have : (B != 0) = true := bne_iff_ne.2 k2
      simp [k, k2, this, BL]
    ·have : (A != 0) = true := bne_iff_ne.2 k
     by_cases k2 : B = 0
     ·simp [k, k2, this, BL]
     ·have h5 : (B != 0) = true := bne_iff_ne.2 k2
      simp [k, h5, BL])
  (fun n => by rw [B4, Ay (by omega)]) N 0 (by omega) (by omega)
 simpa using this
theorem Jn (N : Nat) (p : Aa) (m : Ac) (hN : N ≤ 1000000) (h : 20 ≤ N) (hw : OQ Mf m.fe) : FP N p m = some (F9 p m) := by
 unfold FP F9
 rw [H9 N p hN h]
 simp only [oS, Bb]
 by_cases k0 : BM p = 0
 ·have hp : Bc p := by
   rcases Ju p with h | h
   ·exact h.2
   ·omega
  have hnv := hp.nv
  have hnt := hp.nt
  rw [k0]
  simp only [bne_self_eq_false, Al, ne_eq, not_true_eq_false, if_false]
  by_cases k1 : m.fd.length = p.fa.length
  ·by_cases k2 : m.fb.length = p.fa.length
   ·by_cases k3 : m.fe.length = p.fc.length
    ·rw [k1, k2, k3]
     simp only [bne_self_eq_false, Al, not_true_eq_false, or_self, if_false]
     rw [R3 N p m hN (by omega) k1 k2]
     cases hs : CE (ME m) 0 p.fa with
     | some r => rfl
     | none =>
      simp only [BL]
      rw [T1 N p m hN (by omega) hp (Rp k1 k2 k3 hs) hw]
      cases CE (Kd p m) 0 p.fc <;> rfl
    ·have : ((m.fe.length : Int) != (p.fc.length : Int)) = true := bne_iff_ne.2 (by omega)
     rw [this, k1, k2]; simp [k3]
   ·have : ((m.fb.length : Int) != (p.fa.length : Int)) = true := bne_iff_ne.2 (by omega)
    rw [this, k1]; simp [k2]
  ·have : ((m.fd.length : Int) != (p.fa.length : Int)) = true := bne_iff_ne.2 (by omega)
   rw [this]; simp [k1]
 ·rw [bne_iff_ne.2 k0]; simp [k0]
theorem Js (N : Nat) (p : Aa) (m : Ac) (hN : N ≤ 1000000) (h : 20 ≤ N) : Dq N p m = some (F9 p m) := by
 unfold Dq F9
 rw [JL N p hN h]
 simp only [oS, Bb]
 by_cases k0 : BM p = 0
 ·have hp : Bc p := by
   rcases Ju p with h | h
   ·exact h.2
   ·omega
  have hnv := hp.nv
  have hnt := hp.nt
  rw [k0]
  simp only [bne_self_eq_false, Al, ne_eq, not_true_eq_false, if_false]
  by_cases k1 : m.fd.length = p.fa.length
  ·by_cases k2 : m.fb.length = p.fa.length
   ·by_cases k3 : m.fe.length = p.fc.length
    ·rw [k1, k2, k3]
     simp only [bne_self_eq_false, Al, not_true_eq_false, or_self, if_false]
     rw [Ru N p m hN (by omega) k1 k2]
     cases hs : CE (ME m) 0 p.fa with
     | some r => rfl
     | none =>
      simp only [BL]
      rw [Ur N p m hN (by omega) hp (Rp k1 k2 k3 hs)]
      cases CE (Kd p m) 0 p.fc <;> rfl
    ·have : ((m.fe.length : Int) != (p.fc.length : Int)) = true := bne_iff_ne.2 (by omega)
     rw [this, k1, k2]; simp [k3]
   ·have : ((m.fb.length : Int) != (p.fa.length : Int)) = true := bne_iff_ne.2 (by omega)
    rw [this, k1]; simp [k2]
  ·have : ((m.fd.length : Int) != (p.fa.length : Int)) = true := bne_iff_ne.2 (by omega)
   rw [this]; simp [k1]
 ·rw [bne_iff_ne.2 k0]; simp [k0]
@[simp] theorem Bh {α β : Type} (k : α) (f : α → β) : Bb k f = f k := rfl
@[simp] theorem XC {p : Prop} [Decidable p] (h : p) : DF p = some () := by unfold DF; rw [if_pos h]
theorem Au {β : Type} {p : Prop} [Decidable p] (h : p) (f : Unit → Option β) : (DF p).bind f = f () := by rw [XC h]; rfl
def CF {α β : Type} (g : Nat → α → List β) : Nat → List α → List β
 | _, [] => []
 | i, x :: xs => g i x ++ CF g (i + 1) xs
def Jb {α A : Type} (f : Nat → α → A → A) : Nat → List α → A → A
 | _, [], a => a
 | i, x :: xs, a => Jb f (i + 1) xs (f i x a)
theorem M8 {α β : Type} (g : Nat → α → List β) : ∀ (i : Nat) (xs ys : List α), CF g i (xs ++ ys) = CF g i xs ++ CF g (i + xs.length) ys
 | i, [], ys => by simp [CF]
 | i, x :: xs, ys => by
  rw [zI5, CF, CF, M8 g (i + 1) xs ys, zD1, zC3, zF6, Nat.add_comm 1]
theorem Hf {α β : Type} {g : Nat → α → List β} {y : β} : ∀ {i : Nat} {xs : List α}, y ∈ CF g i xs ↔ ∃ j x, xs[j]? = some x ∧ y ∈ g (i + j) x
 | _, [] => by simp [CF]
 | i, x :: xs => by
  rw [CF, zC2, Hf]
  constructor
  ·rintro (h | ⟨j, z, hz, h⟩)
   ·exact ⟨0, x, rfl, h⟩
   ·exact ⟨j + 1, z, by simpa using hz, by rwa [show i + (j + 1) = i + 1 + j from by omega]⟩
  ·rintro ⟨j, z, hz, h⟩
   cases j with
   | zero => simp at hz; subst hz; exact .inl h
   | succ j => exact .inr ⟨j, z, by simpa using hz, by rwa [show i + 1 + j = i + (j + 1) from by omega]⟩
theorem Gj {α β : Type} {g : Nat → α → List β} {c : Nat} : ∀ {i : Nat} {xs : List α}, (∀ j x, xs[j]? = some x → (g (i + j) x).length ≤ c) → (CF g i xs).length ≤ c * xs.length
 | _, [], _ => by simp [CF]
 | i, x :: xs, h => by
  have h1 := h 0 x rfl
  have h2 := Gj (g := g) (c := c) (i := i + 1) (xs := xs) fun j y hy => by
   have := h (j + 1) y (by simpa using hy)
   rwa [show i + (j + 1) = i + 1 + j from by omega] at this
  rw [CF, zB6, zC3, Nat.mul_add]
  simp only [zF7] at h1
  omega
theorem H4 {α A S R : Type} (L : Nat → S → Option R) (mk : A → Int → S) (xs : List α) (j : A → Option R) (f : Nat → α → A → A) (I : Nat → A → Prop)
  (hs : ∀ (n i : Nat) (x : α) (a : A), xs[i]? = some x → I i a → L (n + 1) (mk a (i : Int)) = L n (mk (f i x a) ((i + 1 : Nat) : Int)) ∧ I (i + 1) (f i x a))
  (he : ∀ (n : Nat) (a : A), I xs.length a → L (n + 1) (mk a (xs.length : Int)) = j a) :
  ∀ (n i : Nat) (a : A), i ≤ xs.length → xs.length - i < n → I i a → L n (mk a (i : Int)) = j (Jb f i (xs.drop i) a) ∧ I xs.length (Jb f i (xs.drop i) a)
 | 0, i, _, _, h, _ => by omega
 | n + 1, i, a, hi, h, ha => by
  by_cases h1 : i < xs.length
  ·have hx : xs[i]? = some xs[i] := by simp [h1]
   obtain ⟨e1, e2⟩ := hs n i _ a hx ha
   rw [e1, Ga hx, Jb]
   exact H4 L mk xs j f I hs he n (i + 1) _ (by omega) (by omega) e2
  ·have : i = xs.length := by omega
   subst this
   rw [zD4 (zB0 _), Jb]
   exact ⟨he n a ha, ha⟩
theorem O9 {α β : Type} (g : Nat → α → List β) : ∀ (i : Nat) (xs : List α) (acc : List β), Jb (fun i x a => a ++ g i x) i xs acc = acc ++ CF g i xs
 | _, [], acc => by simp [Jb, CF]
 | i, x :: xs, acc => by rw [Jb, O9 g (i + 1) xs, CF, zD1]
theorem FK {α β S R : Type} (L : Nat → S → Option R) (mk : List β → Int → S) (xs : List α) (j : List β → Option R) (g : Nat → α → List β) (c B : Nat)
  (hg : ∀ i x, xs[i]? = some x → (g i x).length ≤ c)
  (hs : ∀ (n i : Nat) (x : α) (a : List β), xs[i]? = some x → a.length + (g i x).length ≤ B → L (n + 1) (mk a (i : Int)) = L n (mk (a ++ g i x) ((i + 1 : Nat) : Int)))
  (he : ∀ (n : Nat) (a : List β), L (n + 1) (mk a (xs.length : Int)) = j a) (n : Nat) (a : List β) (hn : xs.length < n) (ha : a.length + c * xs.length ≤ B) :
  L n (mk a 0) = j (a ++ CF g 0 xs) := by
 have := H4 L mk xs j (fun i x a => a ++ g i x) (fun i b => i ≤ xs.length ∧ b.length ≤ a.length + c * i)
  (fun n i x b hx hb => by
   have h1 := hg i x hx
   have hi := (lI.1 hx).1
   have h2 : c * (i + 1) ≤ c * xs.length := Nat.mul_le_mul_left c hi
   have h3 : c * (i + 1) = c * i + c := Nat.mul_succ c i
   refine ⟨hs n i x b hx (by have := hb.2; omega), hi, ?_⟩
   rw [zB6]
   have := hb.2
   omega)
  (fun n b _ => he n b) n 0 a (zA8 _) (by omega) ⟨zA8 _, by omega⟩
 have h2 := this.1
 rw [zB9, O9] at h2
 exact h2
def Ee (s : Int) (v : Nat) : Bool := s.toNat.testBit v
def Jx (m : Ac) (s v : Nat) : Bool := decide (m.fd.getD s 0 = (v : Int)) || decide (m.fb.getD s 0 = (v : Int))
theorem YW : ∀ (s : Fin 256) (v : Fin 8), AK .u8 (AZ .u8 (s.val : Int) (v.val : Int)) 1 = if Ee (s.val : Int) v.val then 1 else 0 := by decide +kernel
theorem RP {s : Int} {v : Nat} (h0 : 0 ≤ s) (h1 : s ≤ 255) (hv : v < 8) : AK .u8 (AZ .u8 s (v : Int)) 1 = if Ee s v then 1 else 0 := by
 obtain ⟨k, rfl⟩ := zA7 h0
 exact YW ⟨k, by omega⟩ ⟨v, hv⟩
theorem SR {s : Int} {v : Nat} (h0 : 0 ≤ s) (h1 : s ≤ 255) (hv : v < 8) : (AK .u8 (AZ .u8 s (v : Int)) 1 == 0) = !Ee s v := by
 rw [RP h0 h1 hv]; cases Ee s v <;> rfl
theorem SO {s : Int} {v : Nat} (h0 : 0 ≤ s) (h1 : s ≤ 255) (hv : v < 8) : (AK .u8 (AZ .u8 s (v : Int)) 1 == 1) = Ee s v := by
 rw [RP h0 h1 hv]; cases Ee s v <;> rfl
theorem Lb {s : Int} {v : Nat} (h1 : s ≤ 255) (hv : 8 ≤ v) : Ee s v = false := by
 unfold Ee
 apply Nat.testBit_lt_two_pow
 have : (2 : Nat) ^ 8 ≤ 2 ^ v := Nat.pow_le_pow_right (by omega) hv
 omega
theorem K3 : ∀ (b : Fin 8) (v : Fin 8), Ee (DX .u8 1 (b.val : Int)) v.val = decide (b.val = v.val) ∧ 0 ≤ DX .u8 1 (b.val : Int) ∧ DX .u8 1 (b.val : Int) ≤ 255 := by decide +kernel
theorem YZ : ∀ (b n : Fin 8) (v : Fin 8), Ee (P0 .u8 (DX .u8 1 (b.val : Int)) (DX .u8 1 (n.val : Int))) v.val = (decide (b.val = v.val) || decide (n.val = v.val))
  ∧ 0 ≤ P0 .u8 (DX .u8 1 (b.val : Int)) (DX .u8 1 (n.val : Int)) ∧ P0 .u8 (DX .u8 1 (b.val : Int)) (DX .u8 1 (n.val : Int)) ≤ 255 := by decide +kernel
theorem WX {m : Ac} {s : Nat} (hb0 : 0 ≤ m.fd.getD s 0) (hb1 : m.fd.getD s 0 < 8) (hn1 : m.fb.getD s 0 < 8) :
  (∀ v, Ee (HG m s) v = Jx m s v) ∧ 0 ≤ HG m s ∧ HG m s ≤ 255 := by
 unfold HG Jx
 obtain ⟨b, hb⟩ := zA7 hb0
 rw [hb] at hb1 ⊢
 by_cases h : 0 ≤ m.fb.getD s 0
 ·obtain ⟨n, hn⟩ := zA7 h
  rw [hn] at hn1 ⊢
  rw [if_pos (by omega)]
  have h1 := YZ ⟨b, by omega⟩ ⟨n, by omega⟩
  refine ⟨fun v => ?_, (h1 0).2⟩
  by_cases hv : v < 8
  ·rw [(h1 ⟨v, hv⟩).1]
   simp only [zL3]
  ·rw [Lb (h1 0).2.2 (by omega)]
   simp; omega
 ·rw [if_neg h]
  have h1 := K3 ⟨b, by omega⟩
  refine ⟨fun v => ?_, (h1 0).2⟩
  have h3 : decide (m.fb.getD s 0 = (v : Int)) = false := decide_eq_false (by omega)
  rw [h3, Bool.or_false]
  by_cases hv : v < 8
  ·rw [(h1 ⟨v, hv⟩).1]
   simp only [zL3]
  ·rw [Lb (h1 0).2.2 (by omega)]
   simp; omega
theorem Wz {a : Nat} (h : a < 256) : (BitVec.ofInt 8 (a : Int)).toNat = a := by
 simp; omega
theorem PK {a b : Int} (ha : 0 ≤ a ∧ a ≤ 255) (hb : 0 ≤ b ∧ b ≤ 255) : Dc .u8 a b = 0 ↔ ∀ v, Ee a v = true → Ee b v = true := by
 obtain ⟨a, rfl⟩ := zA7 ha.1
 obtain ⟨b, rfl⟩ := zA7 hb.1
 have hA := Wz (a := a) (by omega)
 have hB := Wz (a := b) (by omega)
 unfold Dc Ee
 simp only [IntKind.bits, zB3]
 have hx : ∀ x : BitVec 8, wI .u8 (x.toNat : Int) = (x.toNat : Int) := by
  intro x
  have := x.isLt
  simp [wI, IntKind.signed, IntKind.bits]
  omega
 rw [hx]
 constructor
 ·intro h v hv
  have h0 : (BitVec.ofInt 8 (a : Int) &&& ~~~BitVec.ofInt 8 (b : Int)) = (BitVec.ofNat 8 0) := by
   apply BitVec.eq_of_toNat_eq
   simp only [BitVec.toNat_ofNat, Nat.zero_mod]
   exact zL3.1 h
  by_cases hv8 : v < 8
  ·have h1 : (BitVec.ofInt 8 (a : Int) &&& ~~~BitVec.ofInt 8 (b : Int)).getLsbD v = false := by rw [h0]; simp
   rw [BitVec.getLsbD_and, BitVec.getLsbD_not] at h1
   have e1 : (BitVec.ofInt 8 (a : Int)).getLsbD v = a.testBit v := by unfold BitVec.getLsbD; rw [hA]
   have e2 : (BitVec.ofInt 8 (b : Int)).getLsbD v = b.testBit v := by unfold BitVec.getLsbD; rw [hB]
   rw [e1, e2, hv] at h1
   simpa [hv8] using h1
  ·have := Lb (s := (a : Int)) (v := v) (by omega) (by omega)
   unfold Ee at this
   rw [zB3, hv] at this
   cases this
 ·intro h
  have h0 : (BitVec.ofInt 8 (a : Int) &&& ~~~BitVec.ofInt 8 (b : Int)) = (BitVec.ofNat 8 0) := by
   apply BitVec.eq_of_getLsbD_eq
   intro i hi
   rw [BitVec.getLsbD_and, BitVec.getLsbD_not]
   have e1 : (BitVec.ofInt 8 (a : Int)).getLsbD i = a.testBit i := by unfold BitVec.getLsbD; rw [hA]
   have e2 : (BitVec.ofInt 8 (b : Int)).getLsbD i = b.testBit i := by unfold BitVec.getLsbD; rw [hB]
   rw [e1, e2]
   have := h i
   cases h3 : a.testBit i
   ·simp
   ·rw [this h3]; simp
  have h2 : ∀ x : BitVec 8, x = (BitVec.ofNat 8 0) → (x.toNat : Int) = 0 := fun x hx => by rw [hx]; rfl
  exact h2 _ h0
theorem YH : ∀ n : Fin 9, (∀ v : Fin 8, Ee (wI .u8 (DX .u8 1 (n.val : Int) - 1)) v.val = decide (v.val < n.val)) ∧ 0 ≤ wI .u8 (DX .u8 1 (n.val : Int) - 1) ∧ wI .u8 (DX .u8 1 (n.val : Int) - 1) ≤ 255 := by decide +kernel
theorem YF {n : Int} (h0 : 0 ≤ n) (h1 : n ≤ 8) : (∀ v, Ee (wI .u8 (DX .u8 1 n - 1)) v = decide ((v : Int) < n)) ∧ 0 ≤ wI .u8 (DX .u8 1 n - 1) ∧ wI .u8 (DX .u8 1 n - 1) ≤ 255 := by
 obtain ⟨n, rfl⟩ := zA7 h0
 have h := YH ⟨n, by omega⟩
 refine ⟨fun v => ?_, h.2⟩
 by_cases hv : v < 8
 ·rw [h.1 ⟨v, hv⟩]; simp
 ·rw [Lb h.2.2 (by omega)]
  symm; apply decide_eq_false; omega
structure BX (p : Aa) (m : Ac) : Prop extends MixServ p m where
 range : ∀ i, i < p.fc.length → 0 ≤ m.fe.getD i 0 ∧ m.fe.getD i 0 ≤ 255
 low : ∀ i t, p.fc[i]? = some t → B1 t = true → ∀ v, Jx m t.fg.toNat v = true → Ee (m.fe.getD i 0) v = true
 high : ∀ i t, p.fc[i]? = some t → B1 t = true → ∀ v, Ee (m.fe.getD i 0) v = true → (v : Int) < p.fa.getD t.fg.toNat 0
 none : ∀ i t, p.fc[i]? = some t → B1 t = false → m.fe.getD i 0 = 0
theorem I9 {p : Aa} (hp : Bc p) {i : Nat} (hi : i < p.fa.length) : 1 ≤ p.fa.getD i 0 ∧ p.fa.getD i 0 ≤ 6 := by
 have := Kp (i := (i : Int)) hp.ver (by omega) (by omega)
 simpa using this
theorem IZ {p : Aa} {m : Ac} (hp : Bc p) (hm : MixServ p m) {s : Nat} (hs : s < p.fa.length) :
  (∀ v, Ee (HG m s) v = Jx m s v) ∧ 0 ≤ HG m s ∧ HG m s ≤ 255 := by
 have h1 := hm.b0 s hs
 have h2 := hm.n0 s hs
 have h3 := I9 hp hs
 exact WX h1.1 (by omega) (by omega)
theorem Tl {p : Aa} {m : Ac} (hp : Bc p) (hm : MixServ p m) {i : Nat} {t : An} (ht : p.fc[i]? = some t) (hr : 0 ≤ m.fe.getD i 0 ∧ m.fe.getD i 0 ≤ 255) :
  Kd p m i t = none ↔ ((B1 t = true → (∀ v, Jx m t.fg.toNat v = true → Ee (m.fe.getD i 0) v = true) ∧ (∀ v, Ee (m.fe.getD i 0) v = true → (v : Int) < p.fa.getD t.fg.toNat 0)) ∧ (B1 t = false → m.fe.getD i 0 = 0)) := by
 have hin := JI (hp.tab t (lM ht))
 have hrun := IZ hp hm (s := t.fg.toNat) (by omega)
 have hver := I9 hp (i := t.fg.toNat) (by omega)
 have hall := YF (n := p.fa.getD t.fg.toNat 0) (by omega) (by omega)
 unfold Kd YS
 have e1 := PK hrun.2 hr
 have e2 := PK hr hall.2
 cases hst : B1 t
 ·simp
 ·simp only [if_true, true_implies, Bool.true_eq_false, false_implies, and_true, ite_eq_right_iff, reduceCtorEq, imp_false, not_or, Decidable.not_not]
  rw [e1, e2]
  simp only [hrun.1, hall.1, decide_eq_true_eq]
theorem KF {p : Aa} {m : Ac} (hw : OQ Mf m.fe) (h : F9 p m = 0) : Bc p ∧ BX p m := by
 unfold F9 at h
 split at h
 ·rename_i k; exact (k h).elim
 ·rename_i k0
  have hp : Bc p := by
   rcases Ju p with h | h
   ·exact h.2
   ·omega
  split at h
  ·cases h
  ·rename_i k1
   have b1 : m.fd.length = p.fa.length := Decidable.not_not.1 fun h => k1 (.inl h)
   have b2 : m.fb.length = p.fa.length := Decidable.not_not.1 fun h => k1 (.inr (.inl h))
   have b3 : m.fe.length = p.fc.length := Decidable.not_not.1 fun h => k1 (.inr (.inr h))
   cases hs : CE (ME m) 0 p.fa with
   | some r =>
    obtain ⟨j, x, _, he⟩ := DT hs
    rw [hs] at h
    unfold ME at he
    simp only [BL, zC4] at h
    split at he
    ·cases he; cases h
    ·split at he
     ·cases he; cases h
     ·cases he
   | none =>
    have hm := Rp b1 b2 b3 hs
    rw [hs] at h
    simp only [BL] at h
    cases ht : CE (Kd p m) 0 p.fc with
    | some r =>
     obtain ⟨j, x, _, he⟩ := DT ht
     rw [ht] at h
     simp only [zC4] at h
     subst h
     unfold Kd at he
     split at he
     ·split at he <;> cases he
     ·split at he <;> cases he
    | none =>
     have hr : ∀ i, i < p.fc.length → 0 ≤ m.fe.getD i 0 ∧ m.fe.getD i 0 ≤ 255 := fun i hi => JO (SE hw (by omega))
     have key : ∀ i t, p.fc[i]? = some t → _ := fun i t hi => (Tl hp hm hi (hr i (lI.1 hi).1)).1 (by have := Fd ht i t hi; rwa [zA1] at this)
     exact ⟨hp, hm, hr, fun i t hi hst => ((key i t hi).1 hst).1, fun i t hi hst => ((key i t hi).1 hst).2, fun i t hi hst => (key i t hi).2 hst⟩
theorem GC {α R : Type} {f : Nat → α → Option R} : ∀ {i : Nat} {xs : List α}, (∀ j x, xs[j]? = some x → f (i + j) x = none) → CE f i xs = none
 | _, [], _ => rfl
 | i, y :: ys, h => by
  rw [FJ, show f i y = none from h 0 y rfl]
  exact GC fun j x hx => by
   have := h (j + 1) x (by simpa using hx)
   rwa [show i + (j + 1) = i + 1 + j from by omega] at this
theorem RQ {p : Aa} (hp : Bc p) (hr : ∀ i, i < p.fa.length → 0 ≤ p.fi.getD i 0 ∧ p.fi.getD i 0 < p.fa.getD i 0 ∧ 0 ≤ p.fm.getD i 0 ∧ p.fm.getD i 0 < p.fa.getD i 0) : BM p = 0 := by
 have := hp.nv
 have := hp.nt
 have := hp.now
 have := hp.tgt
 unfold BM
 rw [if_neg (by omega), if_neg (by omega)]
 have h1 : CE (Ge p) 0 p.fa = none := GC fun j x hx => by
  have hj := (lI.1 hx).1
  have h1 := hr j hj
  have h2 := I9 hp hj
  have e : p.fa.getD j 0 = x := by rw [lD, hx]; rfl
  rw [e] at h1 h2
  unfold Ge
  rw [zA1, if_neg (by omega)]
 have h2 : CE (Me p) 0 p.fc = none := GC fun j x hx => by
  unfold Me
  rw [if_pos (hp.tab x (lM hx))]
 rw [h1, h2]; rfl
theorem C3 {p : Aa} (h : BM p = 0) : Bc p ∧ ∀ i, i < p.fa.length → 0 ≤ p.fi.getD i 0 ∧ p.fi.getD i 0 < p.fa.getD i 0 ∧ 0 ≤ p.fm.getD i 0 ∧ p.fm.getD i 0 < p.fa.getD i 0 := by
 have hp : Bc p := by
  rcases Ju p with h | h
  ·exact h.2
  ·omega
 refine ⟨hp, fun i hi => ?_⟩
 have h1 := hp.nv
 have h2 := hp.nt
 have h3 := hp.now
 have h4 := hp.tgt
 unfold BM at h
 rw [if_neg (by omega), if_neg (by omega)] at h
 cases hs : CE (Ge p) 0 p.fa with
 | some r =>
  obtain ⟨j, x, _, he⟩ := DT hs
  rw [hs] at h
  unfold Ge at he
  split at he
  ·cases he; cases h
  ·cases he
 | none =>
  have hx : p.fa[i]? = some (p.fa.getD i 0) := by rw [lD]; simp [hi]
  have := Fd hs i _ hx
  rw [zA1] at this
  unfold Ge at this
  split at this
  ·cases this
  ·rename_i hn; omega
theorem I0 {p : Aa} {m : Ac} (hv : BM p = 0) (hm : BX p m) : F9 p m = 0 := by
 obtain ⟨hp, _⟩ := C3 hv
 unfold F9
 rw [hv, if_neg (by simp), if_neg (by have := hm.base; have := hm.next; have := hm.held; omega)]
 have h1 : CE (ME m) 0 p.fa = none := GC fun j x hx => by
  have hj := (lI.1 hx).1
  have e : p.fa.getD j 0 = x := by rw [lD, hx]; rfl
  have h1 := hm.b0 j hj
  have h2 := hm.n0 j hj
  have h3 := hm.ne j hj
  rw [e] at h1 h2
  unfold ME
  rw [zA1, if_neg (by omega), if_neg h3]
 have h2 : CE (Kd p m) 0 p.fc = none := GC fun j x hx => by
  have hj := (lI.1 hx).1
  rw [zA1]
  exact (Tl hp hm.toMixServ hx (hm.range j hj)).2 ⟨fun hst => ⟨hm.low j x hx hst, hm.high j x hx hst⟩, fun hst => hm.none j x hx hst⟩
 rw [h1, h2]; rfl
def OU {α : Type} (g : Nat → α → Bool) : Nat → List α → Bool
 | _, [] => false
 | i, x :: xs => g i x || OU g (i + 1) xs
theorem MM {α β : Type} (g : Nat → α → List β) (h : Nat → α → Bool) : ∀ (i : Nat) (xs : List α) (a : List β) (b : Bool),
  Jb (fun i x (s : List β × Bool) => (s.1 ++ g i x, s.2 || h i x)) i xs (a, b) = (a ++ CF g i xs, b || OU h i xs)
 | _, [], a, b => by simp [Jb, CF, OU]
 | i, x :: xs, a, b => by rw [Jb, MM g h, CF, OU, zD1, Bool.or_assoc]
def gC (i u : Nat) (m : Ac) (t : An) (v : Nat) (ok : Bool) : List Ap :=
 if Jx m t.fj.toNat v && (!ok && !t.fr) then [⟨(i : Int), (u : Int), (v : Int)⟩] else []
def hC (m : Ac) (t : An) (v : Nat) (ok : Bool) : Bool := Jx m t.fj.toNat v && ok
def K4 (i : Nat) (m : Ac) (t : An) (u : Nat) (row : List Bool) : List Ap :=
 CF (gC i u m t) 0 row ++ if t.fr && !OU (hC m t) 0 row then [⟨(i : Int), (u : Int), -1⟩] else []
def VE (m : Ac) (i : Nat) (t : An) (u : Nat) : Bool := if B1 t then Ee (m.fe.getD i 0) u else Jx m t.fg.toNat u
def KU (m : Ac) (i : Nat) (t : An) : List Ap := CF (fun u row => if VE m i t u then K4 i m t u row else []) 0 t.fq
def HT (p : Aa) (m : Ac) : List Ap := CF (KU m) 0 p.fc
structure Ot (p : Aa) (t : An) : Prop where
 kind : 1 ≤ t.ff ∧ t.ff ≤ 4
 aware : t.fr = true → B1 t = false
 from0 : 0 ≤ t.fg ∧ t.fg < (p.fa.length : Int)
 to0 : 0 ≤ t.fj ∧ t.fj < (p.fa.length : Int)
 okL : (t.fq.length : Int) = p.fa.getD t.fg.toNat 0
 okR : ∀ row, row ∈ t.fq → (row.length : Int) = p.fa.getD t.fj.toNat 0
 reL : t.ff = 4 → (t.fk.length : Int) = p.fa.getD t.fg.toNat 0
 reR : ∀ row, row ∈ t.fk → (row.length : Int) = p.fa.getD t.fg.toNat 0
 reD : t.ff = 4 → JW t.fk = none
 reN : t.ff ≠ 4 → t.fk = []
theorem LU {p : Aa} {t : An} (h : D2 p t = 0) : Ot p t := by
 unfold D2 at h
 split at h
 ·cases h
 rename_i h1
 split at h
 ·cases h
 rename_i h2
 simp only at h
 split at h
 ·cases h
 rename_i h3
 have h3 : sq t.fq (p.fa.getD t.fg.toNat 0) (p.fa.getD t.fj.toNat 0) = true := by simpa using h3
 have h3 := OL h3
 have ha : t.fr = true → B1 t = false := by
  intro ha
  unfold B1
  rw [zI9, beq_eq_false_iff_ne, beq_eq_false_iff_ne]
  exact ⟨fun hk => h1 (.inr (.inr ⟨ha, .inl hk⟩)), fun hk => h1 (.inr (.inr ⟨ha, .inr hk⟩))⟩
 split at h
 ·rename_i h4
  split at h
  ·cases h
  rename_i h5
  have h5 : sq t.fk (p.fa.getD t.fg.toNat 0) (p.fa.getD t.fg.toNat 0) = true := by simpa using h5
  have h5 := OL h5
  refine ⟨by omega, ha, by omega, by omega, h3.1, h3.2, fun _ => h5.1, h5.2, fun _ => ?_, fun h => (h h4).elim⟩
  cases hd : JW t.fk with
  | none => rfl
  | some r =>
   obtain ⟨j, x, _, hx⟩ := DT hd
   rw [hd] at h
   split at hx
   ·cases hx
   ·cases hx; cases h
 ·rename_i h4
  split at h
  ·rename_i h5
   have h5 := zD3 h5
   refine ⟨by omega, ha, by omega, by omega, h3.1, h3.2, fun h => (h4 h).elim, fun row hr => ?_, fun h => (h4 h).elim, fun _ => h5⟩
   rw [h5] at hr; cases hr
  ·cases h
theorem L8 {R : Type} (b : Bool) (acc : List Ap) (x : Ap) (j : List Ap → Option R) (h : acc.length + 1 ≤ C5) :
  AP b ((DF (acc.length + ([x] : List Ap).length ≤ C5)).bind fun _ => j (acc ++ [x])) (j acc) = j (acc ++ if b then [x] else []) := by
 cases b
 ·simp
 ·rw [AQ, Au (by simpa using h)]; rfl
theorem S8 (N : Nat) (m : Ac) (t : An) (i u : Nat) (row : List Bool) (R : Int) (b1 b2 acc : List Ap) (j : List Ap × Bool → Option (List Ap))
  (hN : N ≤ 1000000) (h8 : 8 ≤ N) (hrow : row.length ≤ 6) (hacc : acc.length + 6 ≤ C5) (hR0 : 0 ≤ R) (hR1 : R ≤ 255) (hRb : ∀ v, Ee R v = Jx m t.fj.toNat v) :
  B5 N (b1, (i : Int)) t R (b2, (u : Int)) row j N (acc, false, 0) = j (acc ++ CF (gC i u m t) 0 row, OU (hC m t) 0 row) := by
 have := H4 (A := List Ap × Bool) (B5 N (b1, (i : Int)) t R (b2, (u : Int)) row j) (fun a k => (a.1, a.2, k)) row (fun a => j a) (fun v ok s => (s.1 ++ gC i u m t v ok, s.2 || hC m t v ok))
  (fun v a => v ≤ row.length ∧ a.1.length ≤ acc.length + v)
  (fun n v ok a hx ha => by
   have hv := (lI.1 hx).1
   obtain ⟨c, f⟩ := a
   simp only at ha
   refine ⟨?_, by omega, ?_⟩
   ·rw [B5]
    simp only [Bh]
    rw [AB (by omega), AT, hx]
    simp only [oS]
    rw [Au (by omega), SR hR0 hR1 (by omega), hRb, AF (by omega), L8 _ _ _ (fun l => B5 N (b1, (i : Int)) t R (b2, (u : Int)) row j n (l, true, ((v + 1 : Nat) : Int))) (by omega)]
    unfold gC hC
    rw [L8 _ _ _ (fun l => B5 N (b1, (i : Int)) t R (b2, (u : Int)) row j n (l, ok, ((v + 1 : Nat) : Int))) (by omega)]
    cases Jx m t.fj.toNat v
    ·simp
    ·cases ok <;> cases f <;> cases t.fr <;> simp
   ·simp only [gC, zB6]
    split <;> simp <;> omega)
  (fun n a _ => by
   rw [B5]
   simp only [Bh]
   rw [Ay (by omega)]) N 0 (acc, false) (by omega) (by omega) ⟨by omega, by simp⟩
 have h2 := this.1
 rw [zB9, MM, zJ7] at h2
 exact h2
theorem Nn {p : Aa} {t : An} (hp : Bc p) (ht : Ot p t) : t.fq.length ≤ 6 ∧ ∀ row, row ∈ t.fq → row.length ≤ 6 := by
 have h1 := Kp hp.ver ht.from0.1 ht.from0.2
 have h2 := Kp hp.ver ht.to0.1 ht.to0.2
 have h3 := ht.okL
 exact ⟨by omega, fun row hr => by have := ht.okR row hr; omega⟩
theorem Uz (i u : Nat) (m : Ac) (t : An) (v : Nat) (ok : Bool) : (gC i u m t v ok).length ≤ 1 := by
 unfold gC; split <;> simp
theorem TT (i : Nat) (m : Ac) (t : An) (u : Nat) (row : List Bool) (h : row.length ≤ 6) : (K4 i m t u row).length ≤ 7 := by
 unfold K4
 rw [zB6]
 have := Gj (g := gC i u m t) (c := 1) (i := 0) (xs := row) (fun j x _ => Uz _ _ _ _ _ _)
 split <;> simp <;> omega
theorem UC (i : Nat) (m : Ac) (t : An) (u : Nat) (row : List Bool) (h : row.length ≤ 6) : (if VE m i t u = true then K4 i m t u row else []).length ≤ 7 := by
 have := TT i m t u row h
 split <;> simp <;> omega
theorem Ov {p : Aa} {t : An} (hp : Bc p) (ht : Ot p t) (i : Nat) (m : Ac) : (KU m i t).length ≤ 42 := by
 have h1 := Nn hp ht
 have := Gj (g := fun u row => if VE m i t u = true then K4 i m t u row else []) (c := 7) (i := 0) (xs := t.fq) (fun j x hx => UC i m t _ x (h1.2 x (lM hx)))
 unfold KU
 omega
theorem Ny (N : Nat) (p : Aa) (m : Ac) (t : An) (i : Nat) (W R : Int) (b1 acc : List Ap) (j : List Ap → Option (List Ap))
  (hN : N ≤ 1000000) (h8 : 8 ≤ N) (hp : Bc p) (ht : Ot p t) (hacc : acc.length + 42 ≤ 10000) (hR0 : 0 ≤ R) (hR1 : R ≤ 255) (hRb : ∀ v, Ee R v = Jx m t.fj.toNat v) (hW0 : 0 ≤ W) (hW1 : W ≤ 255) (hWb : ∀ v, Ee W v = VE m i t v) :
  Cw N (b1, (i : Int)) t R W j N (acc, 0) = j (acc ++ KU m i t) := by
 have hl := Nn hp ht
 exact FK (Cw N (b1, (i : Int)) t R W j) (fun a k => (a, k)) t.fq j (fun u row => if VE m i t u then K4 i m t u row else []) 7 10000
  (fun u row hx => UC i m t u row (hl.2 row (lM hx)))
  (fun n u row a hx ha => by
   have hu := (lI.1 hx).1
   have hrow := hl.2 row (lM hx)
   rw [Cw]
   simp only [Bh]
   rw [AB (by omega), Au (by omega), SR hW0 hW1 (by omega), hWb, AT, hx]
   simp only [oS]
   rw [S8 N m t i u row R b1 a a _ hN h8 hrow (by unfold C5; omega) hR0 hR1 hRb, AF (by omega)]
   cases hw : VE m i t u
   ·simp
   ·simp only [zC0, Al, if_true, K4]
    have h1 := Gj (g := gC i u m t) (c := 1) (i := 0) (xs := row) (fun j x _ => Uz _ _ _ _ _ _)
    have := L8 (R := List Ap) (t.fr && !OU (hC m t) 0 row) (a ++ CF (gC i u m t) 0 row) ⟨(i : Int), (u : Int), -1⟩ (fun l => Cw N (b1, (i : Int)) t R W j n (l, ((u + 1 : Nat) : Int))) (by rw [zB6]; unfold C5; rw [hw, if_pos rfl] at ha; omega)
    rw [← zD1, ← this]
    cases t.fr <;> cases OU (hC m t) 0 row <;> rfl)
  (fun n a => by
   rw [Cw]
   simp only [Bh]
   rw [Ay (by omega)]) N acc (by omega) (by omega)
theorem Td (N : Nat) (p : Aa) (m : Ac) (t : An) (i u : Nat) (row : List Bool) (b1 b2 acc : List Ap) (j : List Ap × Bool → Option (List Ap))
  (hN : N ≤ 1000000) (h8 : 8 ≤ N) (hp : Bc p) (hm : MixServ p m) (ht : Ot p t) (hu : t.fq[u]? = some row) (hacc : acc.length + 6 ≤ C5) :
  Bq N p m (b1, (i : Int)) t (b2, (u : Int)) j N (acc, false, 0) = j (acc ++ CF (gC i u m t) 0 row, OU (hC m t) 0 row) := by
 have hrow := (Nn hp ht).2 row (lM hu)
 have hR := IZ hp hm (s := t.fj.toNat) (by have := ht.to0; omega)
 have hlen := ht.okR row (lM hu)
 have hto := ht.to0
 have := H4 (A := List Ap × Bool) (Bq N p m (b1, (i : Int)) t (b2, (u : Int)) j) (fun a k => (a.1, a.2, k)) row (fun a => j a) (fun v ok s => (s.1 ++ gC i u m t v ok, s.2 || hC m t v ok))
  (fun v a => v ≤ row.length ∧ a.1.length ≤ acc.length + v)
  (fun n v ok a hx ha => by
   have hv := (lI.1 hx).1
   obtain ⟨c, f⟩ := a
   simp only at ha
   refine ⟨?_, by omega, ?_⟩
   ·rw [Bq]
    simp only [Bh]
    rw [Ei (d := 0) hto.1 hto.2, KP N m t.fj hto.1 (by rw [hm.base]; exact hto.2) (by rw [hm.next]; exact hto.2) (hm.b0 _ (by omega)).1, AT, hu]
    simp only [oS]
    unfold Cz
    rw [AB (by omega), AT, hx, Au (by omega), SO hR.2.1 hR.2.2 (by omega), hR.1]
    simp only [oS]
    rw [AF (by omega), L8 _ _ _ (fun l => Bq N p m (b1, (i : Int)) t (b2, (u : Int)) j n (l, true, ((v + 1 : Nat) : Int))) (by omega)]
    unfold gC hC
    rw [L8 _ _ _ (fun l => Bq N p m (b1, (i : Int)) t (b2, (u : Int)) j n (l, ok, ((v + 1 : Nat) : Int))) (by omega)]
    cases Jx m t.fj.toNat v
    ·simp
    ·cases ok <;> cases f <;> cases t.fr <;> simp
   ·simp only [gC, zB6]
    split <;> simp <;> omega)
  (fun n a _ => by
   rw [Bq]
   simp only [Bh]
   rw [Ei (d := 0) hto.1 hto.2]
   simp only [oS]
   rw [Ay (by omega)]) N 0 (acc, false) (by omega) (by omega) ⟨by omega, by simp⟩
 have h2 := this.1
 rw [zB9, MM, zJ7] at h2
 exact h2
theorem NO (N : Nat) (p : Aa) (m : Ac) (t : An) (i : Nat) (W : Int) (b1 acc : List Ap) (j : List Ap → Option (List Ap))
  (hN : N ≤ 1000000) (h8 : 8 ≤ N) (hp : Bc p) (hm : MixServ p m) (ht : Ot p t) (hacc : acc.length + 42 ≤ 10000) (hW0 : 0 ≤ W) (hW1 : W ≤ 255) (hWb : ∀ v, Ee W v = VE m i t v) :
  BH N p m (b1, (i : Int)) t W j N (acc, 0) = j (acc ++ KU m i t) := by
 have hl := Nn hp ht
 have hfr := ht.from0
 have hok := ht.okL
 exact FK (BH N p m (b1, (i : Int)) t W j) (fun a k => (a, k)) t.fq j (fun u row => if VE m i t u then K4 i m t u row else []) 7 10000
  (fun u row hx => UC i m t u row (hl.2 row (lM hx)))
  (fun n u row a hx ha => by
   have hu := (lI.1 hx).1
   have hrow := hl.2 row (lM hx)
   rw [BH]
   simp only [Bh]
   rw [Ei (d := 0) hfr.1 hfr.2]
   simp only [oS]
   unfold Cz
   rw [AB (by omega), Au (by omega), SO hW0 hW1 (by omega), hWb]
   simp only [oS]
   rw [Td N p m t i u row b1 a a _ hN h8 hp hm ht hx (by unfold C5; omega), AF (by omega)]
   cases hw : VE m i t u
   ·simp
   ·simp only [zC0, Al, if_true, K4]
    have h1 := Gj (g := gC i u m t) (c := 1) (i := 0) (xs := row) (fun j x _ => Uz _ _ _ _ _ _)
    have := L8 (R := List Ap) (t.fr && !OU (hC m t) 0 row) (a ++ CF (gC i u m t) 0 row) ⟨(i : Int), (u : Int), -1⟩ (fun l => BH N p m (b1, (i : Int)) t W j n (l, ((u + 1 : Nat) : Int))) (by rw [zB6]; unfold C5; rw [hw, if_pos rfl] at ha; omega)
    rw [← zD1, ← this]
    cases t.fr <;> cases OU (hC m t) 0 row <;> rfl)
  (fun n a => by
   rw [BH]
   simp only [Bh]
   rw [Ei (d := 0) hfr.1 hfr.2]
   simp only [oS]
   rw [Ay (by omega)]) N acc (by omega) (by omega)
theorem Of (N : Nat) (p : Aa) (m : Ac) (hN : N ≤ 1000000) (h20 : 20 ≤ N) (hp : Bc p) (hm : BX p m) : Gb N p m = some (HT p m) := by
 unfold Gb
 have hnt := hp.nt
 rw [FK (DH N p m _) (fun a k => (a, k)) p.fc some (KU m) 42 9000
  (fun i t hx => Ov hp (LU (hp.tab t (lM hx))) i m)
  (fun n i t a hx ha => by
   have hi := (lI.1 hx).1
   have ht := LU (hp.tab t (lM hx))
   have hto := ht.to0
   have hfr := ht.from0
   have hR := IZ hp hm.toMixServ (s := t.fj.toNat) (by omega)
   have hF := IZ hp hm.toMixServ (s := t.fg.toNat) (by omega)
   have hH := hm.range i hi
   rw [DH]
   simp only [Bh]
   rw [AB (by omega), AT, hx]
   simp only [oS, Ks]
   rw [MT N m t.fg hfr.1 (by rw [hm.base]; exact hfr.2) (by rw [hm.next]; exact hfr.2) (hm.b0 _ (by omega)).1, MT N m t.fj hto.1 (by rw [hm.base]; exact hto.2) (by rw [hm.next]; exact hto.2) (hm.b0 _ (by omega)).1, Da (d := 0) (by rw [hm.held]; exact hi), AF (by omega)]
   simp only [oS]
   cases hs : B1 t
   ·rw [Al, Ny N p m t i _ _ a a _ hN (by omega) hp ht (by omega) hR.2.1 hR.2.2 hR.1 hF.2.1 hF.2.2 (fun v => by unfold VE; rw [hs, hF.1]; rfl)]
   ·rw [AQ, Ny N p m t i _ _ a a _ hN (by omega) hp ht (by omega) hR.2.1 hR.2.2 hR.1 hH.1 hH.2 (fun v => by unfold VE; rw [hs]; rfl)])
  (fun n a => by
   rw [DH]
   simp only [Bh]
   rw [Ay (by omega)]) N [] (by omega) (by simp; omega)]
 rfl
theorem N1 (N : Nat) (p : Aa) (m : Ac) (hN : N ≤ 1000000) (h20 : 20 ≤ N) (hp : Bc p) (hm : BX p m) : E2 N p m = some (HT p m) := by
 unfold E2
 have hnt := hp.nt
 rw [FK (CL N p m _) (fun a k => (a, k)) p.fc some (KU m) 42 9000
  (fun i t hx => Ov hp (LU (hp.tab t (lM hx))) i m)
  (fun n i t a hx ha => by
   have hi := (lI.1 hx).1
   have ht := LU (hp.tab t (lM hx))
   have hto := ht.to0
   have hfr := ht.from0
   have hF := IZ hp hm.toMixServ (s := t.fg.toNat) (by omega)
   have hH := hm.range i hi
   rw [CL]
   simp only [Bh]
   rw [AB (by omega), AT, hx]
   simp only [oS, HA]
   rw [KP N m t.fg hfr.1 (by rw [hm.base]; exact hfr.2) (by rw [hm.next]; exact hfr.2) (hm.b0 _ (by omega)).1, Da (d := 0) (by rw [hm.held]; exact hi), AF (by omega)]
   simp only [oS]
   cases hs : B1 t
   ·rw [Al, NO N p m t i _ a a _ hN (by omega) hp hm.toMixServ ht (by omega) hF.2.1 hF.2.2 (fun v => by unfold VE; rw [hs, hF.1]; rfl)]
   ·rw [AQ, NO N p m t i _ a a _ hN (by omega) hp hm.toMixServ ht (by omega) hH.1 hH.2 (fun v => by unfold VE; rw [hs]; rfl)])
  (fun n a => by
   rw [CL]
   simp only [Bh]
   rw [Ay (by omega)]) N [] (by omega) (by simp; omega)]
 rfl
theorem FC {A S R : Type} (L : Nat → S → Option R) (mk : A → Int → S) (len : Nat) (j : A → Option R) (I : Nat → A → Prop)
  (hs : ∀ (n i : Nat) (a : A), i < len → I i a → ∃ a', L (n + 1) (mk a (i : Int)) = L n (mk a' ((i + 1 : Nat) : Int)) ∧ I (i + 1) a')
  (he : ∀ (n : Nat) (a : A), I len a → L (n + 1) (mk a (len : Int)) = j a) :
  ∀ (n i : Nat) (a : A), i ≤ len → len - i < n → I i a → ∃ a', L n (mk a (i : Int)) = j a' ∧ I len a'
 | 0, i, _, _, h, _ => by omega
 | n + 1, i, a, hi, h, ha => by
  by_cases h1 : i < len
  ·obtain ⟨a', e1, e2⟩ := hs n i a h1 ha
   rw [e1]
   exact FC L mk len j I hs he n (i + 1) _ (by omega) (by omega) e2
  ·have : i = len := by omega
   subst this
   exact ⟨a, he n a ha, ha⟩
theorem Kj {α : Type} {xs ys : List α} {i : Nat} {d : α} (h : i < xs.length) : (xs ++ ys).getD i d = xs.getD i d := by
 rw [lD, lD, zC7 h]
theorem Ka {α : Type} {xs : List α} {y : α} {i : Nat} {d : α} (h : i = xs.length) : (xs ++ [y]).getD i d = y := by
 subst h; rw [lD, zC6 (zB0 _)]; simp
theorem Pd {α : Type} {P : Nat → α → Prop} {xs : List α} {y : α} {d : α} {n : Nat} (hn : xs.length = n) (h : ∀ k, k < n → P k (xs.getD k d)) (hy : P n y) : ∀ k, k < n + 1 → P k ((xs ++ [y]).getD k d) := by
 intro k hk
 by_cases h1 : k < n
 ·rw [Kj (by omega)]; exact h k h1
 ·have : k = n := by omega
  subst this
  rw [Ka hn.symm]; exact hy
theorem UP {l : List Int} (hw : OQ Mf l) (i : Nat) : 0 ≤ l.getD i 0 ∧ l.getD i 0 ≤ 255 := by
 by_cases h : i < l.length
 ·have : l.getD i 0 ∈ l := by rw [lD, zC9 h]; exact zF2 _
  exact JO (hw _ this)
 ·rw [lD, zE1 (by omega)]
  exact ⟨by decide, by decide⟩
theorem QF (N : Nat) {l : List Int} (hw : OQ Mf l) (i : Nat) : Eu N l (i : Int) = some (l.getD i 0) := by
 unfold Eu
 have h2 := UP hw i
 by_cases h : i < l.length
 ·rw [AB (by omega), Da (d := 0) h]
  simp only [oS]
  rw [CO (by omega) (by omega)]
 ·rw [Ay (by omega), lD, zE1 (by omega)]; rfl
theorem IF {a n : Int} (ha : 0 ≤ a) (hn : 0 < n) : 0 ≤ zB7 a n ∧ zB7 a n < n := ⟨Int.tmod_nonneg n ha, Int.tmod_lt_of_pos a hn⟩
theorem Ze {l : List (List Bool)} {n m : Int} (h1 : (l.length : Int) = n) (h2 : ∀ row, row ∈ l → (row.length : Int) = m) : sq l n m = true := by
 unfold sq
 simp only [zA6, decide_eq_true_eq, zA3]
 exact ⟨h1, h2⟩
theorem ZP {p : Aa} {t : An} (h : Ot p t) : D2 p t = 0 := by
 have hk := h.kind
 have hf := h.from0
 have ht := h.to0
 unfold D2
 rw [if_neg, if_neg (by omega)]
 ·simp only [Ze h.okL h.okR]
  rw [if_neg (by simp)]
  by_cases h4 : t.ff = 4
  ·rw [if_pos h4, Ze (h.reL h4) h.reR, if_neg (by simp), h.reD h4]; rfl
  ·rw [if_neg h4, h.reN h4]; rfl
 ·rintro (h1 | h1 | ⟨h1, h2⟩)
  ·omega
  ·omega
  ·have := h.aware h1
   unfold B1 at this
   rw [zI9, beq_eq_false_iff_ne, beq_eq_false_iff_ne] at this
   omega
theorem Xa (N : Nat) (m bad : Int) (diag : Bool) (i : Nat) (acc : List (List Bool)) {_R : Type} (j : List Bool → Option (List (List Bool))) (hN : N ≤ 1000000) (h20 : 20 ≤ N) (hm : 0 ≤ m ∧ m ≤ 6) (hi : i < 6) :
  ∃ row, Cq N m bad diag (acc, (i : Int)) j N ([], 0) = j row ∧ (row.length : Int) = m ∧ (diag = true → (i : Int) < m → row.getD i false = true) := by
 obtain ⟨M, rfl⟩ := zA7 hm.1
 obtain ⟨row, e, h1, h2⟩ := FC (A := List Bool) (Cq N (M : Int) bad diag (acc, (i : Int)) j) (fun a k => (a, k)) M j
  (fun k a => a.length = k ∧ ∀ q, q < k → diag = true → q = i → a.getD q false = true)
  (fun n k a hk ha => by
   refine ⟨a ++ [(diag && decide (i = k)) || (zB7 (AZ .u16 bad ((3 * i + k : Nat) : Int)) 2 == 0)], ?_, by simp [ha.1], Pd (P := fun q y => diag = true → q = i → y = true) ha.1 ha.2 (fun h1 h2 => by simp [h1, h2])⟩
   rw [Cq]
   simp only [Bh]
   rw [AB (by omega), AF (by omega), CO (n := 3 * (i : Int)) (by omega) (by omega), CO (n := 3 * (i : Int) + (k : Int)) (by omega) (by omega)]
   have l1 : ∀ y : Bool, a.length + ([y] : List Bool).length ≤ C5 := by intro y; rw [ha.1]; unfold C5; simp; omega
   simp only [Au (l1 _), Au (show (0 : Int) ≤ 3 * (i : Int) + (k : Int) by omega)]
   have e1 : ((3 * i + k : Nat) : Int) = 3 * (i : Int) + (k : Int) := by omega
   rw [e1]
   have e2 : (((i : Nat) : Int) == ((k : Nat) : Int)) = decide (i = k) := by
    by_cases h : i = k
    ·simp [h]
    ·rw [decide_eq_false h]; exact beq_eq_false_iff_ne.2 (by omega)
   rw [e2]
   cases diag <;> cases decide (i = k) <;> rfl)
  (fun n a _ => by
   rw [Cq]
   simp only [Bh]
   rw [Ay (by omega)]) N 0 [] (zA8 _) (by omega) ⟨rfl, fun q hq => by omega⟩
 exact ⟨row, e, by omega, fun hd hlt => h2 i (by omega) hd rfl⟩
theorem UQ (N : Nat) (n m bad : Int) (diag : Bool) (hN : N ≤ 1000000) (h20 : 20 ≤ N) (hn : 0 ≤ n ∧ n ≤ 6) (hm : 0 ≤ m ∧ m ≤ 6) :
  ∃ l, Ep N n m bad diag = some l ∧ (l.length : Int) = n ∧ (∀ row, row ∈ l → (row.length : Int) = m) ∧ (diag = true → n = m → JW l = none) := by
 obtain ⟨M, rfl⟩ := zA7 hn.1
 unfold Ep
 obtain ⟨l, e, h1, h2⟩ := FC (A := List (List Bool)) (Cs N (M : Int) m bad diag (fun v => some v)) (fun a k => (a, k)) M some
  (fun k a => a.length = k ∧ ∀ q, q < k → (((a.getD q []).length : Nat) : Int) = m ∧ (diag = true → (q : Int) < m → (a.getD q []).getD q false = true))
  (fun n k a hk ha => by
   obtain ⟨row, e, h1, h2⟩ := Xa (_R := Unit) N m bad diag k a (fun (v5 : List Bool) =>
    (DF (a.length + (([v5] : List (List Bool))).length ≤ C5)).bind fun _ =>
    Cs N (M : Int) m bad diag (fun v => some v) n (a ++ (([v5] : List (List Bool))), (wI .i64 ((k : Int) + 1)))) hN h20 hm (by omega)
   refine ⟨a ++ [row], ?_, by simp [ha.1], Pd (P := fun q y => ((y.length : Nat) : Int) = m ∧ (diag = true → (q : Int) < m → y.getD q false = true)) ha.1 ha.2 ⟨h1, h2⟩⟩
   rw [Cs]
   simp only
   rw [AB (by omega), e, Au (by rw [ha.1]; unfold C5; simp; omega), AF (by omega)])
  (fun n a _ => by
   rw [Cs]
   simp only
   rw [Ay (by omega)]) N 0 [] (zA8 _) (by omega) ⟨rfl, fun q hq => by omega⟩
 have key : ∀ q row, l[q]? = some row → l.getD q [] = row := fun q row hq => by rw [lD, hq]; rfl
 refine ⟨l, e, by omega, fun row hr => ?_, fun hd hnm => ?_⟩
 ·obtain ⟨q, hq⟩ := zB4.1 hr
  have := (h2 q (by have := (lI.1 hq).1; omega)).1
  rwa [key q row hq] at this
 ·unfold JW
  refine GC fun q row hq => ?_
  have hlt := (lI.1 hq).1
  have := (h2 q (by omega)).2 hd (by omega)
  rw [key q row hq] at this
  rw [zA1, this]; rfl
structure Zu (p : Aa) : Prop where
 valid : BM p = 0
 nv : p.fa.length ≤ 3
 nt : p.fc.length ≤ 4
 v3 : ∀ v, v ∈ p.fa → v ≤ 3
theorem VA {p q : Aa} (h : p.fa = q.fa) (t : An) : D2 p t = D2 q t := by
 unfold D2; rw [h]
theorem eH (N : Nat) (d : BG) (hN : N ≤ 1000000) (h20 : 20 ≤ N) (hw : FO d) : ∃ p ok, FM N d = some (p, ok) ∧ (ok = true → Zu p) := by
 obtain ⟨w1, w2, w3, w4, _⟩ := hw
 unfold FM
 simp only [Bh]
 by_cases k1 : 3 < d.fa.length
 ·rw [AB (by omega)]; exact ⟨_, false, rfl, fun h => by cases h⟩
 by_cases k2 : 4 < d.fv.length
 ·rw [Ay (by omega), decide_eq_true (by omega : (4 : Int) < (d.fv.length : Int))]; exact ⟨_, false, rfl, fun h => by cases h⟩
 rw [Ay (by omega), decide_eq_false (by omega : ¬ (4 : Int) < (d.fv.length : Int)), Al]
 obtain ⟨⟨vs, ns, ts⟩, e, h1, h2, h3, h4⟩ := FC (A := List Int × List Int × List Int) (C0 N d fun v5 => BC N d v5 (fun v16 => some (Aa.mk v5.1 v5.2.1 v5.2.2 v16, true)) N ([], 0)) (fun a k => (a.1, a.2.1, a.2.2, k)) d.fa.length
  (fun v5 => BC N d v5 (fun v16 => some (Aa.mk v5.1 v5.2.1 v5.2.2 v16, true)) N ([], 0))
  (fun i a => a.1.length = i ∧ a.2.1.length = i ∧ a.2.2.length = i ∧ (∀ k, k < i → (1 ≤ a.1.getD k 0 ∧ a.1.getD k 0 ≤ 3) ∧ (0 ≤ a.2.1.getD k 0 ∧ a.2.1.getD k 0 < a.1.getD k 0) ∧ (0 ≤ a.2.2.getD k 0 ∧ a.2.2.getD k 0 < a.1.getD k 0)))
  (fun n i a hi ha => by
   obtain ⟨vs, ns, ts⟩ := a
   obtain ⟨h1, h2, h3, h4⟩ := ha
   simp only at h1 h2 h3 h4
   have hv := UP w1 i
   have hb := UP w2 i
   have hk := UP w3 i
   have hm := IF (n := 3) hv.1 (by omega)
   obtain ⟨v, hvd⟩ : ∃ v, v = 1 + zB7 (d.fa.getD i 0) 3 := ⟨_, rfl⟩
   have m1 := IF (n := v) hb.1 (by omega)
   have m2 := IF (n := v) hk.1 (by omega)
   refine ⟨(vs ++ [v], ns ++ [zB7 (d.fi.getD i 0) v], ts ++ [zB7 (d.fm.getD i 0) v]), ?_, by simp [h1], by simp [h2], by simp [h3], ?_⟩
   ·rw [C0]
    simp only
    rw [AB (by omega), Da (d := 0) hi, QF N w2, QF N w3]
    simp only [oS]
    rw [CO (n := zB7 _ _) (by omega) (by omega), CO (n := 1 + _) (by omega) (by omega), ← hvd, AF (by omega)]
    have l1 : ∀ y : Int, vs.length + ([y] : List Int).length ≤ C5 := by intro y; rw [h1]; unfold C5; simp; omega
    have l2 : ∀ y : Int, ns.length + ([y] : List Int).length ≤ C5 := by intro y; rw [h2]; unfold C5; simp; omega
    have l3 : ∀ y : Int, ts.length + ([y] : List Int).length ≤ C5 := by intro y; rw [h3]; unfold C5; simp; omega
    simp only [Au (l1 _), Au (l2 _), Au (l3 _), Au (show v ≠ 0 by omega)]
   ·intro k hk
    simp only
    by_cases hki : k < i
    ·rw [Kj (by omega), Kj (by omega), Kj (by omega)]; exact h4 k hki
    ·have : k = i := by omega
     subst this
     rw [Ka h1.symm, Ka h2.symm, Ka h3.symm]
     omega)
  (fun n a _ => by
   rw [C0]
   simp only
   rw [Ay (by omega)]) N 0 ([], [], []) (zA8 _) (by omega) ⟨rfl, rfl, rfl, fun k hk => by omega⟩
 simp only at h1 h2 h3 h4
 have e' : C0 N d (fun v5 => BC N d v5 (fun v16 => some (Aa.mk v5.1 v5.2.1 v5.2.2 v16, true)) N ([], 0)) N ([], [], [], 0) = _ := e
 rw [e']
 have hvs : ∀ v, v ∈ vs → 1 ≤ v ∧ v ≤ 3 := by
  intro v hv
  obtain ⟨q, hq⟩ := zB4.1 hv
  have := (h4 q (by have := (lI.1 hq).1; omega)).1
  rwa [lD, hq] at this
 have fin : ∀ OD : List An, OD.length ≤ 4 → (∀ t, t ∈ OD → D2 ⟨vs, ns, ts, []⟩ t = 0) → Zu ⟨vs, ns, ts, OD⟩ := by
  intro OD ht h
  have hp : Bc ⟨vs, ns, ts, OD⟩ := ⟨show vs.length ≤ 6 by omega, show OD.length ≤ 12 by omega, show ns.length = vs.length by omega, show ts.length = vs.length by omega, fun v hv => by have := hvs v hv; omega, fun t ht => by rw [← h t ht]; exact VA rfl t⟩
  exact ⟨RQ hp fun i hi => by have := h4 i (by have : i < vs.length := hi; omega); simp only; omega, show vs.length ≤ 3 by omega, ht, fun v hv => (hvs v hv).2⟩
 by_cases k3 : vs.length = 0
 ·refine ⟨_, true, ?_, fun _ => fin [] (by simp) (fun t ht => by cases ht)⟩
  obtain ⟨M, rfl⟩ : ∃ M, N = M + 1 := ⟨N - 1, by omega⟩
  rw [BC]
  simp only [Bh]
  rw [k3]
  by_cases k4 : (0 : Int) < (d.fv.length : Int)
  ·rw [AB k4]; rfl
  ·rw [Ay k4]; rfl
 obtain ⟨OD, e2, g1, g2⟩ := FC (A := List An) (BC N d (vs, ns, ts) (fun v16 => some (Aa.mk vs ns ts v16, true))) (fun a k => (a, k)) d.fv.length (fun v16 => some (Aa.mk vs ns ts v16, true))
  (fun i a => a.length = i ∧ ∀ t, t ∈ a → D2 ⟨vs, ns, ts, []⟩ t = 0)
  (fun n i a hi ha => by
   have hx : d.fv[i]? = some d.fv[i] := by simp [hi]
   generalize d.fv[i] = l at hx
   obtain ⟨u1, u2, u3, _, u5, u6, _⟩ := w4 l (lM hx)
   have u1 := JO u1
   have u2 := JO u2
   have u3 := JO u3
   have mk := IF (n := 4) u1.1 (by omega)
   have hL : (0 : Int) < (vs.length : Int) := by omega
   have mf := IF (n := (vs.length : Int)) u2.1 hL
   have mt := IF (n := (vs.length : Int)) u3.1 hL
   rw [BC]
   simp only [Bh]
   rw [AB (by omega), decide_eq_true hL, AQ, AT, hx]
   simp only [oS]
   rw [Au (by omega), Au (by omega), CO (n := l.fg) (by omega) (by omega), CO (n := l.fj) (by omega) (by omega), CO (n := zB7 l.ff 4) (by omega) (by omega), CO (n := 1 + _) (by omega) (by omega), AF (by omega)]
   simp only [N2, oS]
   rw [Ei (d := 0) mf.1 mf.2, Ei (d := 0) mt.1 mt.2]
   simp only [oS]
   have hA : ∀ q : Int, 0 ≤ q → q < (vs.length : Int) → 1 ≤ vs.getD q.toNat 0 ∧ vs.getD q.toNat 0 ≤ 3 := fun q h0 h1 => (h4 q.toNat (by omega)).1
   have hf := hA _ mf.1 mf.2
   have ht := hA _ mt.1 mt.2
   obtain ⟨A, eA, a1, a2, _⟩ := UQ N (vs.getD (zB7 l.fg (vs.length : Int)).toNat 0) (vs.getD (zB7 l.fj (vs.length : Int)).toNat 0) l.fw false hN h20 (by omega) (by omega)
   obtain ⟨B, eB, b1, b2, b3⟩ := UQ N (vs.getD (zB7 l.fg (vs.length : Int)).toNat 0) (vs.getD (zB7 l.fg (vs.length : Int)).toNat 0) l.fy true hN h20 (by omega) (by omega)
   rw [eA, eB]
   simp only [oS]
   have l1 : ∀ y : An, a.length + ([y] : List An).length ≤ C5 := by intro y; rw [ha.1]; unfold C5; simp; omega
   simp only [Au (l1 _)]
   obtain ⟨kd, hkd⟩ : ∃ kd, kd = 1 + zB7 l.ff 4 := ⟨_, rfl⟩
   rw [← hkd]
   have fin2 : ∀ (aw : Bool) (re : List (List Bool)), (aw = true → (kd == 3 || kd == 4) = false) → ((kd = 4 → re = B) ∧ (kd ≠ 4 → re = [])) →
     D2 ⟨vs, ns, ts, []⟩ (An.mk kd (zB7 l.fg (vs.length : Int)) (zB7 l.fj (vs.length : Int)) aw A re) = 0 := by
    intro aw re haw hre
    refine ZP ⟨show 1 ≤ kd ∧ kd ≤ 4 by omega, haw, mf, mt, a1, a2, fun h => by rw [hre.1 h]; exact b1, fun row hr => ?_, fun h => by rw [hre.1 h]; exact b3 rfl rfl, fun h => hre.2 h⟩
    by_cases h4 : kd = 4
    ·simp only at hr; rw [hre.1 h4] at hr; exact b2 row hr
    ·simp only at hr; rw [hre.2 h4] at hr; cases hr
   have app : ∀ t, D2 ⟨vs, ns, ts, []⟩ t = 0 → (a ++ [t]).length = i + 1 ∧ ∀ t', t' ∈ a ++ [t] → D2 ⟨vs, ns, ts, []⟩ t' = 0 := by
    intro t ht
    refine ⟨by simp [ha.1], fun t' ht' => ?_⟩
    rcases zC2.1 ht' with h | h
    ·exact ha.2 t' h
    ·rw [zD8.1 h]; exact ht
   by_cases h4 : kd = 4
   ·have e4 : (kd == 4) = true := beq_iff_eq.2 h4
    have hre : (kd = 4 → B = B) ∧ (kd ≠ 4 → B = []) := ⟨fun _ => rfl, fun h => (h h4).elim⟩
    rw [e4]
    simp only [AQ, zL5, zC0]
    cases l.fr
    ·exact ⟨_, rfl, app _ (fin2 false B (fun h => by cases h) hre)⟩
    ·exact ⟨_, rfl, app _ (fin2 false B (fun h => by cases h) hre)⟩
   ·have e4 : (kd == 4) = false := beq_eq_false_iff_ne.2 h4
    have hre : (kd = 4 → ([] : List (List Bool)) = B) ∧ (kd ≠ 4 → ([] : List (List Bool)) = []) := ⟨fun h => (h4 h).elim, fun _ => rfl⟩
    rw [e4]
    simp only [Al, Bool.or_false]
    cases l.fr
    ·exact ⟨_, rfl, app _ (fin2 false [] (fun h => by cases h) hre)⟩
    ·cases e3 : kd == 3
     ·exact ⟨_, rfl, app _ (fin2 true [] (fun _ => by rw [e3, e4]; rfl) hre)⟩
     ·exact ⟨_, rfl, app _ (fin2 false [] (fun h => by cases h) hre)⟩)
  (fun n a _ => by
   rw [BC]
   simp only [Bh]
   rw [Ay (by omega), Al]) N 0 [] (zA8 _) (by omega) ⟨rfl, fun t ht => by cases ht⟩
 exact ⟨_, true, e2, fun _ => fin OD (by omega) g2⟩
def Jq : List Int → Nat → Nat
 | [], _ => 0
 | _, 0 => 0
 | n :: ns, q + 1 => (if 0 ≤ n then 1 else 0) + Jq ns q
theorem JQ (l : List Int) : Jq l 0 = 0 := by cases l <;> rfl
theorem Im : ∀ (l : List Int) (q : Nat), q < l.length → Jq l (q + 1) = Jq l q + if 0 ≤ l.getD q 0 then 1 else 0
 | [], q, h => by simp at h
 | n :: ns, 0, _ => by simp [Jq, JQ]
 | n :: ns, q + 1, h => by
  rw [Jq, Im ns q (by simpa using h), Jq, zJ2, zF6]
theorem Pl (l : List Int) {a b : Nat} (h : a ≤ b) (hb : b ≤ l.length) : Jq l a ≤ Jq l b := by
 induction b with
 | zero => rw [Nat.le_zero.1 h]; exact zB0 _
 | succ b ih =>
  by_cases h1 : a = b + 1
  ·rw [h1]; exact zB0 _
  ·have := ih (by omega) (by omega)
   rw [Im l b (by omega)]; omega
theorem LZ (l : List Int) : ∀ q, q ≤ l.length → Jq l q ≤ q
 | 0, _ => by rw [JQ]; exact zB0 _
 | q + 1, h => by
  have := LZ l q (by omega)
  rw [Im l q h]
  split <;> omega
def N9 (l : List Int) (k q : Nat) : Int := if 0 ≤ l.getD q 0 ∧ k.testBit (Jq l q) = true then -1 else l.getD q 0
def XW (l : List Int) (k : Nat) : List Int := (zB1 l.length).map (N9 l k)
def ZL (m : Ac) (k : Nat) : Ac := ⟨m.fd, XW m.fb k, m.fe⟩
def GW (m : Ac) : List Ac := (zB1 (2 ^ Jq m.fb m.fb.length)).map (ZL m)
theorem NK (l : List Int) (k : Nat) : (XW l k).length = l.length := by simp [XW]
theorem Rn (l : List Int) (k q : Nat) (h : q < l.length) : (XW l k).getD q 0 = N9 l k q := by
 unfold XW; rw [lD, zA2, List.getElem?_range h]; rfl
theorem F4 {l1 l2 : List Int} (h1 : l1.length = l2.length) (h : ∀ q, q < l1.length → l1.getD q 0 = l2.getD q 0) : l1 = l2 := by
 apply List.ext_getElem h1
 intro q h2 h3
 have := h q h2
 rw [lD, lD, zC9 h2, zC9 h3] at this
 exact this
theorem Vm : ∀ (k : Fin 64) (b : Fin 7), AK .i64 (AZ .i64 (k.val : Int) (b.val : Int)) 1 = (if k.val.testBit b.val then 1 else 0) ∧ zB7 (AZ .i64 (k.val : Int) (b.val : Int)) 2 = (if k.val.testBit b.val then 1 else 0) := by decide +kernel
theorem Y3 : ∀ n : Fin 7, DX .i64 1 (n.val : Int) = ((2 ^ n.val : Nat) : Int) := by decide +kernel
structure Qg (m x : Ac) : Prop where
 base : x.fd = m.fd
 held : x.fe = m.fe
 len : x.fb.length = m.fb.length
 next : ∀ q, q < m.fb.length → x.fb.getD q 0 = m.fb.getD q 0 ∨ (0 ≤ m.fb.getD q 0 ∧ x.fb.getD q 0 = -1)
theorem Qg.refl (m : Ac) : Qg m m := ⟨rfl, rfl, rfl, fun _ _ => .inl rfl⟩
theorem Qg.trans {a b c : Ac} (h1 : Qg a b) (h2 : Qg b c) : Qg a c :=
 ⟨h2.base.trans h1.base, h2.held.trans h1.held, h2.len.trans h1.len, fun q hq => by
  have e1 := h1.next q hq
  have e2 := h2.next q (by rw [h1.len]; exact hq)
  omega⟩
theorem Xr (m : Ac) (k : Nat) : Qg m (ZL m k) :=
 ⟨rfl, rfl, NK _ _, fun q hq => by
  show (XW m.fb k).getD q 0 = _ ∨ _ ∧ (XW m.fb k).getD q 0 = _
  rw [Rn _ _ _ hq]; unfold N9
  split
  ·rename_i h; exact .inr ⟨h.1, rfl⟩
  ·exact .inl rfl⟩
theorem Vj : ∀ (l x : List Int), x.length = l.length → (∀ q, q < l.length → x.getD q 0 = l.getD q 0 ∨ (0 ≤ l.getD q 0 ∧ x.getD q 0 = -1)) → ∃ k, k < 2 ^ Jq l l.length ∧ ∀ q, q < l.length → x.getD q 0 = N9 l k q
 | [], x, h, _ => ⟨0, by simp [Jq], fun q hq => by simp at hq⟩
 | n :: ns, [], h, _ => by simp at h
 | n :: ns, y :: ys, h, hq => by
  obtain ⟨k, hk, hk2⟩ := Vj ns ys (by simpa using h) (fun q hq' => by have := hq (q + 1) (by simpa using hq'); simpa using this)
  have h0 := hq 0 (by simp)
  simp only [zK3] at h0
  by_cases hn : 0 ≤ n
  ·refine ⟨2 * k + if y = n then 0 else 1, ?_, ?_⟩
   ·rw [zC3, Jq, if_pos hn, Nat.pow_add]
    split <;> omega
   ·intro q hq'
    cases q with
    | zero =>
     simp only [zK3, N9, JQ]
     by_cases hy : y = n
     ·simp [hy]
     ·rw [if_neg hy, if_pos ⟨hn, by simp⟩]; omega
    | succ q =>
     have := hk2 q (by simpa using hq')
     simp only [zJ2, N9, Jq, if_pos hn] at this ⊢
     rw [this, Nat.add_comm 1, Nat.testBit_succ]
     have : (2 * k + if y = n then 0 else 1) / 2 = k := by split <;> omega
     rw [this]
  ·refine ⟨k, ?_, ?_⟩
   ·rw [zC3, Jq, if_neg hn, zA1]; exact hk
   ·intro q hq'
    cases q with
    | zero =>
     simp only [zK3, N9, JQ]
     rw [if_neg (fun h => hn h.1)]
     omega
    | succ q =>
     have := hk2 q (by simpa using hq')
     simp only [zJ2, N9, Jq, if_neg hn, zA1] at this ⊢
     exact this
theorem PU {m x : Ac} : x ∈ GW m ↔ Qg m x := by
 unfold GW
 rw [zB5]
 constructor
 ·rintro ⟨k, _, rfl⟩; exact Xr m k
 ·intro h
  obtain ⟨k, hk, hq⟩ := Vj m.fb x.fb h.len h.next
  refine ⟨k, zE2.2 hk, ?_⟩
  have : XW m.fb k = x.fb := F4 (by rw [NK, h.len]) fun q hq' => by
   rw [NK] at hq'
   rw [Rn _ _ _ hq', hq q hq']
  unfold ZL
  rw [this, ← h.base, ← h.held]
theorem ZZ {m x : Ac} (h : Qg m x) {s : Nat} (hs : s < m.fb.length) {v : Nat} (hv : Jx x s v = true) : Jx m s v = true := by
 unfold Jx at hv ⊢
 rw [h.base] at hv
 have := h.next s hs
 simp only [zG1, decide_eq_true_eq] at hv ⊢
 omega
theorem Zt {p : Aa} {m x : Ac} (hp : Bc p) (hm : BX p m) (h : Qg m x) : BX p x := by
 refine ⟨⟨by rw [h.base]; exact hm.base, by rw [h.len]; exact hm.next, by rw [h.held]; exact hm.held, fun i hi => by rw [h.base]; exact hm.b0 i hi, fun i hi => ?_, fun i hi => ?_⟩, fun i hi => by rw [h.held]; exact hm.range i hi, fun i t ht hs v hv => ?_, fun i t ht hs v hv => ?_, fun i t ht hs => by rw [h.held]; exact hm.none i t ht hs⟩
 ·have h1 := hm.n0 i hi
  have h2 := h.next i (by rw [hm.next]; exact hi)
  have h3 := I9 hp hi
  omega
 ·have h1 := hm.ne i hi
  have h2 := h.next i (by rw [hm.next]; exact hi)
  have h3 := hm.b0 i hi
  rw [h.base]
  omega
 ·have hin := (LU (hp.tab t (lM ht))).from0
  rw [h.held]
  exact hm.low i t ht hs v (ZZ h (by rw [hm.next]; omega) hv)
 ·rw [h.held] at hv
  exact hm.high i t ht hs v hv
theorem KA (N : Nat) (l : List Int) (h : l.length ≤ C5) : BU N l = some l := by
 unfold BU
 rw [Au (by simpa using h)]; rfl
theorem Rb (N : Nat) (l : List Int) (h : l.length ≤ C5) : B0 N l = some l := by
 unfold B0
 rw [Au (by simpa using h)]; rfl
theorem J0 {l : List Int} {i q : Nat} {y : Int} (hi : i < l.length) : (l.set i y).getD q 0 = if q = i then y else l.getD q 0 := by
 rw [lD, lD, zF0]
 by_cases h : i = q
 ·subst h; simp [hi]
 ·rw [if_neg h, if_neg (fun e => h e.symm)]
theorem Ys {l : List Int} {a b : Nat} (ha : a < l.length) (hb : b < l.length) (h1 : 0 ≤ l.getD a 0) (h2 : 0 ≤ l.getD b 0) (h : Jq l a = Jq l b) : a = b := by
 rcases Nat.lt_trichotomy a b with h3 | h3 | h3
 ·have := Pl l (a := a + 1) (b := b) h3 (by omega)
  rw [Im l a ha, if_pos h1] at this; omega
 ·exact h3
 ·have := Pl l (a := b + 1) (b := a) h3 (by omega)
  rw [Im l b hb, if_pos h2] at this; omega
structure WO (l : List Int) (o : List Int) : Prop where
 len : o.length = Jq l l.length
 at_ : ∀ b, b < o.length → ∃ i : Nat, o.getD b 0 = (i : Int) ∧ i < l.length ∧ 0 ≤ l.getD i 0 ∧ Jq l i = b
theorem Tx (N : Nat) (l o : List Int) (k : Nat) (acc : List Ac) (hN : N ≤ 1000000) (h20 : 20 ≤ N) (hl : l.length ≤ 6) (ho : WO l o) (hk : k < 64) (j : List Int → Option (List Ac × Int)) :
  Dh N o (acc, (k : Int)) j N (l, 0) = j (XW l k) := by
 have hol := LZ l l.length (zB0 _)
 have hoL := ho.len
 obtain ⟨x, e, h1, h2⟩ := FC (A := List Int) (Dh N o (acc, (k : Int)) j) (fun a k => (a, k)) o.length j
  (fun b a => a.length = l.length ∧ ∀ q, q < l.length → a.getD q 0 = if 0 ≤ l.getD q 0 ∧ Jq l q < b ∧ k.testBit (Jq l q) = true then -1 else l.getD q 0)
  (fun n b a hb ha => by
   obtain ⟨i, hi1, hi2, hi3, hi4⟩ := ho.at_ b hb
   have hbit := Vm ⟨k, hk⟩ ⟨b, by omega⟩
   rw [Dh]
   simp only [Bh]
   rw [AB (by omega), Da (d := 0) hb]
   simp only [oS]
   rw [Au (by omega), hi1, hbit.1, Da (d := 0) (show i < a.length by rw [ha.1]; exact hi2), AF (by omega)]
   simp only [oS, zB3]
   cases hkb : k.testBit b
   ·refine ⟨a, rfl, ha.1, fun q hq => ?_⟩
    rw [ha.2 q hq]
    by_cases hqb : Jq l q = b
    ·rw [hqb, hkb]; simp
    ·by_cases h3 : Jq l q < b
     ·have : Jq l q < b + 1 := by omega
      simp [h3, this]
     ·have : ¬ Jq l q < b + 1 := by omega
      simp [h3, this]
   ·refine ⟨a.set i (-1), rfl, by simp [ha.1], fun q hq => ?_⟩
    rw [J0 (by rw [ha.1]; exact hi2), ha.2 q hq]
    by_cases hqi : q = i
    ·subst hqi
     rw [if_pos rfl, if_pos ⟨hi3, by omega, by rw [hi4]; exact hkb⟩]
    ·rw [if_neg hqi]
     by_cases h0 : 0 ≤ l.getD q 0
     ·have hne : Jq l q ≠ b := fun h => hqi (Ys hq hi2 h0 hi3 (by omega))
      by_cases h3 : Jq l q < b
      ·have : Jq l q < b + 1 := by omega
       simp [h3, this]
      ·have : ¬ Jq l q < b + 1 := by omega
       simp [h3, this]
     ·rw [if_neg (fun h => h0 h.1), if_neg (fun h => h0 h.1)])
  (fun n a _ => by
   rw [Dh]
   simp only [Bh]
   rw [Ay (by omega)]) N 0 l (zA8 _) (by omega) ⟨rfl, fun q hq => by simp⟩
 have e' : Dh N o (acc, (k : Int)) j N (l, 0) = j x := e
 rw [e']
 congr 1
 refine F4 (by rw [NK, h1]) fun q hq => ?_
 rw [h1] at hq
 rw [h2 q hq, Rn _ _ _ hq, N9]
 by_cases h0 : 0 ≤ l.getD q 0
 ·have h3 := Pl l (a := q + 1) (b := l.length) hq (zB0 _)
  rw [Im l q hq, if_pos h0] at h3
  have : Jq l q < o.length := by omega
  simp [this]
 ·rw [if_neg (fun h => h0 h.1), if_neg (fun h => h0 h.1)]
theorem SP (N : Nat) (m : Ac) (k : Nat) (acc : List Ac) (hN : N ≤ 1000000) (h20 : 20 ≤ N) (hl : m.fb.length ≤ 6) (hk : k < 64) (j : List Int → Option (List Ac)) :
  B3 N m (acc, (k : Int)) j N (m.fb, 0, 0) = j (XW m.fb k) := by
 obtain ⟨⟨x, pl⟩, e, h1, h2, h3⟩ := FC (A := List Int × Nat) (B3 N m (acc, (k : Int)) j) (fun a k => (a.1, (a.2 : Int), k)) m.fb.length (fun a => j a.1)
  (fun i a => a.2 = Jq m.fb i ∧ a.1.length = m.fb.length ∧ ∀ q, q < m.fb.length → a.1.getD q 0 = if q < i then N9 m.fb k q else m.fb.getD q 0)
  (fun n i a hi ha => by
   obtain ⟨a, pl⟩ := a
   obtain ⟨a1, a2, a3⟩ := ha
   simp only at a1 a2 a3
   have hple := LZ m.fb i (by omega)
   have hbit := Vm ⟨k, hk⟩ ⟨pl, by omega⟩
   have hs := Im m.fb i hi
   rw [B3]
   simp only [Bh]
   rw [AB (by omega), Da (d := 0) hi]
   simp only [oS]
   rw [AF (by omega)]
   by_cases h0 : m.fb.getD i 0 < 0
   ·rw [AB h0]
    refine ⟨(a, pl), rfl, by simp only; rw [hs, if_neg (by omega), a1]; rfl, a2, fun q hq => ?_⟩
    simp only
    rw [a3 q hq]
    by_cases hqi : q = i
    ·subst hqi
     rw [if_neg (by omega), if_pos (by omega), N9, if_neg (by omega)]
    ·by_cases h4 : q < i
     ·rw [if_pos h4, if_pos (by omega)]
     ·rw [if_neg h4, if_neg (by omega)]
   ·rw [Ay h0, Au (by omega), Da (d := 0) (show i < a.length by omega), hbit.2, AF (by omega)]
    simp only [oS, zB3]
    cases hkb : k.testBit pl
    ·refine ⟨(a, pl + 1), rfl, by simp only; rw [hs, if_pos (by omega), a1], a2, fun q hq => ?_⟩
     simp only
     rw [a3 q hq]
     by_cases hqi : q = i
     ·subst hqi
      rw [if_neg (by omega), if_pos (by omega), N9, ← a1, hkb]; simp
     ·by_cases h4 : q < i
      ·rw [if_pos h4, if_pos (by omega)]
      ·rw [if_neg h4, if_neg (by omega)]
    ·refine ⟨(a.set i (-1), pl + 1), rfl, by simp only; rw [hs, if_pos (by omega), a1], by simp [a2], fun q hq => ?_⟩
     simp only
     rw [J0 (by omega), a3 q hq]
     by_cases hqi : q = i
     ·subst hqi
      rw [if_pos rfl, if_pos (by omega), N9, ← a1, if_pos ⟨by omega, hkb⟩]
     ·rw [if_neg hqi]
      by_cases h4 : q < i
      ·rw [if_pos h4, if_pos (by omega)]
      ·rw [if_neg h4, if_neg (by omega)])
  (fun n a _ => by
   rw [B3]
   simp only [Bh]
   rw [Ay (by omega)]) N 0 (m.fb, 0) (zA8 _) (by omega) ⟨(JQ _).symm, rfl, fun q hq => by simp⟩
 have e' : B3 N m (acc, (k : Int)) j N (m.fb, 0, 0) = j x := e
 rw [e']
 congr 1
 simp only at h2 h3
 refine F4 (by rw [NK, h2]) fun q hq => ?_
 rw [h2] at hq
 rw [h3 q hq, if_pos hq, Rn _ _ _ hq]
theorem WT (N : Nat) (m : Ac) (hN : N ≤ 1000000) (h20 : 20 ≤ N) (hl : m.fb.length ≤ 6) (j : List Int → Option (List Ac × Int)) :
  ∃ o, Ec N m j N ([], 0) = j o ∧ WO m.fb o := by
 obtain ⟨o, e, h1, h2⟩ := FC (A := List Int) (Ec N m j) (fun a k => (a, k)) m.fb.length j
  (fun i o => o.length = Jq m.fb i ∧ ∀ b, b < o.length → ∃ q : Nat, o.getD b 0 = (q : Int) ∧ q < m.fb.length ∧ 0 ≤ m.fb.getD q 0 ∧ Jq m.fb q = b)
  (fun n i o hi ho => by
   have hple := LZ m.fb i (by omega)
   have hs := Im m.fb i hi
   rw [Ec]
   simp only [Bh]
   rw [AB (by omega), Da (d := 0) hi]
   simp only [oS]
   rw [AF (by omega)]
   by_cases h0 : 0 ≤ m.fb.getD i 0
   ·rw [AB h0, Au (by rw [ho.1]; unfold C5; simp; omega)]
    refine ⟨o ++ [(i : Int)], rfl, by rw [hs, if_pos h0, ← ho.1]; simp, ?_⟩
    rw [zB6]
    exact Pd (P := fun b y => ∃ q : Nat, y = (q : Int) ∧ q < m.fb.length ∧ 0 ≤ m.fb.getD q 0 ∧ Jq m.fb q = b) rfl ho.2 ⟨i, rfl, hi, h0, ho.1.symm⟩
   ·rw [Ay h0]
    exact ⟨o, rfl, by rw [hs, if_neg h0, ho.1]; rfl, ho.2⟩)
  (fun n a _ => by
   rw [Ec]
   simp only [Bh]
   rw [Ay (by omega)]) N 0 [] (zA8 _) (by omega) ⟨(JQ _).symm, fun b hb => by simp at hb⟩
 exact ⟨o, e, h1, h2⟩
theorem MF {n : Nat} (h : n ≤ 6) : 2 ^ n ≤ 64 := Nat.pow_le_pow_right (n := 2) (by omega) h
theorem OP {n : Nat} (h : n ≤ 6) : DX .i64 1 (n : Int) = ((2 ^ n : Nat) : Int) := Y3 ⟨n, by omega⟩
theorem Lz {β : Type} (f : Nat → β) (n : Nat) : (zB1 (n + 1)).map f = (zB1 n).map f ++ [f n] := by
 rw [zG7, zE6]; rfl
theorem Qo (N : Nat) (p : Aa) (m : Ac) (hN : N ≤ 1000000) (h20 : 100 ≤ N) (hw : OQ Mf m.fe) (hv : F9 p m = 0) : Hw N p m = some (GW m, 0) := by
 obtain ⟨hp, hm⟩ := KF hw hv
 have hnv := hp.nv
 have hnt := hp.nt
 have hl : m.fb.length ≤ 6 := by rw [hm.next]; omega
 unfold Hw
 rw [Jn N p m hN (by omega) hw, hv]
 simp only [oS, bne_self_eq_false, Al]
 obtain ⟨o, e, ho⟩ := WT N m hN (by omega) hl (fun (v4 : (List Int)) =>
   (DF (0 ≤ (v4.length : Int))).bind fun _ =>
   Dg N m v4 (fun (v12 : (List Ac)) =>
    some (v12, 0)) N (([] : List Ac), 0))
 rw [e, Au (by omega)]
 have hoL := ho.len
 have hol := LZ m.fb m.fb.length (zB0 _)
 have hpow := MF (show Jq m.fb m.fb.length ≤ 6 by omega)
 obtain ⟨a, e2, h1⟩ := FC (A := List Ac) (Dg N m o fun v12 => some (v12, 0)) (fun a k => (a, k)) (2 ^ Jq m.fb m.fb.length) (fun v12 => some (v12, 0))
  (fun i a => a = (zB1 i).map (ZL m))
  (fun n i a hi ha => by
   refine ⟨a ++ [ZL m i], ?_, by rw [Lz, ha]⟩
   have hal : a.length = i := by rw [ha]; simp
   rw [Dg]
   rw [hoL, OP (n := Jq m.fb m.fb.length) (by omega), AB (by omega), KA N m.fd (by have := hm.base; unfold C5; omega), KA N m.fb (by unfold C5; omega), Rb N m.fe (by have := hm.held; unfold C5; omega)]
   simp only [oS]
   rw [Tx N m.fb o i a hN (by omega) hl ho (by omega), Au (by rw [hal]; unfold C5; simp; omega), AF (by omega)]
   rfl)
  (fun n a _ => by
   rw [Dg]
   rw [hoL, OP (n := Jq m.fb m.fb.length) (by omega), Ay (by simp)]) N 0 [] (zA8 _) (by omega) rfl
 have e2' : Dg N m o (fun v12 => some (v12, 0)) N ([], 0) = some (a, 0) := e2
 rw [e2', h1]; rfl
theorem Uc (N : Nat) (m : Ac) (h1 : m.fd.length ≤ C5) (h2 : m.fb.length ≤ C5) (h3 : m.fe.length ≤ C5) : ED N m = some m := by
 unfold ED
 rw [Au (by simpa using h1), Au (by simpa using h2), Au (by simpa using h3)]; rfl
theorem Uk (N : Nat) (m : Ac) (hN : N ≤ 1000000) (h20 : 100 ≤ N) (h1 : m.fd.length ≤ 100) (hl : m.fb.length ≤ 6) (h3 : m.fe.length ≤ 100) : EM N m = some (GW m) := by
 unfold EM
 obtain ⟨c, e, hc⟩ := FC (A := Nat) (CG N m (fun (v2 : Int) =>
  BB N m v2 (fun (v8 : (List Ac)) => some v8) N (([] : List Ac), 0))) (fun a k => ((a : Int), k)) m.fb.length (fun a => BB N m (a : Int) (fun (v8 : (List Ac)) => some v8) N (([] : List Ac), 0))
  (fun i a => a = Jq m.fb i)
  (fun n i a hi ha => by
   have hple := LZ m.fb i (by omega)
   have hs := Im m.fb i hi
   rw [CG]
   simp only [Bh]
   rw [AB (by omega), Da (d := 0) hi]
   simp only [oS]
   rw [AF (by omega), AF (by omega)]
   by_cases h0 : 0 ≤ m.fb.getD i 0
   ·rw [AB h0]
    exact ⟨a + 1, rfl, by rw [hs, if_pos h0, ha]⟩
   ·rw [Ay h0]
    exact ⟨a, rfl, by rw [hs, if_neg h0, ha]; rfl⟩)
  (fun n a _ => by
   rw [CG]
   simp only [Bh]
   rw [Ay (by omega)]) N 0 0 (zA8 _) (by omega) (JQ _).symm
 have e' : CG N m (fun (v2 : Int) => BB N m v2 (fun (v8 : (List Ac)) => some v8) N (([] : List Ac), 0)) N (0, 0) = _ := e
 rw [e', hc]
 have hol := LZ m.fb m.fb.length (zB0 _)
 have hpow := MF (show Jq m.fb m.fb.length ≤ 6 by omega)
 obtain ⟨a, e2, h1⟩ := FC (A := List Ac) (BB N m (Jq m.fb m.fb.length : Int) fun v8 => some v8) (fun a k => (a, k)) (2 ^ Jq m.fb m.fb.length) some
  (fun i a => a = (zB1 i).map (ZL m))
  (fun n i a hi ha => by
   refine ⟨a ++ [ZL m i], ?_, by rw [Lz, ha]⟩
   have hal : a.length = i := by rw [ha]; simp
   rw [BB]
   rw [Au (by omega), OP (n := Jq m.fb m.fb.length) (by omega), AB (by omega), Uc N m (by unfold C5; omega) (by unfold C5; omega) (by unfold C5; omega)]
   simp only [oS]
   rw [SP N m i a hN (by omega) hl (by omega), Au (by rw [hal]; unfold C5; simp; omega), AF (by omega)]
   rfl)
  (fun n a _ => by
   rw [BB]
   rw [Au (by omega), OP (n := Jq m.fb m.fb.length) (by omega), Ay (by simp)]) N 0 [] (zA8 _) (by omega) rfl
 have e2' : BB N m (Jq m.fb m.fb.length : Int) (fun v8 => some v8) N ([], 0) = some a := e2
 rw [e2', h1]; rfl
theorem T5 (N : Nat) (p : Aa) (m : Ac) (hN : N ≤ 1000000) (h20 : 100 ≤ N) (hp : Bc p) (hm : BX p m) : EM N m = some (GW m) := by
 have := hp.nv
 have := hp.nt
 exact Uk N m hN h20 (by rw [hm.base]; omega) (by rw [hm.next]; omega) (by rw [hm.held]; omega)
theorem MD {p : Aa} {m : Ac} (hm : BX p m) : OQ Mf m.fe := by
 intro x hx
 obtain ⟨q, hq⟩ := zB4.1 hx
 have h1 := (lI.1 hq).1
 have := hm.range q (by rw [← hm.held]; exact h1)
 rw [lD, hq] at this
 unfold Mf
 simp only [zC4] at this
 simp [Lit.wf, IntKind.min, IntKind.max, IntKind.signed, IntKind.bits]
 omega
def MN (p : Aa) (x : Ac) : Option (Ac × Ap) := match HT p x with
 | [] => none
 | c :: _ => some (x, c)
def Pa (p : Aa) (m : Ac) : Option (Ac × Ap) := CE (fun _ x => MN p x) 0 (GW m)
def Ir : Ac := ⟨[], [], []⟩
def W7 : Ap := ⟨0, 0, 0⟩
def Uj (p : Aa) (m : Ac) : Ac × Ap × Int := match Pa p m with
 | some (x, c) => (x, c, 0)
 | none => (Ir, W7, 15)
def BA (p : Aa) (m : Ac) : Bool := (Pa p m).isNone
theorem O0 {m : Ac} (hl : m.fb.length ≤ 6) : (GW m).length ≤ 64 := by
 unfold GW
 have hol := LZ m.fb m.fb.length (zB0 _)
 have hpow := MF (show Jq m.fb m.fb.length ≤ 6 by omega)
 simpa using hpow
theorem LB {α R R' : Type} (f : Nat → α → Option R) (g : R → R') : ∀ (i : Nat) (xs : List α), CE (fun i x => (f i x).map g) i xs = (CE f i xs).map g
 | _, [] => rfl
 | i, x :: xs => by
  rw [FJ, FJ]
  cases f i x
  ·exact LB f g (i + 1) xs
  ·rfl
theorem Ri (N : Nat) (p : Aa) (m : Ac) (hN : N ≤ 1000000) (h20 : 100 ≤ N) (hw : OQ Mf m.fe) (hv : F9 p m = 0) : If N p m = some (Uj p m) := by
 obtain ⟨hp, hm⟩ := KF hw hv
 have hnv := hp.nv
 unfold If
 rw [Qo N p m hN h20 hw hv]
 simp only [oS, bne_self_eq_false, Al]
 have hal := O0 (m := m) (by rw [hm.next]; omega)
 have := BQ (Fg N p (GW m, 0) fun _ => some (Ir, W7, 15)) (GW m) (some (Ir, W7, 15)) (fun _ x => (MN p x).map fun y => (y.1, y.2, 0))
  (fun n i x hx => by
   have hi := (lI.1 hx).1
   have hx2 := Zt hp hm (PU.1 (lM hx))
   rw [Fg, AB (by simp only; omega)]
   simp only [AT, hx, oS]
   rw [Of N p x hN (by omega) hp hx2, AF (by omega)]
   simp only [oS, MN]
   cases HT p x with
   | nil => rfl
   | cons c cs => rw [AB (by simp only [zC3]; omega)]; rfl)
  (fun n => by rw [Fg, Ay (by simp)]) N 0 (zA8 _) (by omega)
 rw [zB9, LB] at this
 exact this.trans (by
  unfold Uj Pa
  cases CE (fun _ x => MN p x) 0 (GW m) <;> rfl)
theorem Kn (N : Nat) (p : Aa) (m : Ac) (hN : N ≤ 1000000) (h20 : 100 ≤ N) (hw : OQ Mf m.fe) (hv : F9 p m = 0) : GO N p m = some (BA p m, 0) := by
 unfold GO
 rw [Ri N p m hN h20 hw hv]
 unfold BA Uj
 cases Pa p m <;> rfl
theorem Sx (N : Nat) (p : Aa) (m : Ac) (hN : N ≤ 1000000) (h20 : 100 ≤ N) (hp : Bc p) (hm : BX p m) : EF N p m = some (HT p m).isEmpty := by
 unfold EF
 rw [N1 N p m hN (by omega) hp hm]
 simp only [oS]
 cases HT p m with
 | nil => rfl
 | cons c cs =>
  rw [beq_eq_false_iff_ne.2 (by simp only [zC3]; omega)]; rfl
theorem IH (N : Nat) (p : Aa) (m : Ac) (hN : N ≤ 1000000) (h20 : 100 ≤ N) (hp : Bc p) (hm : BX p m) : CS N p m = some (BA p m) := by
 have hnv := hp.nv
 unfold CS
 rw [T5 N p m hN h20 hp hm]
 simp only [oS]
 have hal := O0 (m := m) (by rw [hm.next]; omega)
 have := BQ (B9 N p (GW m) fun _ => some true) (GW m) (some true) (fun _ x => (MN p x).map fun _ => false)
  (fun n i x hx => by
   have hi := (lI.1 hx).1
   have hx2 := Zt hp hm (PU.1 (lM hx))
   rw [B9, AB (by omega)]
   simp only [AT, hx, oS]
   rw [Sx N p x hN h20 hp hx2, AF (by omega)]
   simp only [oS, MN]
   cases HT p x with
   | nil => rfl
   | cons c cs => rfl)
  (fun n => by rw [B9, Ay (by simp)]) N 0 (zA8 _) (by omega)
 rw [zB9, LB] at this
 refine Eq.trans this ?_
 unfold BA Pa
 cases CE (fun _ x => MN p x) 0 (GW m) <;> rfl
theorem Sn {N : Nat} {a b : Ac} (hN : N ≤ 1000000) (h1 : a.fd.length < N) (h2 : a.fb.length < N) (h3 : a.fe.length < N) (h4 : b.fe.length < N) (wa : OQ Mf a.fe) (wb : OQ Mf b.fe) : Ek N a b = some (TV a b) := by
 unfold Ek
 rw [OV h1 hN, OV h2 hN, Ou h3 hN wa, Ou h4 hN wb]
 simp only [oS]
 rw [OV h3 hN]
 unfold TV ZV
 by_cases h1 : Jt a.fd b.fd = 0
 ·simp only [h1, ZV]
  by_cases h2 : Jt a.fb b.fb = 0
  ·simp only [h2]
   by_cases h3 : Jt a.fe b.fe = 0 <;> simp [h3]
  ·have : (Jt a.fb b.fb != 0) = true := by simpa using h2
   simp [h2, this]
 ·have : (Jt a.fd b.fd != 0) = true := by simpa using h1
  simp [h1, this]
theorem RN (N : Nat) (a b : List Int) (hN : N ≤ 1000000) (h : a.length < N) : Ed N a b = some (a == b) := by
 unfold Ed
 by_cases hl : a.length = b.length
 ·rw [hl, bne_self_eq_false, Al]
  have := BQ (Ca N a b fun _ => some true) a (some true) (fun i x => if x = b.getD i 0 then none else some false)
   (fun n i x hx => by
    have hi := (lI.1 hx).1
    rw [Ca, AB (by omega), AT, hx, Da (d := 0) (by omega)]
    simp only [oS]
    rw [AF (by omega)]
    by_cases h : x = b.getD i 0
    ·rw [if_pos h, h, bne_self_eq_false]; rfl
    ·rw [if_neg h, bne_iff_ne.2 h]; rfl)
   (fun n => by rw [Ca, Ay (by simp)]) N 0 (zA8 _) (by omega)
  refine this.trans ?_
  rw [zB9]
  cases hs : CE (fun i x => if x = b.getD i 0 then none else some false) 0 a with
  | none =>
   have : a = b := F4 hl fun q hq => by
    have hx : a[q]? = some (a.getD q 0) := by rw [lD]; simp [hq]
    have := Fd hs q _ hx
    rw [zA1] at this
    split at this
    ·assumption
    ·cases this
   rw [this, beq_self_eq_true]; rfl
  | some r =>
   obtain ⟨j, x, hx, hf⟩ := DT hs
   rw [zA1] at hf
   split at hf
   ·cases hf
   ·rename_i hne
    cases hf
    have : (a == b) = false := beq_eq_false_iff_ne.2 fun e => hne (by rw [← e, lD, hx]; rfl)
    rw [this]; rfl
 ·have h1 : ((a.length : Int) != (b.length : Int)) = true := bne_iff_ne.2 (by omega)
  have h2 : (a == b) = false := beq_eq_false_iff_ne.2 fun e => hl (by rw [e])
  rw [h1, h2]; rfl
theorem RF (N : Nat) (a : List Int) (f : Int → Option Bool) (g : Int → Bool) (hN : N ≤ 1000000) (h : a.length < N) (hf : ∀ x, x ∈ a → f x = some (g x)) : CT N a f = some (a.any g) := by
 unfold CT Eg
 have := BQ (Bi N a f fun _ => some (-1)) a (some (-1)) (fun i x => if g x then some (i : Int) else none)
  (fun n i x hx => by
   have hi := (lI.1 hx).1
   rw [Bi, AB (by omega), AT, hx]
   simp only [oS]
   rw [hf x (lM hx), AF (by omega)]
   simp only [oS]
   cases g x <;> rfl)
  (fun n => by rw [Bi, Ay (by simp)]) N 0 (zA8 _) (by omega)
 have e : Bi N a f (fun _ => some (-1)) N 0 = _ := this
 rw [e, zB9]
 cases hs : CE (fun i x => if g x then some (i : Int) else none) 0 a with
 | none =>
  have : a.any g = false := by
   rw [zK0]
   intro x hx
   obtain ⟨j, hj⟩ := zB4.1 hx
   have := Fd hs j x hj
   intro hg
   rw [hg] at this; cases this
  rw [this]; rfl
 | some r =>
  obtain ⟨j, x, hx, hf⟩ := DT hs
  split at hf
  ·rename_i hg
   cases hf
   have : a.any g = true := zF3.2 ⟨x, lM hx, hg⟩
   rw [this]
   simp only [BL, oS]
   rw [decide_eq_true (by omega)]
  ·cases hf
def Ie (p : Aa) (m : Ac) : Bool := F9 p m == 0 && (m.fd == p.fm && m.fb.all (fun n => decide (n < 0)))
theorem Tn (N : Nat) (p : Aa) (m : Ac) (hN : N ≤ 1000000) (h20 : 100 ≤ N) (hw : OQ Mf m.fe) : IN N p m = some (Ie p m) := by
 unfold IN Ie
 rw [Jn N p m hN (by omega) hw]
 simp only [Bh, oS]
 by_cases hv : F9 p m = 0
 ·obtain ⟨hp, hm⟩ := KF hw hv
  have := hp.nv
  rw [hv, RN N _ _ hN (by rw [hm.base]; omega), RF N m.fb (fun x => HD N x) (fun n => decide (0 ≤ n)) hN (by rw [hm.next]; omega) (fun x _ => rfl)]
  simp only [oS, beq_self_eq_true, AQ, zE7]
  have : m.fb.all (fun n => decide (n < 0)) = !m.fb.any (fun n => decide (0 ≤ n)) := by
   rw [List.not_any_eq_all_not]
   congr 1; funext n
   by_cases h : 0 ≤ n
   ·rw [decide_eq_true h, decide_eq_false (by omega)]; rfl
   ·rw [decide_eq_false h, decide_eq_true (by omega)]; rfl
  rw [this]
  cases m.fd == p.fm <;> simp
 ·rw [beq_eq_false_iff_ne.2 hv]; rfl
theorem Tb (N : Nat) (p : Aa) (m : Ac) (hN : N ≤ 1000000) (h20 : 100 ≤ N) (hw : OQ Mf m.fe) : Fh N p m = some (Ie p m) := by
 unfold Fh Ie
 rw [Js N p m hN (by omega)]
 simp only [oS]
 by_cases hv : F9 p m = 0
 ·obtain ⟨hp, hm⟩ := KF hw hv
  have h1 := hp.nv
  have h2 := hp.tgt
  have h3 := hm.base
  have h4 := hm.next
  rw [hv]
  simp only [bne_self_eq_false, Al, beq_self_eq_true, zE7]
  have := BQ (C9 N p m fun _ => some true) m.fd (some true) (fun i x => if 0 ≤ m.fb.getD i 0 ∨ x ≠ p.fm.getD i 0 then some false else none)
   (fun n i x hx => by
    have hi := (lI.1 hx).1
    rw [C9, AB (by omega)]
    simp only [Bh]
    rw [show Bj m.fd (i : Int) = some x from by rw [AT, hx], Da (d := 0) (by omega), Da (d := 0) (by omega)]
    simp only [oS]
    rw [AF (by omega)]
    by_cases k1 : 0 ≤ m.fb.getD i 0
    ·rw [AB k1, if_pos (.inl k1)]; rfl
    ·rw [Ay k1]
     by_cases k2 : x = p.fm.getD i 0
     ·rw [if_neg (fun h => h.elim k1 (fun h => h k2)), k2, bne_self_eq_false]; rfl
     ·rw [if_pos (.inr k2), bne_iff_ne.2 k2]; rfl)
   (fun n => by rw [C9, Ay (by simp)]) N 0 (zA8 _) (by omega)
  refine this.trans ?_
  rw [zB9]
  cases hs : CE (fun i x => if 0 ≤ m.fb.getD i 0 ∨ x ≠ p.fm.getD i 0 then some false else none) 0 m.fd with
  | none =>
   have key : ∀ q, q < m.fd.length → m.fd.getD q 0 = p.fm.getD q 0 ∧ ¬ 0 ≤ m.fb.getD q 0 := by
    intro q hq
    have hx : m.fd[q]? = some (m.fd.getD q 0) := by rw [lD]; simp [hq]
    have := Fd hs q _ hx
    rw [zA1] at this
    split at this
    ·cases this
    ·rename_i h; exact ⟨Decidable.not_not.1 fun h' => h (.inr h'), fun h' => h (.inl h')⟩
   have e1 : m.fd = p.fm := F4 (by omega) fun q hq => (key q hq).1
   have e2 : m.fb.all (fun n => decide (n < 0)) = true := by
    rw [zA3]
    intro n hn
    obtain ⟨q, hq⟩ := zB4.1 hn
    have hl := (lI.1 hq).1
    have := (key q (by omega)).2
    rw [lD, hq] at this
    simp only [zC4] at this
    simp only [decide_eq_true_eq]
    omega
   rw [e2, e1]; simp [BL]
  | some r =>
   obtain ⟨j, x, hx, hf⟩ := DT hs
   rw [zA1] at hf
   have hj := (lI.1 hx).1
   split at hf
   ·rename_i h
    cases hf
    have : (m.fd == p.fm && m.fb.all (fun n => decide (n < 0))) = false := by
     rw [Bool.and_eq_false_iff]
     rcases h with h | h
     ·right
      rw [List.all_eq_false]
      refine ⟨m.fb.getD j 0, ?_, ?_⟩
      ·rw [lD, zC9 (by omega)]; exact zF2 _
      ·simp only [decide_eq_true_eq]; omega
     ·left
      exact beq_eq_false_iff_ne.2 fun e => h (by rw [← e, lD, hx]; rfl)
    rw [this]; rfl
   ·cases hf
 ·rw [bne_iff_ne.2 hv, beq_eq_false_iff_ne.2 hv]; rfl
open Go
structure aL (x y : An) : Prop where
 k : y.ff = x.ff
 f : y.fg = x.fg
 t : y.fj = x.fj
 a : y.fr = x.fr
 r : y.fk = x.fk
 l : y.fq.length = x.fq.length
 o : ∀ (u : Nat) (row : List Bool), x.fq[u]? = some row → ∃ row', y.fq[u]? = some row' ∧ row'.length = row.length ∧ ∀ v : Nat, row[v]? = some true → row'[v]? = some true
theorem aL.st {x y : An} (h : aL x y) : B1 y = B1 x := by unfold B1; rw [h.k]
structure aM (p : Aa) (m x : Ac) : Prop where
 base : m.fd = x.fd
 next : m.fb = x.fb
 held : ∀ i, i < p.fc.length → ∀ v, Ee (m.fe.getD i 0) v = true → Ee (x.fe.getD i 0) v = true
theorem aM.refl (p : Aa) (m : Ac) : aM p m m := ⟨rfl, rfl, fun _ _ _ h => h⟩
theorem aM.trans {p : Aa} {a b c : Ac} (h : aM p a b) (g : aM p b c) : aM p a c := ⟨h.base.trans g.base, h.next.trans g.next, fun i hi v hv => g.held i hi v (h.held i hi v hv)⟩
structure TY (xs ys : List An) : Prop where
 l : ys.length = xs.length
 o : ∀ (i : Nat) (x : An), xs[i]? = some x → ∃ y, ys[i]? = some y ∧ aL x y
theorem aL.refl (x : An) : aL x x := ⟨rfl, rfl, rfl, rfl, rfl, rfl, fun _ row h => ⟨row, h, rfl, fun _ h => h⟩⟩
theorem TY.refl (xs : List An) : TY xs xs := ⟨rfl, fun _ x h => ⟨x, h, aL.refl x⟩⟩
theorem TY.set {xs ys : List An} (h : TY xs ys) {i u v : Nat} {y : An} {row : List Bool} {b b0 : Bool} (hy : ys[i]? = some y) (hu : y.fq[u]? = some row) (hv : row[v]? = some b0) (hb : b0 = true → b = true) :
  TY xs (ys.set i ⟨y.ff, y.fg, y.fj, y.fr, y.fq.set u (row.set v b), y.fk⟩) := by
 refine ⟨by rw [zG8]; exact h.l, fun k x hx => ?_⟩
 obtain ⟨z, hz, ht⟩ := h.o k x hx
 by_cases e : i = k
 ·subst e
  rw [hy] at hz; cases hz
  have hi := (lI.1 hy).1
  refine ⟨⟨y.ff, y.fg, y.fj, y.fr, y.fq.set u (row.set v b), y.fk⟩, by rw [zF0, if_pos rfl, if_pos hi], ⟨ht.k, ht.f, ht.t, ht.a, ht.r, by show (y.fq.set u (row.set v b)).length = _; rw [zG8]; exact ht.l, fun w r hw => ?_⟩⟩
  obtain ⟨r', e1, e2, e3⟩ := ht.o w r hw
  by_cases eu : u = w
  ·subst eu
   rw [hu] at e1; cases e1
   have hul := (lI.1 hu).1
   refine ⟨row.set v b, by show (y.fq.set u (row.set v b))[u]? = _; rw [zF0, if_pos rfl, if_pos hul], by rw [zG8]; exact e2, fun q hq => ?_⟩
   have h1 := e3 q hq
   rw [zF0]
   by_cases ev : v = q
   ·subst ev
    rw [hv] at h1; cases h1
    rw [if_pos rfl, if_pos (lI.1 hv).1, hb rfl]
   ·rw [if_neg ev]; exact h1
  ·exact ⟨r', by show (y.fq.set u (row.set v b))[w]? = _; rw [zF0, if_neg eu]; exact e1, e2, e3⟩
 ·exact ⟨z, by rw [zF0, if_neg e]; exact hz, ht⟩
theorem TY.row {xs ys : List An} (h : TY xs ys) {i u : Nat} {x : An} {row : List Bool} (hx : xs[i]? = some x) (hu : x.fq[u]? = some row) : ∃ y r, ys[i]? = some y ∧ y.fq[u]? = some r ∧ r.length = row.length := by
 obtain ⟨y, hy, ht⟩ := h.o i x hx
 obtain ⟨r, e1, e2, _⟩ := ht.o u row hu
 exact ⟨y, r, hy, e1, e2⟩
theorem S3 {α : Type} : ∀ (i : Nat) (xs : List α), CF (fun _ x => [x]) i xs = xs
 | _, [] => rfl
 | i, x :: xs => by rw [CF, S3 (i + 1) xs]; rfl
def Gn (p : Aa) (t : An) : Int := if B1 t = true then DX .u8 1 (p.fi.getD t.fg.toNat 0) else 0
def FH (p : Aa) : Ac := ⟨p.fi, zA5 p.fi.length (-1), p.fc.map (Gn p)⟩
theorem Vv (N : Nat) (h : 100 ≤ N) (n : Nat) (hn : n ≤ 6) : ER N [(-1)] (n : Int) = some (zA5 n (-1)) := by
 obtain ⟨k, rfl⟩ : ∃ k, N = k + 100 := ⟨N - 100, by omega⟩
 have : n = 0 ∨ n = 1 ∨ n = 2 ∨ n = 3 ∨ n = 4 ∨ n = 5 ∨ n = 6 := by omega
 rcases this with rfl | rfl | rfl | rfl | rfl | rfl | rfl
 all_goals (show _ = _; kernel_rfl)
theorem TG (T : List Int) (i : Nat) (hi : i < T.length) : (T.take i ++ zA5 (T.length - i) 0).set i (T.getD i 0) = T.take (i + 1) ++ zA5 (T.length - (i + 1)) 0 := by
 have hl : (T.take i).length = i := by simp; omega
 rw [List.set_append_right _ _ (by omega), hl, zJ4, show T.length - i = (T.length - (i + 1)) + 1 from by omega, List.replicate_succ, List.set_cons_zero, zD9, zD1]
 have : T[i]? = some (T.getD i 0) := by rw [lD]; simp [hi]
 rw [this]; rfl
theorem Vs (T : List Int) (i : Nat) (hi : i < T.length) (h0 : T.getD i 0 = 0) : T.take i ++ zA5 (T.length - i) 0 = T.take (i + 1) ++ zA5 (T.length - (i + 1)) 0 := by
 rw [← TG T i hi, h0, List.set_append_right _ _ (by rw [List.length_take]; omega)]
 congr 1
 have hl : (T.take i).length = i := by simp; omega
 rw [hl, zJ4, show T.length - i = (T.length - (i + 1)) + 1 from by omega, List.replicate_succ, List.set_cons_zero]
theorem TW {p : Aa} (hv : BM p = 0) {t : An} (ht : t ∈ p.fc) : 0 ≤ t.fg ∧ t.fg.toNat < p.fi.length ∧ 0 ≤ p.fi.getD t.fg.toNat 0 ∧ p.fi.getD t.fg.toNat 0 < 6 ∧ p.fi.getD t.fg.toNat 0 < p.fa.getD t.fg.toNat 0 ∧ t.fg.toNat < p.fa.length := by
 obtain ⟨hp, hr⟩ := C3 hv
 have h1 := JI (hp.tab t ht)
 have h2 := hr t.fg.toNat (by omega)
 have h3 := I9 hp (i := t.fg.toNat) (by omega)
 have := hp.now
 refine ⟨h1.1, by omega, h2.1, by omega, h2.2.1, by omega⟩
theorem KE {p : Aa} {i : Nat} {t : An} (ht : p.fc[i]? = some t) : (p.fc.map (Gn p)).getD i 0 = Gn p t := by
 rw [lD, zA2, ht]; rfl
theorem Rr (N : Nat) (p : Aa) (hN : N ≤ 1000000) (h20 : 100 ≤ N) : Iq N p = some (if BM p = 0 then FH p else ⟨[], [], []⟩, BM p) := by
 unfold Iq
 rw [H9 N p hN (by omega)]
 simp only [oS]
 by_cases hv : BM p = 0
 ·rw [if_pos hv, hv]
  obtain ⟨hp, _⟩ := C3 hv
  have hnv := hp.nv
  have hnt := hp.nt
  have hnow := hp.now
  rw [bne_self_eq_false, Al, KA N _ (by simp only [C5]; omega)]
  simp only [oS]
  rw [Vv N h20 _ (by omega)]
  simp only [oS]
  rw [Au (by simp only [C5]; omega)]
  obtain ⟨a', e, ha⟩ := FC (Ew N p fun v7 => some (Ac.mk p.fi (zA5 p.fi.length (-1)) v7, 0)) (fun a i => (a, i)) p.fc.length (fun v7 => some (Ac.mk p.fi (zA5 p.fi.length (-1)) v7, 0))
   (fun i a => a = (p.fc.map (Gn p)).take i ++ zA5 ((p.fc.map (Gn p)).length - i) 0)
   (fun n i a hi ha => by
    have hx : p.fc[i]? = some p.fc[i] := by simp [hi]
    have hm : p.fc[i] ∈ p.fc := zF2 hi
    obtain ⟨n1, n2, n3, n4, _⟩ := TW hv hm
    rw [Ew, AB (by simp only; omega)]
    simp only [Bh, AT, hx, oS, Ks, AF (show i < 1000000 by omega)]
    have hal : i < (p.fc.map (Gn p)).length := by simpa using hi
    cases hs : B1 p.fc[i]
    ·rw [Al]
     refine ⟨a, rfl, ?_⟩
     rw [ha]
     exact Vs _ _ hal (by rw [KE hx]; unfold Gn; rw [hs]; rfl)
    ·rw [AQ]
     have e1 : Bj p.fi p.fc[i].fg = some (p.fi.getD p.fc[i].fg.toNat 0) := by
      obtain ⟨q, hq⟩ := zA7 n1
      rw [hq]; exact Da (by rw [hq] at n2; simpa using n2)
     rw [e1]
     simp only [oS]
     rw [Au n3]
     have hl : i < a.length := by rw [ha]; simp; omega
     have e2 : a[i]? = some a[i] := by simp [hl]
     rw [e2]
     simp only [oS]
     refine ⟨_, rfl, ?_⟩
     rw [← TG _ _ hal, KE hx, ha]
     unfold Gn; rw [hs]; rfl)
   (fun n a ha => by rw [Ew, Ay (by simp)]) N 0 (zA5 p.fc.length 0) (zA8 _) (by omega) (by simp)
  have e' : Ew N p (fun v7 => some (Ac.mk p.fi (zA5 p.fi.length (-1)) v7, 0)) N (zA5 ((p.fc.length : Int)).toNat (0 : Int), 0) = _ := e
  rw [e', ha]
  have e5 : (p.fc.map (Gn p)).take p.fc.length = p.fc.map (Gn p) := List.take_of_length_le (by simp)
  simp [FH, e5]
 ·rw [if_neg hv, bne_iff_ne.2 hv, AQ]
theorem NS (N : Nat) (p : Aa) (hN : N ≤ 1000000) (h20 : 100 ≤ N) : Eb N p = some (if BM p = 0 then FH p else ⟨[], [], []⟩, BM p) := by
 unfold Eb
 rw [JL N p hN (by omega)]
 simp only [oS]
 by_cases hv : BM p = 0
 ·rw [if_pos hv, hv]
  obtain ⟨hp, _⟩ := C3 hv
  have hnv := hp.nv
  have hnt := hp.nt
  have hnow := hp.now
  rw [bne_self_eq_false, Al]
  obtain ⟨a', e, ha⟩ := FC (Ci N p fun v4 => Bm N p (fun v10 => some (Ac.mk v4.1 v4.2 v10, 0)) N (([] : List Int), 0)) (fun a i => (a.1, a.2, i)) p.fa.length (fun v4 => Bm N p (fun v10 => some (Ac.mk v4.1 v4.2 v10, 0)) N (([] : List Int), 0))
   (fun i a => a = (p.fi.take i, zA5 i (-1)))
   (fun n i a hi ha => by
    subst ha
    rw [Ci, AB (by simp only; omega)]
    have hx : p.fi[i]? = some p.fi[i] := by simp [show i < p.fi.length from by omega]
    simp only [AT, hx, oS, AF (show i < 1000000 by omega)]
    rw [Au (by simp [C5]; omega), Au (by simp [C5]; omega)]
    refine ⟨(p.fi.take i ++ [p.fi[i]], zA5 i (-1) ++ [-1]), rfl, ?_⟩
    rw [zD9, hx, List.replicate_succ']; rfl)
   (fun n a ha => by rw [Ci, Ay (by simp)]) N 0 ([], []) (zA8 _) (by omega) rfl
  have e' : Ci N p (fun v4 => Bm N p (fun v10 => some (Ac.mk v4.1 v4.2 v10, 0)) N (([] : List Int), 0)) N (([] : List Int), ([] : List Int), 0) = _ := e
  rw [e', ha]
  simp only
  obtain ⟨b', e2, hb⟩ := FC (Bm N p fun v10 => some (Ac.mk (p.fi.take p.fa.length) (zA5 p.fa.length (-1)) v10, 0)) (fun a i => (a, i)) p.fc.length (fun v10 => some (Ac.mk (p.fi.take p.fa.length) (zA5 p.fa.length (-1)) v10, 0))
   (fun i a => a = (p.fc.map (Gn p)).take i)
   (fun n i a hi ha => by
    subst ha
    have hx : p.fc[i]? = some p.fc[i] := by simp [hi]
    have hm : p.fc[i] ∈ p.fc := zF2 hi
    obtain ⟨n1, n2, n3, n4, _⟩ := TW hv hm
    rw [Bm, AB (by simp only; omega)]
    simp only [Bh, AT, hx, oS, HA, AF (show i < 1000000 by omega)]
    have hT : (p.fc.map (Gn p))[i]? = some (Gn p p.fc[i]) := by rw [zA2, hx]; rfl
    have hlen : ((p.fc.map (Gn p)).take i).length + 1 ≤ C5 := by simp [C5]; omega
    cases hs : B1 p.fc[i]
    ·rw [Al, Au (by simpa using hlen)]
     refine ⟨_, rfl, ?_⟩
     rw [zD9, hT]
     unfold Gn; rw [hs]; rfl
    ·rw [AQ]
     have e1 : Bj p.fi p.fc[i].fg = some (p.fi.getD p.fc[i].fg.toNat 0) := by
      obtain ⟨q, hq⟩ := zA7 n1
      rw [hq]; exact Da (by rw [hq] at n2; simpa using n2)
     rw [e1]
     simp only [oS]
     rw [Au n3, Au (by simpa using hlen)]
     refine ⟨_, rfl, ?_⟩
     rw [zD9, hT]
     unfold Gn; rw [hs]; rfl)
   (fun n a ha => by rw [Bm, Ay (by simp)]) N 0 [] (zA8 _) (by omega) rfl
  have e3 : Bm N p (fun v10 => some (Ac.mk (p.fi.take p.fa.length) (zA5 p.fa.length (-1)) v10, 0)) N (([] : List Int), 0) = _ := e2
  rw [e3, hb]
  simp only [FH, ← hnow, zH7]
  rw [show p.fc.length = (p.fc.map (Gn p)).length from by simp, zH7]
 ·rw [if_neg hv, bne_iff_ne.2 hv, AQ]
theorem O6 {p : Aa} (hv : BM p = 0) : BX p (FH p) := by
 obtain ⟨hp, hr⟩ := C3 hv
 have hnow := hp.now
 have hnx : ∀ i, i < p.fa.length → (zA5 p.fi.length (-1 : Int)).getD i 0 = -1 := fun i hi => by
  rw [lD, List.getElem?_replicate, if_pos (by omega)]; rfl
 have hone : ∀ (i : Nat) (t : An), p.fc[i]? = some t → ∃ b : Nat, b < 6 ∧ p.fi.getD t.fg.toNat 0 = (b : Int) ∧ (b : Int) < p.fa.getD t.fg.toNat 0 ∧ t.fg.toNat < p.fa.length := fun i t ht => by
  obtain ⟨n1, n2, n3, n4, n5, n6⟩ := TW hv (lM ht)
  obtain ⟨b, hb⟩ := zA7 n3
  exact ⟨b, by omega, hb, by omega, n6⟩
 have hbit : ∀ b : Nat, b < 8 → ∀ v, Ee (DX .u8 1 (b : Int)) v = decide (b = v) := fun b hb v => by
  by_cases h : v < 8
  ·exact (K3 ⟨b, hb⟩ ⟨v, h⟩).1
  ·rw [Lb (K3 ⟨b, hb⟩ ⟨0, by omega⟩).2.2 (by omega)]
   symm; apply decide_eq_false; omega
 refine { base := hnow, next := by simp [FH, hnow], held := by simp [FH], b0 := fun i hi => ⟨(hr i hi).1, (hr i hi).2.1⟩, n0 := fun i hi => ?_, ne := fun i hi => ?_, range := fun i hi => ?_, low := fun i t ht hs v hv' => ?_, high := fun i t ht hs v hb => ?_, none := fun i t ht hs => ?_ }
 ·show -1 ≤ (zA5 p.fi.length (-1 : Int)).getD i 0 ∧ (zA5 p.fi.length (-1 : Int)).getD i 0 < _
  rw [hnx i hi]
  have := I9 hp hi
  omega
 ·show p.fi.getD i 0 ≠ (zA5 p.fi.length (-1 : Int)).getD i 0
  rw [hnx i hi]
  have := hr i hi
  omega
 ·have hx : p.fc[i]? = some p.fc[i] := by simp [hi]
  show 0 ≤ (p.fc.map (Gn p)).getD i 0 ∧ (p.fc.map (Gn p)).getD i 0 ≤ 255
  rw [KE hx]
  unfold Gn
  split
  ·obtain ⟨b, h1, h2, _⟩ := hone i _ hx
   rw [h2]
   exact (K3 ⟨b, by omega⟩ ⟨0, by omega⟩).2
  ·omega
 ·show Ee ((p.fc.map (Gn p)).getD i 0) v = true
  obtain ⟨b, h1, h2, h3, h4⟩ := hone i t ht
  rw [KE ht]
  unfold Gn
  rw [if_pos hs, h2, hbit b (by omega)]
  unfold Jx at hv'
  have h5 : (FH p).fd.getD t.fg.toNat 0 = (b : Int) := h2
  have h6 : (FH p).fb.getD t.fg.toNat 0 = -1 := hnx _ h4
  rw [h5, h6, zG1, decide_eq_true_iff, decide_eq_true_iff] at hv'
  apply decide_eq_true; omega
 ·have hb : Ee ((p.fc.map (Gn p)).getD i 0) v = true := hb
  obtain ⟨b, h1, h2, h3, h4⟩ := hone i t ht
  rw [KE ht] at hb
  unfold Gn at hb
  rw [if_pos hs, h2, hbit b (by omega), decide_eq_true_iff] at hb
  omega
 ·show (p.fc.map (Gn p)).getD i 0 = 0
  rw [KE ht]; unfold Gn; rw [hs]; rfl
theorem Oz (x : BitVec 8) : wI .u8 (x.toNat : Int) = (x.toNat : Int) := by
 have := x.isLt
 simp [wI, IntKind.signed, IntKind.bits]
 omega
theorem Ty (x : BitVec 8) : 0 ≤ (x.toNat : Int) ∧ (x.toNat : Int) ≤ 255 := by
 have := x.isLt
 omega
theorem Wk (x : BitVec 8) (v : Nat) : Ee (x.toNat : Int) v = x.getLsbD v := by
 unfold Ee; rw [zB3]; rfl
theorem Rw {a : Int} (ha : 0 ≤ a ∧ a ≤ 255) (v : Nat) : (BitVec.ofInt 8 a).getLsbD v = Ee a v := by
 obtain ⟨a, rfl⟩ := zA7 ha.1
 unfold BitVec.getLsbD Ee
 rw [Wz (by omega), zB3]
theorem Uq {a b : Int} (ha : 0 ≤ a ∧ a ≤ 255) (hb : 0 ≤ b ∧ b ≤ 255) : (∀ v, Ee (Dc .u8 a b) v = (Ee a v && !Ee b v)) ∧ 0 ≤ Dc .u8 a b ∧ Dc .u8 a b ≤ 255 := by
 have e : Dc .u8 a b = ((BitVec.ofInt 8 a &&& ~~~BitVec.ofInt 8 b).toNat : Int) := Oz (BitVec.ofInt 8 a &&& ~~~BitVec.ofInt 8 b)
 rw [e]
 refine ⟨fun v => ?_, Ty _⟩
 rw [Wk, BitVec.getLsbD_and, BitVec.getLsbD_not, Rw ha, Rw hb]
 by_cases h : v < 8
 ·simp [h]
 ·rw [Lb ha.2 (by omega)]; simp
theorem Ue {a b : Int} (ha : 0 ≤ a ∧ a ≤ 255) (hb : 0 ≤ b ∧ b ≤ 255) : (∀ v, Ee (P0 .u8 a b) v = (Ee a v || Ee b v)) ∧ 0 ≤ P0 .u8 a b ∧ P0 .u8 a b ≤ 255 := by
 have e : P0 .u8 a b = ((BitVec.ofInt 8 a ||| BitVec.ofInt 8 b).toNat : Int) := Oz (BitVec.ofInt 8 a ||| BitVec.ofInt 8 b)
 rw [e]
 refine ⟨fun v => ?_, Ty _⟩
 rw [Wk, BitVec.getLsbD_or, Rw ha, Rw hb]
theorem YM {b : Nat} (hb : b < 8) : (∀ v, Ee (DX .u8 1 (b : Int)) v = decide (b = v)) ∧ 0 ≤ DX .u8 1 (b : Int) ∧ DX .u8 1 (b : Int) ≤ 255 := by
 refine ⟨fun v => ?_, (K3 ⟨b, hb⟩ ⟨0, by omega⟩).2⟩
 by_cases h : v < 8
 ·exact (K3 ⟨b, hb⟩ ⟨v, h⟩).1
 ·rw [Lb (K3 ⟨b, hb⟩ ⟨0, by omega⟩).2.2 (by omega)]
  symm; apply decide_eq_false; omega
theorem Xm (N : Nat) {s : Int} {v : Nat} (hs : 0 ≤ s ∧ s ≤ 255) (hv : v < 8) : Cz N s (v : Int) = some (Ee s v) := by
 unfold Cz
 rw [Au (by omega), RP hs.1 hs.2 hv]
 cases Ee s v <;> rfl
def Zo (v : Nat) : Nat := ((zB1 8).find? fun u => v.testBit u).getD 8
def aS (v : Nat) : Nat := ((zB1 8).filter fun u => v.testBit u).length
theorem Z2 : ∀ v : Fin 256, Dj 0 (v.val : Int) = some (Zo v.val : Int) := by decide +kernel
theorem ba (N : Nat) {v : Nat} (h : v < 256) : Dj N (v : Int) = some (Zo v : Int) := Z2 ⟨v, h⟩
theorem Yr : ∀ v : Fin 256, v.val ≠ 0 → Zo v.val < 8 ∧ Ee (v.val : Int) (Zo v.val) = true ∧ 0 ≤ AK .u8 (v.val : Int) (wI .u8 ((v.val : Int) - 1)) ∧ AK .u8 (v.val : Int) (wI .u8 ((v.val : Int) - 1)) ≤ 255 ∧
  aS (AK .u8 (v.val : Int) (wI .u8 ((v.val : Int) - 1))).toNat + 1 = aS v.val ∧
  ∀ u : Fin 8, Ee (AK .u8 (v.val : Int) (wI .u8 ((v.val : Int) - 1))) u.val = (Ee (v.val : Int) u.val && decide (u.val ≠ Zo v.val)) := by decide +kernel
theorem cS (v : Nat) : aS v ≤ 8 := by
 have := List.length_filter_le (fun u => v.testBit u) (zB1 8)
 simpa [aS] using this
theorem SI (N : Nat) (t : An) (b : Int) (rw_ : Nat → Bool) : ∀ (k n v : Nat), aS v ≤ k → k < n → v < 256 →
  (∀ u, u < 8 → Ee (v : Int) u = true → ∃ row, Bj t.fk (u : Int) = some row ∧ Bj row b = some (rw_ u)) →
  DS N t b (fun _ => some true) n (v : Int) = some ((zB1 8).all fun u => !Ee (v : Int) u || rw_ u)
 | k, 0, v, _, h, _, _ => by omega
 | k, n + 1, v, hk, hn, hv, hr => by
  rw [DS]
  by_cases h0 : v = 0
  ·subst h0
   have : (((0 : Nat) : Int) != 0) = false := rfl
   rw [this, Al]
   congr 1
  ·have h1 : ((v : Int) != 0) = true := bne_iff_ne.2 (by omega)
   obtain ⟨l1, l2, l3, l4, l5, l6⟩ := Yr ⟨v, hv⟩ h0
   simp only at l1 l2 l3 l4 l5 l6
   obtain ⟨row, e1, e2⟩ := hr _ l1 l2
   rw [h1, AQ, ba N hv]
   simp only [oS, e1, e2]
   obtain ⟨w, hw⟩ := zA7 l3
   rw [hw] at l4 l5 l6 ⊢
   rw [zB3] at l5
   cases hq : rw_ (Zo v)
   ·rw [zE0, AQ]
    congr 1
    symm
    rw [List.all_eq_false]
    exact ⟨Zo v, by simpa using l1, by rw [l2, hq]; simp⟩
   ·rw [zC0, Al]
    match k, hk with
    | 0, hk => exfalso; omega
    | k + 1, hk =>
    rw [SI N t b rw_ k n w (by omega) (by omega) (by omega) (fun u hu hb => hr u hu (by have := l6 ⟨u, hu⟩; simp only at this; rw [hb] at this; simpa using (zH6.1 this.symm).1))]
    congr 1
    rw [Bool.eq_iff_iff, zA3, zA3]
    refine ⟨fun h u hu => ?_, fun h u hu => ?_⟩
    ·have hu8 : u < 8 := by simpa using hu
     have h3 := h u hu
     have h4 := l6 ⟨u, hu8⟩
     simp only at h4
     rw [h4] at h3
     by_cases e : u = Zo v
     ·rw [e, hq]; simp
     ·simpa [e] using h3
    ·have hu8 : u < 8 := by simpa using hu
     have h3 := h u hu
     have h4 := l6 ⟨u, hu8⟩
     simp only at h4
     rw [h4]
     cases hb : Ee (v : Int) u
     ·simp
     ·rw [hb] at h3; simp at h3; simp [h3]
theorem S5 (N : Nat) (m : Ac) (s : Int) (h0 : 0 ≤ s) (h1 : s < (m.fd.length : Int)) (h2 : s < (m.fb.length : Int)) (hb : 0 ≤ m.fd.getD s.toNat 0) : GG N m s = some (HG m s.toNat) := by
 unfold GG HG
 rw [Ei (d := 0) h0 h1, Ei (d := 0) h0 h2]
 simp only [oS, Bb]
 rw [show DF (0 ≤ m.fd.getD s.toNat 0) = some () from by unfold DF; rw [if_pos hb]]
 simp only [oS]
 by_cases h : 0 ≤ m.fb.getD s.toNat 0
 ·rw [AB h, if_pos h, show DF (0 ≤ m.fb.getD s.toNat 0) = some () from by unfold DF; rw [if_pos h]]; rfl
 ·rw [Ay h, if_neg h]
theorem LD (N : Nat) (t : An) : Gf N t = some (B1 t) := by
 unfold Gf B1
 simp only [Bb]
 cases h : t.ff == 3 <;> simp
def GX (s : Ad) : Bool := decide (1 ≤ s.ff ∧ s.ff ≤ 4 ∧ 0 ≤ s.fh ∧ 0 ≤ s.fo) && (s.ff == 1 || s.fo == 0)
def F7 (p : Aa) (s : Ad) : Bool :=
 if s.ff = 3 then decide (s.fh < (p.fc.length : Int)) else decide (s.fh < (p.fa.length : Int)) && (s.ff != 1 || decide (s.fo < p.fa.getD s.fh.toNat 0))
theorem Qn (N : Nat) (s : Ad) : HF N s = some (GX s) := by
 unfold HF GX Xv
 simp only [Bb]
 by_cases h1 : (if s.fo < s.fh then s.fo else s.fh) < 0
 ·rw [AB h1, AQ, decide_eq_false (by split at h1 <;> omega)]; rfl
 ·rw [Ay h1]
  by_cases h2 : s.ff < 1
  ·rw [AB h2, AQ, decide_eq_false (by omega)]; rfl
  ·rw [Ay h2]
   by_cases h3 : 4 < s.ff
   ·rw [decide_eq_true h3, AQ, decide_eq_false (by omega)]; rfl
   ·rw [decide_eq_false h3, Al, decide_eq_true (by split at h1 <;> omega), zE7]
    cases h4 : s.ff == 1 <;> simp
theorem Rz (N : Nat) (s : Ad) : E3 N s = some (GX s) := by
 unfold E3 GX
 simp only [Bb]
 by_cases h1 : 1 ≤ s.ff
 ·rw [AB h1]
  by_cases h2 : s.ff ≤ 4
  ·rw [AB h2]
   by_cases h3 : 0 ≤ s.fh
   ·rw [AB h3]
    by_cases h4 : 0 ≤ s.fo
    ·rw [AB h4, decide_eq_true (by omega), zE7]
     cases h5 : s.ff == 1 <;> simp
    ·rw [Ay h4, decide_eq_false (by omega)]; rfl
   ·rw [Ay h3, decide_eq_false (by omega)]; rfl
  ·rw [Ay h2, decide_eq_false (by omega)]; rfl
 ·rw [Ay h1, decide_eq_false (by omega)]; rfl
theorem Px (N : Nat) (p : Aa) (s : Ad) (hv : GX s = true) : Hb N p s = some (F7 p s) := by
 have h0 : 0 ≤ s.fh := by
  unfold GX at hv
  rw [zA6, decide_eq_true_iff] at hv
  exact hv.1.2.2.1
 unfold Hb F7
 simp only [Bb]
 by_cases h1 : s.ff = 3
 ·rw [if_pos h1, beq_iff_eq.2 h1, AQ]
 ·rw [if_neg h1, beq_eq_false_iff_ne.2 h1, Al]
  by_cases h2 : s.fh < (p.fa.length : Int)
  ·rw [AB h2, decide_eq_true h2, zE7]
   cases h3 : s.ff != 1
   ·rw [Al, Ei (d := 0) h0 h2, zJ7]; rfl
   ·rw [AQ]; rfl
  ·rw [Ay h2, decide_eq_false h2]; rfl
def Vk (s : Ad) (t : An) : Bool := t.fg == s.fh && B1 t
def VZ (s : Ad) (i : Nat) (t : An) (a : List Int) : List Int := if Vk s t = true then a.set i (P0 .u8 (a.getD i 0) (DX .u8 1 s.fo)) else a
def J2 (p : Aa) (s : Ad) (held : List Int) : List Int := Jb (VZ s) 0 p.fc held
theorem OE {_R : Type} (N : Nat) (p : Aa) (s : Ad) (held : List Int) (hv : 0 ≤ s.fo) (hl : held.length = p.fc.length) (h12 : p.fc.length < N) (hN : N ≤ 1000000) (j : List Int → Option (Bool × List Int × List Int)) :
  Ea N p s j N (held, 0) = j (J2 p s held) ∧ (J2 p s held).length = p.fc.length := by
 have := H4 (Ea N p s j) (fun a i => (a, i)) p.fc j (VZ s) (fun i a => a.length = p.fc.length)
  (fun n i x a hx ha => by
   have hi := (lI.1 hx).1
   rw [Ea, AB (by simp only; omega)]
   simp only [Bh, AT, hx, oS, LD, AF (show i < 1000000 by omega)]
   have e2 : a[i]? = some (a.getD i 0) := by rw [lD]; simp [show i < a.length from by omega]
   unfold VZ Vk
   cases h1 : x.fg == s.fh
   ·rw [Al, Al, zK2, if_neg (by simp)]; exact ⟨rfl, ha⟩
   ·rw [AQ, zE7]
    cases h2 : B1 x
    ·rw [Al, if_neg (by simp)]; exact ⟨rfl, ha⟩
    ·rw [AQ, e2, if_pos rfl]
     simp only [oS]
     rw [Au hv]
     exact ⟨rfl, by simpa using ha⟩)
  (fun n a ha => by rw [Ea, Ay (by simp)]) N 0 held (zA8 _) (by omega) hl
 rw [zB9] at this
 exact this
theorem PM (N : Nat) (p : Aa) (s : Ad) (held : List Int) (hv : 0 ≤ s.fo) (hl : held.length = p.fc.length) (h12 : p.fc.length < N) (hN : N ≤ 1000000) (j : List Int → Option (Ac × Bool)) :
  B8 N p s j N (held, 0) = j (J2 p s held) := by
 have := H4 (B8 N p s j) (fun a i => (a, i)) p.fc j (VZ s) (fun i a => a.length = p.fc.length)
  (fun n i x a hx ha => by
   have hi := (lI.1 hx).1
   rw [B8, AB (by simp only; omega)]
   simp only [Bh, AT, hx, oS, HA, AF (show i < 1000000 by omega)]
   have e2 : a[i]? = some (a.getD i 0) := by rw [lD]; simp [show i < a.length from by omega]
   unfold VZ Vk
   cases h1 : x.fg == s.fh
   ·rw [Al, Al, zK2, if_neg (by simp)]; exact ⟨rfl, ha⟩
   ·rw [AQ, zE7]
    cases h2 : B1 x
    ·rw [Al, if_neg (by simp)]; exact ⟨rfl, ha⟩
    ·rw [AQ, e2, if_pos rfl]
     simp only [oS]
     rw [Au hv]
     exact ⟨rfl, by simpa using ha⟩)
  (fun n a ha => by rw [B8, Ay (by simp)]) N 0 held (zA8 _) (by omega) hl
 rw [zB9] at this
 exact this.1
def My (m : Ac) (t : An) (u : Nat) : Bool := (t.fk.getD u []).getD (m.fd.getD t.fg.toNat 0).toNat false
def PS (m : Ac) (i : Nat) (t : An) (u : Nat) : Bool := Ee (m.fe.getD i 0) u && !Jx m t.fg.toNat u
def I8 (_p : Aa) (m : Ac) (i : Nat) (t : An) : Bool := t.ff == 4 && (zB1 8).any fun u => PS m i t u && !My m t u
def F8 (p : Aa) (m : Ac) (s : Ad) : Option Ac :=
 let i := s.fh.toNat
 if s.ff = 1 then (if 0 ≤ m.fb.getD i 0 ∨ m.fd.getD i 0 = s.fo then none else some ⟨m.fd, m.fb.set i s.fo, J2 p s m.fe⟩)
 else if s.ff = 3 then match p.fc[i]? with
  | none => none
  | some t => if B1 t = false ∨ m.fe.getD i 0 = HG m t.fg.toNat ∨ I8 p m i t = true then none else some ⟨m.fd, m.fb, m.fe.set i (HG m t.fg.toNat)⟩
 else if m.fb.getD i 0 < 0 then none
 else some ⟨if s.ff = 2 then m.fd.set i (m.fb.getD i 0) else m.fd, m.fb.set i (-1), m.fe⟩
def A5 (p : Aa) (m : Ac) (s : Ad) : Ac × Int :=
 if GX s = false then (Ir, 1) else if F7 p s = false then (Ir, 4) else match F8 p m s with
  | none => (Ir, 11)
  | some x => (x, 0)
end Go.Lift
namespace Go.Lift
open Option renaming bind_some → oS
open List renaming mem_of_getElem? → lM
open List renaming getElem?_eq_some_iff → lI
open List renaming getD_eq_getElem?_getD → lD
open Go
section clear
variable {p : Aa} {m : Ac} {i : Nat} {t : An}
theorem Xe (hp : Bc p) (hm : BX p m) (ht : p.fc[i]? = some t) (hs : B1 t = true) {u : Nat} (h : Ee (m.fe.getD i 0) u = true) : (u : Int) < p.fa.getD t.fg.toNat 0 ∧ u < 6 ∧ t.fg.toNat < p.fa.length := by
 have h1 := hm.high i t ht hs u h
 have hin := JI (hp.tab t (lM ht))
 have h2 := I9 hp (i := t.fg.toNat) (by omega)
 exact ⟨h1, by omega, by omega⟩
theorem Xk (hp : Bc p) (hm : BX p m) (ht : p.fc[i]? = some t) (hs : B1 t = true) (h4 : t.ff = 4) {u : Nat} (h : Ee (m.fe.getD i 0) u = true) :
  Bj t.fk (u : Int) = some (t.fk.getD u []) ∧ Bj (t.fk.getD u []) (m.fd.getD t.fg.toNat 0) = some (My m t u) := by
 have hT := LU (hp.tab t (lM ht))
 obtain ⟨h1, h2, h3⟩ := Xe hp hm ht hs h
 have hl := hT.reL h4
 have e : t.fk[u]? = some (t.fk.getD u []) := by rw [lD]; simp [show u < t.fk.length from by omega]
 have hr := hT.reR _ (lM e)
 have hb := hm.b0 t.fg.toNat h3
 refine ⟨by rw [AT, e], ?_⟩
 unfold My
 obtain ⟨b, hb'⟩ := zA7 hb.1
 rw [hb'] at hb ⊢
 rw [zB3]
 exact Da (by omega)
theorem Qf (N : Nat) (hN : N ≤ 1000000) (h20 : 100 ≤ N) (hp : Bc p) (hm : BX p m) (ht : p.fc[i]? = some t) :
  HH N p m (i : Int) = some (if B1 t = false ∨ m.fe.getD i 0 = HG m t.fg.toNat ∨ I8 p m i t = true then (false, m.fe) else (true, m.fe.set i (HG m t.fg.toNat))) := by
 have hi := (lI.1 ht).1
 have hin := JI (hp.tab t (lM ht))
 have hb := hm.base
 have hnx := hm.next
 have hh := hm.held
 have hr := IZ hp hm.toMixServ (s := t.fg.toNat) (by omega)
 have hrg := hm.range i hi
 have eh : Bj m.fe (i : Int) = some (m.fe.getD i 0) := Da (by omega)
 unfold HH
 simp only [Bh, AT, ht, oS, LD]
 have eh' : m.fe[i]? = some (m.fe.getD i 0) := by rw [← AT, eh]
 cases hs : B1 t
 ·rw [zE0, AQ, if_pos (.inl rfl)]
 ·rw [zC0, Al, S5 N m _ hin.1 (by omega) (by omega) (hm.b0 _ (by omega)).1]
  simp only [oS, eh']
  by_cases h1 : m.fe.getD i 0 = HG m t.fg.toNat
  ·rw [beq_iff_eq.2 h1, AQ, AQ, if_pos (.inr (.inl h1))]
  ·rw [beq_eq_false_iff_ne.2 h1, Al]
   by_cases h4 : t.ff = 4
   ·rw [beq_iff_eq.2 h4, AQ, Ei (d := 0) hin.1 (by omega)]
    simp only [oS]
    obtain ⟨a1, a2, a3⟩ := Uq hrg hr.2
    obtain ⟨w, hw⟩ := zA7 a2
    unfold Gq
    rw [hw] at a1 a3 ⊢
    rw [SI N t _ (My m t) 8 N w (cS _) (by omega) (by omega) (fun u hu hbu => by
     have := a1 u; rw [hbu] at this
     exact ⟨_, Xk hp hm ht hs h4 (zH6.1 this.symm).1⟩)]
    simp only [oS]
    have e : (!(zB1 8).all fun u => !Ee (w : Int) u || My m t u) = I8 p m i t := by
     unfold I8
     rw [beq_iff_eq.2 h4, zE7, List.not_all_eq_any_not]
     congr 1
     funext u
     rw [a1 u, hr.1 u]
     unfold PS
     cases Ee (m.fe.getD i 0) u <;> cases Jx m t.fg.toNat u <;> cases My m t u <;> rfl
    rw [e]
    cases hst : I8 p m i t
    ·rw [Al, if_neg (by rintro (h | h | h); cases h; exact h1 h; cases h)]; rfl
    ·rw [AQ, if_pos (.inr (.inr rfl))]
   ·have e : I8 p m i t = false := by unfold I8; rw [beq_eq_false_iff_ne.2 h4]; rfl
    rw [beq_eq_false_iff_ne.2 h4, Al, Al, e, if_neg (by rintro (h | h | h); cases h; exact h1 h; cases h)]; rfl
theorem Po (N : Nat) (hN : N ≤ 1000000) (h20 : 100 ≤ N) (hp : Bc p) (hm : BX p m) (ht : p.fc[i]? = some t) (hs : B1 t = true) (s : Ad) (hsi : s.fh = (i : Int)) (j : Option (Ac × Bool)) :
  BJ N p m s t (HG m t.fg.toNat) (fun _ => j) N 0 = if I8 p m i t = true then some (Ir, false) else j := by
 have hi := (lI.1 ht).1
 have hin := JI (hp.tab t (lM ht))
 have hb := hm.base
 have hh := hm.held
 have hr := IZ hp hm.toMixServ (s := t.fg.toNat) (by omega)
 have hrg := hm.range i hi
 have hver := I9 hp (i := t.fg.toNat) (by omega)
 obtain ⟨nv, hnv⟩ := zA7 (show 0 ≤ p.fa.getD t.fg.toNat 0 by omega)
 have eh' : m.fe[i]? = some (m.fe.getD i 0) := by rw [lD]; simp [show i < m.fe.length from by omega]
 have := BQ (BJ N p m s t (HG m t.fg.toNat) fun _ => j) (zB1 nv) j (fun u _ => if (PS m i t u && (t.ff == 4 && !My m t u)) = true then some (Ir, false) else none)
  (fun n u x hx => by
   have hu : u < nv := by
    have := (lI.1 hx).1
    simpa using this
   rw [BJ, Ei (d := 0) hin.1 (by omega), hnv]
   simp only [oS]
   rw [AB (by omega)]
   simp only [Bh, hsi, AT, eh', oS]
   rw [Xm N hrg (by omega), AF (by omega)]
   simp only [oS]
   cases h1 : Ee (m.fe.getD i 0) u
   ·have e : PS m i t u = false := by unfold PS; rw [h1]; rfl
    rw [Al, Al, Al, e]; rfl
   ·rw [AQ, Xm N hr.2 (by omega), hr.1 u]
    simp only [oS]
    have e : PS m i t u = !Jx m t.fg.toNat u := by unfold PS; rw [h1]; rfl
    rw [← e]
    cases h2 : PS m i t u
    ·rw [Al, Al]; rfl
    ·rw [AQ]
     by_cases h4 : t.ff = 4
     ·obtain ⟨e1, e2⟩ := Xk hp hm ht hs h4 h1
      rw [AT] at e1
      rw [beq_iff_eq.2 h4, AQ, e1, Ei (d := 0) hin.1 (by omega)]
      simp only [oS]
      rw [e2]
      simp only [oS]
      cases My m t u <;> rfl
     ·rw [beq_eq_false_iff_ne.2 h4, Al, Al]; rfl)
  (fun n => by
   rw [BJ, Ei (d := 0) hin.1 (by omega), hnv]
   simp only [oS, zH5]
   rw [Ay (by omega)]) N 0 (zA8 _) (by simp; omega)
 have e0 : BJ N p m s t (HG m t.fg.toNat) (fun _ => j) N 0 = _ := this
 rw [e0, zB9]
 by_cases hst : I8 p m i t = true
 ·rw [if_pos hst]
  unfold I8 at hst
  rw [zA6, zF3] at hst
  obtain ⟨h4, u, hu, h5⟩ := hst
  rw [zA6] at h5
  have h6 : Ee (m.fe.getD i 0) u = true := by have := h5.1; unfold PS at this; exact (zH6.1 this).1
  have h7 := Xe hp hm ht hs h6
  cases hsc : CE (fun u (_ : Nat) => if (PS m i t u && (t.ff == 4 && !My m t u)) = true then some (Ir, false) else none) 0 (zB1 nv) with
  | some r =>
   obtain ⟨q, x, hx, hf⟩ := DT hsc
   split at hf
   ·cases hf; rfl
   ·cases hf
  | none =>
   exfalso
   have hx : (zB1 nv)[u]? = some u := List.getElem?_range (by omega)
   have := Fd hsc u u hx
   rw [zA1, h5.1, h4, h5.2] at this
   cases this
 ·rw [if_neg hst]
  have : CE (fun u (_ : Nat) => if (PS m i t u && (t.ff == 4 && !My m t u)) = true then some (Ir, false) else none) 0 (zB1 nv) = none := GC fun q x hx => by
   rw [zA1]
   split
   ·rename_i h5
    exfalso; apply hst
    rw [zA6, zA6] at h5
    unfold I8
    rw [h5.2.1, zE7, zF3]
    have hq : q < nv := by
     have := (lI.1 hx).1
     simpa using this
    exact ⟨q, zE2.2 (by omega), by rw [h5.1, h5.2.2]; rfl⟩
   ·rfl
  rw [this]; rfl
end clear
end Go.Lift
namespace Go.Lift
open Option renaming bind_some → oS
open List renaming mem_of_getElem? → lM
open Go
theorem IE {s : Ad} (h : GX s = true) : 1 ≤ s.ff ∧ s.ff ≤ 4 ∧ 0 ≤ s.fh ∧ 0 ≤ s.fo ∧ (s.ff ≠ 1 → s.fo = 0) := by
 unfold GX at h
 rw [zA6, decide_eq_true_iff, zG1, beq_iff_eq, beq_iff_eq] at h
 exact ⟨h.1.1, h.1.2.1, h.1.2.2.1, h.1.2.2.2, fun hk => h.2.elim (fun e => (hk e).elim) id⟩
theorem JC {p : Aa} {s : Ad} (h : F7 p s = true) : (s.ff = 3 → s.fh < (p.fc.length : Int)) ∧ (s.ff ≠ 3 → s.fh < (p.fa.length : Int)) ∧ (s.ff = 1 → s.fo < p.fa.getD s.fh.toNat 0) := by
 unfold F7 at h
 split at h
 ·rename_i hk
  rw [decide_eq_true_iff] at h
  exact ⟨fun _ => h, fun hn => (hn hk).elim, fun h1 => by omega⟩
 ·rename_i hk
  rw [zA6, decide_eq_true_iff, zG1, decide_eq_true_iff, bne_iff_ne] at h
  exact ⟨fun h3 => (hk h3).elim, fun _ => h.1, fun h1 => h.2.elim (fun hn => (hn h1).elim) id⟩
theorem VF (N : Nat) {p : Aa} {m : Ac} (hp : Bc p) (hm : BX p m) : G8 N m = some m := by
 have hnv := hp.nv
 have hnt := hp.nt
 have h1 := hm.base
 have h2 := hm.next
 have h3 := hm.held
 unfold G8
 rw [KA N _ (by simp only [C5]; omega), KA N _ (by simp only [C5]; omega), Rb N _ (by simp only [C5]; omega)]
 rfl
theorem MB (N : Nat) (hN : N ≤ 1000000) (h20 : 100 ≤ N) {p : Aa} {m : Ac} (hp : Bc p) (hm : BX p m) {s : Ad} (hv : GX s = true) (hx : F7 p s = true) :
  ∃ o, F0 N p m s = some (o, (F8 p m s).isSome) ∧ ∀ x, F8 p m s = some x → o = x := by
 obtain ⟨k1, k4, i0, v0, vk⟩ := IE hv
 obtain ⟨x3, xn, x1⟩ := JC hx
 have hnv := hp.nv
 have hnt := hp.nt
 have hb := hm.base
 have hn := hm.next
 have hh := hm.held
 obtain ⟨i, hi⟩ := zA7 i0
 unfold F0 F8
 rw [VF N hp hm]
 simp only [oS, Bh]
 by_cases hk1 : s.ff = 1
 ·have hi1 : (i : Int) < p.fa.length := by have := xn (by omega); omega
  rw [beq_iff_eq.2 hk1, AQ, if_pos hk1]
  unfold II
  simp only [Bh, hi, zB3]
  rw [Da (d := 0) (show i < m.fb.length by omega)]
  simp only [oS]
  by_cases c1 : 0 ≤ m.fb.getD i 0
  ·rw [AB c1, AQ, if_pos (.inl c1)]
   exact ⟨_, rfl, fun x hx => by cases hx⟩
  ·rw [Ay c1, Da (d := 0) (show i < m.fd.length by omega)]
   simp only [oS]
   by_cases c2 : m.fd.getD i 0 = s.fo
   ·rw [beq_iff_eq.2 c2, AQ, if_pos (.inr c2)]
    exact ⟨_, rfl, fun x hx => by cases hx⟩
   ·rw [beq_eq_false_iff_ne.2 c2, Al, (OE (_R := Unit) N p s m.fe v0 hh (by omega) hN _).1, if_neg (by rintro (h | h); exact c1 h; exact c2 h)]
    exact ⟨_, rfl, fun x hx => by cases hx; rfl⟩
 ·rw [beq_eq_false_iff_ne.2 hk1, Al, if_neg hk1]
  by_cases hk3 : s.ff = 3
  ·have hi3 : i < p.fc.length := by have := x3 hk3; omega
   have ht : p.fc[i]? = some p.fc[i] := by simp [hi3]
   rw [beq_iff_eq.2 hk3, AQ, if_pos hk3, hi, Qf N hN h20 hp hm ht]
   simp only [oS, zB3, ht]
   split
   ·exact ⟨_, rfl, fun x hx => by cases hx⟩
   ·exact ⟨_, rfl, fun x hx => by cases hx; rfl⟩
  ·have hi1 : (i : Int) < p.fa.length := by have := xn hk3; omega
   rw [beq_eq_false_iff_ne.2 hk3, Al, if_neg hk3, hi, Da (d := 0) (show i < m.fb.length by omega)]
   simp only [oS, zB3]
   by_cases c1 : m.fb.getD i 0 < 0
   ·rw [AB c1, if_pos c1]
    exact ⟨_, rfl, fun x hx => by cases hx⟩
   ·rw [Ay c1, if_neg c1]
    by_cases hk2 : s.ff = 2
    ·rw [beq_iff_eq.2 hk2, AQ, Da (d := 0) (show i < m.fd.length by omega), if_pos hk2]
     exact ⟨_, rfl, fun x hx => by cases hx; rfl⟩
    ·rw [beq_eq_false_iff_ne.2 hk2, Al, if_neg hk2]
     exact ⟨_, rfl, fun x hx => by cases hx; rfl⟩
theorem P3 (N : Nat) (hN : N ≤ 1000000) (h20 : 100 ≤ N) {p : Aa} {m : Ac} (hp : Bc p) (hm : BX p m) (s : Ad) : Hy N p m s = some (A5 p m s) := by
 unfold Hy A5
 rw [Qn]
 simp only [oS]
 cases hv : GX s
 ·rw [zE0, AQ, if_pos rfl]; rfl
 ·rw [zC0, Al, if_neg (by simp), Px N p s hv]
  simp only [oS]
  cases hx : F7 p s
  ·rw [zE0, AQ, if_pos rfl]; rfl
  ·rw [zC0, Al, if_neg (by simp)]
   obtain ⟨o, e, ho⟩ := MB N hN h20 hp hm hv hx
   rw [e]
   simp only [oS]
   cases ha : F8 p m s with
   | none => rfl
   | some x => rw [ho x ha]; rfl
theorem NQ (N : Nat) (hN : N ≤ 1000000) (h20 : 100 ≤ N) {p : Aa} {m : Ac} (hp : Bc p) (hm : BX p m) {s : Ad} (hv : GX s = true) (hx : F7 p s = true) :
  CX N p m s = some (match F8 p m s with | none => (Ir, false) | some x => (x, true)) := by
 obtain ⟨k1, k4, i0, v0, vk⟩ := IE hv
 obtain ⟨x3, xn, x1⟩ := JC hx
 have hnv := hp.nv
 have hnt := hp.nt
 have hb := hm.base
 have hn := hm.next
 have hh := hm.held
 obtain ⟨i, hi⟩ := zA7 i0
 unfold CX F8
 rw [Au (by simp [C5]; omega), Au (by simp [C5]; omega), Au (by simp [C5]; omega)]
 simp only [Bh, zG0]
 by_cases hk1 : s.ff = 1
 ·have hi1 : (i : Int) < p.fa.length := by have := xn (by omega); omega
  rw [beq_iff_eq.2 hk1, AQ, if_pos hk1]
  simp only [hi, zB3]
  rw [Da (d := 0) (show i < m.fb.length by omega)]
  simp only [oS]
  by_cases c1 : 0 ≤ m.fb.getD i 0
  ·rw [AB c1, AQ, if_pos (.inl c1)]; rfl
  ·rw [Ay c1, Da (d := 0) (show i < m.fd.length by omega)]
   simp only [oS]
   by_cases c2 : m.fd.getD i 0 = s.fo
   ·rw [beq_iff_eq.2 c2.symm, AQ, if_pos (.inr c2)]; rfl
   ·rw [beq_eq_false_iff_ne.2 (fun h => c2 h.symm), Al, PM N p s m.fe v0 hh (by omega) hN _, if_neg (by rintro (h | h); exact c1 h; exact c2 h)]
 ·rw [beq_eq_false_iff_ne.2 hk1, Al, if_neg hk1]
  by_cases hk3 : s.ff = 3
  ·have hi3 : i < p.fc.length := by have := x3 hk3; omega
   have ht : p.fc[i]? = some p.fc[i] := by simp [hi3]
   have hin := JI (hp.tab _ (lM ht))
   have eh' : Bj m.fe (i : Int) = some (m.fe.getD i 0) := Da (by omega)
   rw [beq_eq_false_iff_ne.2 (show s.ff ≠ 2 by omega), Al, beq_iff_eq.2 hk3, AQ, if_pos hk3, hi, AT, ht]
   simp only [oS, HA, zB3, ht]
   cases hs : B1 p.fc[i]
   ·rw [zE0, AQ, if_pos (.inl rfl)]; rfl
   ·rw [zC0, Al, KP N m _ hin.1 (by omega) (by omega) (hm.b0 _ (by omega)).1, eh']
    simp only [oS]
    by_cases h1 : m.fe.getD i 0 = HG m (p.fc[i]).fg.toNat
    ·rw [beq_iff_eq.2 h1, AQ, if_pos (.inr (.inl h1))]; rfl
    ·rw [beq_eq_false_iff_ne.2 h1, Al]
     rw [Po N hN h20 hp hm ht hs s hi]
     cases hst : I8 p m i p.fc[i]
     ·rw [if_neg (by simp), if_neg (by rintro (h | h | h); cases h; exact h1 h; cases h)]
     ·rw [if_pos rfl, if_pos (.inr (.inr rfl))]
  ·have hi1 : (i : Int) < p.fa.length := by have := xn hk3; omega
   rw [if_neg hk3, hi, Da (d := 0) (show i < m.fb.length by omega)]
   simp only [oS, zB3]
   by_cases hk2 : s.ff = 2
   ·rw [beq_iff_eq.2 hk2, AQ, if_pos hk2]
    by_cases c1 : m.fb.getD i 0 < 0
    ·rw [AB c1, if_pos c1]; rfl
    ·rw [Ay c1, if_neg c1, Da (d := 0) (show i < m.fd.length by omega)]; rfl
   ·rw [beq_eq_false_iff_ne.2 hk2, Al, beq_eq_false_iff_ne.2 hk3, Al, if_neg hk2]
    by_cases c1 : m.fb.getD i 0 < 0
    ·rw [AB c1, if_pos c1]; rfl
    ·rw [Ay c1, if_neg c1]
end Go.Lift
namespace Go.Lift
open Option renaming bind_some → oS
open List renaming mem_of_getElem? → lM
open List renaming getElem?_eq_some_iff → lI
open Go
theorem Sy (s : Ad) : ∀ (xs : List An) (i : Nat) (a : List Int), i + xs.length ≤ a.length → (Jb (VZ s) i xs a).length = a.length ∧ ∀ q, (Jb (VZ s) i xs a).getD q 0 = match (if i ≤ q then xs[q - i]? else none) with
  | some t => if Vk s t = true then P0 .u8 (a.getD q 0) (DX .u8 1 s.fo) else a.getD q 0
  | none => a.getD q 0
 | [], i, a, _ => by
  refine ⟨rfl, fun q => ?_⟩
  split
  ·rename_i h; split at h
   ·simp at h
   ·cases h
  ·rfl
 | x :: xs, i, a, hl => by
  have hl' : i + (xs.length + 1) ≤ a.length := by simpa using hl
  have ha : (VZ s i x a).length = a.length := by unfold VZ; split <;> simp
  obtain ⟨ih1, ih2⟩ := Sy s xs (i + 1) (VZ s i x a) (by omega)
  refine ⟨by rw [Jb, ih1, ha], fun q => ?_⟩
  rw [Jb, ih2 q]
  have hu : (VZ s i x a).getD q 0 = if q = i ∧ Vk s x = true then P0 .u8 (a.getD q 0) (DX .u8 1 s.fo) else a.getD q 0 := by
   unfold VZ
   by_cases hc : Vk s x = true
   ·rw [if_pos hc, J0 (by omega)]
    by_cases hq : q = i
    ·subst hq; rw [if_pos rfl, if_pos ⟨rfl, hc⟩]
    ·rw [if_neg hq, if_neg (fun h => hq h.1)]
   ·rw [if_neg hc, if_neg (fun h => hc h.2)]
  by_cases h1 : i + 1 ≤ q
  ·rw [if_pos h1, if_pos (show i ≤ q by omega), hu, if_neg (by omega)]
   rw [show (x :: xs)[q - i]? = xs[q - (i + 1)]? from by rw [show q - i = (q - (i + 1)) + 1 from by omega, List.getElem?_cons_succ]]
  ·rw [if_neg h1]
   by_cases h2 : q = i
   ·subst h2
    rw [if_pos (zB0 _), zJ4, hu]
    simp
   ·rw [if_neg (show ¬ i ≤ q by omega), hu, if_neg (by omega)]
theorem VQ {p : Aa} {s : Ad} {held : List Int} (hl : held.length = p.fc.length) : (J2 p s held).length = p.fc.length ∧ ∀ q t, p.fc[q]? = some t → (J2 p s held).getD q 0 = if Vk s t = true then P0 .u8 (held.getD q 0) (DX .u8 1 s.fo) else held.getD q 0 := by
 obtain ⟨h1, h2⟩ := Sy s p.fc 0 held (by omega)
 refine ⟨h1.trans hl, fun q t ht => ?_⟩
 have := h2 q
 rw [if_pos (zA8 _), Nat.sub_zero, ht] at this
 exact this
theorem O5 {m : Ac} {s v : Nat} : Jx m s v = true ↔ m.fd.getD s 0 = (v : Int) ∨ m.fb.getD s 0 = (v : Int) := by
 unfold Jx; rw [zG1, decide_eq_true_iff, decide_eq_true_iff]
theorem XM {p : Aa} {m x : Ac} (hp : Bc p) (hm : BX p m) {s : Ad} (hv : GX s = true) (hx : F7 p s = true) (h : F8 p m s = some x) : BX p x := by
 obtain ⟨k1, k4, i0, v0, vk⟩ := IE hv
 obtain ⟨x3, xn, x1⟩ := JC hx
 obtain ⟨i, hi⟩ := zA7 i0
 have hb := hm.base
 have hn := hm.next
 have hh := hm.held
 unfold F8 at h
 simp only [hi, zB3] at h
 rw [hi, zB3] at x1
 split at h
 ·rename_i hk1
  have hi1 : i < p.fa.length := by have := xn (by omega); omega
  have hx1 := x1 hk1
  have hvi := I9 hp hi1
  split at h
  ·cases h
  rename_i hc
  cases h
  obtain ⟨u1, u2⟩ := VQ (s := s) hh
  obtain ⟨b, hbv⟩ := zA7 v0
  have hob := YM (b := b) (by omega)
  have hN : ∀ q, (m.fb.set i s.fo).getD q 0 = if q = i then s.fo else m.fb.getD q 0 := fun q => J0 (by omega)
  refine { base := hb, next := by simpa using hn, held := u1, b0 := hm.b0, n0 := fun q hq => ?_, ne := fun q hq => ?_, range := fun q hq => ?_, low := fun q t ht hs v hr => ?_, high := fun q t ht hs v hbit => ?_, none := fun q t ht hs => ?_ }
  ·show -1 ≤ (m.fb.set i s.fo).getD q 0 ∧ (m.fb.set i s.fo).getD q 0 < _
   rw [hN q]
   split
   ·rename_i e; subst e; omega
   ·exact hm.n0 q hq
  ·show m.fd.getD q 0 ≠ (m.fb.set i s.fo).getD q 0
   rw [hN q]
   split
   ·rename_i e; subst e; exact fun h => hc (.inr h)
   ·exact hm.ne q hq
  ·have ht : p.fc[q]? = some p.fc[q] := by simp [hq]
   show 0 ≤ (J2 p s m.fe).getD q 0 ∧ (J2 p s m.fe).getD q 0 ≤ 255
   rw [u2 q _ ht, hbv]
   split
   ·exact (Ue (hm.range q hq) hob.2).2
   ·exact hm.range q hq
  ·have hq := (lI.1 ht).1
   show Ee ((J2 p s m.fe).getD q 0) v = true
   have hin := JI (hp.tab t (lM ht))
   rw [O5] at hr
   have hr : m.fd.getD t.fg.toNat 0 = (v : Int) ∨ (m.fb.set i s.fo).getD t.fg.toNat 0 = (v : Int) := hr
   rw [hN] at hr
   rw [u2 q t ht, hbv]
   have hlow := hm.low q t ht hs v
   rw [O5] at hlow
   by_cases hf : t.fg.toNat = i
   ·have hup : Vk s t = true := by unfold Vk; rw [hs, zK9, beq_iff_eq, hi]; omega
    rw [if_pos hup, (Ue (hm.range q hq) hob.2).1, hob.1 v, zG1, decide_eq_true_iff]
    rw [if_pos hf] at hr
    rcases hr with h | h
    ·exact .inl (hlow (.inl h))
    ·right; omega
   ·rw [if_neg hf] at hr
    have hup : Vk s t = false := by unfold Vk; rw [hs, zK9, beq_eq_false_iff_ne, hi]; omega
    rw [hup, if_neg (by simp)]
    exact hlow hr
  ·have hq := (lI.1 ht).1
   have hbit : Ee ((J2 p s m.fe).getD q 0) v = true := hbit
   have hin := JI (hp.tab t (lM ht))
   rw [u2 q t ht, hbv] at hbit
   split at hbit
   ·rename_i hup
    rw [(Ue (hm.range q hq) hob.2).1, hob.1 v, zG1, decide_eq_true_iff] at hbit
    rcases hbit with h | h
    ·exact hm.high q t ht hs v h
    ·unfold Vk at hup
     rw [hs, zK9, beq_iff_eq, hi] at hup
     rw [hup, zB3]; omega
   ·exact hm.high q t ht hs v hbit
  ·show (J2 p s m.fe).getD q 0 = 0
   have hup : Vk s t = false := by unfold Vk; rw [hs, Bool.and_false]
   rw [u2 q t ht, hup, if_neg (by simp)]
   exact hm.none q t ht hs
 ·rename_i hk1
  split at h
  ·rename_i hk3
   have hi3 : i < p.fc.length := by have := x3 hk3; omega
   have ht0 : p.fc[i]? = some p.fc[i] := by simp [hi3]
   rw [ht0] at h
   simp only at h
   split at h
   ·cases h
   rename_i hc
   cases h
   have hin0 := JI (hp.tab _ (lM ht0))
   have hr0 := IZ hp hm.toMixServ (s := (p.fc[i]).fg.toNat) (by omega)
   have hs0 : B1 p.fc[i] = true := by
    cases hs : B1 p.fc[i]
    ·exact (hc (.inl hs)).elim
    ·rfl
   have hH : ∀ q, (m.fe.set i (HG m (p.fc[i]).fg.toNat)).getD q 0 = if q = i then HG m (p.fc[i]).fg.toNat else m.fe.getD q 0 := fun q => J0 (by omega)
   refine { base := hb, next := hn, held := by simpa using hh, b0 := hm.b0, n0 := hm.n0, ne := hm.ne, range := fun q hq => ?_, low := fun q t ht hs v hr => ?_, high := fun q t ht hs v hbit => ?_, none := fun q t ht hs => ?_ }
   ·show 0 ≤ (m.fe.set i (HG m (p.fc[i]).fg.toNat)).getD q 0 ∧ (m.fe.set i (HG m (p.fc[i]).fg.toNat)).getD q 0 ≤ 255
    rw [hH q]
    split
    ·exact hr0.2
    ·exact hm.range q hq
   ·show Ee ((m.fe.set i (HG m (p.fc[i]).fg.toNat)).getD q 0) v = true
    have hr : Jx m t.fg.toNat v = true := hr
    rw [hH q]
    split
    ·rename_i e; subst e
     rw [ht0] at ht; cases ht
     rw [hr0.1]; exact hr
    ·exact hm.low q t ht hs v hr
   ·have hbit : Ee ((m.fe.set i (HG m (p.fc[i]).fg.toNat)).getD q 0) v = true := hbit
    rw [hH q] at hbit
    split at hbit
    ·rename_i e; subst e
     rw [ht0] at ht; cases ht
     rw [hr0.1] at hbit
     exact hm.high q _ ht0 hs0 v (hm.low q _ ht0 hs0 v hbit)
    ·exact hm.high q t ht hs v hbit
   ·show (m.fe.set i (HG m (p.fc[i]).fg.toNat)).getD q 0 = 0
    rw [hH q, if_neg (fun e => by subst e; rw [ht0] at ht; cases ht; rw [hs0] at hs; cases hs)]
    exact hm.none q t ht hs
  ·rename_i hk3
   have hi1 : i < p.fa.length := by have := xn hk3; omega
   have hvi := I9 hp hi1
   split at h
   ·cases h
   rename_i hc
   cases h
   have hN : ∀ q, (m.fb.set i (-1)).getD q 0 = if q = i then -1 else m.fb.getD q 0 := fun q => J0 (by omega)
   have hB : ∀ q, (if s.ff = 2 then m.fd.set i (m.fb.getD i 0) else m.fd).getD q 0 = if s.ff = 2 ∧ q = i then m.fb.getD i 0 else m.fd.getD q 0 := fun q => by
    by_cases hk2 : s.ff = 2
    ·rw [if_pos hk2, J0 (by omega)]
     by_cases e : q = i
     ·rw [if_pos e, if_pos ⟨hk2, e⟩]
     ·rw [if_neg e, if_neg (fun h => e h.2)]
    ·rw [if_neg hk2, if_neg (fun h => hk2 h.1)]
   have hrun : ∀ q v, Jx ⟨if s.ff = 2 then m.fd.set i (m.fb.getD i 0) else m.fd, m.fb.set i (-1), m.fe⟩ q v = true → Jx m q v = true := fun q v hr => by
    rw [O5] at hr ⊢
    simp only [hN q, hB q] at hr
    by_cases e : q = i
    ·subst e
     rw [if_pos rfl] at hr
     by_cases hk2 : s.ff = 2
     ·rw [if_pos ⟨hk2, rfl⟩] at hr; omega
     ·rw [if_neg (fun h => hk2 h.1)] at hr; omega
    ·rw [if_neg e, if_neg (fun h => e h.2)] at hr; exact hr
   refine { base := by simp only; split <;> simp [hb], next := by simpa using hn, held := hh, b0 := fun q hq => ?_, n0 := fun q hq => ?_, ne := fun q hq => ?_, range := hm.range, low := fun q t ht hs v hr => hm.low q t ht hs v (hrun _ _ hr), high := hm.high, none := hm.none }
   ·simp only [hB q]
    split
    ·rename_i e; obtain ⟨_, e⟩ := e; subst e
     have := hm.n0 q hq
     omega
    ·exact hm.b0 q hq
   ·simp only [hN q]
    split
    ·rename_i e; subst e; omega
    ·exact hm.n0 q hq
   ·simp only [hB q, hN q]
    have h1 := hm.b0 q hq
    by_cases e : q = i
    ·rw [if_pos e]
     split
     ·rename_i e2; obtain ⟨_, e2⟩ := e2; subst e2; omega
     ·omega
    ·rw [if_neg e, if_neg (fun h => e h.2)]; exact hm.ne q hq
theorem RU (N : Nat) (hN : N ≤ 1000000) (h20 : 100 ≤ N) {p : Aa} {m : Ac} (hw : OQ Mf m.fe) (s : Ad) : E7 N p m s = some (if F9 p m = 0 then A5 p m s else (Ir, F9 p m)) := by
 unfold E7 A5
 rw [Js N p m hN (by omega)]
 simp only [oS, Bh]
 by_cases hval : F9 p m = 0
 ·obtain ⟨hp, hm⟩ := KF hw hval
  rw [if_pos hval, hval, bne_self_eq_false, Al, Rz]
  simp only [oS]
  cases hv : GX s
  ·rw [zE0, AQ, if_pos rfl]; rfl
  ·rw [zC0, Al, if_neg (by simp)]
   obtain ⟨k1, k4, i0, v0, vk⟩ := IE hv
   have key : ∀ b : Bool, F7 p s = b → (if b = false then (Ir, (4 : Int)) else match F8 p m s with | none => (Ir, 11) | some x => (x, 0)) = (if b = false then (Ir, (4 : Int)) else match F8 p m s with | none => (Ir, 11) | some x => (x, 0)) := fun _ _ => rfl
   have tail : F7 p s = true → ((CX N p m s).bind fun v15 => AP (!v15.2) (some (Ac.mk [] [] [], (11 : Int))) (some (v15.1, 0))) = some (match F8 p m s with | none => (Ir, 11) | some x => (x, 0)) := fun hx => by
    rw [NQ N hN h20 hp hm hv hx]
    cases F8 p m s <;> rfl
   have zz : (Ac.mk [] [] [], (4 : Int)) = (Ir, 4) := rfl
   by_cases hk3 : s.ff = 3
   ·rw [beq_iff_eq.2 hk3, AQ, show (s.ff != 3) = false from by rw [hk3]; rfl]
    have hX : F7 p s = decide (s.fh < (p.fc.length : Int)) := by unfold F7; rw [if_pos hk3]
    by_cases c : (p.fc.length : Int) ≤ s.fh
    ·rw [AB c, AQ, hX, decide_eq_false (by omega), if_pos rfl]; rfl
    ·have hx : F7 p s = true := by rw [hX, decide_eq_true (by omega)]
     rw [Ay c, Al, Al, beq_eq_false_iff_ne.2 (show s.ff ≠ 1 by omega), Al, Al, hx, if_neg (by simp)]
     exact tail hx
   ·rw [beq_eq_false_iff_ne.2 hk3, Al, bne_iff_ne.2 hk3, AQ]
    have hX : F7 p s = (decide (s.fh < (p.fa.length : Int)) && (s.ff != 1 || decide (s.fo < p.fa.getD s.fh.toNat 0))) := by unfold F7; rw [if_neg hk3]
    by_cases c : (p.fa.length : Int) ≤ s.fh
    ·rw [decide_eq_true c, AQ, hX, decide_eq_false (show ¬ s.fh < (p.fa.length : Int) by omega), zK2, if_pos rfl]; rfl
    ·rw [decide_eq_false c, Al]
     by_cases hk1 : s.ff = 1
     ·rw [beq_iff_eq.2 hk1, AQ, Ei (d := 0) i0 (by omega)]
      simp only [oS]
      by_cases c2 : p.fa.getD s.fh.toNat 0 ≤ s.fo
      ·rw [decide_eq_true c2, AQ, hX, decide_eq_false (show ¬ s.fo < p.fa.getD s.fh.toNat 0 by omega), show (s.ff != 1) = false from by rw [hk1]; rfl, zJ7, Bool.and_false, if_pos rfl]; rfl
      ·have hx : F7 p s = true := by rw [hX, decide_eq_true (by omega), decide_eq_true (by omega), zL5]; rfl
       rw [decide_eq_false c2, Al, hx, if_neg (by simp)]
       exact tail hx
     ·have hx : F7 p s = true := by rw [hX, decide_eq_true (by omega), bne_iff_ne.2 hk1]; rfl
      rw [beq_eq_false_iff_ne.2 hk1, Al, Al, hx, if_neg (by simp)]
      exact tail hx
 ·rw [if_neg hval, bne_iff_ne.2 hval, AQ]; rfl
theorem Qp (N : Nat) (hN : N ≤ 1000000) (h20 : 100 ≤ N) {p : Aa} {m : Ac} (hw : OQ Mf m.fe) (s : Ad) : HB N p m s = some (if F9 p m = 0 then A5 p m s else (Ir, F9 p m)) := by
 unfold HB
 rw [Jn N p m hN (by omega) hw]
 simp only [oS]
 by_cases hval : F9 p m = 0
 ·obtain ⟨hp, hm⟩ := KF hw hval
  rw [if_pos hval, hval, bne_self_eq_false, Al, P3 N hN h20 hp hm s]; rfl
 ·rw [if_neg hval, bne_iff_ne.2 hval, AQ]; rfl
theorem L6 {p : Aa} {m : Ac} (hp : Bc p) (hm : BX p m) {s : Ad} (h : (A5 p m s).2 = 0) : BX p (A5 p m s).1 := by
 unfold A5 at h ⊢
 split at h
 ·cases h
 rename_i h1
 rw [if_neg h1]
 split at h
 ·cases h
 rename_i h2
 rw [if_neg h2]
 cases ha : F8 p m s with
 | none => rw [ha] at h; cases h
 | some x => exact XM hp hm (by simpa using h1) (by simpa using h2) ha
end Go.Lift
namespace Go.Lift
open Go
section
variable {N : Nat} {p : Aa} {l : List Ad}
end
end Go.Lift
namespace Go.Lift
open Go
def Nr (p : Aa) (m : Ac) (s : Ad) : Option Ac := if (A5 p m s).2 = 0 ∧ s.ff ≠ 4 ∧ BA p (A5 p m s).1 = true then some (A5 p m s).1 else none
def PR (p : Aa) : Ac → List Ad → Option Ac
 | m, [] => some m
 | m, s :: l => (Nr p m s).bind fun x => PR p x l
def M5 (p : Aa) (m : Ac) (l : List Ad) : Bool := match PR p m l with
 | some x => Ie p x
 | none => false
theorem VJ {p : Aa} {m x : Ac} {s : Ad} : Nr p m s = some x ↔ GX s = true ∧ F7 p s = true ∧ F8 p m s = some x ∧ s.ff ≠ 4 ∧ BA p x = true := by
 unfold Nr A5
 cases h1 : GX s
 ·simp
 cases h2 : F7 p s
 ·simp
 cases h3 : F8 p m s with
 | none => simp
 | some y =>
  simp only [Bool.true_eq_false, if_false, true_and, Option.some.injEq]
  constructor
  ·intro h
   split at h
   ·rename_i hc; cases h; exact ⟨rfl, hc.1, hc.2⟩
   ·cases h
  ·rintro ⟨rfl, h4, h5⟩
   rw [if_pos ⟨h4, h5⟩]
theorem QL {p : Aa} {m : Ac} {l : List Ad} (h : M5 p m l = true) : ∃ x, PR p m l = some x ∧ Ie p x = true := by
 unfold M5 at h
 cases hr : PR p m l with
 | none => rw [hr] at h; cases h
 | some x => rw [hr] at h; exact ⟨x, rfl, h⟩
end Go.Lift
namespace Go.Lift
open IntKind renaming wrap → wI
open Option renaming bind_some → oS
open List renaming getElem?_eq_some_iff → lI
open List renaming getD_eq_getElem?_getD → lD
open Go
def GV (m : Ac) (i : Nat) (b : Int) : List Int := [wI .u8 b, wI .u8 (wI .i64 (m.fb.getD i 0 + 1))]
def LP (m : Ac) : List Int := CF (GV m) 0 m.fd ++ m.fe
theorem XB (N : Nat) (hN : N ≤ 1000000) (h20 : 100 ≤ N) {p : Aa} {m : Ac} (hp : Bc p) (hm : BX p m) : H2 N m = some (CI (LP m)) := by
 have hnv := hp.nv
 have hnt := hp.nt
 have hb := hm.base
 have hn := hm.next
 have hh := hm.held
 unfold H2
 have e1 : wI .i64 (2 * (m.fd.length : Int)) = 2 * (m.fd.length : Int) := CO (by omega) (by omega)
 rw [e1, CO (n := 2 * (m.fd.length : Int) + (m.fe.length : Int)) (by omega) (by omega), Au ⟨Int.le_refl 0, by omega, by simp only [C5]; omega⟩]
 have l1 := FK (EY N m fun v3 => DY N m (fun v9 => some (CI v9)) N (v3, 0)) (fun a i => (a, i)) m.fd (fun v3 => DY N m (fun v9 => some (CI v9)) N (v3, 0)) (GV m) 2 100
  (fun i x hx => by simp [GV])
  (fun n i x a hx hl => by
   have hi := (lI.1 hx).1
   rw [EY, AB (by simp only; omega)]
   simp only [AT, hx, oS, AF (show i < 1000000 by omega)]
   have e2 : m.fb[i]? = some (m.fb.getD i 0) := by rw [lD]; simp [show i < m.fb.length by omega]
   rw [e2]
   simp only [oS]
   rw [Au (by simp [C5]; simp [GV] at hl; omega)]
   rfl)
  (fun n a => by rw [EY, Ay (by simp)]) N [] (by omega) (by simp; omega)
 have l1' : EY N m (fun v3 => DY N m (fun v9 => some (CI v9)) N (v3, 0)) N (zA5 (0 : Int).toNat (0 : Int), 0) = _ := l1
 rw [l1', zG0]
 have hfl : (CF (GV m) 0 m.fd).length ≤ 2 * m.fd.length := Gj fun j x hx => by simp [GV]
 have l2 := FK (DY N m fun v9 => some (CI v9)) (fun a i => (a, i)) m.fe (fun v9 => some (CI v9)) (fun _ x => [x]) 1 100
  (fun i x hx => by simp)
  (fun n i x a hx hl => by
   have hi := (lI.1 hx).1
   rw [DY, AB (by simp only; omega)]
   simp only [AT, hx, oS, AF (show i < 1000000 by omega)]
   rw [Au (by simp [C5]; simp at hl; omega)])
  (fun n a => by rw [DY, Ay (by simp)]) N (CF (GV m) 0 m.fd) (by omega) (by omega)
 have e3 : ∀ (i : Nat) (l : List Int), CF (fun _ (x : Int) => [x]) i l = l := by
  intro i l
  induction l generalizing i with
  | nil => rfl
  | cons x l ih => rw [CF, ih]; rfl
 refine l2.trans ?_
 rw [e3]; rfl
theorem TU (xs : List Int) : ∀ b : ByteArray, (xs.foldl (fun s n => s.push (UInt8.ofNat n.toNat)) b).data.toList = b.data.toList ++ xs.map fun n => UInt8.ofNat n.toNat := by
 induction xs with
 | nil => intro b; simp
 | cons x xs ih => intro b; rw [List.foldl_cons, ih]; simp [ByteArray.push]
theorem Nj (xs : List Int) : (CI xs).data.toList = xs.map fun n => UInt8.ofNat n.toNat := by
 unfold CI
 rw [TU]; rfl
theorem aJ {a b : Int} (ha : 0 ≤ a ∧ a ≤ 255) (hb : 0 ≤ b ∧ b ≤ 255) (h : UInt8.ofNat a.toNat = UInt8.ofNat b.toNat) : a = b := by
 have := congrArg UInt8.toNat h
 simp at this
 omega
theorem PD : ∀ {xs ys : List Int}, (∀ x, x ∈ xs → 0 ≤ x ∧ x ≤ 255) → (∀ x, x ∈ ys → 0 ≤ x ∧ x ≤ 255) → (xs.map fun n => UInt8.ofNat n.toNat) = (ys.map fun n => UInt8.ofNat n.toNat) → xs = ys
 | [], [], _, _, _ => rfl
 | [], _ :: _, _, _, h => by cases h
 | _ :: _, [], _, _, h => by cases h
 | x :: xs, y :: ys, hx, hy, h => by
  rw [zC5, zC5, List.cons.injEq] at h
  rw [aJ (hx x (by simp)) (hy y (by simp)) h.1, PD (fun z hz => hx z (zH0 _ hz)) (fun z hz => hy z (zH0 _ hz)) h.2]
theorem TM {xs ys : List Int} (hx : ∀ x, x ∈ xs → 0 ≤ x ∧ x ≤ 255) (hy : ∀ x, x ∈ ys → 0 ≤ x ∧ x ≤ 255) (h : (CI xs == CI ys) = true) : xs = ys := by
 rw [Kr, beq_iff_eq] at h
 have h := congrArg Array.toList h
 rw [Nj, Nj] at h
 exact PD hx hy h
theorem Sc (xs : List Int) : (CI xs == CI xs) = true := by rw [Kr]; simp
theorem QU {α β : Type} {g h : Nat → α → List β} {c : Nat} : ∀ {i : Nat} {xs ys : List α}, xs.length = ys.length → (∀ i x, (g i x).length = c) → (∀ i x, (h i x).length = c) → CF g i xs = CF h i ys → ∀ j x y, xs[j]? = some x → ys[j]? = some y → g (i + j) x = h (i + j) y
 | i, [], ys, _, _, _, _, j, x, y, hx, _ => by simp at hx
 | i, x :: xs, [], hl, _, _, _, _, _, _, _, _ => by simp at hl
 | i, x :: xs, y :: ys, hl, hg, hh, e, j, x', y', hx, hy => by
  rw [CF, CF] at e
  have e1 := List.append_inj e ((hg i x).trans (hh i y).symm)
  cases j with
  | zero => simp at hx hy; subst hx; subst hy; exact e1.1
  | succ j =>
   have := QU (i := i + 1) (by simpa using hl) hg hh e1.2 j x' y' (by simpa using hx) (by simpa using hy)
   rwa [show i + 1 + j = i + (j + 1) from by omega] at this
theorem QX {p : Aa} {m : Ac} (_hp : Bc p) (hm : BX p m) : ∀ x, x ∈ LP m → 0 ≤ x ∧ x ≤ 255 := by
 intro x hx
 unfold LP at hx
 rcases zC2.1 hx with h | h
 ·obtain ⟨j, b, hb, hk⟩ := Hf.1 h
  have hw : ∀ n : Int, 0 ≤ wI .u8 n ∧ wI .u8 n ≤ 255 := fun n => by
   simp [wI, IntKind.signed, IntKind.bits]; omega
  unfold GV at hk
  rcases zB2.1 hk with e | e
  ·subst e; exact hw _
  ·rcases zB2.1 e with e | e
   ·subst e; exact hw _
   ·cases e
 ·obtain ⟨j, hj⟩ := zB4.1 h
  have hl := (lI.1 hj).1
  have := hm.range j (by rw [← hm.held]; exact hl)
  rw [lD, hj] at this
  exact this
theorem IM {n : Int} (h : 0 ≤ n ∧ n ≤ 255) : wI .u8 n = n := by
 simp [wI, IntKind.signed, IntKind.bits]; omega
theorem Yx {p : Aa} {m x : Ac} (hp : Bc p) (hm : BX p m) (hx : BX p x) (h : (CI (LP m) == CI (LP x)) = true) : m = x := by
 have e := TM (QX hp hm) (QX hp hx) h
 unfold LP at e
 have hbl : m.fd.length = x.fd.length := hm.base.trans hx.base.symm
 have hfl : ∀ y : Ac, (CF (GV y) 0 y.fd).length = 2 * y.fd.length := fun y => by
  have : ∀ (i : Nat) (l : List Int), (CF (GV y) i l).length = 2 * l.length := by
   intro i l
   induction l generalizing i with
   | nil => rfl
   | cons b l ih => rw [CF, zB6, ih, zC3]; simp [GV]; omega
  exact this 0 _
 obtain ⟨e1, e2⟩ := List.append_inj e (by rw [hfl, hfl, hbl])
 have key : ∀ j, j < p.fa.length → m.fd.getD j 0 = x.fd.getD j 0 ∧ m.fb.getD j 0 = x.fb.getD j 0 := fun j hj => by
  have h1 : m.fd[j]? = some (m.fd.getD j 0) := by rw [lD]; simp [hm.base, hj]
  have h2 : x.fd[j]? = some (x.fd.getD j 0) := by rw [lD]; simp [hx.base, hj]
  have h3 := QU (c := 2) hbl (fun _ _ => by simp [GV]) (fun _ _ => by simp [GV]) e1 j _ _ h1 h2
  rw [zA1] at h3
  have v := I9 hp hj
  have b1 := hm.b0 j hj
  have b2 := hx.b0 j hj
  have n1 := hm.n0 j hj
  have n2 := hx.n0 j hj
  unfold GV at h3
  rw [CO (n := m.fb.getD j 0 + 1) (by omega) (by omega), CO (n := x.fb.getD j 0 + 1) (by omega) (by omega), IM (n := m.fd.getD j 0) (by omega), IM (n := x.fd.getD j 0) (by omega), IM (n := m.fb.getD j 0 + 1) (by omega), IM (n := x.fb.getD j 0 + 1) (by omega), List.cons.injEq, List.cons.injEq] at h3
  exact ⟨h3.1, by omega⟩
 have hB : m.fd = x.fd := F4 hbl fun q hq => (key q (by rw [← hm.base]; exact hq)).1
 have hN : m.fb = x.fb := F4 (hm.next.trans hx.next.symm) fun q hq => (key q (by rw [← hm.next]; exact hq)).2
 cases m; cases x
 simp only at hB hN e2
 rw [hB, hN, e2]
end Go.Lift
namespace Go.Lift
open Option renaming bind_some → oS
open List renaming mem_of_getElem? → lM
open List renaming getElem?_eq_some_iff → lI
open Go
def J9 (i : Nat) (n : Int) : List Ad := (zB1 n.toNat).map fun v => ⟨1, (i : Int), ((v : Nat) : Int), ⟩
def E1 (p : Aa) : List Ad := CF J9 0 p.fa ++ ((zB1 p.fa.length).map fun i => (⟨2, ((i : Nat) : Int), 0⟩ : Ad)) ++ ((zB1 p.fc.length).map fun i => (⟨3, ((i : Nat) : Int), 0⟩ : Ad))
def Gd (p : Aa) (m : Ac) : List Ad := (E1 p).filter fun s => (A5 p m s).2 == 0
theorem U5 {p : Aa} (hp : Bc p) : (E1 p).length ≤ 54 := by
 have h1 : (CF J9 0 p.fa).length ≤ 6 * p.fa.length := Gj fun j x hx => by
  have := hp.ver x (lM hx)
  simp [J9]; omega
 have := hp.nv
 have := hp.nt
 unfold E1
 simp only [zB6, zA9, zH5]
 omega
theorem TJ (N : Nat) (hN : N ≤ 1000000) (h20 : 100 ≤ N) {p : Aa} (hp : Bc p) : IQ N p = some (E1 p) := by
 have hnv := hp.nv
 have hnt := hp.nt
 unfold IQ
 have l1 := FK (Dx N p fun v2 => Ct N p (fun v10 => Bw N p (fun v14 => some v14) N (v10, 0)) N (v2, 0)) (fun a i => (a, i)) p.fa (fun v2 => Ct N p (fun v10 => Bw N p (fun v14 => some v14) N (v10, 0)) N (v2, 0)) J9 6 100
  (fun i x hx => by have := hp.ver x (lM hx); simp [J9]; omega)
  (fun n i x a hx hl => by
   have hi := (lI.1 hx).1
   have hx6 := hp.ver x (lM hx)
   obtain ⟨k, hk⟩ := zA7 (show 0 ≤ x by omega)
   rw [Dx, AB (by simp only; omega)]
   simp only [AT, hx, oS, AF (show i < 1000000 by omega)]
   subst hk
   obtain ⟨a', e, ha⟩ := FC (E4 N (a, (i : Int)) (k : Int) fun v6 => Dx N p (fun v2 => Ct N p (fun v10 => Bw N p (fun v14 => some v14) N (v10, 0)) N (v2, 0)) n (v6, ((i + 1 : Nat) : Int))) (fun b v => (b, v)) k (fun v6 => Dx N p (fun v2 => Ct N p (fun v10 => Bw N p (fun v14 => some v14) N (v10, 0)) N (v2, 0)) n (v6, ((i + 1 : Nat) : Int)))
    (fun v b => b = a ++ (zB1 v).map fun v => (⟨1, (i : Int), ((v : Nat) : Int)⟩ : Ad))
    (fun n v b hv hb => by
     subst hb
     rw [E4, AB (by simp only; omega), Au (by simp [C5]; simp [J9] at hl; omega), AF (by omega)]
     exact ⟨_, rfl, by rw [zG7, zE6, zD1]; rfl⟩)
    (fun n b hb => by rw [E4, Ay (by simp)]) N 0 a (zA8 _) (by omega) (by simp)
   have e' : E4 N (a, (i : Int)) (k : Int) (fun v6 => Dx N p (fun v2 => Ct N p (fun v10 => Bw N p (fun v14 => some v14) N (v10, 0)) N (v2, 0)) n (v6, ((i + 1 : Nat) : Int))) N (a, 0) = _ := e
   rw [e', ha]; rfl)
  (fun n a => by rw [Dx, Ay (by simp)]) N [] (by omega) (by simp; omega)
 have l1' : Dx N p (fun v2 => Ct N p (fun v10 => Bw N p (fun v14 => some v14) N (v10, 0)) N (v2, 0)) N (([] : List Ad), 0) = _ := l1
 rw [l1', zG0]
 have hA : (CF J9 0 p.fa).length ≤ 6 * p.fa.length := Gj fun j x hx => by
  have := hp.ver x (lM hx)
  simp [J9]; omega
 generalize hAe : CF J9 0 p.fa = A at hA
 obtain ⟨b', e2, hb⟩ := FC (Ct N p fun v10 => Bw N p (fun v14 => some v14) N (v10, 0)) (fun b v => (b, v)) p.fa.length (fun v10 => Bw N p (fun v14 => some v14) N (v10, 0))
  (fun v b => b = A ++ (zB1 v).map fun i => (⟨2, ((i : Nat) : Int), 0⟩ : Ad))
  (fun n v b hv hb => by
   subst hb
   rw [Ct, AB (by simp only; omega), Au (by simp [C5]; omega), AF (by omega)]
   exact ⟨_, rfl, by rw [zG7, zE6, zD1]; rfl⟩)
  (fun n b hb => by rw [Ct, Ay (by simp)]) N 0 A (zA8 _) (by omega) (by simp)
 have e2' : Ct N p (fun v10 => Bw N p (fun v14 => some v14) N (v10, 0)) N (A, 0) = _ := e2
 rw [e2', hb]
 generalize hBe : A ++ (zB1 p.fa.length).map (fun i => (⟨2, ((i : Nat) : Int), 0⟩ : Ad)) = B
 have hB : B.length ≤ 50 := by rw [← hBe]; simp; omega
 obtain ⟨c', e3, hc⟩ := FC (Bw N p fun v14 => some v14) (fun b v => (b, v)) p.fc.length (fun v14 => some v14)
  (fun v b => b = B ++ (zB1 v).map fun i => (⟨3, ((i : Nat) : Int), 0⟩ : Ad))
  (fun n v b hv hb => by
   subst hb
   rw [Bw, AB (by simp only; omega), Au (by simp [C5]; omega), AF (by omega)]
   exact ⟨_, rfl, by rw [zG7, zE6, zD1]; rfl⟩)
  (fun n b hb => by rw [Bw, Ay (by simp)]) N 0 B (zA8 _) (by omega) (by simp)
 have e3' : Bw N p (fun v14 => some v14) N (B, 0) = _ := e3
 rw [e3', hc, ← hBe, ← hAe]; rfl
end Go.Lift
namespace Go.Lift
open Option renaming bind_some → oS
open List renaming mem_of_getElem? → lM
open List renaming getElem?_eq_some_iff → lI
open List renaming getD_eq_getElem?_getD → lD
open Go
theorem Oe {p : Aa} (hp : Bc p) {s : Ad} (h : s ∈ E1 p) : GX s = true ∧ F7 p s = true := by
 have hnv := hp.nv
 unfold E1 at h
 rcases zC2.1 h with h | h
 ·rcases zC2.1 h with h | h
  ·obtain ⟨j, x, hx, hk⟩ := Hf.1 h
   rw [zA1] at hk
   unfold J9 at hk
   obtain ⟨v, hv, rfl⟩ := zB5.1 hk
   have hx6 := hp.ver x (lM hx)
   have hv := zE2.1 hv
   have hj := (lI.1 hx).1
   refine ⟨by unfold GX; simp, ?_⟩
   unfold F7
   have e : p.fa.getD j 0 = x := by rw [lD, hx]; rfl
   simp only
   rw [if_neg (by omega), decide_eq_true (by omega), zB3, e, decide_eq_true (by omega), zL5]; rfl
  ·obtain ⟨v, hv, rfl⟩ := zB5.1 h
   have hv := zE2.1 hv
   refine ⟨by unfold GX; simp, ?_⟩
   unfold F7
   simp only
   rw [if_neg (by omega), decide_eq_true (by omega)]; rfl
 ·obtain ⟨v, hv, rfl⟩ := zB5.1 h
  have hv := zE2.1 hv
  refine ⟨by unfold GX; simp, ?_⟩
  unfold F7
  simp only
  rw [if_pos trivial, decide_eq_true (by omega)]
theorem WA {p : Aa} {m : Ac} {s : Ad} (hv : GX s = true) (hx : F7 p s = true) : ((A5 p m s).2 == 0) = (F8 p m s).isSome := by
 unfold A5
 rw [hv, hx, if_neg (by simp), if_neg (by simp)]
 cases F8 p m s <;> rfl
theorem SY (N : Nat) (hN : N ≤ 1000000) (h20 : 100 ≤ N) {p : Aa} {m : Ac} (hp : Bc p) (hm : BX p m) {s : Ad} (h : s ∈ E1 p) :
  DK N s p.fa p.fi p.fm p.fc m.fd m.fb m.fe = some (!((A5 p m s).2 == 0)) := by
 obtain ⟨hv, hx⟩ := Oe hp h
 unfold DK
 obtain ⟨o, e, _⟩ := MB N hN h20 hp hm hv hx
 have e' : F0 N ⟨p.fa, p.fi, p.fm, p.fc⟩ ⟨m.fd, m.fb, m.fe⟩ s = some (o, (F8 p m s).isSome) := e
 rw [e', WA hv hx]; rfl
theorem UB (N : Nat) (hN : N ≤ 1000000) (a : List Ad) (f : Ad → Option Bool) (g : Ad → Bool) (h : a.length < N) (hf : ∀ x, x ∈ a → f x = some (g x)) :
  BT N a f = some ((CE (fun i x => if g x = true then some (i : Int) else none) 0 a).getD (-1)) := by
 unfold BT
 have := BQ (A4 N a f fun _ => some (-1)) a (some (-1)) (fun i x => if g x = true then some (i : Int) else none)
  (fun n i x hx => by
   have hi := (lI.1 hx).1
   rw [A4, AB (by omega), AT, hx]
   simp only [oS]
   rw [hf x (lM hx), AF (by omega)]
   simp only [oS]
   cases g x <;> rfl)
  (fun n => by rw [A4, Ay (by simp)]) N 0 (zA8 _) (by omega)
 refine this.trans ?_
 rw [zB9]
 cases CE (fun i x => if g x = true then some (i : Int) else none) 0 a <;> rfl
theorem Ql {α : Type} {l : List α} {i : Nat} {v : α} (h : i < l.length) : (l.set i v).take (i + 1) = l.take i ++ [v] := by
 rw [zD9, List.take_set_of_le (zB0 i)]
 congr 1
 simp [h]
theorem Sv (N : Nat) (hN : N ≤ 1000000) (a : List Ad) (f : Ad → Option Bool) (g : Ad → Bool) (h : a.length < N) (h9 : a.length ≤ 1000) (hf : ∀ x, x ∈ a → f x = some (g x)) :
  ∃ X n, BN N a f = some (n, X) ∧ n ≤ X.length ∧ X.take n = a.filter fun x => !g x := by
 unfold BN
 rw [UB N hN a f g h hf]
 simp only [oS]
 cases hs : CE (fun i x => if g x = true then some (i : Int) else none) 0 a with
 | none =>
  refine ⟨a, a.length, rfl, zB0 _, ?_⟩
  rw [zH7]
  symm
  rw [List.filter_eq_self]
  intro x hx
  obtain ⟨j, hj⟩ := zB4.1 hx
  have := Fd hs j x hj
  cases hg : g x
  ·rfl
  ·rw [hg] at this; cases this
 | some r =>
  obtain ⟨j, x, hx, hr⟩ := DT hs
  rw [zA1] at hr
  split at hr
  ·rename_i hg
   cases hr
   have hj := (lI.1 hx).1
   have e0 : ((some (j : Int)).getD (-1) == (-1 : Int)) = false := beq_eq_false_iff_ne.2 (by simp only [zC4]; omega)
   rw [e0, Al]
   simp only [zC4]
   rw [AF (by omega)]
   -- what lies before the first that goes is kept
   have hpre : (a.take (j + 1)).filter (fun x => !g x) = a.take j := by
    rw [zD9, hx, zF5]
    have h1 : (a.take j).filter (fun x => !g x) = a.take j := by
     rw [List.filter_eq_self]
     intro y hy
     obtain ⟨q, hq⟩ := zB4.1 hy
     have hql := (lI.1 hq).1
     simp at hql
     rw [zC8 (by omega)] at hq
     cases hgy : g y
     ·rfl
     ·exfalso
      have : ∀ (xs : List Ad) (i j q : Nat) (y : Ad), CE (fun i x => if g x = true then some (i : Int) else none) i xs = some ((i + j : Nat) : Int) → q < j → xs[q]? = some y → g y = true → False := by
       intro xs
       induction xs with
       | nil => intro i j q y _ _ hq; simp at hq
       | cons z zs ih =>
        intro i j q y hs hqj hq hgy
        rw [FJ] at hs
        cases hz : g z
        ·rw [hz] at hs
         cases q with
         | zero => simp at hq; subst hq; rw [hz] at hgy; cases hgy
         | succ q =>
          cases j with
          | zero => omega
          | succ j => exact ih (i + 1) j q y (by rw [show i + 1 + j = i + (j + 1) from by omega]; exact hs) (by omega) (by simpa using hq) hgy
        ·rw [hz] at hs
         have hs : (some (i : Int)) = some ((i + j : Nat) : Int) := hs
         have := Option.some.inj hs
         omega
      exact this a 0 j q y (by rw [zA1]; exact hs) (by omega) hq hgy
    rw [h1]
    simp [hg]
   obtain ⟨b, e, hb⟩ := FC (AY N f fun v4 => (DF ((0 : Int) ≤ v4.2 ∧ (v4.2).toNat ≤ v4.1.length ∧ v4.1.length ≤ v4.1.length)).bind fun _ =>
     (DF ((0 : Int) ≤ v4.2 ∧ 0 ≤ (v4.2).toNat ∧ (v4.2).toNat ≤ (Jl v4.1 ((v4.2).toNat) (zA5 ((v4.1.length - (v4.2).toNat)) ((Ad.mk 0 0 0)))).length)).bind fun _ =>
     some ((v4.2).toNat, Jl v4.1 ((v4.2).toNat) (zA5 ((v4.1.length - (v4.2).toNat)) ((Ad.mk 0 0 0)))))
    (fun (b : List Ad × Nat) i => (b.1, ((b.2 : Nat) : Int), i)) a.length (fun b => (DF ((0 : Int) ≤ ((b.2 : Nat) : Int) ∧ (((b.2 : Nat) : Int)).toNat ≤ b.1.length ∧ b.1.length ≤ b.1.length)).bind fun _ =>
     (DF ((0 : Int) ≤ ((b.2 : Nat) : Int) ∧ 0 ≤ (((b.2 : Nat) : Int)).toNat ∧ (((b.2 : Nat) : Int)).toNat ≤ (Jl b.1 ((((b.2 : Nat) : Int)).toNat) (zA5 ((b.1.length - (((b.2 : Nat) : Int)).toNat)) ((Ad.mk 0 0 0)))).length)).bind fun _ =>
     some ((((b.2 : Nat) : Int)).toNat, Jl b.1 ((((b.2 : Nat) : Int)).toNat) (zA5 ((b.1.length - (((b.2 : Nat) : Int)).toNat)) ((Ad.mk 0 0 0)))))
    (fun i b => b.1.length = a.length ∧ b.2 ≤ i ∧ b.1.drop i = a.drop i ∧ b.1.take b.2 = (a.take i).filter fun x => !g x)
    (fun n i b hi hb => by
     obtain ⟨b1, b2, b3, b4⟩ := hb
     rw [AY, AB (by simp only; omega)]
     have hai : a[i]? = some a[i] := by simp [hi]
     have hbi : b.1[i]? = some a[i] := by
      have := congrArg (fun l => l[0]?) b3
      simp only [zF4, zF7] at this
      rw [this, hai]
     simp only [Bh, AT, hbi, oS]
     rw [hf a[i] (zF2 hi), AF (i := i) (by omega)]
     simp only [oS]
     have hnext : b.1.drop (i + 1) = a.drop (i + 1) := by
      have := congrArg (List.drop 1) b3
      rwa [List.drop_drop, List.drop_drop] at this
     cases hgi : g a[i]
     ·rw [zE0, AQ]
      have hbj : b.1[b.2]? = some b.1[b.2] := by simp [show b.2 < b.1.length from by omega]
      rw [hbj, AF (i := b.2) (by omega)]
      refine ⟨(b.1.set b.2 a[i], b.2 + 1), rfl, by simpa using b1, by simp only; omega, ?_, ?_⟩
      ·simp only
       rw [List.drop_set_of_lt (by omega), hnext]
      ·simp only
       rw [Ql (by omega), b4, zD9, hai, zF5]
       simp [hgi]
     ·rw [zC0, Al]
      refine ⟨b, rfl, b1, by omega, hnext, ?_⟩
      rw [b4, zD9, hai, zF5]
      simp [hgi])
    (fun n b hb => by rw [AY, Ay (by simp [hb.1])]) N (j + 1) (a, j) (by omega) (by omega) ⟨rfl, by simp only; omega, rfl, hpre.symm⟩
   obtain ⟨b1, b2, b3, b4⟩ := hb
   have e' : AY N f (fun v4 => (DF ((0 : Int) ≤ v4.2 ∧ (v4.2).toNat ≤ v4.1.length ∧ v4.1.length ≤ v4.1.length)).bind fun _ =>
     (DF ((0 : Int) ≤ v4.2 ∧ 0 ≤ (v4.2).toNat ∧ (v4.2).toNat ≤ (Jl v4.1 ((v4.2).toNat) (zA5 ((v4.1.length - (v4.2).toNat)) ((Ad.mk 0 0 0)))).length)).bind fun _ =>
     some ((v4.2).toNat, Jl v4.1 ((v4.2).toNat) (zA5 ((v4.1.length - (v4.2).toNat)) ((Ad.mk 0 0 0))))) N (a, (j : Int), ((j + 1 : Nat) : Int)) = _ := e
   rw [e']
   have hsl : (Jl b.1 b.2 (zA5 (b.1.length - b.2) (Ad.mk 0 0 0))).length = b.1.length := JX (by rw [List.length_replicate]; omega)
   simp only [zB3]
   rw [Au ⟨by omega, by omega, zB0 _⟩, Au ⟨by omega, by omega, by rw [hsl]; omega⟩]
   refine ⟨_, _, rfl, by rw [hsl]; omega, ?_⟩
   unfold Jl
   rw [zD1, List.take_append_of_le_length (by simp; omega), List.take_take, Nat.min_self, b4, zH7]
  ·cases hr
theorem TQ (N : Nat) (hN : N ≤ 1000000) (h20 : 100 ≤ N) {p : Aa} {m : Ac} (hv : BM p = 0) (hm : BX p m) : GI N p m = some (Gd p m, 0) := by
 obtain ⟨hp, _⟩ := C3 hv
 unfold GI
 rw [Jn N p m hN (by omega) (MD hm), I0 hv hm]
 simp only [oS, bne_self_eq_false, Al]
 rw [TJ N hN h20 hp]
 simp only [oS]
 have hl := U5 hp
 obtain ⟨X, n, e, h1, h2⟩ := Sv N hN (E1 p) (fun x => DK N x p.fa p.fi p.fm p.fc m.fd m.fb m.fe) (fun s => !((A5 p m s).2 == 0)) (by omega) (by omega) (fun x hx => SY N hN h20 hp hm hx)
 rw [e]
 simp only [oS]
 rw [Au h1, h2]
 unfold Gd
 simp
theorem IU {β : Type} (g : Nat → List β) : ∀ n : Nat, CF (fun i (_ : Nat) => g i) 0 (zB1 n) = (zB1 n).flatMap g
 | 0 => rfl
 | n + 1 => by rw [zG7, M8, IU g n, zJ3]; simp [CF]
def XU (p : Aa) (m : Ac) (s : Ad) : Bool := (A5 p m s).2 == 0
def gS (p : Aa) (m : Ac) (k : Int) (i v : Nat) : List Ad := if XU p m ⟨k, (i : Int), (v : Int)⟩ = true then [⟨k, (i : Int), (v : Int)⟩] else []
def bS (p : Aa) (m : Ac) (k : Int) (i : Nat) : List Ad := (zB1 6).flatMap (gS p m k i)
def T9 (p : Aa) : Nat := max p.fa.length p.fc.length
def kS (p : Aa) (m : Ac) (k : Int) : List Ad := (zB1 (T9 p)).flatMap (bS p m k)
theorem LW {β : Type} (f : Nat → β) (q : β → Bool) : ∀ n : Nat, ((zB1 n).flatMap fun v => if q (f v) = true then [f v] else []) = ((zB1 n).map f).filter q
 | 0 => rfl
 | n + 1 => by
  rw [zG7, zJ3, LW f q n, zE6, zF5]
  cases h : q (f n) <;> simp [h]
theorem LL {β : Type} (g : Nat → List β) (a : Nat) (h : ∀ v, a ≤ v → g v = []) : ∀ n, a ≤ n → (zB1 n).flatMap g = (zB1 a).flatMap g
 | 0, hn => by rw [Nat.le_zero.1 hn]
 | n + 1, hn => by
  by_cases h1 : a = n + 1
  ·rw [h1]
  ·rw [zG7, zJ3, LL g a h n (by omega)]
   simp [h n (by omega)]
theorem Xf (p : Aa) (m : Ac) (k : Int) (i v : Nat) : (gS p m k i v).length ≤ 1 := by unfold gS; split <;> simp
theorem XO (p : Aa) (m : Ac) (k : Int) (i : Nat) : (bS p m k i).length ≤ 6 := by
 unfold bS
 rw [← IU]
 have := Gj (g := fun i' (_ : Nat) => gS p m k i i') (c := 1) (i := 0) (xs := zB1 6) fun j x _ => Xf p m k i _
 simpa using this
theorem aI {p : Aa} (hp : Bc p) (m : Ac) (k : Int) : (kS p m k).length ≤ 72 := by
 have h1 := hp.nv
 have h2 := hp.nt
 unfold kS
 rw [← IU]
 have := Gj (g := fun i' (_ : Nat) => bS p m k i') (c := 6) (i := 0) (xs := zB1 (T9 p)) fun j x _ => XO p m k _
 simp only [zH5] at this
 have h3 : T9 p ≤ 12 := by unfold T9; omega
 omega
theorem ac {p : Aa} {m : Ac} {s : Ad} (h : XU p m s = true) : GX s = true ∧ F7 p s = true := by
 unfold XU A5 at h
 split at h
 ·cases h
 ·rename_i h1
  split at h
  ·cases h
  ·rename_i h2
   exact ⟨by simpa using h1, by simpa using h2⟩
theorem ND {p : Aa} {m : Ac} {k : Int} {i v : Nat} (h : XU p m ⟨k, (i : Int), (v : Int)⟩ = true) : (k = 3 → i < p.fc.length) ∧ (k ≠ 3 → i < p.fa.length) ∧ (k = 1 → (v : Int) < p.fa.getD i 0) ∧ (k ≠ 1 → v = 0) := by
 obtain ⟨h1, h2⟩ := ac h
 obtain ⟨a1, a2, a3, a4, a5⟩ := IE h1
 obtain ⟨b1, b2, b3⟩ := JC h2
 simp only [zB3] at *
 exact ⟨fun e => by have := b1 e; omega, fun e => by have := b2 e; omega, b3, fun e => by have := a5 e; omega⟩
theorem Xb {p : Aa} (hp : Bc p) (m : Ac) : kS p m 1 ++ kS p m 2 ++ kS p m 3 = Gd p m := by
 have hnv := hp.nv
 have hnt := hp.nt
 unfold Gd E1
 rw [zF5, zF5]
 have e1 : kS p m 1 = (CF J9 0 p.fa).filter fun s => (A5 p m s).2 == 0 := by
  unfold kS
  rw [LL (bS p m 1) p.fa.length (fun i hi => by
   unfold bS
   rw [zL4]
   intro v _
   unfold gS
   rw [if_neg]
   intro h
   have := (ND h).2.1 (by decide)
   omega) (T9 p) (by unfold T9; omega)]
  have e : ∀ (xs : List Int) (i : Nat), (∀ j x, xs[j]? = some x → 1 ≤ x ∧ x ≤ 6 ∧ p.fa.getD (i + j) 0 = x) → ((zB1 xs.length).flatMap fun j => bS p m 1 (i + j)) = (CF J9 i xs).filter fun s => (A5 p m s).2 == 0 := by
   intro xs
   induction xs with
   | nil => intro i _; rfl
   | cons x xs ih =>
    intro i hx
    rw [zC3, List.range_succ_eq_map, List.flatMap_cons, List.flatMap_map, CF, zF5]
    have ih' := ih (i + 1) (fun j y hy => by
     have := hx (j + 1) y (by simpa using hy)
     rw [show i + 1 + j = i + (j + 1) from by omega]; exact this)
    have hx0 := hx 0 x rfl
    rw [zF7] at hx0
    congr 1
    ·rw [zF7]
     unfold bS J9
     rw [LL (gS p m 1 i) x.toNat (fun v hv => by
      unfold gS
      rw [if_neg]
      intro h
      have := (ND h).2.2.1 rfl
      rw [hx0.2.2] at this
      omega) 6 (by omega)]
     exact LW (fun v => (⟨1, (i : Int), ((v : Nat) : Int)⟩ : Ad)) (XU p m) x.toNat
    ·rw [← ih']
     congr 1
     funext j
     rw [show i + (j + 1) = i + 1 + j from by omega]
  have := e p.fa 0 (fun j x hx => by
   have h1 := hp.ver x (lM hx)
   refine ⟨h1.1, h1.2, ?_⟩
   rw [zA1, lD, hx]; rfl)
  simp only [zA1] at this
  exact this
 have e23 : ∀ (k : Int) (n : Nat), k ≠ 1 → n ≤ T9 p → (∀ i v, XU p m ⟨k, ((i : Nat) : Int), ((v : Nat) : Int)⟩ = true → i < n) → kS p m k = (((zB1 n).map fun i => (⟨k, ((i : Nat) : Int), 0⟩ : Ad)).filter fun s => (A5 p m s).2 == 0) := by
  intro k n hk hn hi
  unfold kS
  rw [LL (bS p m k) n (fun i hi' => by
   unfold bS
   rw [zL4]
   intro v _
   unfold gS
   rw [if_neg]
   intro h
   have := hi i v h
   omega) (T9 p) hn]
  show _ = List.filter (XU p m) _
  rw [← LW (fun i => (⟨k, ((i : Nat) : Int), 0⟩ : Ad)) (XU p m) n]
  congr 1
  funext i
  unfold bS
  rw [LL (gS p m k i) 1 (fun v hv => by
   unfold gS
   rw [if_neg]
   intro h
   have := (ND h).2.2.2 hk
   omega) 6 (by omega)]
  simp [gS]
 rw [e1, e23 2 p.fa.length (by decide) (by unfold T9; omega) (fun i v h => (ND h).2.1 (by decide)), e23 3 p.fc.length (by decide) (by unfold T9; omega) (fun i v h => (ND h).1 rfl)]
theorem SW (a b : Nat) : VS (a : Int) (b : Int) = ((max a b : Nat) : Int) := by
 unfold VS
 omega
theorem RT (N : Nat) (hN : N ≤ 1000000) (h20 : 100 ≤ N) {p : Aa} {m : Ac} (hv : BM p = 0) (hm : BX p m) : E8 N p m = some (Gd p m) := by
 obtain ⟨hp, _⟩ := C3 hv
 have hnv := hp.nv
 have hnt := hp.nt
 have hmx : T9 p ≤ 12 := by unfold T9; omega
 unfold E8
 have hmix := I0 hv hm
 -- one number
 have inn : ∀ (k : Int) (c0 a : List Ad) (i : Nat) (d0 : List Ad) (j : List Ad → Option (List Ad)), a.length ≤ 1000 →
   Cg N p m (c0, k) (d0, (i : Int)) j N (a, 0) = j (a ++ bS p m k i) := by
  intro k c0 a i d0 j ha
  have := FK (Cg N p m (c0, k) (d0, (i : Int)) j) (fun a i => (a, i)) (zB1 6) j (fun v _ => gS p m k i v) 1 2000
   (fun v x _ => Xf _ _ _ _ _)
   (fun n v x a hx hl => by
    have hi := (lI.1 hx).1
    simp only [zH5] at hi
    rw [Cg, AB (by simp only; omega)]
    simp only [Bh]
    rw [RU N hN h20 (MD hm), if_pos hmix]
    simp only [oS, AF (show v < 1000000 by omega)]
    unfold gS XU
    cases hq : (A5 p m ⟨k, (i : Int), (v : Int)⟩).2 == 0
    ·rw [Al, if_neg (by simp), zG2]
    ·rw [AQ, if_pos rfl, Au (by simp [C5]; unfold gS XU at hl; rw [hq] at hl; simp at hl; omega)])
   (fun n a => by rw [Cg, Ay (by simp)]) N a (by simp; omega) (by simp; omega)
  rw [IU] at this
  exact this
 have mid : ∀ (k : Int) (c0 a : List Ad) (j : List Ad → Option (List Ad)), a.length ≤ 500 →
   Ce N p m (c0, k) j N (a, 0) = j (a ++ kS p m k) := by
  intro k c0 a j ha
  have := FK (Ce N p m (c0, k) j) (fun a i => (a, i)) (zB1 (T9 p)) j (fun i _ => bS p m k i) 6 900
   (fun v x _ => XO _ _ _ _)
   (fun n i x a hx hl => by
    have hi := (lI.1 hx).1
    simp only [zH5] at hi
    rw [Ce, AB (by simp only; rw [SW]; unfold T9 at hi; omega)]
    rw [inn k c0 a i a _ (by omega)]
    simp only [AF (show i < 1000000 by omega)])
   (fun n a => by rw [Ce, Ay (by simp [SW, T9])]) N a (by simp; omega) (by simp; omega)
  rw [IU] at this
  exact this
 have hk := aI hp m
 have go : ∀ (k : Int) (n : Nat) (a : List Ad), k ≤ 3 → 1 ≤ k → a.length ≤ 300 → By N p m (fun v2 => some v2) (n + 1) (a, k) = By N p m (fun v2 => some v2) n (a ++ kS p m k, k + 1) := by
  intro k n a h1 h2 ha
  rw [By, AB h1]
  rw [mid k a a _ (by omega), CO (by omega) (by omega)]
 obtain ⟨N', hN'⟩ : ∃ q, N = q + 4 := ⟨N - 4, by omega⟩
 have e0 : By N p m (fun v2 => some v2) N ([], 1) = By N p m (fun v2 => some v2) (N' + 4) ([], 1) := by rw [hN']
 rw [e0, go 1 (N' + 3) [] (by decide) (by decide) (by simp), zG0]
 rw [show (1 : Int) + 1 = 2 from rfl, go 2 (N' + 2) _ (by decide) (by decide) (by have := hk 1; omega)]
 rw [show (2 : Int) + 1 = 3 from rfl, go 3 (N' + 1) _ (by decide) (by decide) (by have h1 := hk 1; have h2 := hk 2; rw [zB6]; omega)]
 rw [By, Ay (by simp), Xb hp]
end Go.Lift
namespace Go.Lift
open List renaming mem_of_getElem? → lM
open List renaming getElem?_eq_some_iff → lI
namespace Bfs
section
variable {α σ : Type}
def code (rk : σ → Nat) (K : Nat) (w : List σ) : Nat := w.foldl (fun c s => c * K + rk s) 0
theorem JD (rk : σ → Nat) (K : Nat) (w : List σ) (s : σ) : code rk K (w ++ [s]) = code rk K w * K + rk s := by
 simp [code]
theorem SX (rk : σ → Nat) (K : Nat) : code rk K ([] : List σ) = 0 := rfl
def Dig (rk : σ → Nat) (K : Nat) (w : List σ) : Prop := ∀ s, s ∈ w → 1 ≤ rk s ∧ rk s ≤ K
theorem Dig.snoc {rk : σ → Nat} {K : Nat} {w : List σ} {s : σ} (h : Dig rk K w) (hs : 1 ≤ rk s ∧ rk s ≤ K) : Dig rk K (w ++ [s]) := by
 intro x hx; rcases zC2.1 hx with h1 | h1
 ·exact h x h1
 ·rw [zD8.1 h1]; exact hs
theorem UE {c d K a b : Nat} (h : c < d) (_ : 1 ≤ b) (ha : a ≤ K) : c * K + a < d * K + b := by
 have : c * K + K ≤ d * K := by rw [← zC1]; exact zA4 K h
 omega
theorem YQ {c d K a : Nat} (h : c ≤ d) : c * K + a ≤ d * K + a := Nat.add_le_add_right (zA4 K h) a
theorem list_snoc {β : Type} (l : List β) : l = [] ∨ ∃ u s, l = u ++ [s] := by
 cases h : l.reverse with
 | nil => exact .inl (List.reverse_eq_nil_iff.1 h)
 | cons s r => exact .inr ⟨r.reverse, s, by rw [← List.reverse_cons, ← h, List.reverse_reverse]⟩
abbrev Nd (α σ : Type) := α × Int × σ
def put [DecidableEq α] (i : Nat) (l : List (Nd α σ)) (q : σ × α) : List (Nd α σ) := if (l.any fun n => decide (n.1 = q.2)) = true then l else l ++ [(q.2, (i : Int), q.1)]
def inner [DecidableEq α] (most i : Nat) : List (σ × α) → List (Nd α σ) → Option (List (Nd α σ))
 | [], l => some l
 | q :: qs, l => if most < (put i l q).length then none else inner most i qs (put i l q)
def go [DecidableEq α] (nxt : α → List (σ × α)) (most : Nat) : Nat → Nat → List (Nd α σ) → Option (List (Nd α σ))
 | 0, _, _ => none
 | n + 1, i, l => match l[i]? with
  | none => some l
  | some nd => (inner most i (nxt nd.1) l).bind fun l' => go nxt most n (i + 1) l'
structure Inv (nxt : α → List (σ × α)) (rk : σ → Nat) (K : Nat) (root : α) (i : Nat) (done : List (σ × α)) (l : List (Nd α σ)) (ws : List (List σ)) : Prop where
 len : ws.length = l.length
 root : ∃ s, l[0]? = some (root, -1, s)
 root' : ws[0]? = some []
 par : ∀ (k : Nat) x f s, 0 < k → l[k]? = some (x, f, s) → ∃ (j : Nat) (y : α) (g : Int) (t : σ) (w : List σ), f = (j : Int) ∧ j < k ∧ l[j]? = some (y, g, t) ∧ (s, x) ∈ nxt y ∧ ws[j]? = some w ∧ ws[k]? = some (w ++ [s]) ∧ (j < i ∨ (j = i ∧ (s, x) ∈ done))
 nodup : ∀ (a b : Nat) x f s g t, l[a]? = some (x, f, s) → l[b]? = some (x, g, t) → a = b
 inc : ∀ (a b : Nat) u w, ws[a]? = some u → ws[b]? = some w → a < b → code rk K u < code rk K w
 dig : ∀ (k : Nat) w, ws[k]? = some w → Dig rk K w
 closed : ∀ (j : Nat) x f s w, l[j]? = some (x, f, s) → ws[j]? = some w → ∀ q, (j < i ∧ q ∈ nxt x) ∨ (j = i ∧ q ∈ done) → ∃ (k : Nat) (f' : Int) (s' : σ) (w' : List σ), l[k]? = some (q.2, f', s') ∧ ws[k]? = some w' ∧ code rk K w' ≤ code rk K (w ++ [q.1])
theorem get_app {β : Type} {l : List β} {y x : β} {k : Nat} (h : (l ++ [y])[k]? = some x) : l[k]? = some x ∨ (k = l.length ∧ x = y) := by
 rcases Nat.lt_trichotomy k l.length with h1 | h1 | h1
 ·rw [zC7 h1] at h; exact .inl h
 ·subst h1; simp at h; exact .inr ⟨rfl, h.symm⟩
 ·rw [zE1 (by simp; omega)] at h; cases h
theorem get_app_of {β : Type} {l : List β} {y x : β} {k : Nat} (h : l[k]? = some x) : (l ++ [y])[k]? = some x := by
 rw [zC7 ((lI.1 h).1)]; exact h
theorem get_app_new {β : Type} {l : List β} {y : β} : (l ++ [y])[l.length]? = some y := by simp
theorem lt_get {β : Type} {l : List β} {k : Nat} {x : β} (h : l[k]? = some x) : k < l.length := (lI.1 h).1
theorem get_ex {β : Type} {l : List β} {k : Nat} (h : k < l.length) : ∃ x, l[k]? = some x := ⟨l[k], zC9 h⟩
theorem Yo [DecidableEq α] {nxt : α → List (σ × α)} {rk : σ → Nat} {K : Nat} {root : α} {i : Nat} {done : List (σ × α)} {l : List (Nd α σ)} {ws : List (List σ)} {x : α} {f : Int} {s : σ} {q : σ × α}
  (hI : Inv nxt rk K root i done l ws) (hx : l[i]? = some (x, f, s)) (hq : q ∈ nxt x) (hd : ∀ r, r ∈ done → rk r.1 < rk q.1) (hr : 1 ≤ rk q.1 ∧ rk q.1 ≤ K) :
  ∃ ws', Inv nxt rk K root i (done ++ [q]) (put i l q) ws' ∧ (∀ (k : Nat) w, ws[k]? = some w → ws'[k]? = some w) ∧ (∀ (k : Nat) n, l[k]? = some n → (put i l q)[k]? = some n) := by
 obtain ⟨w0, hw0⟩ := get_ex (l := ws) (k := i) (by rw [hI.len]; exact lt_get hx)
 unfold put
 by_cases hin : (l.any fun n => decide (n.1 = q.2)) = true
 ·rw [if_pos hin]
  refine ⟨ws, ⟨hI.len, hI.root, hI.root', ?_, hI.nodup, hI.inc, hI.dig, ?_⟩, fun _ _ h => h, fun _ _ h => h⟩
  ·intro k y g t hk hy
   obtain ⟨j, y', g', t', w, h1, h2, h3, h4, h5, h6, h7⟩ := hI.par k y g t hk hy
   exact ⟨j, y', g', t', w, h1, h2, h3, h4, h5, h6, h7.imp id fun h => ⟨h.1, zE9 _ h.2⟩⟩
  ·intro j y g t w hy hw r hr'
   by_cases hold : (j < i ∧ r ∈ nxt y) ∨ (j = i ∧ r ∈ done)
   ·exact hI.closed j y g t w hy hw r hold
   ·have hjr : j = i ∧ r = q := by
     rcases hr' with h | ⟨h1, h2⟩
     ·exact absurd (.inl h) hold
     ·rcases zC2.1 h2 with h3 | h3
      ·exact absurd (.inr ⟨h1, h3⟩) hold
      ·exact ⟨h1, zD8.1 h3⟩
    obtain ⟨rfl, rfl⟩ := hjr
    rw [hw0] at hw; cases hw
    obtain ⟨n, hn1, hn2⟩ := zF3.1 hin
    obtain ⟨k, hk⟩ := zB4.1 hn1
    obtain ⟨nx, nf, ns⟩ := n
    have hn2 : nx = r.2 := of_decide_eq_true hn2
    subst hn2
    obtain ⟨wk, hwk⟩ := get_ex (l := ws) (k := k) (by rw [hI.len]; exact lt_get hk)
    refine ⟨k, nf, ns, wk, hk, hwk, ?_⟩
    rw [JD]
    rcases zH9 k with rfl | hk0
    ·rw [hI.root'] at hwk; cases hwk; rw [SX]; omega
    ·obtain ⟨j', y', g', t', w, h1, h2, h3, h4, h5, h6, h7⟩ := hI.par k _ _ _ hk0 hk
     rw [h6] at hwk; cases hwk
     rw [JD]
     have hdg : 1 ≤ rk ns ∧ rk ns ≤ K := hI.dig k _ h6 ns (by simp)
     rcases h7 with h7 | ⟨h7, h8⟩
     ·exact Nat.le_of_lt (UE (hI.inc _ _ _ _ h5 hw0 h7) hr.1 hdg.2)
     ·subst h7; rw [hw0] at h5; cases h5
      have := hd _ h8
      simp only at this; omega
 ·rw [if_neg hin]
  have hnew : ∀ (k : Nat) y g t, l[k]? = some (y, g, t) → y ≠ q.2 := fun k y g t hy e => hin (zF3.2 ⟨_, lM hy, decide_eq_true e⟩)
  have hbig : ∀ (k : Nat) u, ws[k]? = some u → code rk K u < code rk K (w0 ++ [q.1]) := by
   intro k u hu
   rw [JD]
   obtain ⟨⟨nx, nf, ns⟩, hk⟩ := get_ex (l := l) (k := k) (by rw [← hI.len]; exact lt_get hu)
   rcases zH9 k with rfl | hk0
   ·rw [hI.root'] at hu; cases hu; rw [SX]; omega
   ·obtain ⟨j', y', g', t', w, h1, h2, h3, h4, h5, h6, h7⟩ := hI.par k _ _ _ hk0 hk
    rw [h6] at hu; cases hu
    rw [JD]
    have hdg : 1 ≤ rk ns ∧ rk ns ≤ K := hI.dig k _ h6 ns (by simp)
    rcases h7 with h7 | ⟨h7, h8⟩
    ·exact UE (hI.inc _ _ _ _ h5 hw0 h7) hr.1 hdg.2
    ·subst h7; rw [hw0] at h5; cases h5
     have := hd _ h8
     simp only at this; omega
  refine ⟨ws ++ [w0 ++ [q.1]], ⟨by simp [hI.len], ?_, get_app_of hI.root', ?_, ?_, ?_, ?_, ?_⟩, fun _ _ h => get_app_of h, fun _ _ h => get_app_of h⟩
  ·obtain ⟨s0, hs0⟩ := hI.root; exact ⟨s0, get_app_of hs0⟩
  ·intro k y g t hk hy
   rcases get_app hy with hy | ⟨hk1, hy⟩
   ·obtain ⟨j, y', g', t', w, h1, h2, h3, h4, h5, h6, h7⟩ := hI.par k y g t hk hy
    exact ⟨j, y', g', t', w, h1, h2, get_app_of h3, h4, get_app_of h5, get_app_of h6, h7.imp id fun h => ⟨h.1, zE9 _ h.2⟩⟩
   ·cases hy
    refine ⟨i, x, f, s, w0, rfl, by rw [hk1]; exact lt_get hx, get_app_of hx, hq, get_app_of hw0, by rw [hk1, ← hI.len]; exact get_app_new, .inr ⟨rfl, by simp⟩⟩
  ·intro a b y g t g' t' ha hb
   rcases get_app ha with ha | ⟨ha1, ha⟩ <;> rcases get_app hb with hb | ⟨hb1, hb⟩
   ·exact hI.nodup a b y g t g' t' ha hb
   ·cases hb; exact absurd rfl (hnew _ _ _ _ ha)
   ·cases ha; exact absurd rfl (hnew _ _ _ _ hb)
   ·omega
  ·intro a b u w ha hb hab
   rcases get_app ha with ha | ⟨ha1, ha⟩ <;> rcases get_app hb with hb | ⟨hb1, hb⟩
   ·exact hI.inc a b u w ha hb hab
   ·rw [hb]; exact hbig _ _ ha
   ·have := lt_get hb; omega
   ·omega
  ·intro k w hw
   rcases get_app hw with hw | ⟨hw1, hw⟩
   ·exact hI.dig k w hw
   ·rw [hw]; exact (hI.dig _ _ hw0).snoc hr
  ·intro j y g t w hy hw r hr'
   rcases get_app hy with hy1 | ⟨hy1, hy2⟩
   ·have hw1 : ws[j]? = some w := by
     rcases get_app hw with h | ⟨h, _⟩
     ·exact h
     ·have := lt_get hy1; rw [← hI.len] at this; omega
    by_cases hold : (j < i ∧ r ∈ nxt y) ∨ (j = i ∧ r ∈ done)
    ·obtain ⟨k, f', s', w', h1, h2, h3⟩ := hI.closed j y g t w hy1 hw1 r hold
     exact ⟨k, f', s', w', get_app_of h1, get_app_of h2, h3⟩
    ·have hjr : j = i ∧ r = q := by
      rcases hr' with h | ⟨h1, h2⟩
      ·exact absurd (.inl h) hold
      ·rcases zC2.1 h2 with h3 | h3
       ·exact absurd (.inr ⟨h1, h3⟩) hold
       ·exact ⟨h1, zD8.1 h3⟩
     obtain ⟨rfl, rfl⟩ := hjr
     rw [hw0] at hw1; cases hw1
     exact ⟨l.length, _, _, _, get_app_new, by rw [← hI.len]; exact get_app_new, zB0 _⟩
   ·have := lt_get hx
    rcases hr' with h | h <;> omega
theorem Q4 [DecidableEq α] {nxt : α → List (σ × α)} {rk : σ → Nat} {K : Nat} {root : α} {i most : Nat} {x : α} {f : Int} {s : σ} (hP : (nxt x).Pairwise fun a b => rk a.1 < rk b.1) (hD : ∀ q, q ∈ nxt x → 1 ≤ rk q.1 ∧ rk q.1 ≤ K) :
  ∀ (qs done : List (σ × α)) (l l' : List (Nd α σ)) (ws : List (List σ)), done ++ qs = nxt x → Inv nxt rk K root i done l ws → l[i]? = some (x, f, s) → inner most i qs l = some l' →
   ∃ ws', Inv nxt rk K root i (nxt x) l' ws' ∧ (∀ (k : Nat) w, ws[k]? = some w → ws'[k]? = some w) ∧ (∀ (k : Nat) n, l[k]? = some n → l'[k]? = some n)
 | [], done, l, l', ws, he, hI, hx, h => by
  cases h; rw [zG2] at he; subst he; exact ⟨ws, hI, fun _ _ h => h, fun _ _ h => h⟩
 | q :: qs, done, l, l', ws, he, hI, hx, h => by
  have hqm : q ∈ nxt x := by rw [← he]; simp
  have hlt : ∀ r, r ∈ done → rk r.1 < rk q.1 := fun r hr => by
   rw [← he] at hP
   exact (zI2.1 hP).2.2 r hr q (by simp)
  obtain ⟨ws1, h1, h2, h3⟩ := Yo hI hx hqm hlt (hD q hqm)
  simp only [inner] at h
  split at h
  ·cases h
  ·obtain ⟨ws2, g1, g2, g3⟩ := Q4 hP hD qs (done ++ [q]) _ l' ws1 (by rw [zD1]; exact he) h1 (h3 _ _ hx) h
   exact ⟨ws2, g1, fun k w hw => g2 k w (h2 k w hw), fun k n hn => g3 k n (h3 k n hn)⟩
theorem We {nxt : α → List (σ × α)} {rk : σ → Nat} {K : Nat} {root : α} {i : Nat} {x : α} {f : Int} {s : σ} {l : List (Nd α σ)} {ws : List (List σ)} (h : Inv nxt rk K root i (nxt x) l ws) (hx : l[i]? = some (x, f, s)) : Inv nxt rk K root (i + 1) [] l ws := by
 refine ⟨h.len, h.root, h.root', ?_, h.nodup, h.inc, h.dig, ?_⟩
 ·intro k y g t hk hy
  obtain ⟨j, y', g', t', w, h1, h2, h3, h4, h5, h6, h7⟩ := h.par k y g t hk hy
  exact ⟨j, y', g', t', w, h1, h2, h3, h4, h5, h6, .inl (by rcases h7 with h7 | h7 <;> omega)⟩
 ·intro j y g t w hy hw r hr
  rcases hr with ⟨h1, h2⟩ | ⟨_, h2⟩
  ·refine h.closed j y g t w hy hw r ?_
   by_cases hj : j < i
   ·exact .inl ⟨hj, h2⟩
   ·have : j = i := by omega
    subst this; rw [hx] at hy; cases hy; exact .inr ⟨rfl, h2⟩
  ·cases h2
theorem inv_go [DecidableEq α] {nxt : α → List (σ × α)} {rk : σ → Nat} {K : Nat} {root : α} {most : Nat} (P : α → Prop) (hP : ∀ x, P x → (nxt x).Pairwise fun a b => rk a.1 < rk b.1) (hD : ∀ x, P x → ∀ q, q ∈ nxt x → (1 ≤ rk q.1 ∧ rk q.1 ≤ K) ∧ P q.2) (hroot : P root) :
  ∀ (n i : Nat) (l l' : List (Nd α σ)) (ws : List (List σ)), i ≤ l.length → Inv nxt rk K root i [] l ws → (∀ (k : Nat) x f s, l[k]? = some (x, f, s) → P x) → go nxt most n i l = some l' → ∃ ws', Inv nxt rk K root l'.length [] l' ws' ∧ (∀ (k : Nat) x f s, l'[k]? = some (x, f, s) → P x)
 | 0, i, l, l', ws, _, _, _, h => by cases h
 | n + 1, i, l, l', ws, hi, hI, hA, h => by
  simp only [go] at h
  split at h
  ·rename_i hn
   cases h
   have : i = l.length := by
    have := List.getElem?_eq_none_iff.1 hn; omega
   subst this
   exact ⟨ws, hI, hA⟩
  ·rename_i nd hn
   obtain ⟨x, f, s⟩ := nd
   cases hin : inner most i (nxt x) l with
   | none => rw [hin] at h; cases h
   | some l1 =>
    rw [hin] at h
    have hx := hA _ _ _ _ hn
    obtain ⟨ws1, h1, h2, h3⟩ := Q4 (hP x hx) (fun q hq => (hD x hx q hq).1) (nxt x) [] l l1 ws rfl hI hn hin
    have hA1 : ∀ (k : Nat) y g t, l1[k]? = some (y, g, t) → P y := fun k y g t hy => by
     rcases zH9 k with rfl | hk
     ·obtain ⟨s0, hs0⟩ := h1.root; rw [hs0] at hy; cases hy; exact hroot
     ·obtain ⟨j, y', g', t', w, e1, e2, e3, e4, e5, e6, e7⟩ := h1.par k y g t hk hy
      have hj : P y' := by
       have hjl : j < l.length := by rcases e7 with h | h <;> have := lt_get hn <;> omega
       obtain ⟨⟨z, zf, zs⟩, hz⟩ := get_ex hjl
       have := h3 _ _ hz
       rw [e3] at this; cases this
       exact hA _ _ _ _ hz
      exact (hD y' hj _ e4).2
    exact inv_go P hP hD hroot n (i + 1) l1 l' ws1 (by have := lt_get (h3 _ _ hn); omega) (We h1 (h3 _ _ hn)) hA1 h
theorem inv_start {nxt : α → List (σ × α)} {rk : σ → Nat} {K : Nat} {root : α} {s : σ} : Inv nxt rk K root 0 [] [(root, -1, s)] [[]] := by
 refine ⟨rfl, ⟨s, rfl⟩, rfl, ?_, ?_, ?_, ?_, ?_⟩
 ·intro k x f s hk h; rw [zE1 (by simp; omega)] at h; cases h
 ·intro a b x f s g t ha hb; have := lt_get ha; have := lt_get hb; simp at *; omega
 ·intro a b u w ha hb hab; have := lt_get hb; simp at this; omega
 ·intro k w hw
  have := lt_get hw; simp at this; subst this; simp at hw; subst hw
  intro s hs; cases hs
 ·intro j x f s w _ _ q h
  rcases h with h | h
  ·omega
  ·cases h.2
def run (nxt : α → List (σ × α)) (x : α) : List σ → α → Prop
 | [], y => y = x
 | s :: w, y => ∃ z, (s, z) ∈ nxt x ∧ run nxt z w y
theorem Gs {nxt : α → List (σ × α)} : ∀ {u w : List σ} {x y : α}, run nxt x (u ++ w) y ↔ ∃ z, run nxt x u z ∧ run nxt z w y
 | [], w, x, y => by simp [run]
 | s :: u, w, x, y => by
  simp only [zI5, run]
  constructor
  ·rintro ⟨z, h1, h2⟩
   obtain ⟨z', h3, h4⟩ := Gs.1 h2
   exact ⟨z', ⟨z, h1, h3⟩, h4⟩
  ·rintro ⟨z', ⟨z, h1, h3⟩, h4⟩
   exact ⟨z, h1, Gs.2 ⟨z', h3, h4⟩⟩
theorem way_run {nxt : α → List (σ × α)} {rk : σ → Nat} {K : Nat} {root : α} {i : Nat} {l : List (Nd α σ)} {ws : List (List σ)} (h : Inv nxt rk K root i [] l ws) : ∀ (n k : Nat) {x : α} {f : Int} {s : σ} {w : List σ}, k < n → l[k]? = some (x, f, s) → ws[k]? = some w → run nxt root w x
 | 0, k, _, _, _, _, hk, _, _ => by omega
 | n + 1, k, x, f, s, w, hk, hx, hw => by
  rcases zH9 k with rfl | hk0
  ·obtain ⟨s0, hs0⟩ := h.root; rw [hs0] at hx; cases hx
   rw [h.root'] at hw; cases hw; rfl
  ·obtain ⟨j, y', g', t', w', e1, e2, e3, e4, e5, e6, e7⟩ := h.par k _ _ _ hk0 hx
   rw [e6] at hw; cases hw
   exact Gs.2 ⟨y', way_run h n j (by omega) e3 e5, x, e4, rfl⟩
theorem reach_node {nxt : α → List (σ × α)} {rk : σ → Nat} {K : Nat} {root : α} {l : List (Nd α σ)} {ws : List (List σ)} (h : Inv nxt rk K root l.length [] l ws) : ∀ (n : Nat) {w : List σ} {y : α}, w.length = n → run nxt root w y → ∃ (k : Nat) (f : Int) (s : σ) (u : List σ), l[k]? = some (y, f, s) ∧ ws[k]? = some u ∧ code rk K u ≤ code rk K w
 | 0, w, y, hn, hr => by
  rw [List.length_eq_zero_iff.1 hn] at hr ⊢
  simp only [run] at hr; subst hr
  obtain ⟨s, hs⟩ := h.root
  exact ⟨0, _, _, _, hs, h.root', zB0 _⟩
 | n + 1, w, y, hn, hr => by
  rcases list_snoc w with rfl | ⟨w', s, rfl⟩
  ·simp at hn
  obtain ⟨z, h1, h2⟩ := Gs.1 hr
  simp only [run] at h2
  obtain ⟨z', h2, rfl⟩ := h2
  simp only [zB6, zB8] at hn
  obtain ⟨k, f, t, u, g1, g2, g3⟩ := reach_node h n (by omega) h1
  obtain ⟨k', f', s', u', e1, e2, e3⟩ := h.closed k z f t u g1 g2 (s, y) (.inl ⟨lt_get g1, h2⟩)
  refine ⟨k', f', s', u', e1, e2, zG5 e3 ?_⟩
  rw [JD, JD]
  exact YQ g3
theorem PI [DecidableEq α] {most more i : Nat} (hm : most ≤ more) : ∀ (qs : List (σ × α)) (l l' : List (Nd α σ)), inner most i qs l = some l' → inner more i qs l = some l'
 | [], l, l', h => h
 | q :: qs, l, l', h => by
  simp only [inner] at h ⊢
  split at h
  ·cases h
  ·rw [if_neg (by omega)]; exact PI hm qs _ _ h
theorem go_more [DecidableEq α] {nxt : α → List (σ × α)} {most more : Nat} (hm : most ≤ more) : ∀ (n m i : Nat) (l l' : List (Nd α σ)), n ≤ m → go nxt most n i l = some l' → go nxt more m i l = some l'
 | 0, m, i, l, l', _, h => by cases h
 | n + 1, m, i, l, l', hnm, h => by
  obtain ⟨m, rfl⟩ : ∃ k, m = k + 1 := ⟨m - 1, by omega⟩
  simp only [go] at h ⊢
  cases hl : l[i]? with
  | none => rw [hl] at h; exact h
  | some nd =>
   rw [hl] at h
   simp only at h ⊢
   cases hin : inner most i (nxt nd.1) l with
   | none => rw [hin] at h; cases h
   | some l1 =>
    rw [hin] at h
    rw [PI hm _ _ _ hin]
    exact go_more hm n m (i + 1) l1 l' (by omega) h
theorem inner_len [DecidableEq α] {most i : Nat} : ∀ (qs : List (σ × α)) (l l' : List (Nd α σ)), l.length ≤ most → inner most i qs l = some l' → l'.length ≤ most
 | [], l, l', h0, h => by cases h; exact h0
 | q :: qs, l, l', h0, h => by
  simp only [inner] at h
  split at h
  ·cases h
  ·exact inner_len qs _ _ (by omega) h
theorem go_len [DecidableEq α] {nxt : α → List (σ × α)} {most : Nat} : ∀ (n i : Nat) (l l' : List (Nd α σ)), l.length ≤ most → go nxt most n i l = some l' → l'.length ≤ most
 | 0, i, l, l', _, h => by cases h
 | n + 1, i, l, l', h0, h => by
  simp only [go] at h
  split at h
  ·cases h; exact h0
  ·rename_i nd hn
   cases hin : inner most i (nxt nd.1) l with
   | none => rw [hin] at h; cases h
   | some l1 => rw [hin] at h; exact go_len n (i + 1) l1 l' (inner_len _ _ _ h0 hin) h
end
end Bfs
end Go.Lift
namespace Go.Lift
open IntKind renaming wrap → wI
open Option renaming bind_some → oS
open List renaming mem_of_getElem? → lM
open List renaming getElem?_eq_some_iff → lI
open List renaming getD_eq_getElem?_getD → lD
open Go
theorem To : ∀ {l : List Int}, ZV l = 0 → ∀ x, x ∈ l → x = 0
 | [], _, x, hx => by cases hx
 | y :: ys, h, x, hx => by
  unfold ZV at h
  split at h
  ·rename_i hy
   rcases zB2.1 hx with rfl | hx
   ·exact hy
   ·exact To h x hx
  ·rename_i hy; exact absurd h hy
theorem QH {a b : Ac} (h : TV a b = 0) : a = b := by
 have := To h
 have h1 := ON _ _ (this (Jt a.fd b.fd) (by simp))
 have h2 := ON _ _ (this (Jt a.fb b.fb) (by simp))
 have h3 := ON _ _ (this (Jt a.fe b.fe) (by simp))
 cases a; cases b; simp only at h1 h2 h3; subst h1; subst h2; subst h3; rfl
instance eD : DecidableEq Ac := fun a b => if h : TV a b = 0 then isTrue (QH h) else isFalse (fun e => h (by rw [e]; exact Qu b))
theorem XG (a b : Ac) : (TV a b == 0) = decide (a = b) := by
 by_cases h : a = b
 ·rw [decide_eq_true h, h, Qu]; rfl
 ·rw [decide_eq_false h]
  exact beq_eq_false_iff_ne.2 fun e => h (QH e)
def Q8 (p : Aa) (m : Ac) (ss : List Ad) : List (Ad × Ac) := ss.filterMap fun s => if BA p (A5 p m s).1 = true then some (s, (A5 p m s).1) else none
def I5 (p : Aa) (m : Ac) : List (Ad × Ac) := Q8 p m (Gd p m)
def MY (s : Ad) : Nat := if s.ff = 1 then 1 + 8 * s.fh.toNat + s.fo.toNat else if s.ff = 2 then 60 + s.fh.toNat else 70 + s.fh.toNat
theorem IP {p : Aa} {m : Ac} {s : Ad} (h : s ∈ Gd p m) : s ∈ E1 p ∧ (A5 p m s).2 = 0 := by
 unfold Gd at h
 have := List.mem_filter.1 h
 exact ⟨this.1, by simpa using this.2⟩
theorem U2 {p : Aa} {m : Ac} {ss : List Ad} {q : Ad × Ac} : q ∈ Q8 p m ss ↔ q.1 ∈ ss ∧ q.2 = (A5 p m q.1).1 ∧ BA p q.2 = true := by
 unfold Q8
 rw [List.mem_filterMap]
 constructor
 ·rintro ⟨s, h1, h2⟩
  split at h2
  ·rename_i h3; cases h2; exact ⟨h1, rfl, h3⟩
  ·cases h2
 ·rintro ⟨h1, h2, h3⟩
  refine ⟨q.1, h1, ?_⟩
  rw [← h2, if_pos h3]
theorem Np {p : Aa} {m : Ac} {q : Ad × Ac} : q ∈ I5 p m ↔ q.1 ∈ Gd p m ∧ q.2 = (A5 p m q.1).1 ∧ BA p q.2 = true := U2
theorem Up {p : Aa} {m : Ac} (hp : Bc p) (hm : BX p m) {q : Ad × Ac} (h : q ∈ I5 p m) : BX p q.2 ∧ BA p q.2 = true := by
 obtain ⟨h1, h2, h3⟩ := Np.1 h
 exact ⟨by rw [h2]; exact L6 hp hm (IP h1).2, h3⟩
theorem PY {p : Aa} (hp : Bc p) {s : Ad} (h : s ∈ E1 p) : s.ff ≤ 3 ∧ 1 ≤ MY s ∧ MY s ≤ 100 := by
 obtain ⟨h1, h2⟩ := Oe hp h
 obtain ⟨a1, a2, a3, a4, a5⟩ := IE h1
 obtain ⟨b1, b2, b3⟩ := JC h2
 have hnv := hp.nv
 have hnt := hp.nt
 have hk : s.ff ≤ 3 := by
  unfold E1 at h
  rcases zC2.1 h with h | h
  ·rcases zC2.1 h with h | h
   ·obtain ⟨j, x, hx, hk⟩ := Hf.1 h
    unfold J9 at hk
    obtain ⟨v, hv, rfl⟩ := zB5.1 hk
    exact (by decide : (1 : Int) ≤ 3)
   ·obtain ⟨v, hv, rfl⟩ := zB5.1 h
    exact (by decide : (2 : Int) ≤ 3)
  ·obtain ⟨v, hv, rfl⟩ := zB5.1 h
   exact (by decide : (3 : Int) ≤ 3)
 refine ⟨hk, ?_⟩
 unfold MY
 by_cases h1 : s.ff = 1
 ·rw [if_pos h1]
  have := b2 (by omega)
  have h3 := b3 h1
  have h4 := (I9 hp (i := s.fh.toNat) (by omega)).2
  omega
 ·rw [if_neg h1]
  by_cases h2 : s.ff = 2
  ·rw [if_pos h2]
   have := b2 (by omega)
   omega
  ·rw [if_neg h2]
   have := b1 (by omega)
   omega
theorem Za (i : Nat) (n : Int) : (J9 i n).Pairwise fun a b => MY a < MY b := by
 unfold J9
 rw [zK8]
 refine List.Pairwise.imp ?_ zJ6
 intro a b h
 simp [MY]; omega
theorem Y8 {p : Aa} (hp : Bc p) : (E1 p).Pairwise fun a b => MY a < MY b := by
 have hnv := hp.nv
 have hnt := hp.nt
 have e1 : ∀ (xs : List Int) (i : Nat), (∀ x, x ∈ xs → x ≤ 6) → (CF J9 i xs).Pairwise fun a b => MY a < MY b := by
  intro xs
  induction xs with
  | nil => intro i _; exact List.Pairwise.nil
  | cons x xs ih =>
   intro i hx
   rw [CF, zI2]
   refine ⟨Za i x, ih (i + 1) fun y hy => hx y (zH0 _ hy), ?_⟩
   intro a ha b hb
   unfold J9 at ha
   obtain ⟨v, hv, rfl⟩ := zB5.1 ha
   obtain ⟨j, y, hy, hb⟩ := Hf.1 hb
   unfold J9 at hb
   obtain ⟨w, hw, rfl⟩ := zB5.1 hb
   have := hx x (by simp)
   have := zE2.1 hv
   simp [MY]; omega
 unfold E1
 rw [zI2, zI2]
 refine ⟨⟨e1 _ 0 fun x hx => (hp.ver x hx).2, ?_, ?_⟩, ?_, ?_⟩
 ·rw [zK8]
  refine List.Pairwise.imp ?_ zJ6
  intro a b h
  simp [MY]; omega
 ·intro a ha b hb
  obtain ⟨w, hw, rfl⟩ := zB5.1 hb
  obtain ⟨j, y, hy, ha⟩ := Hf.1 ha
  unfold J9 at ha
  obtain ⟨v, hv, rfl⟩ := zB5.1 ha
  have := zE2.1 hv
  have := (hp.ver y (lM hy)).2
  have := (lI.1 hy).1
  simp [MY]; omega
 ·rw [zK8]
  refine List.Pairwise.imp ?_ zJ6
  intro a b h
  simp [MY]; omega
 ·intro a ha b hb
  obtain ⟨w, hw, rfl⟩ := zB5.1 hb
  have hw := zE2.1 hw
  rcases zC2.1 ha with ha | ha
  ·obtain ⟨j, y, hy, ha⟩ := Hf.1 ha
   unfold J9 at ha
   obtain ⟨v, hv, rfl⟩ := zB5.1 ha
   have := zE2.1 hv
   have := (hp.ver y (lM hy)).2
   have := (lI.1 hy).1
   simp [MY]; omega
  ·obtain ⟨v, hv, rfl⟩ := zB5.1 ha
   have := zE2.1 hv
   simp [MY]; omega
theorem au {p : Aa} {m : Ac} {ss : List Ad} (h : ss.Pairwise fun a b => MY a < MY b) : (Q8 p m ss).Pairwise fun a b => MY a.1 < MY b.1 := by
 unfold Q8
 rw [List.pairwise_filterMap]
 refine List.Pairwise.imp ?_ h
 intro a b hab x hx y hy
 split at hx
 ·cases hx
  split at hy
  ·cases hy; exact hab
  ·cases hy
 ·cases hx
theorem ZH {p : Aa} (hp : Bc p) (m : Ac) : (I5 p m).Pairwise fun a b => MY a.1 < MY b.1 := au ((Y8 hp).filter _)
theorem YJ {p : Aa} {s : Ad} (hv : GX s = true) (hx : F7 p s = true) (hk : s.ff ≠ 4) : s ∈ E1 p := by
 obtain ⟨a1, a2, a3, a4, a5⟩ := IE hv
 obtain ⟨b1, b2, b3⟩ := JC hx
 obtain ⟨k, i, v⟩ := s
 simp only at *
 unfold E1
 obtain ⟨i, rfl⟩ := zA7 a3
 by_cases h1 : k = 1
 ·subst h1
  have h2 := b2 (by decide)
  have h3 := b3 rfl
  obtain ⟨v, rfl⟩ := zA7 a4
  refine zE9 _ (zE9 _ (Hf.2 ⟨i, p.fa.getD i 0, ?_, ?_⟩))
  ·rw [lD]
   have hi : i < p.fa.length := by omega
   simp [hi]
  ·unfold J9
   refine zB5.2 ⟨v, zE2.2 ?_, by simp⟩
   simp only [zB3] at h3
   omega
 ·have hv0 := a5 h1
  subst hv0
  by_cases h2 : k = 2
  ·subst h2
   have := b2 (by decide)
   exact zE9 _ (List.mem_append_right _ (zB5.2 ⟨i, zE2.2 (by omega), rfl⟩))
  ·have h3 : k = 3 := by omega
   subst h3
   have := b1 rfl
   exact List.mem_append_right _ (zB5.2 ⟨i, zE2.2 (by omega), rfl⟩)
theorem Q3 {p : Aa} {m x : Ac} {s : Ad} : Nr p m s = some x → (s, x) ∈ I5 p m := by
 intro h
 obtain ⟨h1, h2, h3, h4, h5⟩ := VJ.1 h
 unfold Nr at h
 split at h
 ·rename_i h6
  cases h
  refine Np.2 ⟨?_, rfl, h6.2.2⟩
  unfold Gd
  exact List.mem_filter.2 ⟨YJ h1 h2 h4, by simpa using h6.1⟩
 ·cases h
theorem VR {p : Aa} (hp : Bc p) {m x : Ac} {s : Ad} (h : (s, x) ∈ I5 p m) : Nr p m s = some x := by
 obtain ⟨h1, h2, h3⟩ := Np.1 h
 have h1 : s ∈ Gd p m := h1
 obtain ⟨h4, h5⟩ := IP h1
 have := (PY hp h4).1
 have h2 : x = (A5 p m s).1 := h2
 have h3 : BA p x = true := h3
 unfold Nr
 rw [if_pos ⟨h5, by omega, by rw [← h2]; exact h3⟩, h2]
theorem Nl {p : Aa} (hp : Bc p) : ∀ {w : List Ad} {m x : Ac}, PR p m w = some x ↔ Bfs.run (I5 p) m w x
 | [], m, x => by simp only [PR, Bfs.run, Option.some.injEq]; exact eq_comm
 | s :: w, m, x => by
  simp only [PR, Bfs.run]
  constructor
  ·intro h
   cases hs : Nr p m s with
   | none => rw [hs] at h; cases h
   | some z => rw [hs] at h; exact ⟨z, Q3 hs, (Nl hp).1 h⟩
  ·rintro ⟨z, h1, h2⟩
   rw [VR hp h1]
   exact (Nl hp).2 h2
abbrev Jy := Bfs.Nd Ac Ad
def Jp (n : Jy) : AC := ⟨n.1, n.2.1, n.2.2⟩
def Nb : Ad := ⟨0, 0, 0⟩
theorem XS {N : Nat} {p : Aa} {a b : Ac} (hN : N ≤ 1000000) (h20 : 100 ≤ N) (hp : Bc p) (ha : BX p a) (hb : BX p b) : EX N a b = some (decide (a = b)) := by
 have hnv := hp.nv
 have hnt := hp.nt
 unfold EX
 rw [Sn hN (by rw [ha.base]; omega) (by rw [ha.next]; omega) (by rw [ha.held]; omega) (by rw [hb.held]; omega) (MD ha) (MD hb)]
 simp only [oS]
 rw [XG]
theorem S1 {N : Nat} (hN : N ≤ 1000000) (h20 : 100 ≤ N) {p : Aa} (hp : Bc p) {x : Ac} (hx : BX p x) {l : List Jy} (hl : l.length < N) (hA : ∀ n, n ∈ l → BX p n.1) :
  ∃ r, Et N (l.map Jp) x = some r ∧ decide (r < 0) = !(l.any fun n => decide (n.1 = x)) := by
 unfold Et
 have := BQ (Cp N (l.map Jp) x fun _ => some (-1)) l (some (-1)) (fun i n => if n.1 = x then some (i : Int) else none)
  (fun n i nd hnd => by
   have hi := (lI.1 hnd).1
   rw [Cp, AB (by rw [zA9]; omega), AT, zA2, hnd]
   simp only [zD6, oS, Jp]
   have e := XS hN h20 hp (hA nd (lM hnd)) hx
   rw [show (Ac.mk nd.1.fd nd.1.fb nd.1.fe) = nd.1 from rfl, e, AF (by omega)]
   simp only [oS]
   by_cases h : nd.1 = x
   ·rw [decide_eq_true h, if_pos h]; rfl
   ·rw [decide_eq_false h, if_neg h]; rfl)
  (fun n => by rw [Cp, Ay (by simp)]) N 0 (zA8 _) (by omega)
 have e' : Cp N (l.map Jp) x (fun _ => some (-1)) N 0 = _ := this
 rw [e', zB9]
 cases hs : CE (fun i (n : Jy) => if n.1 = x then some (i : Int) else none) 0 l with
 | none =>
  refine ⟨_, rfl, ?_⟩
  have : (l.any fun n => decide (n.1 = x)) = false := by
   rw [zK0]
   intro n hn
   obtain ⟨j, hj⟩ := zB4.1 hn
   have := Fd hs j n hj
   split at this
   ·cases this
   ·rename_i h; simpa using h
  rw [this]; rfl
 | some r =>
  refine ⟨_, rfl, ?_⟩
  obtain ⟨j, n, hj, hr⟩ := DT hs
  split at hr
  ·rename_i h
   cases hr
   have : (l.any fun n => decide (n.1 = x)) = true := zF3.2 ⟨n, lM hj, decide_eq_true h⟩
   rw [this]
   exact decide_eq_false (by omega)
  ·cases hr
theorem SQ {i : Nat} {l : List Jy} {q : Ad × Ac} {k : Nat} {n : Jy} (h : l[k]? = some n) : (Bfs.put i l q)[k]? = some n := by
 unfold Bfs.put
 split
 ·exact h
 ·exact Bfs.get_app_of h
theorem U3 {i : Nat} {l : List Jy} {q : Ad × Ac} {n : Jy} (h : n ∈ Bfs.put i l q) : n ∈ l ∨ n.1 = q.2 := by
 unfold Bfs.put at h
 split at h
 ·exact .inl h
 ·rcases zC2.1 h with h | h
  ·exact .inl h
  ·rw [zD8.1 h]; exact .inr rfl
theorem Tc {p : Aa} {m : Ac} {s : Ad} {ss : List Ad} : Q8 p m (s :: ss) = if BA p (A5 p m s).1 = true then (s, (A5 p m s).1) :: Q8 p m ss else Q8 p m ss := by
 unfold Q8
 rw [List.filterMap_cons]
 split <;> rename_i h
 ·split at h
  ·cases h
  ·rename_i h2; rw [if_neg h2]
 ·split at h
  ·rename_i h2; cases h; rw [if_pos h2]
  ·cases h
theorem KR {p : Aa} {most i : Nat} : ∀ {qs : List (Ad × Ac)} {l l' : List Jy}, Bfs.inner most i qs l = some l' → (∀ q, q ∈ qs → BX p q.2 ∧ BA p q.2 = true) → (∀ n, n ∈ l → BX p n.1 ∧ BA p n.1 = true) → (∀ n, n ∈ l' → BX p n.1 ∧ BA p n.1 = true) ∧ (∀ (k : Nat) n, l[k]? = some n → l'[k]? = some n)
 | [], l, l', h, _, hA => by cases h; exact ⟨hA, fun _ _ h => h⟩
 | q :: qs, l, l', h, hq, hA => by
  simp only [Bfs.inner] at h
  split at h
  ·cases h
  ·obtain ⟨h1, h2⟩ := KR h (fun q hq' => hq q (zH0 _ hq')) (fun n hn => by
    rcases U3 hn with h | h
    ·exact hA n h
    ·rw [h]; exact hq q (by simp))
   exact ⟨h1, fun k n hn => h2 k n (SQ hn)⟩
theorem RB (N : Nat) (hN : N ≤ 1000000) (h20 : 100 ≤ N) {p : Aa} {m : Ac} (hp : Bc p) (hm : BX p m) {s : Ad} (hs : s ∈ Gd p m) : ∃ b, CX N p m s = some ((A5 p m s).1, b) := by
 obtain ⟨h1, h2⟩ := IP hs
 obtain ⟨h3, h4⟩ := Oe hp h1
 rw [NQ N hN h20 hp hm h3 h4]
 unfold A5 at h2 ⊢
 rw [h3, h4, if_neg (by simp), if_neg (by simp)] at h2 ⊢
 cases h : F8 p m s with
 | none => rw [h] at h2; cases h2
 | some x => exact ⟨true, rfl⟩
theorem KQ {N : Nat} (hN : N ≤ 1000000) (h20 : 100 ≤ N) {p : Aa} (hp : Bc p) {m : Ac} (hm : BX p m) {f : Int} {t : Ad} {most i : Nat} (hmo : most ≤ 20000) {v1 : List AC × Int} (hv1 : v1.2 = (i : Int)) (ss : List Ad) (hss : ∀ s, s ∈ ss → s ∈ Gd p m) (hsl : ss.length ≤ 1000) (j : List AC → Option (List AC × Bool)) :
  ∀ (n k : Nat) (l : List Jy), k ≤ ss.length → ss.length - k < n → l[i]? = some (m, f, t) → (∀ n, n ∈ l → BX p n.1 ∧ BA p n.1 = true) → l.length ≤ most → (l.length < N ∧ most < N ∨ ∃ l', Bfs.inner most i (Q8 p m (ss.drop k)) l = some l' ∧ l'.length < N) →
   BR N p (most : Int) v1 ss j n (l.map Jp, (k : Int)) = match Bfs.inner most i (Q8 p m (ss.drop k)) l with
    | none => some ([], false)
    | some l' => j (l'.map Jp)
 | 0, k, l, _, h, _, _, _, _ => by omega
 | n + 1, k, l, hk, h, hi, hA, hlm, hfu => by
  by_cases h1 : k < ss.length
  ·have hs : ss[k]? = some ss[k] := by simp [h1]
   have hsm := hss _ (lM hs)
   have hl1 : l.length < N := by
    rcases hfu with h | ⟨l', h, h2⟩
    ·exact h.1
    ·have hk := (KR (p := p) h (fun q hq => by
      obtain ⟨g1, g2, g3⟩ := U2.1 hq
      exact ⟨by rw [g2]; exact L6 hp hm (IP (hss _ (List.mem_of_mem_drop g1))).2, g3⟩) hA).2
     by_cases h0 : l.length = 0
     ·omega
     ·have := hk (l.length - 1) l[l.length - 1] (by simp)
      have := (lI.1 this).1
      omega
   rw [BR, AB (by simp only; omega)]
   simp only [Bh, hv1, AT, zA2, hi, hs, zD6, oS, Jp]
   obtain ⟨b, ea⟩ := RB N hN h20 hp hm hsm
   rw [show (Ac.mk m.fd m.fb m.fe) = m from rfl, ea]
   simp only [oS]
   have hxo := L6 hp hm (IP hsm).2
   rw [IH N p _ hN h20 hp hxo]
   simp only [oS]
   rw [Ga hs, Tc] at hfu ⊢
   cases hr : BA p (A5 p m ss[k]).1
   ·rw [hr] at hfu
    rw [Al, Al, if_neg (by simp), Ay (by rw [zA9]; omega), AF (by omega)]
    rw [if_neg (by simp)] at hfu
    exact KQ hN h20 hp hm hmo hv1 ss hss hsl j n (k + 1) l (by omega) (by omega) hi hA hlm hfu
   ·rw [hr] at hfu
    rw [AQ, if_pos rfl]
    rw [if_pos rfl] at hfu
    obtain ⟨r, er, hr2⟩ := S1 hN h20 hp hxo hl1 (fun n hn => (hA n hn).1)
    have er' : Et N (l.map fun n => AC.mk n.1 n.2.1 n.2.2) (A5 p m ss[k]).1 = some r := er
    have em : (l.map fun n : Jy => AC.mk n.1 n.2.1 n.2.2) = l.map Jp := rfl
    rw [← em, er']
    simp only [oS]
    rw [hr2]
    have hput : Bfs.put i l (ss[k], (A5 p m ss[k]).1) = if (l.any fun n => decide (n.1 = (A5 p m ss[k]).1)) = true then l else l ++ [((A5 p m ss[k]).1, (i : Int), ss[k])] := rfl
    simp only [Bfs.inner] at hfu ⊢
    have hA2 : ∀ n, n ∈ Bfs.put i l (ss[k], (A5 p m ss[k]).1) → BX p n.1 ∧ BA p n.1 = true := fun n hn => by
     rcases U3 hn with h | h
     ·exact hA n h
     ·rw [h]; exact ⟨hxo, hr⟩
    have hi2 : (Bfs.put i l (ss[k], (A5 p m ss[k]).1))[i]? = some (m, f, t) := SQ hi
    have main : (AP (decide ((most : Int) < (((Bfs.put i l (ss[k], (A5 p m ss[k]).1)).map Jp).length : Int))) (some (([] : List AC), false)) (BR N p (most : Int) v1 ss j n ((Bfs.put i l (ss[k], (A5 p m ss[k]).1)).map Jp, (wI .i64 ((k : Int) + 1))))) =
      match (if most < (Bfs.put i l (ss[k], (A5 p m ss[k]).1)).length then none else Bfs.inner most i (Q8 p m (ss.drop (k + 1))) (Bfs.put i l (ss[k], (A5 p m ss[k]).1))) with
      | none => some ([], false)
      | some l' => j (l'.map Jp) := by
     by_cases hb : most < (Bfs.put i l (ss[k], (A5 p m ss[k]).1)).length
     ·rw [if_pos hb, AB (by rw [zA9]; omega)]
     ·rw [if_neg hb] at hfu
      rw [if_neg hb, Ay (by rw [zA9]; omega), AF (by omega)]
      exact KQ hN h20 hp hm hmo hv1 ss hss hsl j n (k + 1) _ (by omega) (by omega) hi2 hA2 (by omega) (hfu.imp (fun h => ⟨by omega, h.2⟩) id)
    cases hin : (l.any fun n => decide (n.1 = (A5 p m ss[k]).1))
    ·rw [hin] at hput
     rw [zE0, AQ, Au (by simp [C5]; omega)]
     rw [if_neg (by simp)] at hput
     rw [hput, zE6] at main
     rw [hput]
     exact main
    ·rw [hin] at hput
     rw [zC0, Al]
     rw [if_pos rfl] at hput
     rw [hput] at main
     rw [hput]
     exact main
  ·have : k = ss.length := by omega
   subst this
   rw [BR, Ay (by simp), zD4 (zB0 _)]
   rfl
theorem Vg {p : Aa} {m : Ac} (hm : BX p m) (hr : BA p m = true) : ∀ n, n ∈ ([(m, -1, Nb)] : List Jy) → BX p n.1 ∧ BA p n.1 = true := fun n hn => by
 rw [zD8.1 hn]; exact ⟨hm, hr⟩
theorem Q1 {p : Aa} (hp : Bc p) (m : Ac) : (Gd p m).length ≤ 54 := zG5 (List.length_filter_le _ _) (U5 hp)
theorem Ly {N : Nat} (hN : N ≤ 1000000) (h20 : 100 ≤ N) {p : Aa} (hv : BM p = 0) {most : Nat} (hmo : most ≤ 20000) (j : List AC → Option (List AC × Bool)) :
  ∀ (n i : Nat) (l : List Jy), i ≤ l.length → (∀ n, n ∈ l → BX p n.1 ∧ BA p n.1 = true) → l.length ≤ most → (most < N ∧ most < n + i ∨ ∃ l', Bfs.go (I5 p) most n i l = some l' ∧ l'.length < N) →
   BS N p (most : Int) j n (l.map Jp, (i : Int)) = match Bfs.go (I5 p) most n i l with
    | none => some ([], false)
    | some l' => j (l'.map Jp)
 | 0, i, l, hi, _, hlm, hfu => by
  rcases hfu with h | ⟨l', h, _⟩
  ·omega
  ·cases h
 | n + 1, i, l, hi, hA, hlm, hfu => by
  obtain ⟨hp, _⟩ := C3 hv
  simp only [Bfs.go] at hfu ⊢
  rw [BS]
  by_cases h1 : i < l.length
  ·obtain ⟨⟨m, f, t⟩, hx⟩ := Bfs.get_ex h1
   have hm := (hA _ (lM hx)).1
   rw [hx] at hfu ⊢
   simp only at hfu ⊢
   rw [AB (by rw [zA9]; omega)]
   simp only [AT, zA2, hx, zD6, oS, Jp]
   rw [show (Ac.mk m.fd m.fb m.fe) = m from rfl, RT N hN h20 hv hm]
   simp only [oS]
   have hgo : Q8 p m ((Gd p m).drop 0) = I5 p m := rfl
   have hsl := Q1 hp m
   have e := KQ hN h20 hp hm hmo (v1 := (l.map Jp, (i : Int))) rfl (Gd p m) (fun s hs => hs) (by omega) (fun (v7 : (List AC)) =>
    BS N p (most : Int) j n (v7, (wI .i64 ((i : Int) + 1)))) N 0 l (zA8 _) (by omega) hx hA hlm (by
     rcases hfu with ⟨g1, g2⟩ | ⟨l', h, hl'⟩
     ·exact .inl ⟨by omega, g1⟩
     ·right
      rw [hgo]
      cases hin : Bfs.inner most i (I5 p m) l with
      | none => rw [hin] at h; cases h
      | some l1 =>
       rw [hin] at h
       refine ⟨l1, rfl, ?_⟩
       have : l1.length ≤ l'.length := by
        have : ∀ (n i : Nat) (l l' : List Jy), Bfs.go (I5 p) most n i l = some l' → l.length ≤ l'.length := by
         intro n
         induction n with
         | zero => intro i l l' h; cases h
         | succ n ih =>
          intro i l l' h
          simp only [Bfs.go] at h
          split at h
          ·cases h; exact zB0 _
          ·rename_i nd _
           cases hin : Bfs.inner most i (I5 p nd.1) l with
           | none => rw [hin] at h; cases h
           | some l1 =>
            rw [hin] at h
            refine zG5 ?_ (ih _ _ _ h)
            have : ∀ (qs : List (Ad × Ac)) (l l1 : List Jy), Bfs.inner most i qs l = some l1 → l.length ≤ l1.length := by
             intro qs
             induction qs with
             | nil => intro l l1 h; cases h; exact zB0 _
             | cons q qs ih =>
              intro l l1 h
              simp only [Bfs.inner] at h
              split at h
              ·cases h
              ·refine zG5 ?_ (ih _ _ h)
               unfold Bfs.put; split
               ·exact zB0 _
               ·simp
            exact this _ _ _ hin
        exact this _ _ _ _ h
       omega)
   have e' : BR N p (most : Int) (l.map Jp, (i : Int)) (Gd p m) (fun (v7 : (List AC)) => BS N p (most : Int) j n (v7, (wI .i64 ((i : Int) + 1)))) N (l.map Jp, 0) = _ := e
   rw [e', hgo]
   cases hin : Bfs.inner most i (I5 p m) l with
   | none => rfl
   | some l1 =>
    rw [hin] at hfu
    obtain ⟨k1, k2⟩ := KR hin (fun q hq => Up hp hm hq) hA
    have := (lI.1 (k2 _ _ hx)).1
    simp only [oS] at hfu ⊢
    rw [AF (by omega)]
    exact Ly hN h20 hv hmo j n (i + 1) l1 (by omega) k1 (Bfs.inner_len _ _ _ hlm hin) (hfu.imp (fun h => ⟨h.1, by omega⟩) id)
  ·have hi' : i = l.length := by omega
   subst hi'
   rw [zE1 (zB0 _)]
   rw [Ay (by simp)]
def IB (p : Aa) (m : Ac) (most n : Nat) : Option (List Jy) := Bfs.go (I5 p) most n 0 [(m, -1, Nb)]
theorem M3 {N : Nat} (hN : N ≤ 1000000) (h20 : 100 ≤ N) {p : Aa} (hv : BM p = 0) {m : Ac} (hm : BX p m) (hr : BA p m = true) {most : Nat} (hmo : most ≤ 20000) (h1 : 1 ≤ most) (hfu : most < N ∨ ∃ l', IB p m most N = some l' ∧ l'.length < N) :
  CZ N p m (most : Int) = some (match IB p m most N with
   | none => ([], false)
   | some l' => (l'.map Jp, true)) := by
 unfold CZ
 have e := Ly hN h20 hv hmo (fun (v2 : (List AC)) => some (v2, true)) N 0 [(m, -1, Nb)] (zA8 _) (Vg hm hr) h1 (hfu.imp (fun h => ⟨h, by omega⟩) id)
 have e' : BS N p (most : Int) (fun (v2 : (List AC)) => some (v2, true)) N (([(AC.mk m ((-1)) ((Ad.mk 0 0 0)))] : List AC), 0) = _ := e
 rw [e']
 unfold IB
 cases Bfs.go (I5 p) most N 0 [(m, -1, Nb)] <;> rfl
structure YA (p : Aa) (m : Ac) (l : List Jy) (ws : List (List Ad)) : Prop where
 inv : Bfs.Inv (I5 p) MY 100 m l.length [] l ws
 ok : ∀ (k : Nat) x f s, l[k]? = some (x, f, s) → BX p x ∧ BA p x = true
theorem UD {p : Aa} (hp : Bc p) {m : Ac} (hm : BX p m) (hr : BA p m = true) {most n : Nat} {l : List Jy} (h : IB p m most n = some l) : ∃ ws, YA p m l ws := by
 obtain ⟨ws, h1, h2⟩ := Bfs.inv_go (rk := MY) (K := 100) (fun x => BX p x ∧ BA p x = true) (fun x _ => ZH hp x) (fun x hx q hq => by
  refine ⟨?_, Up hp hx.1 hq⟩
  exact (PY hp (IP (Np.1 hq).1).1).2) ⟨hm, hr⟩ n 0 [(m, -1, Nb)] l [[]] (zA8 _) Bfs.inv_start (fun k x f s hk => by
   have := Bfs.lt_get hk
   simp at this; subst this
   cases hk; exact ⟨hm, hr⟩) h
 exact ⟨ws, h1, h2⟩
theorem Y0 {p : Aa} (hp : Bc p) {m : Ac} {l : List Jy} {ws : List (List Ad)} (h : YA p m l ws) {k : Nat} {x : Ac} {f : Int} {s : Ad} {w : List Ad} (hx : l[k]? = some (x, f, s)) (hw : ws[k]? = some w) : PR p m w = some x :=
 (Nl hp).2 (Bfs.way_run h.inv (k + 1) k (Nat.lt_succ_self k) hx hw)
theorem QJ {p : Aa} (hp : Bc p) {m x : Ac} {l : List Jy} {ws : List (List Ad)} (h : YA p m l ws) {w : List Ad} (hw : PR p m w = some x) : ∃ (k : Nat) (f : Int) (s : Ad) (u : List Ad), l[k]? = some (x, f, s) ∧ ws[k]? = some u ∧ Bfs.code MY 100 u ≤ Bfs.code MY 100 w :=
 Bfs.reach_node h.inv w.length rfl ((Nl hp).1 hw)
theorem RV {p : Aa} {m : Ac} {l : List Jy} {ws : List (List Ad)} (h : YA p m l ws) : ∀ (n k : Nat) {w : List Ad}, k < n → ws[k]? = some w → w.length ≤ k
 | 0, k, _, hk, _ => by omega
 | n + 1, k, w, hk, hw => by
  obtain ⟨⟨x, f, s⟩, hx⟩ := Bfs.get_ex (l := l) (k := k) (by rw [← h.inv.len]; exact Bfs.lt_get hw)
  rcases zH9 k with rfl | hk0
  ·rw [h.inv.root'] at hw; cases hw; exact zB0 _
  ·obtain ⟨j, y', g', t', w', e1, e2, e3, e4, e5, e6, e7⟩ := h.inv.par k _ _ _ hk0 hx
   rw [e6] at hw; cases hw
   have := RV h n j (by omega) e5
   simp; omega
theorem NP {p : Aa} {m : Ac} {l : List Jy} {ws : List (List Ad)} (h : YA p m l ws) (N : Nat) (j : List Ad → Option (List Ad)) : ∀ (n k : Nat) {w acc : List Ad}, k < n → ws[k]? = some w → acc.length + k ≤ 20000 →
  DU N (l.map Jp) j n ((k : Int), acc) = j (w ++ acc)
 | 0, k, _, _, hk, _, _ => by omega
 | n + 1, k, w, acc, hk, hw, ha => by
  obtain ⟨⟨x, f, s⟩, hx⟩ := Bfs.get_ex (l := l) (k := k) (by rw [← h.inv.len]; exact Bfs.lt_get hw)
  rw [DU]
  simp only [AT, zA2, hx, zD6, oS, Jp]
  rcases zH9 k with rfl | hk0
  ·obtain ⟨s0, hs0⟩ := h.inv.root; rw [hs0] at hx; cases hx
   rw [h.inv.root'] at hw; cases hw
   rw [Ay (by decide)]; rfl
  ·obtain ⟨i, y', g', t', w', e1, e2, e3, e4, e5, e6, e7⟩ := h.inv.par k _ _ _ hk0 hx
   rw [e6] at hw; cases hw
   subst e1
   rw [AB (zK7 i), Au (by simp [C5]; omega)]
   have := NP h N j n i (w := w') (acc := [Ad.mk s.ff s.fh s.fo] ++ acc) (by omega) e5 (by simp; omega)
   rw [this, zD1]
def KY (p : Aa) (l : List Jy) : Option Nat := CE (fun i (n : Jy) => if Ie p n.1 = true then some i else none) 0 l
theorem QG {p : Aa} {l : List Jy} {k : Nat} (h : KY p l = some k) : (∃ x f s, l[k]? = some (x, f, s) ∧ Ie p x = true) ∧ ∀ j x f s, j < k → l[j]? = some (x, f, s) → Ie p x = false := by
 have : ∀ (xs : List Jy) (i k : Nat), CE (fun i (n : Jy) => if Ie p n.1 = true then some i else none) i xs = some (i + k) → (∃ x f s, xs[k]? = some (x, f, s) ∧ Ie p x = true) ∧ ∀ j x f s, j < k → xs[j]? = some (x, f, s) → Ie p x = false := by
  intro xs
  induction xs with
  | nil => intro i k h; cases h
  | cons n xs ih =>
   intro i k h
   rw [FJ] at h
   cases hg : Ie p n.1
   ·rw [hg] at h
    simp only [Bool.false_eq_true, if_false] at h
    cases k with
    | zero =>
     exfalso
     obtain ⟨j, x, _, hj⟩ := DT h
     split at hj
     ·have := Option.some.inj hj; omega
     ·cases hj
    | succ k =>
     obtain ⟨⟨x, f, s, h1, h2⟩, h3⟩ := ih (i + 1) k (by rw [show i + 1 + k = i + (k + 1) from by omega]; exact h)
     refine ⟨⟨x, f, s, by simpa using h1, h2⟩, ?_⟩
     intro j x f s hj hx
     cases j with
     | zero => simp at hx; subst hx; exact hg
     | succ j => exact h3 j x f s (by omega) (by simpa using hx)
   ·rw [hg] at h
    simp only [if_true, Option.some.injEq] at h
    have : k = 0 := by omega
    subst this
    exact ⟨⟨n.1, n.2.1, n.2.2, rfl, hg⟩, fun j _ _ _ hj => by omega⟩
 exact this l 0 k (by rw [zA1]; exact h)
theorem VU {p : Aa} {l : List Jy} (h : KY p l = none) {k : Nat} {x : Ac} {f : Int} {s : Ad} (hx : l[k]? = some (x, f, s)) : Ie p x = false := by
 have := Fd h k _ hx
 split at this
 ·cases this
 ·rename_i h; simpa using h
def Mu (p : Aa) (l : List Jy) (ws : List (List Ad)) : List Ad × Int := match KY p l with
 | none => ([], 14)
 | some k => (ws.getD k [], 0)
theorem SC {N : Nat} (hN : N ≤ 1000000) (h20 : 100 ≤ N) {p : Aa} (hv : BM p = 0) {m : Ac} (hm : BX p m) (hr : BA p m = true) {l : List Jy} (hs : IB p m 20000 N = some l) (hl : l.length < N) {ws : List (List Ad)} (h : YA p m l ws) :
  Er N p m = some (Mu p l ws) := by
 obtain ⟨hp, _⟩ := C3 hv
 have hl2 : l.length ≤ 20000 := Bfs.go_len _ _ _ _ (by simp) hs
 unfold Er
 rw [Js N p m hN (by omega), I0 hv hm]
 simp only [oS, bne_self_eq_false, Al]
 rw [IH N p m hN h20 hp hm, hr]
 simp only [oS, zC0, Al]
 have e := M3 hN h20 hv hm hr (most := 20000) (by omega) (by omega) (.inr ⟨l, hs, hl⟩)
 rw [hs] at e
 have e' : CZ N p m 20000 = some (l.map Jp, true) := e
 rw [e']
 simp only [oS, zC0, Al]
 have := BQ (Cv N p (l.map Jp, true) fun _ => some (([] : List Ad), 14)) l (some ([], 14)) (fun i n => (if Ie p n.1 = true then some i else none).map fun k => (ws.getD k [], 0))
  (fun n i nd hnd => by
   have hi := (lI.1 hnd).1
   rw [Cv, AB (by simp only [zA9]; omega)]
   simp only [AT, zA2, hnd, zD6, oS, Jp]
   have hok := (h.ok _ _ _ _ (show l[i]? = some (nd.1, nd.2.1, nd.2.2) from hnd)).1
   rw [show (Ac.mk nd.1.fd nd.1.fb nd.1.fe) = nd.1 from rfl, Tb N p nd.1 hN h20 (MD hok), AF (by omega)]
   simp only [oS]
   cases hg : Ie p nd.1
   ·rfl
   ·rw [AQ, if_pos rfl]
    obtain ⟨w, hw⟩ := Bfs.get_ex (l := ws) (k := i) (by rw [h.inv.len]; exact hi)
    have e2 := NP h N (fun v2 => some v2) N i (w := w) (acc := []) (by omega) hw (by simp; omega)
    unfold Gw
    rw [e2, zG2]
    simp only [oS, zD6, BL]
    rw [lD, hw]; rfl)
  (fun n => by rw [Cv, Ay (by simp)]) N 0 (zA8 _) (by omega)
 have e3 : Cv N p (l.map Jp, true) (fun _ => some (([] : List Ad), 14)) N 0 = _ := this
 rw [e3, zB9, LB]
 unfold Mu KY
 cases CE (fun i (n : Jy) => if Ie p n.1 = true then some i else none) 0 l <;> rfl
def Ez (n : AD) : Jy := (n.fp, n.fg, n.ft)
def JT (x : Ac) : List (Ac × Int) → Option Int
 | [] => none
 | e :: r => if x = e.1 then some e.2 else JT x r
def Ml (q : List (Ac × Int)) : List (ByteArray × Int) := q.map fun e => (CI (LP e.1), e.2)
theorem X2 {p : Aa} (hp : Bc p) {x y : Ac} (hx : BX p x) (hy : BX p y) : (CI (LP x) == CI (LP y)) = decide (x = y) := by
 by_cases h : x = y
 ·rw [decide_eq_true h, h, Sc]
 ·rw [decide_eq_false h]
  cases hb : CI (LP x) == CI (LP y)
  ·rfl
  ·exact absurd (Yx hp hx hy hb) h
theorem Pm {p : Aa} (hp : Bc p) {x : Ac} (hx : BX p x) : ∀ {q : List (Ac × Int)}, (∀ e, e ∈ q → BX p e.1) → ID (CI (LP x)) (Ml q) = JT x q
 | [], _ => rfl
 | e :: q, h => by
  have ih := Pm hp hx (q := q) fun e he => h e (zH0 _ he)
  show (if (CI (LP x) == CI (LP e.1)) = true then some e.2 else ID (CI (LP x)) (Ml q)) = if x = e.1 then some e.2 else JT x q
  rw [X2 hp hx (h e (by simp)), ih]
  by_cases h : x = e.1
  ·rw [decide_eq_true h, if_pos rfl, if_pos h]
  ·rw [decide_eq_false h, if_neg (by simp), if_neg h]
theorem L0 (x y : Ac) (r : Int) : ∀ q : List (Ac × Int), JT x (q ++ [(y, r)]) = match JT x q with
  | some v => some v
  | none => if x = y then some r else none
 | [] => rfl
 | e :: q => by
  simp only [zI5, JT]
  by_cases h : x = e.1
  ·rw [if_pos h, if_pos h]
  ·rw [if_neg h, if_neg h, L0 x y r q]
theorem Xw (q : List (Ac × Int)) (x : Ac) (r : Int) : Ml (q ++ [(x, r)]) = Ml q ++ [(CI (LP x), r)] := by simp [Ml]
structure OO (p : Aa) (q : List (Ac × Int)) (l : List Jy) : Prop where
 ok : ∀ e, e ∈ q → BX p e.1
 none : ∀ x, BX p x → JT x q = none → ∀ n, n ∈ l → n.1 ≠ x
 some : ∀ x r, BX p x → JT x q = some r → (r = -1 ∧ BA p x = false) ∨ ∃ (j : Nat) (f : Int) (s : Ad), r = (j : Int) ∧ l[j]? = some (x, f, s)
structure MO (p : Aa) (i : Nat) (done : List (Ad × Ac)) (pl : List AD) : Prop where
 to : ∀ (b : Nat) nd, pl[b]? = some nd → ∀ r, r ∈ nd.fb → ∃ s y, ((b < i ∧ (s, y) ∈ I5 p nd.fp) ∨ (b = i ∧ (s, y) ∈ done)) ∧ ∃ (a : Nat) (f : Int) (t : Ad), r = (a : Int) ∧ (pl.map Ez)[a]? = some (y, f, t)
 of : ∀ (b : Nat) nd, pl[b]? = some nd → ∀ s y, ((b < i ∧ (s, y) ∈ I5 p nd.fp) ∨ (b = i ∧ (s, y) ∈ done)) → ∃ (a : Nat) (f : Int) (t : Ad), ((a : Nat) : Int) ∈ nd.fb ∧ (pl.map Ez)[a]? = some (y, f, t)
def Mg (pl : List AD) (i : Nat) (nd : AD) (r : Int) : List AD := if 0 ≤ r then pl.set i ⟨nd.fp, nd.fg, nd.ft, nd.fb ++ [r]⟩ else pl
theorem MZ {pl : List AD} {i : Nat} {nd : AD} {r : Int} (h : pl[i]? = some nd) : (Mg pl i nd r).map Ez = pl.map Ez := by
 unfold Mg
 split
 ·apply List.ext_getElem?
  intro k
  rw [zA2, zA2, zF0]
  by_cases hk : i = k
  ·subst hk
   rw [if_pos rfl, if_pos (Bfs.lt_get h), h]; rfl
  ·rw [if_neg hk]
 ·rfl
theorem L2 {pl : List AD} {i : Nat} {nd : AD} {r : Int} (h : pl[i]? = some nd) {b : Nat} {nb : AD} (hb : (Mg pl i nd r)[b]? = some nb) : (b ≠ i ∧ pl[b]? = some nb) ∨ (b = i ∧ nb.fp = nd.fp ∧ nb.fg = nd.fg ∧ nb.ft = nd.ft ∧ nb.fb = if 0 ≤ r then nd.fb ++ [r] else nd.fb) := by
 unfold Mg at hb
 split at hb
 ·rename_i hr
  rw [zF0] at hb
  by_cases hk : i = b
  ·subst hk
   rw [if_pos rfl, if_pos (Bfs.lt_get h)] at hb
   cases hb
   exact .inr ⟨rfl, rfl, rfl, rfl, by rw [if_pos hr]⟩
  ·rw [if_neg hk] at hb
   exact .inl ⟨fun e => hk e.symm, hb⟩
 ·rename_i hr
  by_cases hk : b = i
  ·subst hk; rw [h] at hb; cases hb
   exact .inr ⟨rfl, rfl, rfl, rfl, by rw [if_neg hr]⟩
  ·exact .inl ⟨hk, hb⟩
theorem Ss {p : Aa} {i : Nat} {done : List (Ad × Ac)} {pl pl2 : List AD} {nd : AD} {s : Ad} {x : Ac} {a : Nat} {f : Int} {t : Ad} (h : MO p i done pl)
  (hkeep : ∀ (b : Nat) nb, pl2[b]? = some nb → pl[b]? = some nb ∨ (i < b ∧ nb.fb = [])) (hk2 : ∀ (b : Nat) n, (pl.map Ez)[b]? = some n → (pl2.map Ez)[b]? = some n) (hi : pl2[i]? = some nd) (ha : (pl2.map Ez)[a]? = some (x, f, t)) : MO p i (done ++ [(s, x)]) (Mg pl2 i nd (a : Int)) := by
 constructor
 ·intro b nb hb r hr
  rw [MZ hi]
  rcases L2 hi hb with ⟨h1, h2⟩ | ⟨h1, h2, h3, h4, h5⟩
  ·rcases hkeep b nb h2 with h3 | ⟨h3, h4⟩
   ·obtain ⟨s', y, g1, a', f', t', g2, g3⟩ := h.to b nb h3 r hr
    refine ⟨s', y, ?_, a', f', t', g2, hk2 _ _ g3⟩
    rcases g1 with g1 | g1
    ·exact .inl g1
    ·exact absurd g1.1 h1
   ·rw [h4] at hr; cases hr
  ·subst h1
   rw [h5, if_pos (zK7 a)] at hr
   rcases zC2.1 hr with hr | hr
   ·rcases hkeep b nd hi with h6 | ⟨h6, _⟩
    ·obtain ⟨s', y, g1, a', f', t', g2, g3⟩ := h.to b nd h6 r hr
     refine ⟨s', y, ?_, a', f', t', g2, hk2 _ _ g3⟩
     rcases g1 with g1 | g1
     ·exact .inl ⟨g1.1, by rw [h2]; exact g1.2⟩
     ·exact .inr ⟨rfl, zE9 _ g1.2⟩
    ·omega
   ·rw [zD8.1 hr]
    exact ⟨s, x, .inr ⟨rfl, by simp⟩, a, f, t, rfl, ha⟩
 ·intro b nb hb s' y hs
  rw [MZ hi]
  rcases L2 hi hb with ⟨h1, h2⟩ | ⟨h1, h2, h3, h4, h5⟩
  ·rcases hkeep b nb h2 with h3 | ⟨h3, h4⟩
   ·obtain ⟨a', f', t', g2, g3⟩ := h.of b nb h3 s' y (by
     rcases hs with hs | hs
     ·exact .inl hs
     ·exact absurd hs.1 h1)
    exact ⟨a', f', t', g2, hk2 _ _ g3⟩
   ·rcases hs with hs | hs <;> omega
  ·subst h1
   rw [h5, if_pos (zK7 a)]
   rcases hkeep b nd hi with h6 | ⟨h6, _⟩
   ·rcases hs with hs | ⟨_, hs⟩
    ·omega
    ·rcases zC2.1 hs with hs | hs
     ·obtain ⟨a', f', t', g2, g3⟩ := h.of b nd h6 s' y (.inr ⟨rfl, hs⟩)
      exact ⟨a', f', t', zE9 _ g2, hk2 _ _ g3⟩
     ·cases zD8.1 hs
      exact ⟨a, f, t, by simp, ha⟩
   ·omega
theorem Hx {N : Nat} (hN : N ≤ 1000000) (h20 : 100 ≤ N) {p : Aa} (hv : BM p = 0) {m : Ac} (hm : BX p m) {most i : Nat} (hmo : most ≤ 20000) {v2 : List AD × List (ByteArray × Int) × Int} (hv2 : v2.2.2 = (i : Int)) (ss : List Ad) (e0 : Int) (hss : ∀ s, s ∈ ss → s ∈ Gd p m) (hsl : ss.length ≤ 1000) (j : List AD × List (ByteArray × Int) → Option (List AD × Int)) :
  ∀ (n k : Nat) (pl : List AD) (q : List (Ac × Int)) (l' : List Jy), k ≤ ss.length → ss.length - k < n → (∃ nd, pl[i]? = some nd ∧ nd.fp = m) → (∀ n, n ∈ pl.map Ez → BX p n.1 ∧ BA p n.1 = true) → pl.length ≤ most → OO p q (pl.map Ez) → MO p i (Q8 p m (ss.take k)) pl →
   (∃ nd, pl[i]? = some nd ∧ nd.fb.length ≤ k) → Bfs.inner most i (Q8 p m (ss.drop k)) (pl.map Ez) = some l' →
   ∃ pl' q', Cu N p v2 (ss, e0) j n (pl, Ml q, (k : Int)) = j (pl', Ml q') ∧ pl'.map Ez = l' ∧ OO p q' l' ∧ MO p i (Q8 p m ss) pl' ∧ (∀ (b : Nat) nb, pl'[b]? = some nb → b ≠ i → pl[b]? = some nb ∨ nb.fb = [])
 | 0, k, pl, q, l', _, h, _, _, _, _, _, _, _ => by omega
 | n + 1, k, pl, q, l', hk, h, hi, hA, hlm, hpl, hnx, hfl, hin => by
  obtain ⟨hp, _⟩ := C3 hv
  obtain ⟨nd, hnd, hndm⟩ := hi
  obtain ⟨nd', hnd', hfl⟩ := hfl
  rw [hnd] at hnd'; cases hnd'
  by_cases h1 : k < ss.length
  ·have hs : ss[k]? = some ss[k] := by simp [h1]
   have hsm := hss _ (lM hs)
   have hstep := (IP hsm).2
   have hxo := L6 hp hm hstep
   have hil := Bfs.lt_get hnd
   rw [Cu, AB (by simp only; omega)]
   simp only [Bh, hv2, AT, hnd, hs, oS]
   rw [show (Ac.mk nd.fp.fd nd.fp.fb nd.fp.fe) = m from hndm, Qp N hN h20 (MD hm), if_pos (I0 hv hm)]
   simp only [oS]
   rw [hstep, bne_self_eq_false, Al, XB N hN h20 hp hxo]
   simp only [oS]
   rw [Pm hp hxo hpl.ok]
   have htk : ss.take (k + 1) = ss.take k ++ [ss[k]] := by rw [zD9, hs]; rfl
   have hgo : Q8 p m (ss.take (k + 1)) = if BA p (A5 p m ss[k]).1 = true then Q8 p m (ss.take k) ++ [(ss[k], (A5 p m ss[k]).1)] else Q8 p m (ss.take k) := by
    rw [htk]; unfold Q8; rw [List.filterMap_append]
    cases hr : BA p (A5 p m ss[k]).1 <;> simp [hr]
   rw [Ga hs, Tc] at hin
   -- what follows when the node's number is known
   have tail : ∀ (pl2 : List AD) (q2 : List (Ac × Int)) (r : Int) (nd2 : AD), pl2[i]? = some nd2 → nd2.fp = m → nd2.fb.length ≤ k → pl2.length ≤ most →
     AP (decide (0 ≤ r)) ((Bj pl2 (i : Int)).bind fun v26 => (DF (v26.fb.length + (([r] : List Int)).length ≤ C5)).bind fun _ => (Bj pl2 (i : Int)).bind fun v28 =>
      AP (decide ((20000 : Int) < ((pl2.set ((i : Int)).toNat (AD.mk (Ac.mk v28.fp.fd v28.fp.fb v28.fp.fe) v28.fg (Ad.mk v28.ft.ff v28.ft.fh v28.ft.fo) (v26.fb ++ ([r] : List Int)))).length : Int))) (some (([] : List AD), 3))
       (Cu N p v2 (ss, e0) j n (pl2.set ((i : Int)).toNat (AD.mk (Ac.mk v28.fp.fd v28.fp.fb v28.fp.fe) v28.fg (Ad.mk v28.ft.ff v28.ft.fh v28.ft.fo) (v26.fb ++ ([r] : List Int))), Ml q2, (wI .i64 ((k : Int) + 1)))))
      (AP (decide ((20000 : Int) < (pl2.length : Int))) (some (([] : List AD), 3)) (Cu N p v2 (ss, e0) j n (pl2, Ml q2, (wI .i64 ((k : Int) + 1))))) =
     Cu N p v2 (ss, e0) j n (Mg pl2 i nd2 r, Ml q2, ((k + 1 : Nat) : Int)) := by
    intro pl2 q2 r nd2 h2 h3 h4 h5
    by_cases hr : 0 ≤ r
    ·rw [AB hr]
     simp only [AT, h2, oS, zB3]
     rw [Au (by simp [C5]; omega), Ay (by rw [zG8]; omega), AF (by omega)]
     unfold Mg; rw [if_pos hr]
    ·rw [Ay hr, Ay (by omega), AF (by omega)]
     unfold Mg; rw [if_neg hr]
   cases hlq : JT (A5 p m ss[k]).1 q with
   | some r =>
    simp only [Option.isSome_some, zC0, Al, zC4]
    have ht := tail pl q r nd hnd hndm hfl hlm
    simp only [AT, hnd, oS] at ht
    rw [show (Ac.mk nd.fp.fd nd.fp.fb nd.fp.fe) = m from hndm] at ht
    rw [ht]
    rcases hpl.some _ _ hxo hlq with ⟨hr, hnr⟩ | ⟨a, f, t, hr, ha⟩
    ·subst hr
     rw [hnr, if_neg (by simp)] at hin
     rw [hnr, if_neg (by simp)] at hgo
     have hadd : Mg pl i nd (-1) = pl := by unfold Mg; rw [if_neg (by decide)]
     rw [hadd]
     exact Hx hN h20 hv hm hmo hv2 ss e0 hss hsl j n (k + 1) pl q l' (by omega) (by omega) ⟨nd, hnd, hndm⟩ hA hlm hpl (by rw [hgo]; exact hnx) ⟨nd, hnd, by omega⟩ hin
    ·subst hr
     have hrob : BA p (A5 p m ss[k]).1 = true := (hA _ (lM ha)).2
     rw [hrob, if_pos rfl] at hin hgo
     have hput : Bfs.put i (pl.map Ez) (ss[k], (A5 p m ss[k]).1) = pl.map Ez := by
      unfold Bfs.put
      rw [if_pos]
      exact zF3.2 ⟨_, lM ha, decide_eq_true rfl⟩
     simp only [Bfs.inner] at hin
     rw [hput, if_neg (by rw [zA9]; omega)] at hin
     have hpr := MZ (r := (a : Int)) hnd
     have hnx2 := Ss (s := ss[k]) hnx (pl2 := pl) (fun b nb hb => .inl hb) (fun b n hb => hb) hnd ha
     obtain ⟨nd3, hnd3⟩ := Bfs.get_ex (l := Mg pl i nd (a : Int)) (k := i) (by
      have := congrArg zF8 hpr; simp only [zA9] at this; omega)
     obtain ⟨g1, g2⟩ | ⟨_, g2, g3, g4, g5⟩ := L2 hnd hnd3
     ·exact absurd rfl g1
     obtain ⟨pl', q', r1, r2, r3, r4, r5⟩ := Hx hN h20 hv hm hmo hv2 ss e0 hss hsl j n (k + 1) (Mg pl i nd (a : Int)) q l' (by omega) (by omega) ⟨nd3, hnd3, by rw [g2]; exact hndm⟩ (by rw [hpr]; exact hA) (by have := congrArg zF8 hpr; simp only [zA9] at this; omega)  (by rw [hpr]; exact hpl) (by rw [hgo]; exact hnx2) ⟨nd3, hnd3, by rw [g5]; split <;> (try simp only [zB6, zB8]) <;> omega⟩ (by rw [hpr]; exact hin)
     refine ⟨pl', q', r1, r2, r3, r4, ?_⟩
     intro b nb hb hbi
     rcases r5 b nb hb hbi with h2 | h2
     ·rcases L2 hnd h2 with ⟨_, h3⟩ | ⟨h3, _⟩
      ·exact .inl h3
      ·exact absurd h3 hbi
     ·exact .inr h2
   | none =>
    simp only [Option.isSome_none, zE0, AQ]
    rw [Kn N p _ hN h20 (MD hxo) (I0 hv hxo)]
    simp only [oS, bne_self_eq_false, Al]
    have hms : ∀ r, LT (CI (LP (A5 p m ss[k]).1)) r (Ml q) = Ml (q ++ [((A5 p m ss[k]).1, r)]) := fun r => by
     rw [Xw]; exact L5 _ _ (by rw [Pm hp hxo hpl.ok, hlq])
    have hok2 : ∀ r e, e ∈ q ++ [((A5 p m ss[k]).1, r)] → BX p e.1 := fun r e he => by
     rcases zC2.1 he with he | he
     ·exact hpl.ok e he
     ·rw [zD8.1 he]; exact hxo
    cases hrob : BA p (A5 p m ss[k]).1
    ·rw [zE0, AQ]
     rw [hrob, if_neg (by simp)] at hin hgo
     rw [hms]
     have ht := tail pl (q ++ [((A5 p m ss[k]).1, -1)]) (-1) nd hnd hndm hfl hlm
     simp only [AT, hnd, oS] at ht
     rw [show (Ac.mk nd.fp.fd nd.fp.fb nd.fp.fe) = m from hndm] at ht
     rw [ht]
     have hadd : Mg pl i nd (-1) = pl := by unfold Mg; rw [if_neg (by decide)]
     rw [hadd]
     refine Hx hN h20 hv hm hmo hv2 ss e0 hss hsl j n (k + 1) pl _ l' (by omega) (by omega) ⟨nd, hnd, hndm⟩ hA hlm ⟨hok2 (-1), ?_, ?_⟩ (by rw [hgo]; exact hnx) ⟨nd, hnd, by omega⟩ hin
     ·intro x hx hq
      rw [L0] at hq
      cases hq2 : JT x q with
      | none => exact hpl.none x hx hq2
      | some v => rw [hq2] at hq; cases hq
     ·intro x r hx hq
      rw [L0] at hq
      cases hq2 : JT x q with
      | none =>
       rw [hq2] at hq
       simp only at hq
       split at hq
       ·rename_i he
        cases hq; left; exact ⟨rfl, by rw [he]; exact hrob⟩
       ·cases hq
      | some v => rw [hq2] at hq; cases hq; exact hpl.some x _ hx hq2
    ·rw [zC0, Al]
     rw [hrob, if_pos rfl] at hin hgo
     rw [hms]
     have hnew : ((pl.map Ez).any fun n => decide (n.1 = (A5 p m ss[k]).1)) = false := by
      rw [zK0]
      intro n hn
      simpa using hpl.none _ hxo hlq n hn
     have hput : Bfs.put i (pl.map Ez) (ss[k], (A5 p m ss[k]).1) = (pl ++ [AD.mk (A5 p m ss[k]).1 (i : Int) ss[k] []]).map Ez := by
      unfold Bfs.put
      rw [hnew, if_neg (by simp), zE6]; rfl
     simp only [Bfs.inner] at hin
     rw [hput] at hin
     split at hin
     ·cases hin
     rename_i hmm
     rw [zA9, zB6, zB8] at hmm
     rw [Au (by simp [C5]; omega)]
     have hnd2 : (pl ++ [AD.mk (A5 p m ss[k]).1 (i : Int) ss[k] []])[i]? = some nd := Bfs.get_app_of hnd
     have ht := tail (pl ++ [AD.mk (A5 p m ss[k]).1 (i : Int) ss[k] []]) (q ++ [((A5 p m ss[k]).1, (pl.length : Int))]) (pl.length : Int) nd hnd2 hndm hfl (by rw [zB6, zB8]; omega)
     simp only [AT] at ht
     rw [ht]
     have hpr := MZ (r := (pl.length : Int)) hnd2
     have hlast : ((pl ++ [AD.mk (A5 p m ss[k]).1 (i : Int) ss[k] []]).map Ez)[pl.length]? = some ((A5 p m ss[k]).1, (i : Int), ss[k]) := by
      rw [zA2, Bfs.get_app_new]; rfl
     have hold : ∀ (b : Nat) n, (pl.map Ez)[b]? = some n → ((pl ++ [AD.mk (A5 p m ss[k]).1 (i : Int) ss[k] []]).map Ez)[b]? = some n := fun b n hb => by
      rw [zE6]; exact Bfs.get_app_of hb
     have hkeep : ∀ (b : Nat) nb, (pl ++ [AD.mk (A5 p m ss[k]).1 (i : Int) ss[k] []])[b]? = some nb → pl[b]? = some nb ∨ (i < b ∧ nb.fb = []) := fun b nb hb => by
      rcases Bfs.get_app hb with h2 | ⟨h2, h3⟩
      ·exact .inl h2
      ·exact .inr ⟨by omega, by rw [h3]⟩
     have hnx2 := Ss (s := ss[k]) hnx hkeep hold hnd2 hlast
     have hpl2 : OO p (q ++ [((A5 p m ss[k]).1, (pl.length : Int))]) ((pl ++ [AD.mk (A5 p m ss[k]).1 (i : Int) ss[k] []]).map Ez) := by
      refine ⟨hok2 _, ?_, ?_⟩
      ·intro x hx hq n hn
       rw [L0] at hq
       cases hq2 : JT x q with
       | none =>
        rw [hq2] at hq
        simp only at hq
        split at hq
        ·cases hq
        ·rename_i hne
         rw [zE6] at hn
         rcases zC2.1 hn with hn | hn
         ·exact hpl.none x hx hq2 n hn
         ·simp at hn; subst hn
          exact fun e => hne e.symm
       | some v => rw [hq2] at hq; cases hq
      ·intro x r hx hq
       rw [L0] at hq
       cases hq2 : JT x q with
       | none =>
        rw [hq2] at hq
        simp only at hq
        split at hq
        ·rename_i he
         cases hq
         exact .inr ⟨pl.length, _, _, rfl, by rw [he]; exact hlast⟩
        ·cases hq
       | some v =>
        rw [hq2] at hq; cases hq
        rcases hpl.some x _ hx hq2 with g | ⟨a, f, t, g1, g2⟩
        ·exact .inl g
        ·exact .inr ⟨a, f, t, g1, hold _ _ g2⟩
     obtain ⟨nd3, hnd3⟩ := Bfs.get_ex (l := Mg (pl ++ [AD.mk (A5 p m ss[k]).1 (i : Int) ss[k] []]) i nd (pl.length : Int)) (k := i) (by
      have := congrArg zF8 hpr; simp only [zA9, zB6, zB8] at this; omega)
     obtain ⟨g1, g2⟩ | ⟨_, g2, g3, g4, g5⟩ := L2 hnd2 hnd3
     ·exact absurd rfl g1
     obtain ⟨pl', q', r1, r2, r3, r4, r5⟩ := Hx hN h20 hv hm hmo hv2 ss e0 hss hsl j n (k + 1) (Mg (pl ++ [AD.mk (A5 p m ss[k]).1 (i : Int) ss[k] []]) i nd (pl.length : Int)) _ l' (by omega) (by omega) ⟨nd3, hnd3, by rw [g2]; exact hndm⟩ (by
       rw [hpr]
       intro n hn
       rw [zE6] at hn
       rcases zC2.1 hn with hn | hn
       ·exact hA n hn
       ·simp at hn; subst hn; exact ⟨hxo, hrob⟩) (by have := congrArg zF8 hpr; simp only [zA9, zB6, zB8] at this; omega)  (by rw [hpr]; exact hpl2) (by rw [hgo]; exact hnx2) ⟨nd3, hnd3, by rw [g5]; split <;> (try simp only [zB6, zB8]) <;> omega⟩ (by rw [hpr]; exact hin)
     refine ⟨pl', q', r1, r2, r3, r4, ?_⟩
     intro b nb hb hbi
     rcases r5 b nb hb hbi with h2 | h2
     ·rcases L2 hnd2 h2 with ⟨_, h3⟩ | ⟨h3, _⟩
      ·rcases hkeep b nb h3 with h4 | ⟨_, h4⟩
       ·exact .inl h4
       ·exact .inr h4
      ·exact absurd h3 hbi
     ·exact .inr h2
  ·have : k = ss.length := by omega
   subst this
   rw [zD4 (zB0 _)] at hin
   have hin : some (pl.map Ez) = some l' := hin
   cases hin
   rw [zH7] at hnx
   rw [Cu, Ay (by simp)]
   exact ⟨pl, q, rfl, rfl, hpl, hnx, fun b nb hb _ => .inl hb⟩
end Go.Lift
