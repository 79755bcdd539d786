/- Lemmas for CoreOppositeCardSaid, which YtbfklmmnpdifaaaGreatDoorFinC5 proves. -/
import Derived.Test.YtbfklmmnpdifaaaGreatDoorDec
import Derived.KernelRfl
open Bool renaming and_eq_true → zA5, and_eq_true_iff → zH9, false_and → zK6, false_or → zJ9, not_false → zE6, not_true → zC3, or_eq_false_iff → zJ2, or_eq_true → zG0, true_and → zE5
open Int renaming eq_ofNat_of_zero_le → zA8, natCast_nonneg → zK3, ofNat_inj → zL7, tmod → zB7, toNat_natCast → zA7
open List renaming all_eq_true → zA2, any_eq_false → zK4, any_eq_true → zE0, append_assoc → zD7, append_nil → zH1, cons_append → zH2, drop_eq_nil_of_le → zD9, drop_zero → zC4, eq_nil_iff_forall_not_mem → zL4, eq_nil_of_length_eq_zero → zD2, filter_append → zF5, flatMap_append → zJ6, flatMap_eq_nil_iff → zL9, getD_cons_succ → zJ5, getD_cons_zero → zK7, getElem?_append_left → zC8, getElem?_append_right → zB9, getElem?_cons_succ → zL8, getElem?_drop → zF4, getElem?_eq_getElem → zC0, getElem?_eq_none → zD1, getElem?_map → zA1, getElem?_set → zE7, getElem?_take_of_lt → zC9, getElem_mem → zE9, length → zF8, length_append → zB2, length_cons → zC5, length_map → zB0, length_nil → zD4, length_range → zH8, length_set → zG6, length_singleton → zB8, map_append → zF0, map_cons → zC7, mem_append → zC2, mem_append_left → zF2, mem_cons → zB6, mem_cons_of_mem → zG8, mem_iff_getElem? → zB3, mem_map → zB5, mem_range → zD8, mem_singleton → zD6, nil_append → zG5, pairwise_append → zI5, pairwise_lt_range → zJ8, pairwise_map → zL1, range → zB4, range_succ → zG4, replicate → zA6, set_append_right → zJ1, set_cons_succ → zK1, set_cons_zero → zK0, take_add_one → zE2, take_length → zI0
open Nat renaming add_assoc → zF6, add_zero → zF7, eq_zero_or_pos → zH4, le_refl → zB1, le_trans → zG3, mul_le_mul_right → zA4, sub_self → zI3, succ_mul → zC1, zero_add → zA3, zero_le → zA9
open Option renaming getD_some → zC6, map_some → zE1
namespace Go.Lift
open IntKind renaming wrap → wI
open Option renaming bind_some → oS
open List renaming getElem?_eq_some_iff → lI
theorem AV {α : Type} (xs : List α) (i : Nat) : Bs xs (i : Int) = xs[i]? := by
 unfold Bs; simp
theorem CH {n : Int} (h0 : -9223372036854775808 ≤ n) (h1 : n ≤ 9223372036854775807) : wI .i64 n = n := by
 simp [wI, IntKind.signed, IntKind.bits]; omega
theorem AE {i : Nat} (h : i < 1000000) : wI .i64 ((i : Int) + 1) = ((i + 1 : Nat) : Int) := by
 rw [CH (by omega) (by omega)]; simp
@[simp] theorem AP {α : Type} {a b : Option α} : AR true a b = a := rfl
@[simp] theorem Ao {α : Type} {a b : Option α} : AR false a b = b := rfl
theorem AC {α : Type} {p : Prop} [Decidable p] {a b : Option α} (h : p) : AR (decide p) a b = a := by simp [h]
theorem Ay {α : Type} {p : Prop} [Decidable p] {a b : Option α} (h : ¬ p) : AR (decide p) a b = b := by simp [h]
def Jb : List Int → List Int → Int
 | [], [] => 0
 | [], _ :: _ => -1
 | _ :: _, [] => 1
 | a :: as1, b :: bs => if a < b then -1 else if b < a then 1 else Jb as1 bs
theorem GE {α : Type} {xs : List α} {i : Nat} {x : α} (h : xs[i]? = some x) : xs.drop i = x :: xs.drop (i + 1) := by
 obtain ⟨hi, rfl⟩ := lI.1 h
 exact List.drop_eq_getElem_cons hi
theorem Us (N : Nat) (a b : List Int) (hb : a.length < 1000000) : ∀ (n i : Nat), i ≤ a.length → i ≤ b.length → a.length - i < n →
  Dv N a b (fun _ => AR (decide ((a.length : Int) < (b.length : Int))) (some (-1)) (AR (decide ((b.length : Int) < (a.length : Int))) (some 1) (some 0))) n (i : Int) = some (Jb (a.drop i) (b.drop i))
 | 0, i, _, _, h => by omega
 | n + 1, i, hi, hj, h => by
  unfold Dv
  simp only [Bd]
  by_cases h1 : i < a.length
  ·rw [AC (p := (i : Int) < (a.length : Int)) (by omega)]
   have ha : a[i]? = some a[i] := by simp [h1]
   rw [GE ha]
   by_cases h2 : i < b.length
   ·have hbb : b[i]? = some b[i] := by simp [h2]
    rw [show decide ((i : Int) < (b.length : Int)) = true from decide_eq_true (by omega), AP, AV, AV, ha, hbb, GE hbb]
    simp only [oS, Jb]
    rw [AE (by omega), Us N a b hb n (i + 1) (by omega) (by omega) (by omega)]
    by_cases h3 : a[i] < b[i]
    ·simp [h3]
    ·by_cases h4 : b[i] < a[i]
     ·simp [h3, h4]
     ·simp [h3, h4]
   ·rw [show decide ((i : Int) < (b.length : Int)) = false from decide_eq_false (by omega), Ao, Ay (by omega), AC (by omega), zD9 (by omega : b.length ≤ i)]
    simp [Jb]
  ·rw [Ay (p := (i : Int) < (a.length : Int)) (by omega), Ao, zD9 (by omega : a.length ≤ i)]
   by_cases h2 : a.length < b.length
   ·rw [AC (by omega)]
    have hbb : b[i]? = some b[i] := by simp [show i < b.length from by omega]
    rw [GE hbb]; simp [Jb]
   ·rw [Ay (by omega), Ay (by omega), zD9 (by omega : b.length ≤ i)]
    simp [Jb]
theorem Pd {N : Nat} {a b : List Int} (h : a.length < N) (hN : N ≤ 1000000) : DB N a b = some (Jb a b) := by
 have := Us N a b (by omega) N 0 (by omega) (by omega) (by omega)
 simpa [DB] using this
theorem QC : ∀ a : List Int, Jb a a = 0
 | [] => rfl
 | a :: as1 => by simp [Jb, QC as1]
theorem OA : ∀ a b : List Int, Jb a b = 0 → a = b
 | [], [], _ => rfl
 | [], _ :: _, h => by simp [Jb] at h
 | _ :: _, [], h => by simp [Jb] at h
 | a :: as1, b :: bs, h => by
  unfold Jb at h
  split at h
  ·omega
  ·split at h
   ·omega
   ·rw [OA as1 bs h, show a = b from by omega]
def Z5 : List Int → Int
 | [] => 0
 | x :: xs => if x = 0 then Z5 xs else x
theorem cR (N : Nat) (a : List Int) (hb : a.length < 1000000) (hw : PO Mh a) : ∀ (n i : Nat), i ≤ a.length → a.length - i < n →
  CT N a (fun v => some v) n (a.take i, (i : Int)) = some a
 | 0, i, _, h => by omega
 | n + 1, i, hi, h => by
  unfold CT
  by_cases h1 : i < a.length
  ·have ha : a[i]? = some a[i] := by simp [h1]
   rw [AC (by simpa using h1)]
   simp only
   rw [AV, ha]
   have hr : wI .i64 a[i] = a[i] := by
    have := hw a[i] (zE9 h1)
    unfold Mh at this
    have h2 : 0 ≤ a[i] ∧ a[i] ≤ 255 := by simpa [Lit.wf, IntKind.min, IntKind.max, IntKind.signed, IntKind.bits] using this
    exact CH (by omega) (by omega)
   simp only [oS, hr]
   have hlen : (a.take i).length + ([a[i]] : List Int).length ≤ C2 := by
    simp [C2]; omega
   rw [show DH ((a.take i).length + ([a[i]] : List Int).length ≤ C2) = some () from by unfold DH; rw [if_pos hlen]]
   simp only [oS]
   rw [AE (by omega), show a.take i ++ [a[i]] = a.take (i + 1) from by rw [zE2, ha]; rfl]
   exact cR N a hb hw n (i + 1) (by omega) (by omega)
  ·rw [Ay (by simpa using h1)]
   simp only
   rw [List.take_of_length_le (by omega)]
theorem N5 {N : Nat} {a : List Int} (h : a.length < N) (hN : N ≤ 1000000) (hw : PO Mh a) : Dx N a = some a := by
 have := cR N a (by omega) hw N 0 (by omega) (by omega)
 simpa [Dx] using this
def ex (a : Ac) : Prop := a.fd.length ≤ 8 ∧ a.fb.length ≤ 8 ∧ a.fe.length ≤ 14
def T1 (a b : Ac) : Int := Z5 [Jb a.fd b.fd, Jb a.fb b.fb, Jb a.fe b.fe]
theorem QN (a : Ac) : T1 a a = 0 := by unfold T1; simp [QC, Z5]
def CC {α R : Type} (f : Nat → α → Option R) : Nat → List α → Option R
 | _, [] => none
 | i, x :: xs => match f i x with
  | some r => some r
  | none => CC f (i + 1) xs
theorem FF {α R : Type} (f : Nat → α → Option R) (i : Nat) (x : α) (xs : List α) : CC f i (x :: xs) = match f i x with
  | some r => some r
  | none => CC f (i + 1) xs := rfl
def BT {R : Type} (a : Option R) (b : Option R) : Option R := match a with
 | some r => some r
 | none => b
theorem Ck {α R : Type} (L : Nat → Int → Option R) (xs : List α) (j : Option R) (f : Nat → α → Option R)
  (hs : ∀ (n i : Nat) (x : α), xs[i]? = some x → L (n + 1) (i : Int) = BT (f i x) (L n ((i + 1 : Nat) : Int))) (he : ∀ n : Nat, L (n + 1) (xs.length : Int) = j) :
  ∀ n i : Nat, i ≤ xs.length → xs.length - i < n → L n (i : Int) = BT (CC f i (xs.drop i)) j
 | 0, i, _, h => by omega
 | n + 1, i, hi, h => by
  by_cases h1 : i < xs.length
  ·have hx : xs[i]? = some xs[i] := by simp [h1]
   rw [hs n i _ hx, GE hx, Ck L xs j f hs he n (i + 1) (by omega) (by omega)]
   rw [FF]
   cases f i xs[i] <;> rfl
  ·have : i = xs.length := by omega
   subst this
   rw [he n, zD9 (zB1 _)]
   rfl
theorem Qo (N : Nat) (k n : Int) : Dt N k n = some (decide (0 ≤ k) && decide (k < n)) := by
 unfold Dt
 simp only [Bd]
 by_cases h : 0 ≤ k
 ·rw [AC h]; simp [h]
 ·rw [Ay h]; simp [h]
theorem NO (N : Nat) (t : Al) : A8 N t = some (t.fg == 3 || t.fg == 4) := by
 unfold A8
 simp only [Bd]
 cases h : t.fg == 3 <;> simp
def sq (l : List (List Bool)) (n m : Int) : Bool := decide ((l.length : Int) = n) && l.all fun r => decide ((r.length : Int) = m)
theorem OP {α : Type} (p : α → Bool) {R : Type} (r : Nat → R) : ∀ (i : Nat) (xs : List α), (CC (fun i x => if p x then none else some (r i)) i xs).isNone = xs.all p
 | i, [] => rfl
 | i, x :: xs => by
  unfold CC
  cases h : p x <;> simp [h, OP p r (i + 1) xs]
theorem QM (N : Nat) (l : List (List Bool)) (n m : Int) (h : n < (N : Int)) (hN : N ≤ 1000000) : DK N l n m = some (sq l n m) := by
 unfold DK sq
 by_cases h1 : (l.length : Int) = n
 ·subst h1
  simp only [bne_self_eq_false, Ao, decide_true, zE5]
  have := Ck (Cw N l (l.length : Int) m (fun _ => some true)) l (some true) (fun _ r => if decide ((r.length : Int) = m) then none else some false)
   (fun n i x hx => by
    have hi := (lI.1 hx).1
    rw [Cw, AC (by omega), AV, hx]
    simp only [oS]
    rw [AE (by omega)]
    by_cases h2 : (x.length : Int) = m
    ·simp [h2, BT]
    ·have : ((x.length : Int) != m) = true := by simpa using h2
     simp [h2, this, BT])
   (fun n => by rw [Cw, Ay (by omega)]) N 0 (by omega) (by omega)
  simp only [Int.ofNat_zero, zC4] at this
  rw [this]
  have h3 := OP (fun r : List Bool => decide ((r.length : Int) = m)) (fun _ => false) 0 l
  cases hsc : CC (fun (_ : Nat) (r : List Bool) => if decide ((r.length : Int) = m) = true then none else some false) 0 l with
  | none => rw [hsc] at h3; rw [← h3]; rfl
  | some b =>
   rw [hsc] at h3
   rw [← h3]
   have : ∀ (i : Nat) (xs : List (List Bool)) b, CC (fun (_ : Nat) (r : List Bool) => if decide ((r.length : Int) = m) = true then none else some false) i xs = some b → b = false := by
    intro i xs
    induction xs generalizing i with
    | nil => intro b hb; cases hb
    | cons x xs ih =>
     intro b hb
     unfold CC at hb
     split at hb
     ·rename_i r hr; cases hb; split at hr <;> simp at hr; exact hr
     ·exact ih _ b hb
   rw [this 0 l b hsc]; rfl
 ·have : ((l.length : Int) != n) = true := by simpa using h1
  simp [this, h1]
theorem QX (N : Nat) (l : List (List Bool)) (n m : Int) (h : n < (N : Int)) (hN : N ≤ 1000000) : FE N l n m = some (sq l n m) := by
 unfold FE sq
 simp only [Bd]
 by_cases h1 : (l.length : Int) = n
 ·subst h1
  simp only [beq_self_eq_true, AP, decide_true, zE5]
  have := Ck (Bq N l (fun x => Eh N x m) (fun _ => some (-1))) l (some (-1)) (fun i r => if decide ((r.length : Int) = m) then none else some (i : Int))
   (fun n i x hx => by
    have hi := (lI.1 hx).1
    rw [Bq, AC (by omega), AV, hx]
    simp only [oS, Eh]
    rw [AE (by omega)]
    by_cases h2 : (x.length : Int) = m
    ·simp [h2, BT]
    ·have : ((x.length : Int) != m) = true := by simpa using h2
     simp [h2, this, BT])
   (fun n => by rw [Bq, Ay (by omega)]) N 0 (by omega) (by omega)
  simp only [Int.ofNat_zero, zC4] at this
  unfold C5 DG
  rw [this]
  have h3 := OP (fun r : List Bool => decide ((r.length : Int) = m)) (fun i : Nat => (i : Int)) 0 l
  cases hsc : CC (fun (i : Nat) (r : List Bool) => if decide ((r.length : Int) = m) = true then none else some (i : Int)) 0 l with
  | none => rw [hsc] at h3; rw [← h3]; rfl
  | some b =>
   rw [hsc] at h3
   rw [← h3]
   have : ∀ (i : Nat) (xs : List (List Bool)) b, CC (fun (i : Nat) (r : List Bool) => if decide ((r.length : Int) = m) = true then none else some (i : Int)) i xs = some b → 0 ≤ b := by
    intro i xs
    induction xs generalizing i with
    | nil => intro b hb; cases hb
    | cons x xs ih =>
     intro b hb
     rw [FF] at hb
     split at hb
     ·rename_i r hr
      cases hb
      split at hr
      ·cases hr
      ·cases hr; omega
     ·exact ih _ b hb
   have := this 0 l b hsc
   simp [BT, this]
 ·have : ((l.length : Int) == n) = false := by simpa using h1
  simp [this, h1]
open List renaming mem_of_getElem? → lM
open List renaming getD_eq_getElem?_getD → lD
def Jt (l : List (List Bool)) : Option Int := CC (fun i row => if row.getD i false then none else some 1) 0 l
theorem Tm {row : List Bool} {i : Nat} (h : i < row.length) : Bs row (i : Int) = some (row.getD i false) := by
 rw [AV, lD]; simp [h]
theorem YE (N : Nat) (t : Al) (h : t.fk.length < N) (hN : N ≤ 1000000) (hsq : ∀ row, row ∈ t.fk → row.length = t.fk.length) (j : Option Int) :
  B4 N t (fun _ => j) N 0 = BT (Jt t.fk) j := by
 have := Ck (B4 N t (fun _ => j)) t.fk j (fun i row => if row.getD i false then none else some 1)
  (fun n i x hx => by
   have hi := (lI.1 hx).1
   have hl := hsq x (lM hx)
   rw [B4, AC (by omega), AV, hx]
   simp only [oS]
   rw [Tm (by omega), AE (by omega)]
   simp only [oS]
   cases x.getD i false <;> rfl)
  (fun n => by rw [B4, Ay (by omega)]) N 0 (by omega) (by omega)
 simpa [Jt] using this
theorem Qv (N : Nat) (t : Al) (h : t.fk.length < N) (hN : N ≤ 1000000) (hsq : ∀ row, row ∈ t.fk → row.length = t.fk.length) (j : Option Int) :
  Dn N t (fun _ => j) N 0 = BT (Jt t.fk) j := by
 have := Ck (Dn N t (fun _ => j)) t.fk j (fun i row => if row.getD i false then none else some 1)
  (fun n i x hx => by
   have hi := (lI.1 hx).1
   have hl := hsq x (lM hx)
   rw [Dn, AC (by omega), AV, hx]
   simp only [oS]
   rw [Tm (by omega), AE (by omega)]
   simp only [oS]
   cases x.getD i false <;> rfl)
  (fun n => by rw [Dn, Ay (by omega)]) N 0 (by omega) (by omega)
 simpa [Jt] using this
theorem Oz {l : List (List Bool)} {n m : Int} (h : sq l n m = true) : (l.length : Int) = n ∧ ∀ row, row ∈ l → (row.length : Int) = m := by
 unfold sq at h
 simp only [zA5, decide_eq_true_eq, zA2] at h
 exact h
def DW (p : Aa) (t : Al) : Int :=
 if t.fg < 1 ∨ 4 < t.fg ∨ (t.ft = true ∧ (t.fg = 3 ∨ t.fg = 4)) then 1
 else if t.ff < 0 ∨ (p.fa.length : Int) ≤ t.ff ∨ t.fj < 0 ∨ (p.fa.length : Int) ≤ t.fj then 4
 else
  let f := p.fa.getD t.ff.toNat 0
  let g := p.fa.getD t.fj.toNat 0
  if sq t.fr f g = false then 6
  else if t.fg = 4 then (if sq t.fk f f = false then 6 else (Jt t.fk).getD 0)
  else if t.fk.length = 0 then 0 else 6
theorem D9 {α : Type} {xs : List α} {i : Int} {d : α} (h0 : 0 ≤ i) (h1 : i < (xs.length : Int)) : Bs xs i = some (xs.getD i.toNat d) := by
 obtain ⟨k, rfl⟩ := zA8 h0
 rw [AV, lD, zA7]
 simp [show k < xs.length from by omega]
theorem XC {t : Al} (A B : Option Int) (hk : ¬ (t.ft = true ∧ (t.fg = 3 ∨ t.fg = 4))) : AR t.ft (AR (t.fg == 3 || t.fg == 4) A B) B = B := by
 cases ha : t.ft
 ·rfl
 ·have : (t.fg == 3 || t.fg == 4) = false := by
   rw [zJ2]
   constructor
   ·simp only [beq_eq_false_iff_ne]; intro h; exact hk ⟨ha, .inl h⟩
   ·simp only [beq_eq_false_iff_ne]; intro h; exact hk ⟨ha, .inr h⟩
  rw [this]; rfl
theorem Kh {p : Aa} {i : Int} (hv : ∀ v, v ∈ p.fa → 1 ≤ v ∧ v ≤ 6) (h0 : 0 ≤ i) (h1 : i < (p.fa.length : Int)) : 1 ≤ p.fa.getD i.toNat 0 ∧ p.fa.getD i.toNat 0 ≤ 6 := by
 refine hv _ ?_
 rw [lD, zC0 (by omega)]
 exact zE9 _
theorem Vq (N : Nat) (p : Aa) (t : Al) (hN : N ≤ 1000000) (h6 : 7 ≤ N) (hv : ∀ v, v ∈ p.fa → 1 ≤ v ∧ v ≤ 6) : ES N p t = some (DW p t) := by
 unfold ES DW
 simp only [Bd, NO, oS]
 by_cases k1 : t.fg < 1
 ·simp [k1]
 by_cases k2 : 4 < t.fg
 ·simp [k1, k2]
 rw [Ay k1, Ay k2]
 by_cases hk : t.ft = true ∧ (t.fg = 3 ∨ t.fg = 4)
 ·obtain ⟨ha, k | k⟩ := hk <;> simp [ha, k]
 rw [Ao, XC _ _ hk, if_neg (fun h => h.elim k1 fun h => h.elim k2 hk)]
 by_cases f1 : t.ff < 0
 ·simp [f1]
 by_cases f2 : (p.fa.length : Int) ≤ t.ff
 ·simp [f1, f2]
 by_cases f3 : t.fj < 0
 ·simp [f1, f2, f3]
 by_cases f4 : (p.fa.length : Int) ≤ t.fj
 ·simp [f1, f2, f3, f4]
 rw [Ay f1, Ay f2, Ay f3, if_neg (fun h => h.elim f1 fun h => h.elim f2 fun h => h.elim f3 f4)]
 have hf := Kh hv (i := t.ff) (by omega) (by omega)
 rw [decide_eq_false f4, Ao, D9 (d := 0) (by omega : 0 ≤ t.ff) (by omega), D9 (d := 0) (by omega : 0 ≤ t.fj) (by omega)]
 simp only [oS]
 generalize p.fa.getD t.ff.toNat 0 = f at *
 generalize p.fa.getD t.fj.toNat 0 = g at *
 rw [QM N t.fr f g (by omega) hN, QM N t.fk f f (by omega) hN]
 simp only [oS]
 cases hq : sq t.fr f g
 ·rfl
 simp only [zC3, Ao]
 by_cases k4 : t.fg = 4
 ·have : (t.fg != 4) = false := by simp [k4]
  rw [this, Ao]
  simp only [k4, if_true]
  cases hr : sq t.fk f f
  ·rfl
  ·have h7 := Oz hr
   simp only [zC3, Ao]
   rw [YE N t (by omega) hN (fun row hm => by have := h7.2 row hm; omega)]
   cases Jt t.fk <;> simp [BT]
 ·have : (t.fg != 4) = true := by simpa using k4
  rw [this, AP]
  simp only [k4, if_false]
  by_cases hr : t.fk.length = 0
  ·simp [hr]
  ·have : ((t.fk.length : Int) != 0) = true := bne_iff_ne.2 (by omega)
   rw [this]; simp [hr]
theorem YG (N : Nat) (k : Int) (a : Bool) : Hu N k a = some (k == 1 || (k == 2 || ((k == 3 || k == 4) && !a))) := by
 unfold Hu
 simp only [Bd]
 cases h1 : k == 1 <;> cases h2 : k == 2 <;> cases h3 : k == 3 <;> cases h4 : k == 4 <;> cases a <;> rfl
theorem OY (N : Nat) (p : Aa) (t : Al) (hN : N ≤ 1000000) (h6 : 7 ≤ N) (hv : ∀ v, v ∈ p.fa → 1 ≤ v ∧ v ≤ 6) : GT N p t = some (DW p t) := by
 unfold GT DW
 simp only [Bd, YG, Qo, oS]
 by_cases hb : t.fg < 1 ∨ 4 < t.fg ∨ (t.ft = true ∧ (t.fg = 3 ∨ t.fg = 4))
 ·have : (t.fg == 1 || (t.fg == 2 || ((t.fg == 3 || t.fg == 4) && !t.ft))) = false := by
   rcases hb with h | h | ⟨ha, h | h⟩
   ·rw [beq_eq_false_iff_ne.2 (by omega : t.fg ≠ 1), beq_eq_false_iff_ne.2 (by omega : t.fg ≠ 2), beq_eq_false_iff_ne.2 (by omega : t.fg ≠ 3), beq_eq_false_iff_ne.2 (by omega : t.fg ≠ 4)]; rfl
   ·rw [beq_eq_false_iff_ne.2 (by omega : t.fg ≠ 1), beq_eq_false_iff_ne.2 (by omega : t.fg ≠ 2), beq_eq_false_iff_ne.2 (by omega : t.fg ≠ 3), beq_eq_false_iff_ne.2 (by omega : t.fg ≠ 4)]; rfl
   ·simp [ha, h]
   ·simp [ha, h]
  rw [this, if_pos hb]; rfl
 ·have : (t.fg == 1 || (t.fg == 2 || ((t.fg == 3 || t.fg == 4) && !t.ft))) = true := by
   have hk : t.fg = 1 ∨ t.fg = 2 ∨ t.fg = 3 ∨ t.fg = 4 := by
    have h1 : ¬ t.fg < 1 := fun h => hb (.inl h)
    have h2 : ¬ 4 < t.fg := fun h => hb (.inr (.inl h))
    omega
   rcases hk with h | h | h | h
   ·simp [h]
   ·simp [h]
   ·cases ha : t.ft
    ·simp [h]
    ·exact (hb (.inr (.inr ⟨ha, .inl h⟩))).elim
   ·cases ha : t.ft
    ·simp [h]
    ·exact (hb (.inr (.inr ⟨ha, .inr h⟩))).elim
  rw [this, if_neg hb]
  simp only [zC3, Ao]
  by_cases f1 : t.ff < 0
  ·simp [f1, show ¬ (0 ≤ t.ff) from by omega]
  by_cases f2 : (p.fa.length : Int) ≤ t.ff
  ·simp [f2, show ¬ (t.ff < (p.fa.length : Int)) from by omega]
  by_cases f3 : t.fj < 0
  ·simp [f3, show 0 ≤ t.ff from by omega, show t.ff < (p.fa.length : Int) from by omega, show ¬ (0 ≤ t.fj) from by omega]
  by_cases f4 : (p.fa.length : Int) ≤ t.fj
  ·simp [f4, show 0 ≤ t.ff from by omega, show t.ff < (p.fa.length : Int) from by omega, show ¬ (t.fj < (p.fa.length : Int)) from by omega]
  rw [if_neg (fun h => h.elim f1 fun h => h.elim f2 fun h => h.elim f3 f4)]
  have hf := Kh hv (i := t.ff) (by omega) (by omega)
  have hg := Kh hv (i := t.fj) (by omega) (by omega)
  rw [decide_eq_true (by omega : 0 ≤ t.ff), decide_eq_true (by omega : t.ff < (p.fa.length : Int)), decide_eq_true (by omega : 0 ≤ t.fj), decide_eq_true (by omega : t.fj < (p.fa.length : Int)), D9 (d := 0) (by omega : 0 ≤ t.ff) (by omega), D9 (d := 0) (by omega : 0 ≤ t.fj) (by omega)]
  simp only [Bool.and_self, zC3, Ao, oS]
  generalize p.fa.getD t.ff.toNat 0 = f at *
  generalize p.fa.getD t.fj.toNat 0 = g at *
  rw [QX N t.fr f g (by omega) hN, QX N t.fk f f (by omega) hN]
  simp only [oS]
  cases hq : sq t.fr f g
  ·rfl
  simp only [zC3, Ao]
  by_cases k4 : t.fg = 4
  ·simp only [k4, beq_self_eq_true, AP, if_true]
   cases hr : sq t.fk f f
   ·rfl
   ·have h7 := Oz hr
    simp only [zC3, Ao]
    rw [Qv N t (by omega) hN (fun row hm => by have := h7.2 row hm; omega)]
    cases Jt t.fk <;> simp [BT]
  ·have : (t.fg == 4) = false := beq_eq_false_iff_ne.2 k4
   rw [this, Ao]
   simp only [k4, if_false, zE6, AP]
   by_cases hr : t.fk.length = 0
   ·rw [Qv N t (by omega) hN (fun row hm => by rw [zD2 hr] at hm; cases hm), zD2 hr]
    simp [Jt, CC, BT]
   ·rw [decide_eq_true (by omega : 0 < (t.fk.length : Int))]
    simp [hr]
def F7 (p : Aa) (i : Nat) (v : Int) : Option Int :=
 if v < 1 ∨ 6 < v ∨ p.fh.getD i 0 < 0 ∨ v ≤ p.fh.getD i 0 ∨ p.fq.getD i 0 < 0 ∨ v ≤ p.fq.getD i 0 then some 7 else none
def L9 (p : Aa) (_ : Nat) (t : Al) : Option Int := if DW p t = 0 then none else some (DW p t)
def BG (p : Aa) : Int :=
 if 6 < p.fa.length ∨ 12 < p.fc.length then 3
 else if p.fh.length ≠ p.fa.length ∨ p.fq.length ≠ p.fa.length then 6
 else ((BT (CC (F7 p) 0 p.fa) (CC (L9 p) 0 p.fc)).getD 0)
theorem EB {α R : Type} {f : Nat → α → Option R} : ∀ {i : Nat} {xs : List α}, CC f i xs = none → ∀ j x, xs[j]? = some x → f (i + j) x = none
 | _, [], _, j, x, hx => by simp at hx
 | i, y :: ys, h, j, x, hx => by
  rw [FF] at h
  split at h
  ·cases h
  ·rename_i h0
   cases j with
   | zero => simp at hx; subst hx; exact h0
   | succ j =>
    have := EB h j x (by simpa using hx)
    rwa [show i + 1 + j = i + (j + 1) from by omega] at this
theorem ON {p : Aa} (h : CC (F7 p) 0 p.fa = none) : ∀ v, v ∈ p.fa → 1 ≤ v ∧ v ≤ 6 := by
 intro v hv
 obtain ⟨i, hi⟩ := zB3.1 hv
 have := EB h i v hi
 unfold F7 at this
 split at this
 ·cases this
 ·rename_i hn
  constructor
  ·exact Int.not_lt.1 fun h => hn (.inl h)
  ·exact Int.not_lt.1 fun h => hn (.inr (.inl h))
theorem De {α : Type} {xs : List α} {i : Nat} {d : α} (h : i < xs.length) : Bs xs (i : Int) = some (xs.getD i d) := by
 rw [AV, lD]; simp [h]
theorem TQ (N : Nat) (p : Aa) (hN : N ≤ 1000000) (h1 : p.fa.length < N) (h2 : p.fh.length = p.fa.length) (h3 : p.fq.length = p.fa.length) (j : Option Int) :
  Bk N p (fun _ => j) N 0 = BT (CC (F7 p) 0 p.fa) j := by
 have := Ck (Bk N p (fun _ => j)) p.fa j (F7 p)
  (fun n i x hx => by
   have hi := (lI.1 hx).1
   rw [Bk, AC (by omega), AV, hx]
   simp only [oS, Bd]
   rw [De (d := 0) (by omega), De (d := 0) (by omega), AE (by omega)]
   simp only [oS]
   unfold F7
   generalize p.fh.getD i 0 = a
   generalize p.fq.getD i 0 = b
   by_cases k1 : x < 1 <;> by_cases k2 : 6 < x <;> by_cases k3 : a < 0 <;> by_cases k4 : x ≤ a <;> by_cases k5 : b < 0 <;> by_cases k6 : x ≤ b <;> simp [k1, k2, k3, k4, k5, k6, BT])
  (fun n => by rw [Bk, Ay (by omega)]) N 0 (by omega) (by omega)
 simpa using this
theorem RJ (N : Nat) (p : Aa) (hN : N ≤ 1000000) (h1 : p.fa.length < N) (h2 : p.fh.length = p.fa.length) (h3 : p.fq.length = p.fa.length) (j : Option Int) :
  B2 N p (fun _ => j) N 0 = BT (CC (F7 p) 0 p.fa) j := by
 have := Ck (B2 N p (fun _ => j)) p.fa j (F7 p)
  (fun n i x hx => by
   have hi := (lI.1 hx).1
   rw [B2, AC (by omega), AV, hx]
   simp only [oS, Bd, Qo]
   rw [De (d := 0) (by omega), De (d := 0) (by omega), AE (by omega)]
   simp only [oS]
   unfold F7
   generalize p.fh.getD i 0 = a
   generalize p.fq.getD i 0 = b
   have e1 : decide (0 ≤ a) = !decide (a < 0) := by rw [← decide_not]; congr 1; simp
   have e2 : decide (a < x) = !decide (x ≤ a) := by rw [← decide_not]; congr 1; simp
   have e3 : decide (0 ≤ b) = !decide (b < 0) := by rw [← decide_not]; congr 1; simp
   have e4 : decide (b < x) = !decide (x ≤ b) := by rw [← decide_not]; congr 1; simp
   rw [e1, e2, e3, e4]
   by_cases k1 : x < 1 <;> by_cases k2 : 6 < x <;> by_cases k3 : a < 0 <;> by_cases k4 : x ≤ a <;> by_cases k5 : b < 0 <;> by_cases k6 : x ≤ b <;> simp [k1, k2, k3, k4, k5, k6, BT])
  (fun n => by rw [B2, Ay (by omega)]) N 0 (by omega) (by omega)
 simpa using this
theorem Xg (N : Nat) (p : Aa) (hN : N ≤ 1000000) (h6 : 7 ≤ N) (h1 : p.fc.length < N) (hv : ∀ v, v ∈ p.fa → 1 ≤ v ∧ v ≤ 6) (j : Option Int) :
  Be N p (fun _ => j) N 0 = BT (CC (L9 p) 0 p.fc) j := by
 have := Ck (Be N p (fun _ => j)) p.fc j (L9 p)
  (fun n i x hx => by
   have hi := (lI.1 hx).1
   rw [Be, AC (by omega), AV, hx]
   simp only [oS]
   rw [Vq N p x hN h6 hv, AE (by omega)]
   simp only [oS]
   unfold L9
   by_cases k : DW p x = 0
   ·simp [k, BT]
   ·rw [bne_iff_ne.2 k, if_neg k]; rfl)
  (fun n => by rw [Be, Ay (by omega)]) N 0 (by omega) (by omega)
 simpa using this
theorem TY (N : Nat) (p : Aa) (hN : N ≤ 1000000) (h6 : 7 ≤ N) (h1 : p.fc.length < N) (hv : ∀ v, v ∈ p.fa → 1 ≤ v ∧ v ≤ 6) (j : Option Int) :
  BU N p (fun _ => j) N 0 = BT (CC (L9 p) 0 p.fc) j := by
 have := Ck (BU N p (fun _ => j)) p.fc j (L9 p)
  (fun n i x hx => by
   have hi := (lI.1 hx).1
   rw [BU, AC (by omega), AV, hx]
   simp only [oS]
   rw [OY N p x hN h6 hv, AE (by omega)]
   simp only [oS]
   unfold L9
   by_cases k : DW p x = 0
   ·simp [k, BT]
   ·rw [bne_iff_ne.2 k, if_neg k]; rfl)
  (fun n => by rw [BU, Ay (by omega)]) N 0 (by omega) (by omega)
 simpa using this
theorem KM (N : Nat) (p : Aa) (hN : N ≤ 1000000) (h : 20 ≤ N) : BE N p = some (BG p) := by
 unfold BE BG
 simp only [Bd]
 by_cases k1 : 6 < p.fa.length
 ·rw [AC (by omega)]; simp [k1]
 rw [Ay (by omega)]
 by_cases k2 : 12 < p.fc.length
 ·rw [decide_eq_true (by omega : (12 : Int) < (p.fc.length : Int))]; simp [k2]
 rw [decide_eq_false (by omega : ¬ (12 : Int) < (p.fc.length : Int)), Ao, if_neg (by omega)]
 by_cases k3 : p.fh.length = p.fa.length
 ·by_cases k4 : p.fq.length = p.fa.length
  ·rw [k3, k4]
   simp only [bne_self_eq_false, Ao, ne_eq, not_true_eq_false, or_self, if_false]
   rw [TQ N p hN (by omega) k3 k4]
   cases hs : CC (F7 p) 0 p.fa with
   | some r => rfl
   | none =>
    simp only [BT]
    rw [Xg N p hN (by omega) (by omega) (ON hs)]
    cases CC (L9 p) 0 p.fc <;> rfl
  ·have : ((p.fq.length : Int) != (p.fa.length : Int)) = true := bne_iff_ne.2 (by omega)
   rw [this, k3]; simp [k4]
 ·have : ((p.fh.length : Int) != (p.fa.length : Int)) = true := bne_iff_ne.2 (by omega)
  rw [this]; simp [k3]
theorem Ii (N : Nat) (p : Aa) (hN : N ≤ 1000000) (h : 20 ≤ N) : Cb N p = some (BG p) := by
 unfold Cb BG
 simp only [Bd]
 by_cases k1 : 6 < p.fa.length
 ·rw [AC (by omega)]; simp [k1]
 rw [Ay (by omega)]
 by_cases k2 : 12 < p.fc.length
 ·rw [decide_eq_true (by omega : (12 : Int) < (p.fc.length : Int))]; simp [k2]
 rw [decide_eq_false (by omega : ¬ (12 : Int) < (p.fc.length : Int)), Ao, if_neg (by omega)]
 by_cases k3 : p.fh.length = p.fa.length
 ·by_cases k4 : p.fq.length = p.fa.length
  ·rw [k3, k4]
   simp only [bne_self_eq_false, Ao, ne_eq, not_true_eq_false, or_self, if_false]
   rw [RJ N p hN (by omega) k3 k4]
   cases hs : CC (F7 p) 0 p.fa with
   | some r => rfl
   | none =>
    simp only [BT]
    rw [TY N p hN (by omega) (by omega) (ON hs)]
    cases CC (L9 p) 0 p.fc <;> rfl
  ·have : ((p.fq.length : Int) != (p.fa.length : Int)) = true := bne_iff_ne.2 (by omega)
   rw [this, k3]; simp [k4]
 ·have : ((p.fh.length : Int) != (p.fa.length : Int)) = true := bne_iff_ne.2 (by omega)
  rw [this]; simp [k3]
theorem JE {n : Int} (h : Mh n) : 0 ≤ n ∧ n ≤ 255 := by
 unfold Mh at h
 simpa [Lit.wf, IntKind.min, IntKind.max, IntKind.signed, IntKind.bits] using h
theorem PV : ∀ k : Fin 256, CZ .u8 0 (k.val : Int) = 0 := by decide +kernel
theorem PU : ∀ k : Fin 256, CZ .u8 (k.val : Int) 0 = (k.val : Int) := by decide +kernel
theorem Wr {n : Int} (h : Mh n) : CZ .u8 0 n = 0 := by
 have := JE h
 obtain ⟨k, rfl⟩ := zA8 this.1
 exact PV ⟨k, by omega⟩
theorem Wh {n : Int} (h : Mh n) : CZ .u8 n 0 = n := by
 have := JE h
 obtain ⟨k, rfl⟩ := zA8 this.1
 exact PU ⟨k, by omega⟩
theorem DJ {α R : Type} {f : Nat → α → Option R} : ∀ {i : Nat} {xs : List α} {r : R}, CC f i xs = some r → ∃ j x, xs[j]? = some x ∧ f (i + j) x = some r
 | _, [], _, h => by cases h
 | i, y :: ys, r, h => by
  rw [FF] at h
  split at h
  ·rename_i r' h0
   cases h
   exact ⟨0, y, rfl, h0⟩
  ·obtain ⟨j, x, h1, h2⟩ := DJ h
   exact ⟨j + 1, x, by simpa using h1, by rwa [show i + (j + 1) = i + 1 + j from by omega]⟩
structure A4 (p : Aa) : Prop where
 nv : p.fa.length ≤ 6
 nt : p.fc.length ≤ 12
 now : p.fh.length = p.fa.length
 tgt : p.fq.length = p.fa.length
 ver : ∀ v, v ∈ p.fa → 1 ≤ v ∧ v ≤ 6
 tab : ∀ t, t ∈ p.fc → DW p t = 0
theorem TU (l : List (List Bool)) : (Jt l).getD 0 = 0 ∨ (Jt l).getD 0 = 1 := by
 cases h : Jt l with
 | none => exact .inl rfl
 | some r =>
  obtain ⟨j, x, _, h⟩ := DJ h
  split at h
  ·cases h
  ·cases h; exact .inr rfl
theorem Rx (p : Aa) (t : Al) : DW p t = 0 ∨ DW p t = 1 ∨ DW p t = 4 ∨ DW p t = 6 := by
 unfold DW
 split
 ·exact .inr (.inl rfl)
 split
 ·exact .inr (.inr (.inl rfl))
 simp only
 split
 ·exact .inr (.inr (.inr rfl))
 split
 ·split
  ·exact .inr (.inr (.inr rfl))
  ·rcases TU t.fk with h | h
   ·exact .inl h
   ·exact .inr (.inl h)
 ·split
  ·exact .inl rfl
  ·exact .inr (.inr (.inr rfl))
theorem Jc (p : Aa) : (BG p = 0 ∧ A4 p) ∨ (BG p = 1 ∨ BG p = 3 ∨ BG p = 4 ∨ BG p = 6 ∨ BG p = 7) := by
 unfold BG
 split
 ·simp
 rename_i k1
 split
 ·simp
 rename_i k2
 cases hs : CC (F7 p) 0 p.fa with
 | some r =>
  obtain ⟨j, x, _, h⟩ := DJ hs
  unfold F7 at h
  split at h
  ·cases h; simp [BT]
  ·cases h
 | none =>
  cases ht : CC (L9 p) 0 p.fc with
  | some r =>
   obtain ⟨j, t, _, h⟩ := DJ ht
   unfold L9 at h
   split at h
   ·cases h
   ·rename_i hne
    cases h
    simp only [BT, zC6]
    right
    rcases Rx p t with h | h | h | h
    ·exact (hne h).elim
    ·exact .inl h
    ·exact .inr (.inr (.inl h))
    ·exact .inr (.inr (.inr (.inl h)))
  | none =>
   left
   refine ⟨rfl, by omega, by omega, by omega, by omega, ON hs, fun t hm => ?_⟩
   obtain ⟨j, hj⟩ := zB3.1 hm
   have := EB ht j t hj
   unfold L9 at this
   split at this
   ·assumption
   ·cases this
def Gf (m : Ac) (s : Nat) : Int :=
 if 0 ≤ m.fb.getD s 0 then PP .u8 (DQ .u8 1 (m.fd.getD s 0)) (DQ .u8 1 (m.fb.getD s 0)) else DQ .u8 1 (m.fd.getD s 0)
def MD (m : Ac) (i : Nat) (v : Int) : Option Int :=
 if m.fd.getD i 0 < 0 ∨ v ≤ m.fd.getD i 0 ∨ m.fb.getD i 0 < -1 ∨ v ≤ m.fb.getD i 0 then some 7
 else if m.fd.getD i 0 = m.fb.getD i 0 then some 1 else none
def By (t : Al) : Bool := t.fg == 3 || t.fg == 4
def YZ (p : Aa) (t : Al) : Int := wI .u8 (DQ .u8 1 (p.fa.getD t.ff.toNat 0) - 1)
def J7 (p : Aa) (m : Ac) (i : Nat) (t : Al) : Option Int :=
 if By t = true then (if CZ .u8 (Gf m t.ff.toNat) (m.fe.getD i 0) ≠ 0 ∨ CZ .u8 (m.fe.getD i 0) (YZ p t) ≠ 0 then some 1 else none)
 else if m.fe.getD i 0 ≠ 0 then some 1 else none
def Gr (p : Aa) (m : Ac) : Int :=
 if BG p ≠ 0 then BG p
 else if m.fd.length ≠ p.fa.length ∨ m.fb.length ≠ p.fa.length ∨ m.fe.length ≠ p.fc.length then 6
 else (BT (CC (MD m) 0 p.fa) (CC (J7 p m) 0 p.fc)).getD 0
theorem Jz {p : Aa} {t : Al} (h : DW p t = 0) : 0 ≤ t.ff ∧ t.ff < (p.fa.length : Int) ∧ 0 ≤ t.fj ∧ t.fj < (p.fa.length : Int) := by
 unfold DW at h
 split at h
 ·cases h
 ·split at h
  ·cases h
  ·omega
theorem Mz (N : Nat) (m : Ac) (s : Int) (h0 : 0 ≤ s) (h1 : s < (m.fd.length : Int)) (h2 : s < (m.fb.length : Int)) (hb : 0 ≤ m.fd.getD s.toNat 0) : Fu N m s = some (Gf m s.toNat) := by
 unfold Fu Gf
 rw [D9 (d := 0) h0 h1, D9 (d := 0) h0 h2]
 simp only [oS, Bd]
 rw [show DH (0 ≤ m.fd.getD s.toNat 0) = some () from by unfold DH; rw [if_pos hb]]
 simp only [oS]
 by_cases h : 0 ≤ m.fb.getD s.toNat 0
 ·rw [AC h, if_pos h, show DH (0 ≤ m.fb.getD s.toNat 0) = some () from by unfold DH; rw [if_pos h]]; rfl
 ·rw [Ay h, if_neg h]
theorem KR (N : Nat) (m : Ac) (s : Int) (h0 : 0 ≤ s) (h1 : s < (m.fd.length : Int)) (h2 : s < (m.fb.length : Int)) (hb : 0 ≤ m.fd.getD s.toNat 0) : B0 N m s = some (Gf m s.toNat) := by
 unfold B0 Gf
 rw [D9 (d := 0) h0 h1, D9 (d := 0) h0 h2]
 simp only [oS, Bd]
 rw [show DH (0 ≤ m.fd.getD s.toNat 0) = some () from by unfold DH; rw [if_pos hb]]
 simp only [oS]
 by_cases h : 0 ≤ m.fb.getD s.toNat 0
 ·rw [AC h, if_pos h, show DH (0 ≤ m.fb.getD s.toNat 0) = some () from by unfold DH; rw [if_pos h]]; rfl
 ·rw [Ay h, if_neg h]
theorem RY (N : Nat) (p : Aa) (m : Ac) (hN : N ≤ 1000000) (h1 : p.fa.length < N) (h2 : m.fd.length = p.fa.length) (h3 : m.fb.length = p.fa.length) (j : Option Int) :
  En N p m (fun _ => j) N 0 = BT (CC (MD m) 0 p.fa) j := by
 have := Ck (En N p m (fun _ => j)) p.fa j (MD m)
  (fun n i x hx => by
   have hi := (lI.1 hx).1
   rw [En, AC (by omega), AV, hx]
   simp only [oS, Bd]
   rw [De (d := 0) (by omega), De (d := 0) (by omega), AE (by omega)]
   simp only [oS]
   unfold MD
   generalize m.fd.getD i 0 = a
   generalize m.fb.getD i 0 = b
   by_cases k7 : a = b
   ·subst k7
    by_cases k3 : a < 0 <;> by_cases k4 : x ≤ a <;> by_cases k5 : a < -1 <;> simp [k3, k4, k5, BT]
   ·have k8 : (a == b) = false := beq_eq_false_iff_ne.2 k7
    by_cases k3 : a < 0 <;> by_cases k4 : x ≤ a <;> by_cases k5 : b < -1 <;> by_cases k6 : x ≤ b <;> simp [k3, k4, k5, k6, k7, k8, BT])
  (fun n => by rw [En, Ay (by omega)]) N 0 (by omega) (by omega)
 simpa using this
theorem RN (N : Nat) (p : Aa) (m : Ac) (hN : N ≤ 1000000) (h1 : p.fa.length < N) (h2 : m.fd.length = p.fa.length) (h3 : m.fb.length = p.fa.length) (j : Option Int) :
  Cg N p m (fun _ => j) N 0 = BT (CC (MD m) 0 p.fa) j := by
 have := Ck (Cg N p m (fun _ => j)) p.fa j (MD m)
  (fun n i x hx => by
   have hi := (lI.1 hx).1
   rw [Cg, AC (by omega), show Bs p.fa (i : Int) = some x from by rw [AV, hx]]
   simp only [oS, Bd]
   rw [De (d := 0) (by omega), De (d := 0) (by omega), AE (by omega)]
   simp only [oS]
   unfold MD
   generalize m.fd.getD i 0 = a
   generalize m.fb.getD i 0 = b
   by_cases k7 : a = b
   ·subst k7
    by_cases k3 : a < 0 <;> by_cases k4 : x ≤ a <;> by_cases k5 : a < -1 <;> simp [k3, k4, k5, BT]
   ·have k8 : (a == b) = false := beq_eq_false_iff_ne.2 k7
    by_cases k3 : a < 0 <;> by_cases k4 : x ≤ a <;> by_cases k5 : b < -1 <;> by_cases k6 : x ≤ b <;> simp [k3, k4, k5, k6, k7, k8, BT])
  (fun n => by rw [Cg, Ay (by omega)]) N 0 (by omega) (by omega)
 simpa using this
structure MixServ (p : Aa) (m : Ac) : Prop where
 base : m.fd.length = p.fa.length
 next : m.fb.length = p.fa.length
 held : m.fe.length = p.fc.length
 b0 : ∀ i, i < p.fa.length → 0 ≤ m.fd.getD i 0 ∧ m.fd.getD i 0 < p.fa.getD i 0
 n0 : ∀ i, i < p.fa.length → -1 ≤ m.fb.getD i 0 ∧ m.fb.getD i 0 < p.fa.getD i 0
 ne : ∀ i, i < p.fa.length → m.fd.getD i 0 ≠ m.fb.getD i 0
theorem Rg {p : Aa} {m : Ac} (h2 : m.fd.length = p.fa.length) (h3 : m.fb.length = p.fa.length) (h4 : m.fe.length = p.fc.length) (h : CC (MD m) 0 p.fa = none) : MixServ p m := by
 have key : ∀ i, i < p.fa.length → ¬ (m.fd.getD i 0 < 0 ∨ p.fa.getD i 0 ≤ m.fd.getD i 0 ∨ m.fb.getD i 0 < -1 ∨ p.fa.getD i 0 ≤ m.fb.getD i 0) ∧ ¬ m.fd.getD i 0 = m.fb.getD i 0 := by
  intro i hi
  have hx : p.fa[i]? = some (p.fa.getD i 0) := by rw [lD]; simp [hi]
  have := EB h i _ hx
  rw [zA3] at this
  unfold MD at this
  split at this
  ·cases this
  ·split at this
   ·cases this
   ·rename_i k1 k2; exact ⟨k1, k2⟩
 exact ⟨h2, h3, h4, fun i hi => by have := (key i hi).1; omega, fun i hi => by have := (key i hi).1; omega, fun i hi => (key i hi).2⟩
theorem SG {m : Ac} (hw : PO Mh m.fe) {i : Nat} (h : i < m.fe.length) : Mh (m.fe.getD i 0) := by
 refine hw _ ?_
 rw [lD, zC0 h]
 exact zE9 _
theorem Kc (N : Nat) (t : Al) : FU N t = some (By t) := by
 unfold FU By
 simp only [Bd]
 cases h : t.fg == 3 <;> simp
theorem Hz (N : Nat) (t : Al) : A8 N t = some (By t) := NO N t
theorem TZ (N : Nat) (p : Aa) (m : Ac) (hN : N ≤ 1000000) (h1 : p.fc.length < N) (hp : A4 p) (hm : MixServ p m) (hw : PO Mh m.fe) (j : Option Int) :
  D3 N p m (fun _ => j) N 0 = BT (CC (J7 p m) 0 p.fc) j := by
 have := Ck (D3 N p m (fun _ => j)) p.fc j (J7 p m)
  (fun n i x hx => by
   have hi := (lI.1 hx).1
   have hin := Jz (hp.tab x (lM hx))
   have hheld := SG hw (show i < m.fe.length from by rw [hm.held]; exact hi)
   have hv := Kh hp.ver hin.1 hin.2.1
   rw [D3, AC (by omega), AV, hx]
   simp only [oS, Bd, Kc]
   rw [Mz N m x.ff hin.1 (by rw [hm.base]; exact hin.2.1) (by rw [hm.next]; exact hin.2.1) (hm.b0 _ (by omega)).1, D9 (d := 0) hin.1 hin.2.1, De (d := 0) (show i < m.fe.length from by rw [hm.held]; exact hi), AE (by omega)]
   simp only [oS]
   rw [show DH (0 ≤ p.fa.getD x.ff.toNat 0) = some () from by unfold DH; rw [if_pos (by omega)]]
   simp only [oS]
   unfold J7 YZ
   rw [Wr hheld, Wh hheld]
   generalize CZ .u8 (Gf m x.ff.toNat) (m.fe.getD i 0) = A
   generalize CZ .u8 (m.fe.getD i 0) (wI .u8 (DQ .u8 1 (p.fa.getD x.ff.toNat 0) - 1)) = B
   generalize m.fe.getD i 0 = H
   cases By x
   ·simp only [Ao, bne_self_eq_false]
    by_cases k : H = 0
    ·simp [k, BT]
    ·have : (H != 0) = true := bne_iff_ne.2 k
     simp [k, this, BT]
   ·simp only [AP]
    by_cases k : A = 0
    ·by_cases k2 : B = 0
     ·simp [k, k2, BT]
     ·have : (B != 0) = true := bne_iff_ne.2 k2
      simp [k, k2, this, BT]
    ·have : (A != 0) = true := bne_iff_ne.2 k
     simp [k, this, BT])
  (fun n => by rw [D3, Ay (by omega)]) N 0 (by omega) (by omega)
 simpa using this
theorem T8 (N : Nat) (p : Aa) (m : Ac) (hN : N ≤ 1000000) (h1 : p.fc.length < N) (hp : A4 p) (hm : MixServ p m) (j : Option Int) :
  B6 N p m (fun _ => j) N 0 = BT (CC (J7 p m) 0 p.fc) j := by
 have := Ck (B6 N p m (fun _ => j)) p.fc j (J7 p m)
  (fun n i x hx => by
   have hi := (lI.1 hx).1
   have hin := Jz (hp.tab x (lM hx))
   have hv := Kh hp.ver hin.1 hin.2.1
   rw [B6, AC (by omega), AV, hx]
   simp only [oS, Bd, Hz]
   rw [KR N m x.ff hin.1 (by rw [hm.base]; exact hin.2.1) (by rw [hm.next]; exact hin.2.1) (hm.b0 _ (by omega)).1, D9 (d := 0) hin.1 hin.2.1, De (d := 0) (show i < m.fe.length from by rw [hm.held]; exact hi), AE (by omega)]
   simp only [oS]
   rw [show DH (0 ≤ p.fa.getD x.ff.toNat 0) = some () from by unfold DH; rw [if_pos (by omega)]]
   simp only [oS]
   unfold J7 YZ
   generalize CZ .u8 (Gf m x.ff.toNat) (m.fe.getD i 0) = A
   generalize CZ .u8 (m.fe.getD i 0) (wI .u8 (DQ .u8 1 (p.fa.getD x.ff.toNat 0) - 1)) = B
   generalize m.fe.getD i 0 = H
   cases By x
   ·simp only [zE6, AP, Ao]
    by_cases k : H = 0
    ·simp [k, BT]
    ·have : (H != 0) = true := bne_iff_ne.2 k
     simp [k, this, BT]
   ·simp only [zC3, Ao, AP]
    by_cases k : A = 0
    ·by_cases k2 : B = 0
     ·simp [k, k2, BT]
     ·have : (B != 0) = true := bne_iff_ne.2 k2
      simp [k, k2, this, BT]
    ·have : (A != 0) = true := bne_iff_ne.2 k
     by_cases k2 : B = 0
     ·simp [k, k2, this, BT]
     ·have h5 : (B != 0) = true := bne_iff_ne.2 k2
      simp [k, h5, BT])
  (fun n => by rw [B6, Ay (by omega)]) N 0 (by omega) (by omega)
 simpa using this
theorem Ja (N : Nat) (p : Aa) (m : Ac) (hN : N ≤ 1000000) (h : 20 ≤ N) (hw : PO Mh m.fe) : FQ N p m = some (Gr p m) := by
 unfold FQ Gr
 rw [Ii N p hN h]
 simp only [oS, Bd]
 by_cases k0 : BG p = 0
 ·have hp : A4 p := by
   rcases Jc p with h | h
   ·exact h.2
   ·omega
  have hnv := hp.nv
  have hnt := hp.nt
  rw [k0]
  simp only [bne_self_eq_false, Ao, ne_eq, not_true_eq_false, if_false]
  by_cases k1 : m.fd.length = p.fa.length
  ·by_cases k2 : m.fb.length = p.fa.length
   ·by_cases k3 : m.fe.length = p.fc.length
    ·rw [k1, k2, k3]
     simp only [bne_self_eq_false, Ao, not_true_eq_false, or_self, if_false]
     rw [RY N p m hN (by omega) k1 k2]
     cases hs : CC (MD m) 0 p.fa with
     | some r => rfl
     | none =>
      simp only [BT]
      rw [TZ N p m hN (by omega) hp (Rg k1 k2 k3 hs) hw]
      cases CC (J7 p m) 0 p.fc <;> rfl
    ·have : ((m.fe.length : Int) != (p.fc.length : Int)) = true := bne_iff_ne.2 (by omega)
     rw [this, k1, k2]; simp [k3]
   ·have : ((m.fb.length : Int) != (p.fa.length : Int)) = true := bne_iff_ne.2 (by omega)
    rw [this, k1]; simp [k2]
  ·have : ((m.fd.length : Int) != (p.fa.length : Int)) = true := bne_iff_ne.2 (by omega)
   rw [this]; simp [k1]
 ·rw [bne_iff_ne.2 k0]; simp [k0]
theorem RB (N : Nat) (p : Aa) (m : Ac) (hN : N ≤ 1000000) (h : 20 ≤ N) : EY N p m = some (Gr p m) := by
 unfold EY Gr
 rw [KM N p hN h]
 simp only [oS, Bd]
 by_cases k0 : BG p = 0
 ·have hp : A4 p := by
   rcases Jc p with h | h
   ·exact h.2
   ·omega
  have hnv := hp.nv
  have hnt := hp.nt
  rw [k0]
  simp only [bne_self_eq_false, Ao, ne_eq, not_true_eq_false, if_false]
  by_cases k1 : m.fd.length = p.fa.length
  ·by_cases k2 : m.fb.length = p.fa.length
   ·by_cases k3 : m.fe.length = p.fc.length
    ·rw [k1, k2, k3]
     simp only [bne_self_eq_false, Ao, not_true_eq_false, or_self, if_false]
     rw [RN N p m hN (by omega) k1 k2]
     cases hs : CC (MD m) 0 p.fa with
     | some r => rfl
     | none =>
      simp only [BT]
      rw [T8 N p m hN (by omega) hp (Rg k1 k2 k3 hs)]
      cases CC (J7 p m) 0 p.fc <;> rfl
    ·have : ((m.fe.length : Int) != (p.fc.length : Int)) = true := bne_iff_ne.2 (by omega)
     rw [this, k1, k2]; simp [k3]
   ·have : ((m.fb.length : Int) != (p.fa.length : Int)) = true := bne_iff_ne.2 (by omega)
    rw [this, k1]; simp [k2]
  ·have : ((m.fd.length : Int) != (p.fa.length : Int)) = true := bne_iff_ne.2 (by omega)
   rw [this]; simp [k1]
 ·rw [bne_iff_ne.2 k0]; simp [k0]
@[simp] theorem Bl {α β : Type} (k : α) (f : α → β) : Bd k f = f k := rfl
@[simp] theorem WX {p : Prop} [Decidable p] (h : p) : DH p = some () := by unfold DH; rw [if_pos h]
theorem Au {β : Type} {p : Prop} [Decidable p] (h : p) (f : Unit → Option β) : (DH p).bind f = f () := by rw [WX h]; rfl
def Bz {α β : Type} (g : Nat → α → List β) : Nat → List α → List β
 | _, [] => []
 | i, x :: xs => g i x ++ Bz g (i + 1) xs
def I1 {α A : Type} (f : Nat → α → A → A) : Nat → List α → A → A
 | _, [], a => a
 | i, x :: xs, a => I1 f (i + 1) xs (f i x a)
theorem Nn {α β : Type} (g : Nat → α → List β) : ∀ (i : Nat) (xs ys : List α), Bz g i (xs ++ ys) = Bz g i xs ++ Bz g (i + xs.length) ys
 | i, [], ys => by simp [Bz]
 | i, x :: xs, ys => by
  rw [zH2, Bz, Bz, Nn g (i + 1) xs ys, zD7, zC5, zF6, Nat.add_comm 1]
theorem Gd {α β : Type} {g : Nat → α → List β} {y : β} : ∀ {i : Nat} {xs : List α}, y ∈ Bz g i xs ↔ ∃ j x, xs[j]? = some x ∧ y ∈ g (i + j) x
 | _, [] => by simp [Bz]
 | i, x :: xs => by
  rw [Bz, zC2, Gd]
  constructor
  ·rintro (h | ⟨j, z, hz, h⟩)
   ·exact ⟨0, x, rfl, h⟩
   ·exact ⟨j + 1, z, by simpa using hz, by rwa [show i + (j + 1) = i + 1 + j from by omega]⟩
  ·rintro ⟨j, z, hz, h⟩
   cases j with
   | zero => simp at hz; subst hz; exact .inl h
   | succ j => exact .inr ⟨j, z, by simpa using hz, by rwa [show i + 1 + j = i + (j + 1) from by omega]⟩
theorem Hr {α β : Type} {g : Nat → α → List β} {i : Nat} {xs : List α} : Bz g i xs = [] ↔ ∀ j x, xs[j]? = some x → g (i + j) x = [] := by
 rw [zL4]
 constructor
 ·intro h j x hx
  rw [zL4]
  exact fun y hy => h y (Gd.2 ⟨j, x, hx, hy⟩)
 ·intro h y hy
  obtain ⟨j, x, hx, hm⟩ := Gd.1 hy
  rw [h j x hx] at hm; cases hm
theorem Ga {α β : Type} {g : Nat → α → List β} {c : Nat} : ∀ {i : Nat} {xs : List α}, (∀ j x, xs[j]? = some x → (g (i + j) x).length ≤ c) → (Bz g i xs).length ≤ c * xs.length
 | _, [], _ => by simp [Bz]
 | i, x :: xs, h => by
  have h1 := h 0 x rfl
  have h2 := Ga (g := g) (c := c) (i := i + 1) (xs := xs) fun j y hy => by
   have := h (j + 1) y (by simpa using hy)
   rwa [show i + (j + 1) = i + 1 + j from by omega] at this
  rw [Bz, zB2, zC5, Nat.mul_add]
  simp only [zF7] at h1
  omega
theorem HU {α A S R : Type} (L : Nat → S → Option R) (mk : A → Int → S) (xs : List α) (j : A → Option R) (f : Nat → α → A → A) (I : Nat → A → Prop)
  (hs : ∀ (n i : Nat) (x : α) (a : A), xs[i]? = some x → I i a → L (n + 1) (mk a (i : Int)) = L n (mk (f i x a) ((i + 1 : Nat) : Int)) ∧ I (i + 1) (f i x a))
  (he : ∀ (n : Nat) (a : A), I xs.length a → L (n + 1) (mk a (xs.length : Int)) = j a) :
  ∀ (n i : Nat) (a : A), i ≤ xs.length → xs.length - i < n → I i a → L n (mk a (i : Int)) = j (I1 f i (xs.drop i) a) ∧ I xs.length (I1 f i (xs.drop i) a)
 | 0, i, _, _, h, _ => by omega
 | n + 1, i, a, hi, h, ha => by
  by_cases h1 : i < xs.length
  ·have hx : xs[i]? = some xs[i] := by simp [h1]
   obtain ⟨e1, e2⟩ := hs n i _ a hx ha
   rw [e1, GE hx, I1]
   exact HU L mk xs j f I hs he n (i + 1) _ (by omega) (by omega) e2
  ·have : i = xs.length := by omega
   subst this
   rw [zD9 (zB1 _), I1]
   exact ⟨he n a ha, ha⟩
theorem OI {α β : Type} (g : Nat → α → List β) : ∀ (i : Nat) (xs : List α) (acc : List β), I1 (fun i x a => a ++ g i x) i xs acc = acc ++ Bz g i xs
 | _, [], acc => by simp [I1, Bz]
 | i, x :: xs, acc => by rw [I1, OI g (i + 1) xs, Bz, zD7]
theorem FG {α β S R : Type} (L : Nat → S → Option R) (mk : List β → Int → S) (xs : List α) (j : List β → Option R) (g : Nat → α → List β) (c B : Nat)
  (hg : ∀ i x, xs[i]? = some x → (g i x).length ≤ c)
  (hs : ∀ (n i : Nat) (x : α) (a : List β), xs[i]? = some x → a.length + (g i x).length ≤ B → L (n + 1) (mk a (i : Int)) = L n (mk (a ++ g i x) ((i + 1 : Nat) : Int)))
  (he : ∀ (n : Nat) (a : List β), L (n + 1) (mk a (xs.length : Int)) = j a) (n : Nat) (a : List β) (hn : xs.length < n) (ha : a.length + c * xs.length ≤ B) :
  L n (mk a 0) = j (a ++ Bz g 0 xs) := by
 have := HU L mk xs j (fun i x a => a ++ g i x) (fun i b => i ≤ xs.length ∧ b.length ≤ a.length + c * i)
  (fun n i x b hx hb => by
   have h1 := hg i x hx
   have hi := (lI.1 hx).1
   have h2 : c * (i + 1) ≤ c * xs.length := Nat.mul_le_mul_left c hi
   have h3 : c * (i + 1) = c * i + c := Nat.mul_succ c i
   refine ⟨hs n i x b hx (by have := hb.2; omega), hi, ?_⟩
   rw [zB2]
   have := hb.2
   omega)
  (fun n b _ => he n b) n 0 a (zA9 _) (by omega) ⟨zA9 _, by omega⟩
 have h2 := this.1
 rw [zC4, OI] at h2
 exact h2
def D6 (s : Int) (v : Nat) : Bool := s.toNat.testBit v
def Ic (m : Ac) (s v : Nat) : Bool := decide (m.fd.getD s 0 = (v : Int)) || decide (m.fb.getD s 0 = (v : Int))
theorem YD : ∀ (s : Fin 256) (v : Fin 8), AI .u8 (AY .u8 (s.val : Int) (v.val : Int)) 1 = if D6 (s.val : Int) v.val then 1 else 0 := by decide +kernel
theorem Ry {s : Int} {v : Nat} (h0 : 0 ≤ s) (h1 : s ≤ 255) (hv : v < 8) : AI .u8 (AY .u8 s (v : Int)) 1 = if D6 s v then 1 else 0 := by
 obtain ⟨k, rfl⟩ := zA8 h0
 exact YD ⟨k, by omega⟩ ⟨v, hv⟩
theorem SF {s : Int} {v : Nat} (h0 : 0 ≤ s) (h1 : s ≤ 255) (hv : v < 8) : (AI .u8 (AY .u8 s (v : Int)) 1 == 0) = !D6 s v := by
 rw [Ry h0 h1 hv]; cases D6 s v <;> rfl
theorem To {s : Int} {v : Nat} (h0 : 0 ≤ s) (h1 : s ≤ 255) (hv : v < 8) : (AI .u8 (AY .u8 s (v : Int)) 1 == 1) = D6 s v := by
 rw [Ry h0 h1 hv]; cases D6 s v <;> rfl
theorem KI {s : Int} {v : Nat} (h1 : s ≤ 255) (hv : 8 ≤ v) : D6 s v = false := by
 unfold D6
 apply Nat.testBit_lt_two_pow
 have : (2 : Nat) ^ 8 ≤ 2 ^ v := Nat.pow_le_pow_right (by omega) hv
 omega
theorem KY : ∀ (b : Fin 8) (v : Fin 8), D6 (DQ .u8 1 (b.val : Int)) v.val = decide (b.val = v.val) ∧ 0 ≤ DQ .u8 1 (b.val : Int) ∧ DQ .u8 1 (b.val : Int) ≤ 255 := by decide +kernel
theorem YT : ∀ (b n : Fin 8) (v : Fin 8), D6 (PP .u8 (DQ .u8 1 (b.val : Int)) (DQ .u8 1 (n.val : Int))) v.val = (decide (b.val = v.val) || decide (n.val = v.val))
  ∧ 0 ≤ PP .u8 (DQ .u8 1 (b.val : Int)) (DQ .u8 1 (n.val : Int)) ∧ PP .u8 (DQ .u8 1 (b.val : Int)) (DQ .u8 1 (n.val : Int)) ≤ 255 := by decide +kernel
theorem V1 {m : Ac} {s : Nat} (hb0 : 0 ≤ m.fd.getD s 0) (hb1 : m.fd.getD s 0 < 8) (hn1 : m.fb.getD s 0 < 8) :
  (∀ v, D6 (Gf m s) v = Ic m s v) ∧ 0 ≤ Gf m s ∧ Gf m s ≤ 255 := by
 unfold Gf Ic
 obtain ⟨b, hb⟩ := zA8 hb0
 rw [hb] at hb1 ⊢
 by_cases h : 0 ≤ m.fb.getD s 0
 ·obtain ⟨n, hn⟩ := zA8 h
  rw [hn] at hn1 ⊢
  rw [if_pos (by omega)]
  have h1 := YT ⟨b, by omega⟩ ⟨n, by omega⟩
  refine ⟨fun v => ?_, (h1 0).2⟩
  by_cases hv : v < 8
  ·rw [(h1 ⟨v, hv⟩).1]
   simp only [zL7]
  ·rw [KI (h1 0).2.2 (by omega)]
   simp; omega
 ·rw [if_neg h]
  have h1 := KY ⟨b, by omega⟩
  refine ⟨fun v => ?_, (h1 0).2⟩
  have h3 : decide (m.fb.getD s 0 = (v : Int)) = false := decide_eq_false (by omega)
  rw [h3, Bool.or_false]
  by_cases hv : v < 8
  ·rw [(h1 ⟨v, hv⟩).1]
   simp only [zL7]
  ·rw [KI (h1 0).2.2 (by omega)]
   simp; omega
theorem Xn {a : Nat} (h : a < 256) : (BitVec.ofInt 8 (a : Int)).toNat = a := by
 simp; omega
theorem PA {a b : Int} (ha : 0 ≤ a ∧ a ≤ 255) (hb : 0 ≤ b ∧ b ≤ 255) : CZ .u8 a b = 0 ↔ ∀ v, D6 a v = true → D6 b v = true := by
 obtain ⟨a, rfl⟩ := zA8 ha.1
 obtain ⟨b, rfl⟩ := zA8 hb.1
 have hA := Xn (a := a) (by omega)
 have hB := Xn (a := b) (by omega)
 unfold CZ D6
 simp only [IntKind.bits, zA7]
 have hx : ∀ x : BitVec 8, wI .u8 (x.toNat : Int) = (x.toNat : Int) := by
  intro x
  have := x.isLt
  simp [wI, IntKind.signed, IntKind.bits]
  omega
 rw [hx]
 constructor
 ·intro h v hv
  have h0 : (BitVec.ofInt 8 (a : Int) &&& ~~~BitVec.ofInt 8 (b : Int)) = (BitVec.ofNat 8 0) := by
   apply BitVec.eq_of_toNat_eq
   simp only [BitVec.toNat_ofNat, Nat.zero_mod]
   exact zL7.1 h
  by_cases hv8 : v < 8
  ·have h1 : (BitVec.ofInt 8 (a : Int) &&& ~~~BitVec.ofInt 8 (b : Int)).getLsbD v = false := by rw [h0]; simp
   rw [BitVec.getLsbD_and, BitVec.getLsbD_not] at h1
   have e1 : (BitVec.ofInt 8 (a : Int)).getLsbD v = a.testBit v := by unfold BitVec.getLsbD; rw [hA]
   have e2 : (BitVec.ofInt 8 (b : Int)).getLsbD v = b.testBit v := by unfold BitVec.getLsbD; rw [hB]
   rw [e1, e2, hv] at h1
   simpa [hv8] using h1
  ·have := KI (s := (a : Int)) (v := v) (by omega) (by omega)
   unfold D6 at this
   rw [zA7, hv] at this
   cases this
 ·intro h
  have h0 : (BitVec.ofInt 8 (a : Int) &&& ~~~BitVec.ofInt 8 (b : Int)) = (BitVec.ofNat 8 0) := by
   apply BitVec.eq_of_getLsbD_eq
   intro i hi
   rw [BitVec.getLsbD_and, BitVec.getLsbD_not]
   have e1 : (BitVec.ofInt 8 (a : Int)).getLsbD i = a.testBit i := by unfold BitVec.getLsbD; rw [hA]
   have e2 : (BitVec.ofInt 8 (b : Int)).getLsbD i = b.testBit i := by unfold BitVec.getLsbD; rw [hB]
   rw [e1, e2]
   have := h i
   cases h3 : a.testBit i
   ·simp
   ·rw [this h3]; simp
  have h2 : ∀ x : BitVec 8, x = (BitVec.ofNat 8 0) → (x.toNat : Int) = 0 := fun x hx => by rw [hx]; rfl
  exact h2 _ h0
theorem Y1 : ∀ n : Fin 9, (∀ v : Fin 8, D6 (wI .u8 (DQ .u8 1 (n.val : Int) - 1)) v.val = decide (v.val < n.val)) ∧ 0 ≤ wI .u8 (DQ .u8 1 (n.val : Int) - 1) ∧ wI .u8 (DQ .u8 1 (n.val : Int) - 1) ≤ 255 := by decide +kernel
theorem YB {n : Int} (h0 : 0 ≤ n) (h1 : n ≤ 8) : (∀ v, D6 (wI .u8 (DQ .u8 1 n - 1)) v = decide ((v : Int) < n)) ∧ 0 ≤ wI .u8 (DQ .u8 1 n - 1) ∧ wI .u8 (DQ .u8 1 n - 1) ≤ 255 := by
 obtain ⟨n, rfl⟩ := zA8 h0
 have h := Y1 ⟨n, by omega⟩
 refine ⟨fun v => ?_, h.2⟩
 by_cases hv : v < 8
 ·rw [h.1 ⟨v, hv⟩]; simp
 ·rw [KI h.2.2 (by omega)]
  symm; apply decide_eq_false; omega
structure Bp (p : Aa) (m : Ac) : Prop extends MixServ p m where
 range : ∀ i, i < p.fc.length → 0 ≤ m.fe.getD i 0 ∧ m.fe.getD i 0 ≤ 255
 low : ∀ i t, p.fc[i]? = some t → By t = true → ∀ v, Ic m t.ff.toNat v = true → D6 (m.fe.getD i 0) v = true
 high : ∀ i t, p.fc[i]? = some t → By t = true → ∀ v, D6 (m.fe.getD i 0) v = true → (v : Int) < p.fa.getD t.ff.toNat 0
 none : ∀ i t, p.fc[i]? = some t → By t = false → m.fe.getD i 0 = 0
theorem IZ {p : Aa} (hp : A4 p) {i : Nat} (hi : i < p.fa.length) : 1 ≤ p.fa.getD i 0 ∧ p.fa.getD i 0 ≤ 6 := by
 have := Kh (i := (i : Int)) hp.ver (by omega) (by omega)
 simpa using this
theorem IS {p : Aa} {m : Ac} (hp : A4 p) (hm : MixServ p m) {s : Nat} (hs : s < p.fa.length) :
  (∀ v, D6 (Gf m s) v = Ic m s v) ∧ 0 ≤ Gf m s ∧ Gf m s ≤ 255 := by
 have h1 := hm.b0 s hs
 have h2 := hm.n0 s hs
 have h3 := IZ hp hs
 exact V1 h1.1 (by omega) (by omega)
theorem S1 {p : Aa} {m : Ac} (hp : A4 p) (hm : MixServ p m) {i : Nat} {t : Al} (ht : p.fc[i]? = some t) (hr : 0 ≤ m.fe.getD i 0 ∧ m.fe.getD i 0 ≤ 255) :
  J7 p m i t = none ↔ ((By t = true → (∀ v, Ic m t.ff.toNat v = true → D6 (m.fe.getD i 0) v = true) ∧ (∀ v, D6 (m.fe.getD i 0) v = true → (v : Int) < p.fa.getD t.ff.toNat 0)) ∧ (By t = false → m.fe.getD i 0 = 0)) := by
 have hin := Jz (hp.tab t (lM ht))
 have hrun := IS hp hm (s := t.ff.toNat) (by omega)
 have hver := IZ hp (i := t.ff.toNat) (by omega)
 have hall := YB (n := p.fa.getD t.ff.toNat 0) (by omega) (by omega)
 unfold J7 YZ
 have e1 := PA hrun.2 hr
 have e2 := PA hr hall.2
 cases hst : By t
 ·simp
 ·simp only [if_true, true_implies, Bool.true_eq_false, false_implies, and_true, ite_eq_right_iff, reduceCtorEq, imp_false, not_or, Decidable.not_not]
  rw [e1, e2]
  simp only [hrun.1, hall.1, decide_eq_true_eq]
theorem Lm {p : Aa} {m : Ac} (hw : PO Mh m.fe) (h : Gr p m = 0) : A4 p ∧ Bp p m := by
 unfold Gr at h
 split at h
 ·rename_i k; exact (k h).elim
 ·rename_i k0
  have hp : A4 p := by
   rcases Jc p with h | h
   ·exact h.2
   ·omega
  split at h
  ·cases h
  ·rename_i k1
   have b1 : m.fd.length = p.fa.length := Decidable.not_not.1 fun h => k1 (.inl h)
   have b2 : m.fb.length = p.fa.length := Decidable.not_not.1 fun h => k1 (.inr (.inl h))
   have b3 : m.fe.length = p.fc.length := Decidable.not_not.1 fun h => k1 (.inr (.inr h))
   cases hs : CC (MD m) 0 p.fa with
   | some r =>
    obtain ⟨j, x, _, he⟩ := DJ hs
    rw [hs] at h
    unfold MD at he
    simp only [BT, zC6] at h
    split at he
    ·cases he; cases h
    ·split at he
     ·cases he; cases h
     ·cases he
   | none =>
    have hm := Rg b1 b2 b3 hs
    rw [hs] at h
    simp only [BT] at h
    cases ht : CC (J7 p m) 0 p.fc with
    | some r =>
     obtain ⟨j, x, _, he⟩ := DJ ht
     rw [ht] at h
     simp only [zC6] at h
     subst h
     unfold J7 at he
     split at he
     ·split at he <;> cases he
     ·split at he <;> cases he
    | none =>
     have hr : ∀ i, i < p.fc.length → 0 ≤ m.fe.getD i 0 ∧ m.fe.getD i 0 ≤ 255 := fun i hi => JE (SG hw (by omega))
     have key : ∀ i t, p.fc[i]? = some t → _ := fun i t hi => (S1 hp hm hi (hr i (lI.1 hi).1)).1 (by have := EB ht i t hi; rwa [zA3] at this)
     exact ⟨hp, hm, hr, fun i t hi hst => ((key i t hi).1 hst).1, fun i t hi hst => ((key i t hi).1 hst).2, fun i t hi hst => (key i t hi).2 hst⟩
theorem FJ {α R : Type} {f : Nat → α → Option R} : ∀ {i : Nat} {xs : List α}, (∀ j x, xs[j]? = some x → f (i + j) x = none) → CC f i xs = none
 | _, [], _ => rfl
 | i, y :: ys, h => by
  rw [FF, show f i y = none from h 0 y rfl]
  exact FJ fun j x hx => by
   have := h (j + 1) x (by simpa using hx)
   rwa [show i + (j + 1) = i + 1 + j from by omega] at this
theorem RI {p : Aa} (hp : A4 p) (hr : ∀ i, i < p.fa.length → 0 ≤ p.fh.getD i 0 ∧ p.fh.getD i 0 < p.fa.getD i 0 ∧ 0 ≤ p.fq.getD i 0 ∧ p.fq.getD i 0 < p.fa.getD i 0) : BG p = 0 := by
 have := hp.nv
 have := hp.nt
 have := hp.now
 have := hp.tgt
 unfold BG
 rw [if_neg (by omega), if_neg (by omega)]
 have h1 : CC (F7 p) 0 p.fa = none := FJ fun j x hx => by
  have hj := (lI.1 hx).1
  have h1 := hr j hj
  have h2 := IZ hp hj
  have e : p.fa.getD j 0 = x := by rw [lD, hx]; rfl
  rw [e] at h1 h2
  unfold F7
  rw [zA3, if_neg (by omega)]
 have h2 : CC (L9 p) 0 p.fc = none := FJ fun j x hx => by
  unfold L9
  rw [if_pos (hp.tab x (lM hx))]
 rw [h1, h2]; rfl
theorem CW {p : Aa} (h : BG p = 0) : A4 p ∧ ∀ i, i < p.fa.length → 0 ≤ p.fh.getD i 0 ∧ p.fh.getD i 0 < p.fa.getD i 0 ∧ 0 ≤ p.fq.getD i 0 ∧ p.fq.getD i 0 < p.fa.getD i 0 := by
 have hp : A4 p := by
  rcases Jc p with h | h
  ·exact h.2
  ·omega
 refine ⟨hp, fun i hi => ?_⟩
 have h1 := hp.nv
 have h2 := hp.nt
 have h3 := hp.now
 have h4 := hp.tgt
 unfold BG at h
 rw [if_neg (by omega), if_neg (by omega)] at h
 cases hs : CC (F7 p) 0 p.fa with
 | some r =>
  obtain ⟨j, x, _, he⟩ := DJ hs
  rw [hs] at h
  unfold F7 at he
  split at he
  ·cases he; cases h
  ·cases he
 | none =>
  have hx : p.fa[i]? = some (p.fa.getD i 0) := by rw [lD]; simp [hi]
  have := EB hs i _ hx
  rw [zA3] at this
  unfold F7 at this
  split at this
  ·cases this
  ·rename_i hn; omega
theorem IK {p : Aa} {m : Ac} (hv : BG p = 0) (hm : Bp p m) : Gr p m = 0 := by
 obtain ⟨hp, _⟩ := CW hv
 unfold Gr
 rw [hv, if_neg (by simp), if_neg (by have := hm.base; have := hm.next; have := hm.held; omega)]
 have h1 : CC (MD m) 0 p.fa = none := FJ fun j x hx => by
  have hj := (lI.1 hx).1
  have e : p.fa.getD j 0 = x := by rw [lD, hx]; rfl
  have h1 := hm.b0 j hj
  have h2 := hm.n0 j hj
  have h3 := hm.ne j hj
  rw [e] at h1 h2
  unfold MD
  rw [zA3, if_neg (by omega), if_neg h3]
 have h2 : CC (J7 p m) 0 p.fc = none := FJ fun j x hx => by
  have hj := (lI.1 hx).1
  rw [zA3]
  exact (S1 hp hm.toMixServ hx (hm.range j hj)).2 ⟨fun hst => ⟨hm.low j x hx hst, hm.high j x hx hst⟩, fun hst => hm.none j x hx hst⟩
 rw [h1, h2]; rfl
def NS {α : Type} (g : Nat → α → Bool) : Nat → List α → Bool
 | _, [] => false
 | i, x :: xs => g i x || NS g (i + 1) xs
theorem MI {α β : Type} (g : Nat → α → List β) (h : Nat → α → Bool) : ∀ (i : Nat) (xs : List α) (a : List β) (b : Bool),
  I1 (fun i x (s : List β × Bool) => (s.1 ++ g i x, s.2 || h i x)) i xs (a, b) = (a ++ Bz g i xs, b || NS h i xs)
 | _, [], a, b => by simp [I1, Bz, NS]
 | i, x :: xs, a, b => by rw [I1, MI g h, Bz, NS, zD7, Bool.or_assoc]
def gC (i u : Nat) (m : Ac) (t : Al) (v : Nat) (ok : Bool) : List An :=
 if Ic m t.fj.toNat v && (!ok && !t.ft) then [⟨(i : Int), (u : Int), (v : Int)⟩] else []
def hC (m : Ac) (t : Al) (v : Nat) (ok : Bool) : Bool := Ic m t.fj.toNat v && ok
def Kd (i : Nat) (m : Ac) (t : Al) (u : Nat) (row : List Bool) : List An :=
 Bz (gC i u m t) 0 row ++ if t.ft && !NS (hC m t) 0 row then [⟨(i : Int), (u : Int), -1⟩] else []
def Sc (m : Ac) (i : Nat) (t : Al) (u : Nat) : Bool := if By t then D6 (m.fe.getD i 0) u else Ic m t.ff.toNat u
def IC (m : Ac) (i : Nat) (t : Al) : List An := Bz (fun u row => if Sc m i t u then Kd i m t u row else []) 0 t.fr
def Ee (p : Aa) (m : Ac) : List An := Bz (IC m) 0 p.fc
structure N6 (p : Aa) (t : Al) : Prop where
 kind : 1 ≤ t.fg ∧ t.fg ≤ 4
 aware : t.ft = true → By t = false
 from0 : 0 ≤ t.ff ∧ t.ff < (p.fa.length : Int)
 to0 : 0 ≤ t.fj ∧ t.fj < (p.fa.length : Int)
 okL : (t.fr.length : Int) = p.fa.getD t.ff.toNat 0
 okR : ∀ row, row ∈ t.fr → (row.length : Int) = p.fa.getD t.fj.toNat 0
 reL : t.fg = 4 → (t.fk.length : Int) = p.fa.getD t.ff.toNat 0
 reR : ∀ row, row ∈ t.fk → (row.length : Int) = p.fa.getD t.ff.toNat 0
 reD : t.fg = 4 → Jt t.fk = none
 reN : t.fg ≠ 4 → t.fk = []
theorem Is {p : Aa} {t : Al} (h : DW p t = 0) : N6 p t := by
 unfold DW at h
 split at h
 ·cases h
 rename_i h1
 split at h
 ·cases h
 rename_i h2
 simp only at h
 split at h
 ·cases h
 rename_i h3
 have h3 : sq t.fr (p.fa.getD t.ff.toNat 0) (p.fa.getD t.fj.toNat 0) = true := by simpa using h3
 have h3 := Oz h3
 have ha : t.ft = true → By t = false := by
  intro ha
  unfold By
  rw [zJ2, beq_eq_false_iff_ne, beq_eq_false_iff_ne]
  exact ⟨fun hk => h1 (.inr (.inr ⟨ha, .inl hk⟩)), fun hk => h1 (.inr (.inr ⟨ha, .inr hk⟩))⟩
 split at h
 ·rename_i h4
  split at h
  ·cases h
  rename_i h5
  have h5 : sq t.fk (p.fa.getD t.ff.toNat 0) (p.fa.getD t.ff.toNat 0) = true := by simpa using h5
  have h5 := Oz h5
  refine ⟨by omega, ha, by omega, by omega, h3.1, h3.2, fun _ => h5.1, h5.2, fun _ => ?_, fun h => (h h4).elim⟩
  cases hd : Jt t.fk with
  | none => rfl
  | some r =>
   obtain ⟨j, x, _, hx⟩ := DJ hd
   rw [hd] at h
   split at hx
   ·cases hx
   ·cases hx; cases h
 ·rename_i h4
  split at h
  ·rename_i h5
   have h5 := zD2 h5
   refine ⟨by omega, ha, by omega, by omega, h3.1, h3.2, fun h => (h4 h).elim, fun row hr => ?_, fun h => (h4 h).elim, fun _ => h5⟩
   rw [h5] at hr; cases hr
  ·cases h
theorem LQ {R : Type} (b : Bool) (acc : List An) (x : An) (j : List An → Option R) (h : acc.length + 1 ≤ C2) :
  AR b ((DH (acc.length + ([x] : List An).length ≤ C2)).bind fun _ => j (acc ++ [x])) (j acc) = j (acc ++ if b then [x] else []) := by
 cases b
 ·simp
 ·rw [AP, Au (by simpa using h)]; rfl
theorem Sg (N : Nat) (m : Ac) (t : Al) (i u : Nat) (row : List Bool) (R : Int) (b1 b2 acc : List An) (j : List An × Bool → Option (List An))
  (hN : N ≤ 1000000) (h8 : 8 ≤ N) (hrow : row.length ≤ 6) (hacc : acc.length + 6 ≤ C2) (hR0 : 0 ≤ R) (hR1 : R ≤ 255) (hRb : ∀ v, D6 R v = Ic m t.fj.toNat v) :
  B5 N (b1, (i : Int)) t R (b2, (u : Int)) row j N (acc, false, 0) = j (acc ++ Bz (gC i u m t) 0 row, NS (hC m t) 0 row) := by
 have := HU (A := List An × Bool) (B5 N (b1, (i : Int)) t R (b2, (u : Int)) row j) (fun a k => (a.1, a.2, k)) row (fun a => j a) (fun v ok s => (s.1 ++ gC i u m t v ok, s.2 || hC m t v ok))
  (fun v a => v ≤ row.length ∧ a.1.length ≤ acc.length + v)
  (fun n v ok a hx ha => by
   have hv := (lI.1 hx).1
   obtain ⟨c, f⟩ := a
   simp only at ha
   refine ⟨?_, by omega, ?_⟩
   ·rw [B5]
    simp only [Bl]
    rw [AC (by omega), AV, hx]
    simp only [oS]
    rw [Au (by omega), SF hR0 hR1 (by omega), hRb, AE (by omega), LQ _ _ _ (fun l => B5 N (b1, (i : Int)) t R (b2, (u : Int)) row j n (l, true, ((v + 1 : Nat) : Int))) (by omega)]
    unfold gC hC
    rw [LQ _ _ _ (fun l => B5 N (b1, (i : Int)) t R (b2, (u : Int)) row j n (l, ok, ((v + 1 : Nat) : Int))) (by omega)]
    cases Ic m t.fj.toNat v
    ·simp
    ·cases ok <;> cases f <;> cases t.ft <;> simp
   ·simp only [gC, zB2]
    split <;> simp <;> omega)
  (fun n a _ => by
   rw [B5]
   simp only [Bl]
   rw [Ay (by omega)]) N 0 (acc, false) (by omega) (by omega) ⟨by omega, by simp⟩
 have h2 := this.1
 rw [zC4, MI, zJ9] at h2
 exact h2
theorem MU {p : Aa} {t : Al} (hp : A4 p) (ht : N6 p t) : t.fr.length ≤ 6 ∧ ∀ row, row ∈ t.fr → row.length ≤ 6 := by
 have h1 := Kh hp.ver ht.from0.1 ht.from0.2
 have h2 := Kh hp.ver ht.to0.1 ht.to0.2
 have h3 := ht.okL
 exact ⟨by omega, fun row hr => by have := ht.okR row hr; omega⟩
theorem TK (i u : Nat) (m : Ac) (t : Al) (v : Nat) (ok : Bool) : (gC i u m t v ok).length ≤ 1 := by
 unfold gC; split <;> simp
theorem TB (i : Nat) (m : Ac) (t : Al) (u : Nat) (row : List Bool) (h : row.length ≤ 6) : (Kd i m t u row).length ≤ 7 := by
 unfold Kd
 rw [zB2]
 have := Ga (g := gC i u m t) (c := 1) (i := 0) (xs := row) (fun j x _ => TK _ _ _ _ _ _)
 split <;> simp <;> omega
theorem TF (i : Nat) (m : Ac) (t : Al) (u : Nat) (row : List Bool) (h : row.length ≤ 6) : (if Sc m i t u = true then Kd i m t u row else []).length ≤ 7 := by
 have := TB i m t u row h
 split <;> simp <;> omega
theorem Oa {p : Aa} {t : Al} (hp : A4 p) (ht : N6 p t) (i : Nat) (m : Ac) : (IC m i t).length ≤ 42 := by
 have h1 := MU hp ht
 have := Ga (g := fun u row => if Sc m i t u = true then Kd i m t u row else []) (c := 7) (i := 0) (xs := t.fr) (fun j x hx => TF i m t _ x (h1.2 x (lM hx)))
 unfold IC
 omega
theorem Nz (N : Nat) (p : Aa) (m : Ac) (t : Al) (i : Nat) (W R : Int) (b1 acc : List An) (j : List An → Option (List An))
  (hN : N ≤ 1000000) (h8 : 8 ≤ N) (hp : A4 p) (ht : N6 p t) (hacc : acc.length + 42 ≤ 10000) (hR0 : 0 ≤ R) (hR1 : R ≤ 255) (hRb : ∀ v, D6 R v = Ic m t.fj.toNat v) (hW0 : 0 ≤ W) (hW1 : W ≤ 255) (hWb : ∀ v, D6 W v = Sc m i t v) :
  Cp N (b1, (i : Int)) t R W j N (acc, 0) = j (acc ++ IC m i t) := by
 have hl := MU hp ht
 exact FG (Cp N (b1, (i : Int)) t R W j) (fun a k => (a, k)) t.fr j (fun u row => if Sc m i t u then Kd i m t u row else []) 7 10000
  (fun u row hx => TF i m t u row (hl.2 row (lM hx)))
  (fun n u row a hx ha => by
   have hu := (lI.1 hx).1
   have hrow := hl.2 row (lM hx)
   rw [Cp]
   simp only [Bl]
   rw [AC (by omega), Au (by omega), SF hW0 hW1 (by omega), hWb, AV, hx]
   simp only [oS]
   rw [Sg N m t i u row R b1 a a _ hN h8 hrow (by unfold C2; omega) hR0 hR1 hRb, AE (by omega)]
   cases hw : Sc m i t u
   ·simp
   ·simp only [zC3, Ao, if_true, Kd]
    have h1 := Ga (g := gC i u m t) (c := 1) (i := 0) (xs := row) (fun j x _ => TK _ _ _ _ _ _)
    have := LQ (R := List An) (t.ft && !NS (hC m t) 0 row) (a ++ Bz (gC i u m t) 0 row) ⟨(i : Int), (u : Int), -1⟩ (fun l => Cp N (b1, (i : Int)) t R W j n (l, ((u + 1 : Nat) : Int))) (by rw [zB2]; unfold C2; rw [hw, if_pos rfl] at ha; omega)
    rw [← zD7, ← this]
    cases t.ft <;> cases NS (hC m t) 0 row <;> rfl)
  (fun n a => by
   rw [Cp]
   simp only [Bl]
   rw [Ay (by omega)]) N acc (by omega) (by omega)
theorem S3 (N : Nat) (p : Aa) (m : Ac) (t : Al) (i u : Nat) (row : List Bool) (b1 b2 acc : List An) (j : List An × Bool → Option (List An))
  (hN : N ≤ 1000000) (h8 : 8 ≤ N) (hp : A4 p) (hm : MixServ p m) (ht : N6 p t) (hu : t.fr[u]? = some row) (hacc : acc.length + 6 ≤ C2) :
  Bm N p m (b1, (i : Int)) t (b2, (u : Int)) j N (acc, false, 0) = j (acc ++ Bz (gC i u m t) 0 row, NS (hC m t) 0 row) := by
 have hrow := (MU hp ht).2 row (lM hu)
 have hR := IS hp hm (s := t.fj.toNat) (by have := ht.to0; omega)
 have hlen := ht.okR row (lM hu)
 have hto := ht.to0
 have := HU (A := List An × Bool) (Bm N p m (b1, (i : Int)) t (b2, (u : Int)) j) (fun a k => (a.1, a.2, k)) row (fun a => j a) (fun v ok s => (s.1 ++ gC i u m t v ok, s.2 || hC m t v ok))
  (fun v a => v ≤ row.length ∧ a.1.length ≤ acc.length + v)
  (fun n v ok a hx ha => by
   have hv := (lI.1 hx).1
   obtain ⟨c, f⟩ := a
   simp only at ha
   refine ⟨?_, by omega, ?_⟩
   ·rw [Bm]
    simp only [Bl]
    rw [D9 (d := 0) hto.1 hto.2, KR N m t.fj hto.1 (by rw [hm.base]; exact hto.2) (by rw [hm.next]; exact hto.2) (hm.b0 _ (by omega)).1, AV, hu]
    simp only [oS]
    unfold CA
    rw [AC (by omega), AV, hx, Au (by omega), To hR.2.1 hR.2.2 (by omega), hR.1]
    simp only [oS]
    rw [AE (by omega), LQ _ _ _ (fun l => Bm N p m (b1, (i : Int)) t (b2, (u : Int)) j n (l, true, ((v + 1 : Nat) : Int))) (by omega)]
    unfold gC hC
    rw [LQ _ _ _ (fun l => Bm N p m (b1, (i : Int)) t (b2, (u : Int)) j n (l, ok, ((v + 1 : Nat) : Int))) (by omega)]
    cases Ic m t.fj.toNat v
    ·simp
    ·cases ok <;> cases f <;> cases t.ft <;> simp
   ·simp only [gC, zB2]
    split <;> simp <;> omega)
  (fun n a _ => by
   rw [Bm]
   simp only [Bl]
   rw [D9 (d := 0) hto.1 hto.2]
   simp only [oS]
   rw [Ay (by omega)]) N 0 (acc, false) (by omega) (by omega) ⟨by omega, by simp⟩
 have h2 := this.1
 rw [zC4, MI, zJ9] at h2
 exact h2
theorem Nw (N : Nat) (p : Aa) (m : Ac) (t : Al) (i : Nat) (W : Int) (b1 acc : List An) (j : List An → Option (List An))
  (hN : N ≤ 1000000) (h8 : 8 ≤ N) (hp : A4 p) (hm : MixServ p m) (ht : N6 p t) (hacc : acc.length + 42 ≤ 10000) (hW0 : 0 ≤ W) (hW1 : W ≤ 255) (hWb : ∀ v, D6 W v = Sc m i t v) :
  BJ N p m (b1, (i : Int)) t W j N (acc, 0) = j (acc ++ IC m i t) := by
 have hl := MU hp ht
 have hfr := ht.from0
 have hok := ht.okL
 exact FG (BJ N p m (b1, (i : Int)) t W j) (fun a k => (a, k)) t.fr j (fun u row => if Sc m i t u then Kd i m t u row else []) 7 10000
  (fun u row hx => TF i m t u row (hl.2 row (lM hx)))
  (fun n u row a hx ha => by
   have hu := (lI.1 hx).1
   have hrow := hl.2 row (lM hx)
   rw [BJ]
   simp only [Bl]
   rw [D9 (d := 0) hfr.1 hfr.2]
   simp only [oS]
   unfold CA
   rw [AC (by omega), Au (by omega), To hW0 hW1 (by omega), hWb]
   simp only [oS]
   rw [S3 N p m t i u row b1 a a _ hN h8 hp hm ht hx (by unfold C2; omega), AE (by omega)]
   cases hw : Sc m i t u
   ·simp
   ·simp only [zC3, Ao, if_true, Kd]
    have h1 := Ga (g := gC i u m t) (c := 1) (i := 0) (xs := row) (fun j x _ => TK _ _ _ _ _ _)
    have := LQ (R := List An) (t.ft && !NS (hC m t) 0 row) (a ++ Bz (gC i u m t) 0 row) ⟨(i : Int), (u : Int), -1⟩ (fun l => BJ N p m (b1, (i : Int)) t W j n (l, ((u + 1 : Nat) : Int))) (by rw [zB2]; unfold C2; rw [hw, if_pos rfl] at ha; omega)
    rw [← zD7, ← this]
    cases t.ft <;> cases NS (hC m t) 0 row <;> rfl)
  (fun n a => by
   rw [BJ]
   simp only [Bl]
   rw [D9 (d := 0) hfr.1 hfr.2]
   simp only [oS]
   rw [Ay (by omega)]) N acc (by omega) (by omega)
theorem NJ (N : Nat) (p : Aa) (m : Ac) (hN : N ≤ 1000000) (h20 : 20 ≤ N) (hp : A4 p) (hm : Bp p m) : Gb N p m = some (Ee p m) := by
 unfold Gb
 have hnt := hp.nt
 rw [FG (DC N p m _) (fun a k => (a, k)) p.fc some (IC m) 42 9000
  (fun i t hx => Oa hp (Is (hp.tab t (lM hx))) i m)
  (fun n i t a hx ha => by
   have hi := (lI.1 hx).1
   have ht := Is (hp.tab t (lM hx))
   have hto := ht.to0
   have hfr := ht.from0
   have hR := IS hp hm.toMixServ (s := t.fj.toNat) (by omega)
   have hF := IS hp hm.toMixServ (s := t.ff.toNat) (by omega)
   have hH := hm.range i hi
   rw [DC]
   simp only [Bl]
   rw [AC (by omega), AV, hx]
   simp only [oS, Kc]
   rw [Mz N m t.ff hfr.1 (by rw [hm.base]; exact hfr.2) (by rw [hm.next]; exact hfr.2) (hm.b0 _ (by omega)).1, Mz N m t.fj hto.1 (by rw [hm.base]; exact hto.2) (by rw [hm.next]; exact hto.2) (hm.b0 _ (by omega)).1, De (d := 0) (by rw [hm.held]; exact hi), AE (by omega)]
   simp only [oS]
   cases hs : By t
   ·rw [Ao, Nz N p m t i _ _ a a _ hN (by omega) hp ht (by omega) hR.2.1 hR.2.2 hR.1 hF.2.1 hF.2.2 (fun v => by unfold Sc; rw [hs, hF.1]; rfl)]
   ·rw [AP, Nz N p m t i _ _ a a _ hN (by omega) hp ht (by omega) hR.2.1 hR.2.2 hR.1 hH.1 hH.2 (fun v => by unfold Sc; rw [hs]; rfl)])
  (fun n a => by
   rw [DC]
   simp only [Bl]
   rw [Ay (by omega)]) N [] (by omega) (by simp; omega)]
 rfl
theorem NU (N : Nat) (p : Aa) (m : Ac) (hN : N ≤ 1000000) (h20 : 20 ≤ N) (hp : A4 p) (hm : Bp p m) : EU N p m = some (Ee p m) := by
 unfold EU
 have hnt := hp.nt
 rw [FG (CI N p m _) (fun a k => (a, k)) p.fc some (IC m) 42 9000
  (fun i t hx => Oa hp (Is (hp.tab t (lM hx))) i m)
  (fun n i t a hx ha => by
   have hi := (lI.1 hx).1
   have ht := Is (hp.tab t (lM hx))
   have hto := ht.to0
   have hfr := ht.from0
   have hF := IS hp hm.toMixServ (s := t.ff.toNat) (by omega)
   have hH := hm.range i hi
   rw [CI]
   simp only [Bl]
   rw [AC (by omega), AV, hx]
   simp only [oS, Hz]
   rw [KR N m t.ff hfr.1 (by rw [hm.base]; exact hfr.2) (by rw [hm.next]; exact hfr.2) (hm.b0 _ (by omega)).1, De (d := 0) (by rw [hm.held]; exact hi), AE (by omega)]
   simp only [oS]
   cases hs : By t
   ·rw [Ao, Nw N p m t i _ a a _ hN (by omega) hp hm.toMixServ ht (by omega) hF.2.1 hF.2.2 (fun v => by unfold Sc; rw [hs, hF.1]; rfl)]
   ·rw [AP, Nw N p m t i _ a a _ hN (by omega) hp hm.toMixServ ht (by omega) hH.1 hH.2 (fun v => by unfold Sc; rw [hs]; rfl)])
  (fun n a => by
   rw [CI]
   simp only [Bl]
   rw [Ay (by omega)]) N [] (by omega) (by simp; omega)]
 rfl
theorem Fy {A S R : Type} (L : Nat → S → Option R) (mk : A → Int → S) (len : Nat) (j : A → Option R) (I : Nat → A → Prop)
  (hs : ∀ (n i : Nat) (a : A), i < len → I i a → ∃ a', L (n + 1) (mk a (i : Int)) = L n (mk a' ((i + 1 : Nat) : Int)) ∧ I (i + 1) a')
  (he : ∀ (n : Nat) (a : A), I len a → L (n + 1) (mk a (len : Int)) = j a) :
  ∀ (n i : Nat) (a : A), i ≤ len → len - i < n → I i a → ∃ a', L n (mk a (i : Int)) = j a' ∧ I len a'
 | 0, i, _, _, h, _ => by omega
 | n + 1, i, a, hi, h, ha => by
  by_cases h1 : i < len
  ·obtain ⟨a', e1, e2⟩ := hs n i a h1 ha
   rw [e1]
   exact Fy L mk len j I hs he n (i + 1) _ (by omega) (by omega) e2
  ·have : i = len := by omega
   subst this
   exact ⟨a, he n a ha, ha⟩
theorem J1 {α : Type} {xs ys : List α} {i : Nat} {d : α} (h : i < xs.length) : (xs ++ ys).getD i d = xs.getD i d := by
 rw [lD, lD, zC8 h]
theorem JX {α : Type} {xs : List α} {y : α} {i : Nat} {d : α} (h : i = xs.length) : (xs ++ [y]).getD i d = y := by
 subst h; rw [lD, zB9 (zB1 _)]; simp
theorem OH {α : Type} {P : Nat → α → Prop} {xs : List α} {y : α} {d : α} {n : Nat} (hn : xs.length = n) (h : ∀ k, k < n → P k (xs.getD k d)) (hy : P n y) : ∀ k, k < n + 1 → P k ((xs ++ [y]).getD k d) := by
 intro k hk
 by_cases h1 : k < n
 ·rw [J1 (by omega)]; exact h k h1
 ·have : k = n := by omega
  subst this
  rw [JX hn.symm]; exact hy
theorem UH {l : List Int} (hw : PO Mh l) (i : Nat) : 0 ≤ l.getD i 0 ∧ l.getD i 0 ≤ 255 := by
 by_cases h : i < l.length
 ·have : l.getD i 0 ∈ l := by rw [lD, zC0 h]; exact zE9 _
  exact JE (hw _ this)
 ·rw [lD, zD1 (by omega)]
  exact ⟨by decide, by decide⟩
theorem QR (N : Nat) {l : List Int} (hw : PO Mh l) (i : Nat) : Ek N l (i : Int) = some (l.getD i 0) := by
 unfold Ek
 have h2 := UH hw i
 by_cases h : i < l.length
 ·rw [AC (by omega), De (d := 0) h]
  simp only [oS]
  rw [CH (by omega) (by omega)]
 ·rw [Ay (by omega), lD, zD1 (by omega)]; rfl
theorem It {a n : Int} (ha : 0 ≤ a) (hn : 0 < n) : 0 ≤ zB7 a n ∧ zB7 a n < n := ⟨Int.tmod_nonneg n ha, Int.tmod_lt_of_pos a hn⟩
theorem Zm {l : List (List Bool)} {n m : Int} (h1 : (l.length : Int) = n) (h2 : ∀ row, row ∈ l → (row.length : Int) = m) : sq l n m = true := by
 unfold sq
 simp only [zA5, decide_eq_true_eq, zA2]
 exact ⟨h1, h2⟩
theorem ZP {p : Aa} {t : Al} (h : N6 p t) : DW p t = 0 := by
 have hk := h.kind
 have hf := h.from0
 have ht := h.to0
 unfold DW
 rw [if_neg, if_neg (by omega)]
 ·simp only [Zm h.okL h.okR]
  rw [if_neg (by simp)]
  by_cases h4 : t.fg = 4
  ·rw [if_pos h4, Zm (h.reL h4) h.reR, if_neg (by simp), h.reD h4]; rfl
  ·rw [if_neg h4, h.reN h4]; rfl
 ·rintro (h1 | h1 | ⟨h1, h2⟩)
  ·omega
  ·omega
  ·have := h.aware h1
   unfold By at this
   rw [zJ2, beq_eq_false_iff_ne, beq_eq_false_iff_ne] at this
   omega
theorem W5 (N : Nat) (m bad : Int) (diag : Bool) (i : Nat) (acc : List (List Bool)) {_R : Type} (j : List Bool → Option (List (List Bool))) (hN : N ≤ 1000000) (h20 : 20 ≤ N) (hm : 0 ≤ m ∧ m ≤ 6) (hi : i < 6) :
  ∃ row, Cq N m bad diag (acc, (i : Int)) j N ([], 0) = j row ∧ (row.length : Int) = m ∧ (diag = true → (i : Int) < m → row.getD i false = true) := by
 obtain ⟨M, rfl⟩ := zA8 hm.1
 obtain ⟨row, e, h1, h2⟩ := Fy (A := List Bool) (Cq N (M : Int) bad diag (acc, (i : Int)) j) (fun a k => (a, k)) M j
  (fun k a => a.length = k ∧ ∀ q, q < k → diag = true → q = i → a.getD q false = true)
  (fun n k a hk ha => by
   refine ⟨a ++ [(diag && decide (i = k)) || (zB7 (AY .u16 bad ((3 * i + k : Nat) : Int)) 2 == 0)], ?_, by simp [ha.1], OH (P := fun q y => diag = true → q = i → y = true) ha.1 ha.2 (fun h1 h2 => by simp [h1, h2])⟩
   rw [Cq]
   simp only [Bl]
   rw [AC (by omega), AE (by omega), CH (n := 3 * (i : Int)) (by omega) (by omega), CH (n := 3 * (i : Int) + (k : Int)) (by omega) (by omega)]
   have l1 : ∀ y : Bool, a.length + ([y] : List Bool).length ≤ C2 := by intro y; rw [ha.1]; unfold C2; simp; omega
   simp only [Au (l1 _), Au (show (0 : Int) ≤ 3 * (i : Int) + (k : Int) by omega)]
   have e1 : ((3 * i + k : Nat) : Int) = 3 * (i : Int) + (k : Int) := by omega
   rw [e1]
   have e2 : (((i : Nat) : Int) == ((k : Nat) : Int)) = decide (i = k) := by
    by_cases h : i = k
    ·simp [h]
    ·rw [decide_eq_false h]; exact beq_eq_false_iff_ne.2 (by omega)
   rw [e2]
   cases diag <;> cases decide (i = k) <;> rfl)
  (fun n a _ => by
   rw [Cq]
   simp only [Bl]
   rw [Ay (by omega)]) N 0 [] (zA9 _) (by omega) ⟨rfl, fun q hq => by omega⟩
 exact ⟨row, e, by omega, fun hd hlt => h2 i (by omega) hd rfl⟩
theorem U8 (N : Nat) (n m bad : Int) (diag : Bool) (hN : N ≤ 1000000) (h20 : 20 ≤ N) (hn : 0 ≤ n ∧ n ≤ 6) (hm : 0 ≤ m ∧ m ≤ 6) :
  ∃ l, Ei N n m bad diag = some l ∧ (l.length : Int) = n ∧ (∀ row, row ∈ l → (row.length : Int) = m) ∧ (diag = true → n = m → Jt l = none) := by
 obtain ⟨M, rfl⟩ := zA8 hn.1
 unfold Ei
 obtain ⟨l, e, h1, h2⟩ := Fy (A := List (List Bool)) (Co N (M : Int) m bad diag (fun v => some v)) (fun a k => (a, k)) M some
  (fun k a => a.length = k ∧ ∀ q, q < k → (((a.getD q []).length : Nat) : Int) = m ∧ (diag = true → (q : Int) < m → (a.getD q []).getD q false = true))
  (fun n k a hk ha => by
   obtain ⟨row, e, h1, h2⟩ := W5 (_R := Unit) N m bad diag k a (fun (v5 : List Bool) =>
    (DH (a.length + (([v5] : List (List Bool))).length ≤ C2)).bind fun _ =>
    Co N (M : Int) m bad diag (fun v => some v) n (a ++ (([v5] : List (List Bool))), (wI .i64 ((k : Int) + 1)))) hN h20 hm (by omega)
   refine ⟨a ++ [row], ?_, by simp [ha.1], OH (P := fun q y => ((y.length : Nat) : Int) = m ∧ (diag = true → (q : Int) < m → y.getD q false = true)) ha.1 ha.2 ⟨h1, h2⟩⟩
   rw [Co]
   simp only
   rw [AC (by omega), e, Au (by rw [ha.1]; unfold C2; simp; omega), AE (by omega)])
  (fun n a _ => by
   rw [Co]
   simp only
   rw [Ay (by omega)]) N 0 [] (zA9 _) (by omega) ⟨rfl, fun q hq => by omega⟩
 have key : ∀ q row, l[q]? = some row → l.getD q [] = row := fun q row hq => by rw [lD, hq]; rfl
 refine ⟨l, e, by omega, fun row hr => ?_, fun hd hnm => ?_⟩
 ·obtain ⟨q, hq⟩ := zB3.1 hr
  have := (h2 q (by have := (lI.1 hq).1; omega)).1
  rwa [key q row hq] at this
 ·unfold Jt
  refine FJ fun q row hq => ?_
  have hlt := (lI.1 hq).1
  have := (h2 q (by omega)).2 hd (by omega)
  rw [key q row hq] at this
  rw [zA3, this]; rfl
structure Zx (p : Aa) : Prop where
 valid : BG p = 0
 nv : p.fa.length ≤ 3
 nt : p.fc.length ≤ 4
 v3 : ∀ v, v ∈ p.fa → v ≤ 3
theorem VH {p q : Aa} (h : p.fa = q.fa) (t : Al) : DW p t = DW q t := by
 unfold DW; rw [h]
theorem dG (N : Nat) (d : BF) (hN : N ≤ 1000000) (h20 : 20 ≤ N) (hw : FL d) : ∃ p ok, FR N d = some (p, ok) ∧ (ok = true → Zx p) := by
 obtain ⟨w1, w2, w3, w4, _⟩ := hw
 unfold FR
 simp only [Bl]
 by_cases k1 : 3 < d.fa.length
 ·rw [AC (by omega)]; exact ⟨_, false, rfl, fun h => by cases h⟩
 by_cases k2 : 4 < d.fw.length
 ·rw [Ay (by omega), decide_eq_true (by omega : (4 : Int) < (d.fw.length : Int))]; exact ⟨_, false, rfl, fun h => by cases h⟩
 rw [Ay (by omega), decide_eq_false (by omega : ¬ (4 : Int) < (d.fw.length : Int)), Ao]
 obtain ⟨⟨vs, ns, ts⟩, e, h1, h2, h3, h4⟩ := Fy (A := List Int × List Int × List Int) (CP N d fun v5 => BA N d v5 (fun v16 => some (Aa.mk v5.1 v5.2.1 v5.2.2 v16, true)) N ([], 0)) (fun a k => (a.1, a.2.1, a.2.2, k)) d.fa.length
  (fun v5 => BA N d v5 (fun v16 => some (Aa.mk v5.1 v5.2.1 v5.2.2 v16, true)) N ([], 0))
  (fun i a => a.1.length = i ∧ a.2.1.length = i ∧ a.2.2.length = i ∧ (∀ k, k < i → (1 ≤ a.1.getD k 0 ∧ a.1.getD k 0 ≤ 3) ∧ (0 ≤ a.2.1.getD k 0 ∧ a.2.1.getD k 0 < a.1.getD k 0) ∧ (0 ≤ a.2.2.getD k 0 ∧ a.2.2.getD k 0 < a.1.getD k 0)))
  (fun n i a hi ha => by
   obtain ⟨vs, ns, ts⟩ := a
   obtain ⟨h1, h2, h3, h4⟩ := ha
   simp only at h1 h2 h3 h4
   have hv := UH w1 i
   have hb := UH w2 i
   have hk := UH w3 i
   have hm := It (n := 3) hv.1 (by omega)
   obtain ⟨v, hvd⟩ : ∃ v, v = 1 + zB7 (d.fa.getD i 0) 3 := ⟨_, rfl⟩
   have m1 := It (n := v) hb.1 (by omega)
   have m2 := It (n := v) hk.1 (by omega)
   refine ⟨(vs ++ [v], ns ++ [zB7 (d.fh.getD i 0) v], ts ++ [zB7 (d.fq.getD i 0) v]), ?_, by simp [h1], by simp [h2], by simp [h3], ?_⟩
   ·rw [CP]
    simp only
    rw [AC (by omega), De (d := 0) hi, QR N w2, QR N w3]
    simp only [oS]
    rw [CH (n := zB7 _ _) (by omega) (by omega), CH (n := 1 + _) (by omega) (by omega), ← hvd, AE (by omega)]
    have l1 : ∀ y : Int, vs.length + ([y] : List Int).length ≤ C2 := by intro y; rw [h1]; unfold C2; simp; omega
    have l2 : ∀ y : Int, ns.length + ([y] : List Int).length ≤ C2 := by intro y; rw [h2]; unfold C2; simp; omega
    have l3 : ∀ y : Int, ts.length + ([y] : List Int).length ≤ C2 := by intro y; rw [h3]; unfold C2; simp; omega
    simp only [Au (l1 _), Au (l2 _), Au (l3 _), Au (show v ≠ 0 by omega)]
   ·intro k hk
    simp only
    by_cases hki : k < i
    ·rw [J1 (by omega), J1 (by omega), J1 (by omega)]; exact h4 k hki
    ·have : k = i := by omega
     subst this
     rw [JX h1.symm, JX h2.symm, JX h3.symm]
     omega)
  (fun n a _ => by
   rw [CP]
   simp only
   rw [Ay (by omega)]) N 0 ([], [], []) (zA9 _) (by omega) ⟨rfl, rfl, rfl, fun k hk => by omega⟩
 simp only at h1 h2 h3 h4
 have e' : CP N d (fun v5 => BA N d v5 (fun v16 => some (Aa.mk v5.1 v5.2.1 v5.2.2 v16, true)) N ([], 0)) N ([], [], [], 0) = _ := e
 rw [e']
 have hvs : ∀ v, v ∈ vs → 1 ≤ v ∧ v ≤ 3 := by
  intro v hv
  obtain ⟨q, hq⟩ := zB3.1 hv
  have := (h4 q (by have := (lI.1 hq).1; omega)).1
  rwa [lD, hq] at this
 have fin : ∀ Oq : List Al, Oq.length ≤ 4 → (∀ t, t ∈ Oq → DW ⟨vs, ns, ts, []⟩ t = 0) → Zx ⟨vs, ns, ts, Oq⟩ := by
  intro Oq ht h
  have hp : A4 ⟨vs, ns, ts, Oq⟩ := ⟨show vs.length ≤ 6 by omega, show Oq.length ≤ 12 by omega, show ns.length = vs.length by omega, show ts.length = vs.length by omega, fun v hv => by have := hvs v hv; omega, fun t ht => by rw [← h t ht]; exact VH rfl t⟩
  exact ⟨RI hp fun i hi => by have := h4 i (by have : i < vs.length := hi; omega); simp only; omega, show vs.length ≤ 3 by omega, ht, fun v hv => (hvs v hv).2⟩
 by_cases k3 : vs.length = 0
 ·refine ⟨_, true, ?_, fun _ => fin [] (by simp) (fun t ht => by cases ht)⟩
  obtain ⟨M, rfl⟩ : ∃ M, N = M + 1 := ⟨N - 1, by omega⟩
  rw [BA]
  simp only [Bl]
  rw [k3]
  by_cases k4 : (0 : Int) < (d.fw.length : Int)
  ·rw [AC k4]; rfl
  ·rw [Ay k4]; rfl
 obtain ⟨Oq, e2, g1, g2⟩ := Fy (A := List Al) (BA N d (vs, ns, ts) (fun v16 => some (Aa.mk vs ns ts v16, true))) (fun a k => (a, k)) d.fw.length (fun v16 => some (Aa.mk vs ns ts v16, true))
  (fun i a => a.length = i ∧ ∀ t, t ∈ a → DW ⟨vs, ns, ts, []⟩ t = 0)
  (fun n i a hi ha => by
   have hx : d.fw[i]? = some d.fw[i] := by simp [hi]
   generalize d.fw[i] = l at hx
   obtain ⟨u1, u2, u3, _, u5, u6, _⟩ := w4 l (lM hx)
   have u1 := JE u1
   have u2 := JE u2
   have u3 := JE u3
   have mk := It (n := 4) u1.1 (by omega)
   have hL : (0 : Int) < (vs.length : Int) := by omega
   have mf := It (n := (vs.length : Int)) u2.1 hL
   have mt := It (n := (vs.length : Int)) u3.1 hL
   rw [BA]
   simp only [Bl]
   rw [AC (by omega), decide_eq_true hL, AP, AV, hx]
   simp only [oS]
   rw [Au (by omega), Au (by omega), CH (n := l.ff) (by omega) (by omega), CH (n := l.fj) (by omega) (by omega), CH (n := zB7 l.fg 4) (by omega) (by omega), CH (n := 1 + _) (by omega) (by omega), AE (by omega)]
   simp only [NO, oS]
   rw [D9 (d := 0) mf.1 mf.2, D9 (d := 0) mt.1 mt.2]
   simp only [oS]
   have hA : ∀ q : Int, 0 ≤ q → q < (vs.length : Int) → 1 ≤ vs.getD q.toNat 0 ∧ vs.getD q.toNat 0 ≤ 3 := fun q h0 h1 => (h4 q.toNat (by omega)).1
   have hf := hA _ mf.1 mf.2
   have ht := hA _ mt.1 mt.2
   obtain ⟨A, eA, a1, a2, _⟩ := U8 N (vs.getD (zB7 l.ff (vs.length : Int)).toNat 0) (vs.getD (zB7 l.fj (vs.length : Int)).toNat 0) l.fy false hN h20 (by omega) (by omega)
   obtain ⟨B, eB, b1, b2, b3⟩ := U8 N (vs.getD (zB7 l.ff (vs.length : Int)).toNat 0) (vs.getD (zB7 l.ff (vs.length : Int)).toNat 0) l.fA true hN h20 (by omega) (by omega)
   rw [eA, eB]
   simp only [oS]
   have l1 : ∀ y : Al, a.length + ([y] : List Al).length ≤ C2 := by intro y; rw [ha.1]; unfold C2; simp; omega
   simp only [Au (l1 _)]
   obtain ⟨kd, hkd⟩ : ∃ kd, kd = 1 + zB7 l.fg 4 := ⟨_, rfl⟩
   rw [← hkd]
   have fin2 : ∀ (aw : Bool) (re : List (List Bool)), (aw = true → (kd == 3 || kd == 4) = false) → ((kd = 4 → re = B) ∧ (kd ≠ 4 → re = [])) →
     DW ⟨vs, ns, ts, []⟩ (Al.mk kd (zB7 l.ff (vs.length : Int)) (zB7 l.fj (vs.length : Int)) aw A re) = 0 := by
    intro aw re haw hre
    refine ZP ⟨show 1 ≤ kd ∧ kd ≤ 4 by omega, haw, mf, mt, a1, a2, fun h => by rw [hre.1 h]; exact b1, fun row hr => ?_, fun h => by rw [hre.1 h]; exact b3 rfl rfl, fun h => hre.2 h⟩
    by_cases h4 : kd = 4
    ·simp only at hr; rw [hre.1 h4] at hr; exact b2 row hr
    ·simp only at hr; rw [hre.2 h4] at hr; cases hr
   have app : ∀ t, DW ⟨vs, ns, ts, []⟩ t = 0 → (a ++ [t]).length = i + 1 ∧ ∀ t', t' ∈ a ++ [t] → DW ⟨vs, ns, ts, []⟩ t' = 0 := by
    intro t ht
    refine ⟨by simp [ha.1], fun t' ht' => ?_⟩
    rcases zC2.1 ht' with h | h
    ·exact ha.2 t' h
    ·rw [zD6.1 h]; exact ht
   by_cases h4 : kd = 4
   ·have e4 : (kd == 4) = true := beq_iff_eq.2 h4
    have hre : (kd = 4 → B = B) ∧ (kd ≠ 4 → B = []) := ⟨fun _ => rfl, fun h => (h h4).elim⟩
    rw [e4]
    simp only [AP, Bool.or_true, zC3]
    cases l.ft
    ·exact ⟨_, rfl, app _ (fin2 false B (fun h => by cases h) hre)⟩
    ·exact ⟨_, rfl, app _ (fin2 false B (fun h => by cases h) hre)⟩
   ·have e4 : (kd == 4) = false := beq_eq_false_iff_ne.2 h4
    have hre : (kd = 4 → ([] : List (List Bool)) = B) ∧ (kd ≠ 4 → ([] : List (List Bool)) = []) := ⟨fun h => (h4 h).elim, fun _ => rfl⟩
    rw [e4]
    simp only [Ao, Bool.or_false]
    cases l.ft
    ·exact ⟨_, rfl, app _ (fin2 false [] (fun h => by cases h) hre)⟩
    ·cases e3 : kd == 3
     ·exact ⟨_, rfl, app _ (fin2 true [] (fun _ => by rw [e3, e4]; rfl) hre)⟩
     ·exact ⟨_, rfl, app _ (fin2 false [] (fun h => by cases h) hre)⟩)
  (fun n a _ => by
   rw [BA]
   simp only [Bl]
   rw [Ay (by omega), Ao]) N 0 [] (zA9 _) (by omega) ⟨rfl, fun t ht => by cases ht⟩
 exact ⟨_, true, e2, fun _ => fin Oq (by omega) g2⟩
def Jg : List Int → Nat → Nat
 | [], _ => 0
 | _, 0 => 0
 | n :: ns, q + 1 => (if 0 ≤ n then 1 else 0) + Jg ns q
theorem JI (l : List Int) : Jg l 0 = 0 := by cases l <;> rfl
theorem Id : ∀ (l : List Int) (q : Nat), q < l.length → Jg l (q + 1) = Jg l q + if 0 ≤ l.getD q 0 then 1 else 0
 | [], q, h => by simp at h
 | n :: ns, 0, _ => by simp [Jg, JI]
 | n :: ns, q + 1, h => by
  rw [Jg, Id ns q (by simpa using h), Jg, zJ5, zF6]
theorem O6 (l : List Int) {a b : Nat} (h : a ≤ b) (hb : b ≤ l.length) : Jg l a ≤ Jg l b := by
 induction b with
 | zero => rw [Nat.le_zero.1 h]; exact zB1 _
 | succ b ih =>
  by_cases h1 : a = b + 1
  ·rw [h1]; exact zB1 _
  ·have := ih (by omega) (by omega)
   rw [Id l b (by omega)]; omega
theorem LA (l : List Int) : ∀ q, q ≤ l.length → Jg l q ≤ q
 | 0, _ => by rw [JI]; exact zB1 _
 | q + 1, h => by
  have := LA l q (by omega)
  rw [Id l q h]
  split <;> omega
def NR (l : List Int) (k q : Nat) : Int := if 0 ≤ l.getD q 0 ∧ k.testBit (Jg l q) = true then -1 else l.getD q 0
def XJ (l : List Int) (k : Nat) : List Int := (zB4 l.length).map (NR l k)
def ZH (m : Ac) (k : Nat) : Ac := ⟨m.fd, XJ m.fb k, m.fe⟩
def GM (m : Ac) : List Ac := (zB4 (2 ^ Jg m.fb m.fb.length)).map (ZH m)
theorem Nh (l : List Int) (k : Nat) : (XJ l k).length = l.length := by simp [XJ]
theorem Rj (l : List Int) (k q : Nat) (h : q < l.length) : (XJ l k).getD q 0 = NR l k q := by
 unfold XJ; rw [lD, zA1, List.getElem?_range h]; rfl
theorem GH {l1 l2 : List Int} (h1 : l1.length = l2.length) (h : ∀ q, q < l1.length → l1.getD q 0 = l2.getD q 0) : l1 = l2 := by
 apply List.ext_getElem h1
 intro q h2 h3
 have := h q h2
 rw [lD, lD, zC0 h2, zC0 h3] at this
 exact this
theorem UO : ∀ (k : Fin 64) (b : Fin 7), AI .i64 (AY .i64 (k.val : Int) (b.val : Int)) 1 = (if k.val.testBit b.val then 1 else 0) ∧ zB7 (AY .i64 (k.val : Int) (b.val : Int)) 2 = (if k.val.testBit b.val then 1 else 0) := by decide +kernel
theorem XU : ∀ n : Fin 7, DQ .i64 1 (n.val : Int) = ((2 ^ n.val : Nat) : Int) := by decide +kernel
structure On (m x : Ac) : Prop where
 base : x.fd = m.fd
 held : x.fe = m.fe
 len : x.fb.length = m.fb.length
 next : ∀ q, q < m.fb.length → x.fb.getD q 0 = m.fb.getD q 0 ∨ (0 ≤ m.fb.getD q 0 ∧ x.fb.getD q 0 = -1)
theorem On.refl (m : Ac) : On m m := ⟨rfl, rfl, rfl, fun _ _ => .inl rfl⟩
theorem On.trans {a b c : Ac} (h1 : On a b) (h2 : On b c) : On a c :=
 ⟨h2.base.trans h1.base, h2.held.trans h1.held, h2.len.trans h1.len, fun q hq => by
  have e1 := h1.next q hq
  have e2 := h2.next q (by rw [h1.len]; exact hq)
  omega⟩
theorem VV (m : Ac) (k : Nat) : On m (ZH m k) :=
 ⟨rfl, rfl, Nh _ _, fun q hq => by
  show (XJ m.fb k).getD q 0 = _ ∨ _ ∧ (XJ m.fb k).getD q 0 = _
  rw [Rj _ _ _ hq]; unfold NR
  split
  ·rename_i h; exact .inr ⟨h.1, rfl⟩
  ·exact .inl rfl⟩
theorem U1 : ∀ (l x : List Int), x.length = l.length → (∀ q, q < l.length → x.getD q 0 = l.getD q 0 ∨ (0 ≤ l.getD q 0 ∧ x.getD q 0 = -1)) → ∃ k, k < 2 ^ Jg l l.length ∧ ∀ q, q < l.length → x.getD q 0 = NR l k q
 | [], x, h, _ => ⟨0, by simp [Jg], fun q hq => by simp at hq⟩
 | n :: ns, [], h, _ => by simp at h
 | n :: ns, y :: ys, h, hq => by
  obtain ⟨k, hk, hk2⟩ := U1 ns ys (by simpa using h) (fun q hq' => by have := hq (q + 1) (by simpa using hq'); simpa using this)
  have h0 := hq 0 (by simp)
  simp only [zK7] at h0
  by_cases hn : 0 ≤ n
  ·refine ⟨2 * k + if y = n then 0 else 1, ?_, ?_⟩
   ·rw [zC5, Jg, if_pos hn, Nat.pow_add]
    split <;> omega
   ·intro q hq'
    cases q with
    | zero =>
     simp only [zK7, NR, JI]
     by_cases hy : y = n
     ·simp [hy]
     ·rw [if_neg hy, if_pos ⟨hn, by simp⟩]; omega
    | succ q =>
     have := hk2 q (by simpa using hq')
     simp only [zJ5, NR, Jg, if_pos hn] at this ⊢
     rw [this, Nat.add_comm 1, Nat.testBit_succ]
     have : (2 * k + if y = n then 0 else 1) / 2 = k := by split <;> omega
     rw [this]
  ·refine ⟨k, ?_, ?_⟩
   ·rw [zC5, Jg, if_neg hn, zA3]; exact hk
   ·intro q hq'
    cases q with
    | zero =>
     simp only [zK7, NR, JI]
     rw [if_neg (fun h => hn h.1)]
     omega
    | succ q =>
     have := hk2 q (by simpa using hq')
     simp only [zJ5, NR, Jg, if_neg hn, zA3] at this ⊢
     exact this
theorem KV {m x : Ac} : x ∈ GM m ↔ On m x := by
 unfold GM
 rw [zB5]
 constructor
 ·rintro ⟨k, _, rfl⟩; exact VV m k
 ·intro h
  obtain ⟨k, hk, hq⟩ := U1 m.fb x.fb h.len h.next
  refine ⟨k, zD8.2 hk, ?_⟩
  have : XJ m.fb k = x.fb := GH (by rw [Nh, h.len]) fun q hq' => by
   rw [Nh] at hq'
   rw [Rj _ _ _ hq', hq q hq']
  unfold ZH
  rw [this, ← h.base, ← h.held]
theorem ai {m x : Ac} (h : On m x) {s : Nat} (hs : s < m.fb.length) {v : Nat} (hv : Ic x s v = true) : Ic m s v = true := by
 unfold Ic at hv ⊢
 rw [h.base] at hv
 have := h.next s hs
 simp only [zG0, decide_eq_true_eq] at hv ⊢
 omega
theorem Zp {p : Aa} {m x : Ac} (hp : A4 p) (hm : Bp p m) (h : On m x) : Bp p x := by
 refine ⟨⟨by rw [h.base]; exact hm.base, by rw [h.len]; exact hm.next, by rw [h.held]; exact hm.held, fun i hi => by rw [h.base]; exact hm.b0 i hi, fun i hi => ?_, fun i hi => ?_⟩, fun i hi => by rw [h.held]; exact hm.range i hi, fun i t ht hs v hv => ?_, fun i t ht hs v hv => ?_, fun i t ht hs => by rw [h.held]; exact hm.none i t ht hs⟩
 ·have h1 := hm.n0 i hi
  have h2 := h.next i (by rw [hm.next]; exact hi)
  have h3 := IZ hp hi
  omega
 ·have h1 := hm.ne i hi
  have h2 := h.next i (by rw [hm.next]; exact hi)
  have h3 := hm.b0 i hi
  rw [h.base]
  omega
 ·have hin := (Is (hp.tab t (lM ht))).from0
  rw [h.held]
  exact hm.low i t ht hs v (ai h (by rw [hm.next]; omega) hv)
 ·rw [h.held] at hv
  exact hm.high i t ht hs v hv
theorem Kv (N : Nat) (l : List Int) (h : l.length ≤ C2) : BQ N l = some l := by
 unfold BQ
 rw [Au (by simpa using h)]; rfl
theorem QQ (N : Nat) (l : List Int) (h : l.length ≤ C2) : BY N l = some l := by
 unfold BY
 rw [Au (by simpa using h)]; rfl
theorem JM {l : List Int} {i q : Nat} {y : Int} (hi : i < l.length) : (l.set i y).getD q 0 = if q = i then y else l.getD q 0 := by
 rw [lD, lD, zE7]
 by_cases h : i = q
 ·subst h; simp [hi]
 ·rw [if_neg h, if_neg (fun e => h e.symm)]
theorem X4 {l : List Int} {a b : Nat} (ha : a < l.length) (hb : b < l.length) (h1 : 0 ≤ l.getD a 0) (h2 : 0 ≤ l.getD b 0) (h : Jg l a = Jg l b) : a = b := by
 rcases Nat.lt_trichotomy a b with h3 | h3 | h3
 ·have := O6 l (a := a + 1) (b := b) h3 (by omega)
  rw [Id l a ha, if_pos h1] at this; omega
 ·exact h3
 ·have := O6 l (a := b + 1) (b := a) h3 (by omega)
  rw [Id l b hb, if_pos h2] at this; omega
structure VW (l : List Int) (o : List Int) : Prop where
 len : o.length = Jg l l.length
 at_ : ∀ b, b < o.length → ∃ i : Nat, o.getD b 0 = (i : Int) ∧ i < l.length ∧ 0 ≤ l.getD i 0 ∧ Jg l i = b
theorem SR (N : Nat) (l o : List Int) (k : Nat) (acc : List Ac) (hN : N ≤ 1000000) (h20 : 20 ≤ N) (hl : l.length ≤ 6) (ho : VW l o) (hk : k < 64) (j : List Int → Option (List Ac × Int)) :
  Da N o (acc, (k : Int)) j N (l, 0) = j (XJ l k) := by
 have hol := LA l l.length (zB1 _)
 have hoL := ho.len
 obtain ⟨x, e, h1, h2⟩ := Fy (A := List Int) (Da N o (acc, (k : Int)) j) (fun a k => (a, k)) o.length j
  (fun b a => a.length = l.length ∧ ∀ q, q < l.length → a.getD q 0 = if 0 ≤ l.getD q 0 ∧ Jg l q < b ∧ k.testBit (Jg l q) = true then -1 else l.getD q 0)
  (fun n b a hb ha => by
   obtain ⟨i, hi1, hi2, hi3, hi4⟩ := ho.at_ b hb
   have hbit := UO ⟨k, hk⟩ ⟨b, by omega⟩
   rw [Da]
   simp only [Bl]
   rw [AC (by omega), De (d := 0) hb]
   simp only [oS]
   rw [Au (by omega), hi1, hbit.1, De (d := 0) (show i < a.length by rw [ha.1]; exact hi2), AE (by omega)]
   simp only [oS, zA7]
   cases hkb : k.testBit b
   ·refine ⟨a, rfl, ha.1, fun q hq => ?_⟩
    rw [ha.2 q hq]
    by_cases hqb : Jg l q = b
    ·rw [hqb, hkb]; simp
    ·by_cases h3 : Jg l q < b
     ·have : Jg l q < b + 1 := by omega
      simp [h3, this]
     ·have : ¬ Jg l q < b + 1 := by omega
      simp [h3, this]
   ·refine ⟨a.set i (-1), rfl, by simp [ha.1], fun q hq => ?_⟩
    rw [JM (by rw [ha.1]; exact hi2), ha.2 q hq]
    by_cases hqi : q = i
    ·subst hqi
     rw [if_pos rfl, if_pos ⟨hi3, by omega, by rw [hi4]; exact hkb⟩]
    ·rw [if_neg hqi]
     by_cases h0 : 0 ≤ l.getD q 0
     ·have hne : Jg l q ≠ b := fun h => hqi (X4 hq hi2 h0 hi3 (by omega))
      by_cases h3 : Jg l q < b
      ·have : Jg l q < b + 1 := by omega
       simp [h3, this]
      ·have : ¬ Jg l q < b + 1 := by omega
       simp [h3, this]
     ·rw [if_neg (fun h => h0 h.1), if_neg (fun h => h0 h.1)])
  (fun n a _ => by
   rw [Da]
   simp only [Bl]
   rw [Ay (by omega)]) N 0 l (zA9 _) (by omega) ⟨rfl, fun q hq => by simp⟩
 have e' : Da N o (acc, (k : Int)) j N (l, 0) = j x := e
 rw [e']
 congr 1
 refine GH (by rw [Nh, h1]) fun q hq => ?_
 rw [h1] at hq
 rw [h2 q hq, Rj _ _ _ hq, NR]
 by_cases h0 : 0 ≤ l.getD q 0
 ·have h3 := O6 l (a := q + 1) (b := l.length) hq (zB1 _)
  rw [Id l q hq, if_pos h0] at h3
  have : Jg l q < o.length := by omega
  simp [this]
 ·rw [if_neg (fun h => h0 h.1), if_neg (fun h => h0 h.1)]
theorem SX (N : Nat) (m : Ac) (k : Nat) (acc : List Ac) (hN : N ≤ 1000000) (h20 : 20 ≤ N) (hl : m.fb.length ≤ 6) (hk : k < 64) (j : List Int → Option (List Ac)) :
  B1 N m (acc, (k : Int)) j N (m.fb, 0, 0) = j (XJ m.fb k) := by
 obtain ⟨⟨x, pl⟩, e, h1, h2, h3⟩ := Fy (A := List Int × Nat) (B1 N m (acc, (k : Int)) j) (fun a k => (a.1, (a.2 : Int), k)) m.fb.length (fun a => j a.1)
  (fun i a => a.2 = Jg m.fb i ∧ a.1.length = m.fb.length ∧ ∀ q, q < m.fb.length → a.1.getD q 0 = if q < i then NR m.fb k q else m.fb.getD q 0)
  (fun n i a hi ha => by
   obtain ⟨a, pl⟩ := a
   obtain ⟨a1, a2, a3⟩ := ha
   simp only at a1 a2 a3
   have hple := LA m.fb i (by omega)
   have hbit := UO ⟨k, hk⟩ ⟨pl, by omega⟩
   have hs := Id m.fb i hi
   rw [B1]
   simp only [Bl]
   rw [AC (by omega), De (d := 0) hi]
   simp only [oS]
   rw [AE (by omega)]
   by_cases h0 : m.fb.getD i 0 < 0
   ·rw [AC h0]
    refine ⟨(a, pl), rfl, by simp only; rw [hs, if_neg (by omega), a1]; rfl, a2, fun q hq => ?_⟩
    simp only
    rw [a3 q hq]
    by_cases hqi : q = i
    ·subst hqi
     rw [if_neg (by omega), if_pos (by omega), NR, if_neg (by omega)]
    ·by_cases h4 : q < i
     ·rw [if_pos h4, if_pos (by omega)]
     ·rw [if_neg h4, if_neg (by omega)]
   ·rw [Ay h0, Au (by omega), De (d := 0) (show i < a.length by omega), hbit.2, AE (by omega)]
    simp only [oS, zA7]
    cases hkb : k.testBit pl
    ·refine ⟨(a, pl + 1), rfl, by simp only; rw [hs, if_pos (by omega), a1], a2, fun q hq => ?_⟩
     simp only
     rw [a3 q hq]
     by_cases hqi : q = i
     ·subst hqi
      rw [if_neg (by omega), if_pos (by omega), NR, ← a1, hkb]; simp
     ·by_cases h4 : q < i
      ·rw [if_pos h4, if_pos (by omega)]
      ·rw [if_neg h4, if_neg (by omega)]
    ·refine ⟨(a.set i (-1), pl + 1), rfl, by simp only; rw [hs, if_pos (by omega), a1], by simp [a2], fun q hq => ?_⟩
     simp only
     rw [JM (by omega), a3 q hq]
     by_cases hqi : q = i
     ·subst hqi
      rw [if_pos rfl, if_pos (by omega), NR, ← a1, if_pos ⟨by omega, hkb⟩]
     ·rw [if_neg hqi]
      by_cases h4 : q < i
      ·rw [if_pos h4, if_pos (by omega)]
      ·rw [if_neg h4, if_neg (by omega)])
  (fun n a _ => by
   rw [B1]
   simp only [Bl]
   rw [Ay (by omega)]) N 0 (m.fb, 0) (zA9 _) (by omega) ⟨(JI _).symm, rfl, fun q hq => by simp⟩
 have e' : B1 N m (acc, (k : Int)) j N (m.fb, 0, 0) = j x := e
 rw [e']
 congr 1
 simp only at h2 h3
 refine GH (by rw [Nh, h2]) fun q hq => ?_
 rw [h2] at hq
 rw [h3 q hq, if_pos hq, Rj _ _ _ hq]
theorem Wo (N : Nat) (m : Ac) (hN : N ≤ 1000000) (h20 : 20 ≤ N) (hl : m.fb.length ≤ 6) (j : List Int → Option (List Ac × Int)) :
  ∃ o, D1 N m j N ([], 0) = j o ∧ VW m.fb o := by
 obtain ⟨o, e, h1, h2⟩ := Fy (A := List Int) (D1 N m j) (fun a k => (a, k)) m.fb.length j
  (fun i o => o.length = Jg m.fb i ∧ ∀ b, b < o.length → ∃ q : Nat, o.getD b 0 = (q : Int) ∧ q < m.fb.length ∧ 0 ≤ m.fb.getD q 0 ∧ Jg m.fb q = b)
  (fun n i o hi ho => by
   have hple := LA m.fb i (by omega)
   have hs := Id m.fb i hi
   rw [D1]
   simp only [Bl]
   rw [AC (by omega), De (d := 0) hi]
   simp only [oS]
   rw [AE (by omega)]
   by_cases h0 : 0 ≤ m.fb.getD i 0
   ·rw [AC h0, Au (by rw [ho.1]; unfold C2; simp; omega)]
    refine ⟨o ++ [(i : Int)], rfl, by rw [hs, if_pos h0, ← ho.1]; simp, ?_⟩
    rw [zB2]
    exact OH (P := fun b y => ∃ q : Nat, y = (q : Int) ∧ q < m.fb.length ∧ 0 ≤ m.fb.getD q 0 ∧ Jg m.fb q = b) rfl ho.2 ⟨i, rfl, hi, h0, ho.1.symm⟩
   ·rw [Ay h0]
    exact ⟨o, rfl, by rw [hs, if_neg h0, ho.1]; rfl, ho.2⟩)
  (fun n a _ => by
   rw [D1]
   simp only [Bl]
   rw [Ay (by omega)]) N 0 [] (zA9 _) (by omega) ⟨(JI _).symm, fun b hb => by simp at hb⟩
 exact ⟨o, e, h1, h2⟩
theorem MJ {n : Nat} (h : n ≤ 6) : 2 ^ n ≤ 64 := Nat.pow_le_pow_right (n := 2) (by omega) h
theorem OB {n : Nat} (h : n ≤ 6) : DQ .i64 1 (n : Int) = ((2 ^ n : Nat) : Int) := XU ⟨n, by omega⟩
theorem Lo {β : Type} (f : Nat → β) (n : Nat) : (zB4 (n + 1)).map f = (zB4 n).map f ++ [f n] := by
 rw [zG4, zF0]; rfl
theorem P1 (N : Nat) (p : Aa) (m : Ac) (hN : N ≤ 1000000) (h20 : 100 ≤ N) (hw : PO Mh m.fe) (hv : Gr p m = 0) : Hp N p m = some (GM m, 0) := by
 obtain ⟨hp, hm⟩ := Lm hw hv
 have hnv := hp.nv
 have hnt := hp.nt
 have hl : m.fb.length ≤ 6 := by rw [hm.next]; omega
 unfold Hp
 rw [Ja N p m hN (by omega) hw, hv]
 simp only [oS, bne_self_eq_false, Ao]
 obtain ⟨o, e, ho⟩ := Wo N m hN (by omega) hl (fun (v4 : (List Int)) =>
   (DH (0 ≤ (v4.length : Int))).bind fun _ =>
   C9 N m v4 (fun (v12 : (List Ac)) =>
    some (v12, 0)) N (([] : List Ac), 0))
 rw [e, Au (by omega)]
 have hoL := ho.len
 have hol := LA m.fb m.fb.length (zB1 _)
 have hpow := MJ (show Jg m.fb m.fb.length ≤ 6 by omega)
 obtain ⟨a, e2, h1⟩ := Fy (A := List Ac) (C9 N m o fun v12 => some (v12, 0)) (fun a k => (a, k)) (2 ^ Jg m.fb m.fb.length) (fun v12 => some (v12, 0))
  (fun i a => a = (zB4 i).map (ZH m))
  (fun n i a hi ha => by
   refine ⟨a ++ [ZH m i], ?_, by rw [Lo, ha]⟩
   have hal : a.length = i := by rw [ha]; simp
   rw [C9]
   rw [hoL, OB (n := Jg m.fb m.fb.length) (by omega), AC (by omega), Kv N m.fd (by have := hm.base; unfold C2; omega), Kv N m.fb (by unfold C2; omega), QQ N m.fe (by have := hm.held; unfold C2; omega)]
   simp only [oS]
   rw [SR N m.fb o i a hN (by omega) hl ho (by omega), Au (by rw [hal]; unfold C2; simp; omega), AE (by omega)]
   rfl)
  (fun n a _ => by
   rw [C9]
   rw [hoL, OB (n := Jg m.fb m.fb.length) (by omega), Ay (by simp)]) N 0 [] (zA9 _) (by omega) rfl
 have e2' : C9 N m o (fun v12 => some (v12, 0)) N ([], 0) = some (a, 0) := e2
 rw [e2', h1]; rfl
theorem TN (N : Nat) (m : Ac) (h1 : m.fd.length ≤ C2) (h2 : m.fb.length ≤ C2) (h3 : m.fe.length ≤ C2) : Es N m = some m := by
 unfold Es
 rw [Au (by simpa using h1), Au (by simpa using h2), Au (by simpa using h3)]; rfl
theorem Uc (N : Nat) (m : Ac) (hN : N ≤ 1000000) (h20 : 100 ≤ N) (h1 : m.fd.length ≤ 100) (hl : m.fb.length ≤ 6) (h3 : m.fe.length ≤ 100) : Ew N m = some (GM m) := by
 unfold Ew
 obtain ⟨c, e, hc⟩ := Fy (A := Nat) (CE N m (fun (v2 : Int) =>
  BB N m v2 (fun (v8 : (List Ac)) => some v8) N (([] : List Ac), 0))) (fun a k => ((a : Int), k)) m.fb.length (fun a => BB N m (a : Int) (fun (v8 : (List Ac)) => some v8) N (([] : List Ac), 0))
  (fun i a => a = Jg m.fb i)
  (fun n i a hi ha => by
   have hple := LA m.fb i (by omega)
   have hs := Id m.fb i hi
   rw [CE]
   simp only [Bl]
   rw [AC (by omega), De (d := 0) hi]
   simp only [oS]
   rw [AE (by omega), AE (by omega)]
   by_cases h0 : 0 ≤ m.fb.getD i 0
   ·rw [AC h0]
    exact ⟨a + 1, rfl, by rw [hs, if_pos h0, ha]⟩
   ·rw [Ay h0]
    exact ⟨a, rfl, by rw [hs, if_neg h0, ha]; rfl⟩)
  (fun n a _ => by
   rw [CE]
   simp only [Bl]
   rw [Ay (by omega)]) N 0 0 (zA9 _) (by omega) (JI _).symm
 have e' : CE N m (fun (v2 : Int) => BB N m v2 (fun (v8 : (List Ac)) => some v8) N (([] : List Ac), 0)) N (0, 0) = _ := e
 rw [e', hc]
 have hol := LA m.fb m.fb.length (zB1 _)
 have hpow := MJ (show Jg m.fb m.fb.length ≤ 6 by omega)
 obtain ⟨a, e2, h1⟩ := Fy (A := List Ac) (BB N m (Jg m.fb m.fb.length : Int) fun v8 => some v8) (fun a k => (a, k)) (2 ^ Jg m.fb m.fb.length) some
  (fun i a => a = (zB4 i).map (ZH m))
  (fun n i a hi ha => by
   refine ⟨a ++ [ZH m i], ?_, by rw [Lo, ha]⟩
   have hal : a.length = i := by rw [ha]; simp
   rw [BB]
   rw [Au (by omega), OB (n := Jg m.fb m.fb.length) (by omega), AC (by omega), TN N m (by unfold C2; omega) (by unfold C2; omega) (by unfold C2; omega)]
   simp only [oS]
   rw [SX N m i a hN (by omega) hl (by omega), Au (by rw [hal]; unfold C2; simp; omega), AE (by omega)]
   rfl)
  (fun n a _ => by
   rw [BB]
   rw [Au (by omega), OB (n := Jg m.fb m.fb.length) (by omega), Ay (by simp)]) N 0 [] (zA9 _) (by omega) rfl
 have e2' : BB N m (Jg m.fb m.fb.length : Int) (fun v8 => some v8) N ([], 0) = some a := e2
 rw [e2', h1]; rfl
theorem T3 (N : Nat) (p : Aa) (m : Ac) (hN : N ≤ 1000000) (h20 : 100 ≤ N) (hp : A4 p) (hm : Bp p m) : Ew N m = some (GM m) := by
 have := hp.nv
 have := hp.nt
 exact Uc N m hN h20 (by rw [hm.base]; omega) (by rw [hm.next]; omega) (by rw [hm.held]; omega)
theorem MV {p : Aa} {m : Ac} (hm : Bp p m) : PO Mh m.fe := by
 intro x hx
 obtain ⟨q, hq⟩ := zB3.1 hx
 have h1 := (lI.1 hq).1
 have := hm.range q (by rw [← hm.held]; exact h1)
 rw [lD, hq] at this
 unfold Mh
 simp only [zC6] at this
 simp [Lit.wf, IntKind.min, IntKind.max, IntKind.signed, IntKind.bits]
 omega
def KJ (p : Aa) (x : Ac) : Option (Ac × An) := match Ee p x with
 | [] => none
 | c :: _ => some (x, c)
def NI (p : Aa) (m : Ac) : Option (Ac × An) := CC (fun _ x => KJ p x) 0 (GM m)
def H4 : Ac := ⟨[], [], []⟩
def Xe : An := ⟨0, 0, 0⟩
def TW (p : Aa) (m : Ac) : Ac × An × Int := match NI p m with
 | some (x, c) => (x, c, 0)
 | none => (H4, Xe, 15)
def Br (p : Aa) (m : Ac) : Bool := (NI p m).isNone
theorem OF {m : Ac} (hl : m.fb.length ≤ 6) : (GM m).length ≤ 64 := by
 unfold GM
 have hol := LA m.fb m.fb.length (zB1 _)
 have hpow := MJ (show Jg m.fb m.fb.length ≤ 6 by omega)
 simpa using hpow
theorem Nj {α R R' : Type} (f : Nat → α → Option R) (g : R → R') : ∀ (i : Nat) (xs : List α), CC (fun i x => (f i x).map g) i xs = (CC f i xs).map g
 | _, [] => rfl
 | i, x :: xs => by
  rw [FF, FF]
  cases f i x
  ·exact Nj f g (i + 1) xs
  ·rfl
theorem RF (N : Nat) (p : Aa) (m : Ac) (hN : N ≤ 1000000) (h20 : 100 ≤ N) (hw : PO Mh m.fe) (hv : Gr p m = 0) : H8 N p m = some (TW p m) := by
 obtain ⟨hp, hm⟩ := Lm hw hv
 have hnv := hp.nv
 unfold H8
 rw [P1 N p m hN h20 hw hv]
 simp only [oS, bne_self_eq_false, Ao]
 have hal := OF (m := m) (by rw [hm.next]; omega)
 have := Ck (E8 N p (GM m, 0) fun _ => some (H4, Xe, 15)) (GM m) (some (H4, Xe, 15)) (fun _ x => (KJ p x).map fun y => (y.1, y.2, 0))
  (fun n i x hx => by
   have hi := (lI.1 hx).1
   have hx2 := Zp hp hm (KV.1 (lM hx))
   rw [E8, AC (by simp only; omega)]
   simp only [AV, hx, oS]
   rw [NJ N p x hN (by omega) hp hx2, AE (by omega)]
   simp only [oS, KJ]
   cases Ee p x with
   | nil => rfl
   | cons c cs => rw [AC (by simp only [zC5]; omega)]; rfl)
  (fun n => by rw [E8, Ay (by simp)]) N 0 (zA9 _) (by omega)
 rw [zC4, Nj] at this
 exact this.trans (by
  unfold TW NI
  cases CC (fun _ x => KJ p x) 0 (GM m) <;> rfl)
theorem Kj (N : Nat) (p : Aa) (m : Ac) (hN : N ≤ 1000000) (h20 : 100 ≤ N) (hw : PO Mh m.fe) (hv : Gr p m = 0) : GI N p m = some (Br p m, 0) := by
 unfold GI
 rw [RF N p m hN h20 hw hv]
 unfold Br TW
 cases NI p m <;> rfl
theorem Tq {α R : Type} {f : Nat → α → Option R} {i : Nat} {xs : List α} : (CC f i xs).isNone = true ↔ ∀ j x, xs[j]? = some x → f (i + j) x = none := by
 constructor
 ·intro h
  exact EB (Option.isNone_iff_eq_none.1 h)
 ·intro h
  rw [FJ h]; rfl
theorem N2 {p : Aa} {x : Ac} : KJ p x = none ↔ Ee p x = [] := by
 unfold KJ
 cases Ee p x <;> simp
theorem OL {p : Aa} {m : Ac} : Br p m = true ↔ ∀ x, On m x → Ee p x = [] := by
 unfold Br NI
 rw [Tq]
 constructor
 ·intro h x hx
  obtain ⟨j, hj⟩ := zB3.1 (KV.2 hx)
  exact N2.1 (h j x hj)
 ·intro h j x hx
  exact N2.2 (h x (KV.1 (lM hx)))
theorem R2 (N : Nat) (p : Aa) (m : Ac) (hN : N ≤ 1000000) (h20 : 100 ≤ N) (hp : A4 p) (hm : Bp p m) : Er N p m = some (Ee p m).isEmpty := by
 unfold Er
 rw [NU N p m hN (by omega) hp hm]
 simp only [oS]
 cases Ee p m with
 | nil => rfl
 | cons c cs =>
  rw [beq_eq_false_iff_ne.2 (by simp only [zC5]; omega)]; rfl
theorem Mo (N : Nat) (p : Aa) (m : Ac) (hN : N ≤ 1000000) (h20 : 100 ≤ N) (hp : A4 p) (hm : Bp p m) : Dg N p m = some (Br p m) := by
 have hnv := hp.nv
 unfold Dg
 rw [T3 N p m hN h20 hp hm]
 simp only [oS]
 have hal := OF (m := m) (by rw [hm.next]; omega)
 have := Ck (B7 N p (GM m) fun _ => some true) (GM m) (some true) (fun _ x => (KJ p x).map fun _ => false)
  (fun n i x hx => by
   have hi := (lI.1 hx).1
   have hx2 := Zp hp hm (KV.1 (lM hx))
   rw [B7, AC (by omega)]
   simp only [AV, hx, oS]
   rw [R2 N p x hN h20 hp hx2, AE (by omega)]
   simp only [oS, KJ]
   cases Ee p x with
   | nil => rfl
   | cons c cs => rfl)
  (fun n => by rw [B7, Ay (by simp)]) N 0 (zA9 _) (by omega)
 rw [zC4, Nj] at this
 refine Eq.trans this ?_
 unfold Br NI
 cases CC (fun _ x => KJ p x) 0 (GM m) <;> rfl
theorem S7 {N : Nat} {a b : Ac} (hN : N ≤ 1000000) (h1 : a.fd.length < N) (h2 : a.fb.length < N) (h3 : a.fe.length < N) (h4 : b.fe.length < N) (wa : PO Mh a.fe) (wb : PO Mh b.fe) : Eb N a b = some (T1 a b) := by
 unfold Eb
 rw [Pd h1 hN, Pd h2 hN, N5 h3 hN wa, N5 h4 hN wb]
 simp only [oS]
 rw [Pd h3 hN]
 unfold T1 Z5
 by_cases h1 : Jb a.fd b.fd = 0
 ·simp only [h1, Z5]
  by_cases h2 : Jb a.fb b.fb = 0
  ·simp only [h2]
   by_cases h3 : Jb a.fe b.fe = 0 <;> simp [h3]
  ·have : (Jb a.fb b.fb != 0) = true := by simpa using h2
   simp [h2, this]
 ·have : (Jb a.fd b.fd != 0) = true := by simpa using h1
  simp [h1, this]
theorem Q3 (N : Nat) (a b : List Int) (hN : N ≤ 1000000) (h : a.length < N) : D5 N a b = some (a == b) := by
 unfold D5
 by_cases hl : a.length = b.length
 ·rw [hl, bne_self_eq_false, Ao]
  have := Ck (B9 N a b fun _ => some true) a (some true) (fun i x => if x = b.getD i 0 then none else some false)
   (fun n i x hx => by
    have hi := (lI.1 hx).1
    rw [B9, AC (by omega), AV, hx, De (d := 0) (by omega)]
    simp only [oS]
    rw [AE (by omega)]
    by_cases h : x = b.getD i 0
    ·rw [if_pos h, h, bne_self_eq_false]; rfl
    ·rw [if_neg h, bne_iff_ne.2 h]; rfl)
   (fun n => by rw [B9, Ay (by simp)]) N 0 (zA9 _) (by omega)
  refine this.trans ?_
  rw [zC4]
  cases hs : CC (fun i x => if x = b.getD i 0 then none else some false) 0 a with
  | none =>
   have : a = b := GH hl fun q hq => by
    have hx : a[q]? = some (a.getD q 0) := by rw [lD]; simp [hq]
    have := EB hs q _ hx
    rw [zA3] at this
    split at this
    ·assumption
    ·cases this
   rw [this, beq_self_eq_true]; rfl
  | some r =>
   obtain ⟨j, x, hx, hf⟩ := DJ hs
   rw [zA3] at hf
   split at hf
   ·cases hf
   ·rename_i hne
    cases hf
    have : (a == b) = false := beq_eq_false_iff_ne.2 fun e => hne (by rw [← e, lD, hx]; rfl)
    rw [this]; rfl
 ·have h1 : ((a.length : Int) != (b.length : Int)) = true := bne_iff_ne.2 (by omega)
  have h2 : (a == b) = false := beq_eq_false_iff_ne.2 fun e => hl (by rw [e])
  rw [h1, h2]; rfl
theorem Rm (N : Nat) (a : List Int) (f : Int → Option Bool) (g : Int → Bool) (hN : N ≤ 1000000) (h : a.length < N) (hf : ∀ x, x ∈ a → f x = some (g x)) : CM N a f = some (a.any g) := by
 unfold CM D7
 have := Ck (Bj N a f fun _ => some (-1)) a (some (-1)) (fun i x => if g x then some (i : Int) else none)
  (fun n i x hx => by
   have hi := (lI.1 hx).1
   rw [Bj, AC (by omega), AV, hx]
   simp only [oS]
   rw [hf x (lM hx), AE (by omega)]
   simp only [oS]
   cases g x <;> rfl)
  (fun n => by rw [Bj, Ay (by simp)]) N 0 (zA9 _) (by omega)
 have e : Bj N a f (fun _ => some (-1)) N 0 = _ := this
 rw [e, zC4]
 cases hs : CC (fun i x => if g x then some (i : Int) else none) 0 a with
 | none =>
  have : a.any g = false := by
   rw [zK4]
   intro x hx
   obtain ⟨j, hj⟩ := zB3.1 hx
   have := EB hs j x hj
   intro hg
   rw [hg] at this; cases this
  rw [this]; rfl
 | some r =>
  obtain ⟨j, x, hx, hf⟩ := DJ hs
  split at hf
  ·rename_i hg
   cases hf
   have : a.any g = true := zE0.2 ⟨x, lM hx, hg⟩
   rw [this]
   simp only [BT, oS]
   rw [decide_eq_true (by omega)]
  ·cases hf
def H6 (p : Aa) (m : Ac) : Bool := Gr p m == 0 && (m.fd == p.fq && m.fb.all (fun n => decide (n < 0)))
theorem SV (N : Nat) (p : Aa) (m : Ac) (hN : N ≤ 1000000) (h20 : 100 ≤ N) (hw : PO Mh m.fe) : IR N p m = some (H6 p m) := by
 unfold IR H6
 rw [Ja N p m hN (by omega) hw]
 simp only [Bl, oS]
 by_cases hv : Gr p m = 0
 ·obtain ⟨hp, hm⟩ := Lm hw hv
  have := hp.nv
  rw [hv, Q3 N _ _ hN (by rw [hm.base]; omega), Rm N m.fb (fun x => Hs N x) (fun n => decide (0 ≤ n)) hN (by rw [hm.next]; omega) (fun x _ => rfl)]
  simp only [oS, beq_self_eq_true, AP, zE5]
  have : m.fb.all (fun n => decide (n < 0)) = !m.fb.any (fun n => decide (0 ≤ n)) := by
   rw [List.not_any_eq_all_not]
   congr 1; funext n
   by_cases h : 0 ≤ n
   ·rw [decide_eq_true h, decide_eq_false (by omega)]; rfl
   ·rw [decide_eq_false h, decide_eq_true (by omega)]; rfl
  rw [this]
  cases m.fd == p.fq <;> simp
 ·rw [beq_eq_false_iff_ne.2 hv]; rfl
open Go
structure aG (x y : Al) : Prop where
 k : y.fg = x.fg
 f : y.ff = x.ff
 t : y.fj = x.fj
 a : y.ft = x.ft
 r : y.fk = x.fk
 l : y.fr.length = x.fr.length
 o : ∀ (u : Nat) (row : List Bool), x.fr[u]? = some row → ∃ row', y.fr[u]? = some row' ∧ row'.length = row.length ∧ ∀ v : Nat, row[v]? = some true → row'[v]? = some true
theorem aG.st {x y : Al} (h : aG x y) : By y = By x := by unfold By; rw [h.k]
structure aF (p : Aa) (m x : Ac) : Prop where
 base : m.fd = x.fd
 next : m.fb = x.fb
 held : ∀ i, i < p.fc.length → ∀ v, D6 (m.fe.getD i 0) v = true → D6 (x.fe.getD i 0) v = true
theorem aF.refl (p : Aa) (m : Ac) : aF p m m := ⟨rfl, rfl, fun _ _ _ h => h⟩
theorem aF.trans {p : Aa} {a b c : Ac} (h : aF p a b) (g : aF p b c) : aF p a c := ⟨h.base.trans g.base, h.next.trans g.next, fun i hi v hv => g.held i hi v (h.held i hi v hv)⟩
structure T7 (xs ys : List Al) : Prop where
 l : ys.length = xs.length
 o : ∀ (i : Nat) (x : Al), xs[i]? = some x → ∃ y, ys[i]? = some y ∧ aG x y
theorem aG.refl (x : Al) : aG x x := ⟨rfl, rfl, rfl, rfl, rfl, rfl, fun _ row h => ⟨row, h, rfl, fun _ h => h⟩⟩
theorem T7.refl (xs : List Al) : T7 xs xs := ⟨rfl, fun _ x h => ⟨x, h, aG.refl x⟩⟩
theorem T7.set {xs ys : List Al} (h : T7 xs ys) {i u v : Nat} {y : Al} {row : List Bool} {b b0 : Bool} (hy : ys[i]? = some y) (hu : y.fr[u]? = some row) (hv : row[v]? = some b0) (hb : b0 = true → b = true) :
  T7 xs (ys.set i ⟨y.fg, y.ff, y.fj, y.ft, y.fr.set u (row.set v b), y.fk⟩) := by
 refine ⟨by rw [zG6]; exact h.l, fun k x hx => ?_⟩
 obtain ⟨z, hz, ht⟩ := h.o k x hx
 by_cases e : i = k
 ·subst e
  rw [hy] at hz; cases hz
  have hi := (lI.1 hy).1
  refine ⟨⟨y.fg, y.ff, y.fj, y.ft, y.fr.set u (row.set v b), y.fk⟩, by rw [zE7, if_pos rfl, if_pos hi], ⟨ht.k, ht.f, ht.t, ht.a, ht.r, by show (y.fr.set u (row.set v b)).length = _; rw [zG6]; exact ht.l, fun w r hw => ?_⟩⟩
  obtain ⟨r', e1, e2, e3⟩ := ht.o w r hw
  by_cases eu : u = w
  ·subst eu
   rw [hu] at e1; cases e1
   have hul := (lI.1 hu).1
   refine ⟨row.set v b, by show (y.fr.set u (row.set v b))[u]? = _; rw [zE7, if_pos rfl, if_pos hul], by rw [zG6]; exact e2, fun q hq => ?_⟩
   have h1 := e3 q hq
   rw [zE7]
   by_cases ev : v = q
   ·subst ev
    rw [hv] at h1; cases h1
    rw [if_pos rfl, if_pos (lI.1 hv).1, hb rfl]
   ·rw [if_neg ev]; exact h1
  ·exact ⟨r', by show (y.fr.set u (row.set v b))[w]? = _; rw [zE7, if_neg eu]; exact e1, e2, e3⟩
 ·exact ⟨z, by rw [zE7, if_neg e]; exact hz, ht⟩
theorem T7.row {xs ys : List Al} (h : T7 xs ys) {i u : Nat} {x : Al} {row : List Bool} (hx : xs[i]? = some x) (hu : x.fr[u]? = some row) : ∃ y r, ys[i]? = some y ∧ y.fr[u]? = some r ∧ r.length = row.length := by
 obtain ⟨y, hy, ht⟩ := h.o i x hx
 obtain ⟨r, e1, e2, _⟩ := ht.o u row hu
 exact ⟨y, r, hy, e1, e2⟩
theorem R5 {α : Type} : ∀ (i : Nat) (xs : List α), Bz (fun _ x => [x]) i xs = xs
 | _, [] => rfl
 | i, x :: xs => by rw [Bz, R5 (i + 1) xs]; rfl
def Fp (p : Aa) (t : Al) : Int := if By t = true then DQ .u8 1 (p.fh.getD t.ff.toNat 0) else 0
def Fg (p : Aa) : Ac := ⟨p.fh, zA6 p.fh.length (-1), p.fc.map (Fp p)⟩
theorem Vf (N : Nat) (h : 100 ≤ N) (n : Nat) (hn : n ≤ 6) : EF N [(-1)] (n : Int) = some (zA6 n (-1)) := by
 obtain ⟨k, rfl⟩ : ∃ k, N = k + 100 := ⟨N - 100, by omega⟩
 have : n = 0 ∨ n = 1 ∨ n = 2 ∨ n = 3 ∨ n = 4 ∨ n = 5 ∨ n = 6 := by omega
 rcases this with rfl | rfl | rfl | rfl | rfl | rfl | rfl
 all_goals (show _ = _; kernel_rfl)
theorem SJ (T : List Int) (i : Nat) (hi : i < T.length) : (T.take i ++ zA6 (T.length - i) 0).set i (T.getD i 0) = T.take (i + 1) ++ zA6 (T.length - (i + 1)) 0 := by
 have hl : (T.take i).length = i := by simp; omega
 rw [zJ1 _ _ (by omega), hl, zI3, show T.length - i = (T.length - (i + 1)) + 1 from by omega, List.replicate_succ, zK0, zE2, zD7]
 have : T[i]? = some (T.getD i 0) := by rw [lD]; simp [hi]
 rw [this]; rfl
theorem VA (T : List Int) (i : Nat) (hi : i < T.length) (h0 : T.getD i 0 = 0) : T.take i ++ zA6 (T.length - i) 0 = T.take (i + 1) ++ zA6 (T.length - (i + 1)) 0 := by
 rw [← SJ T i hi, h0, zJ1 _ _ (by rw [List.length_take]; omega)]
 congr 1
 have hl : (T.take i).length = i := by simp; omega
 rw [hl, zI3, show T.length - i = (T.length - (i + 1)) + 1 from by omega, List.replicate_succ, zK0]
theorem Uf {p : Aa} (hv : BG p = 0) {t : Al} (ht : t ∈ p.fc) : 0 ≤ t.ff ∧ t.ff.toNat < p.fh.length ∧ 0 ≤ p.fh.getD t.ff.toNat 0 ∧ p.fh.getD t.ff.toNat 0 < 6 ∧ p.fh.getD t.ff.toNat 0 < p.fa.getD t.ff.toNat 0 ∧ t.ff.toNat < p.fa.length := by
 obtain ⟨hp, hr⟩ := CW hv
 have h1 := Jz (hp.tab t ht)
 have h2 := hr t.ff.toNat (by omega)
 have h3 := IZ hp (i := t.ff.toNat) (by omega)
 have := hp.now
 refine ⟨h1.1, by omega, h2.1, by omega, h2.2.1, by omega⟩
theorem Kw {p : Aa} {i : Nat} {t : Al} (ht : p.fc[i]? = some t) : (p.fc.map (Fp p)).getD i 0 = Fp p t := by
 rw [lD, zA1, ht]; rfl
theorem RT (N : Nat) (p : Aa) (hN : N ≤ 1000000) (h20 : 100 ≤ N) : Ia N p = some (if BG p = 0 then Fg p else ⟨[], [], []⟩, BG p) := by
 unfold Ia
 rw [Ii N p hN (by omega)]
 simp only [oS]
 by_cases hv : BG p = 0
 ·rw [if_pos hv, hv]
  obtain ⟨hp, _⟩ := CW hv
  have hnv := hp.nv
  have hnt := hp.nt
  have hnow := hp.now
  rw [bne_self_eq_false, Ao, Kv N _ (by simp only [C2]; omega)]
  simp only [oS]
  rw [Vf N h20 _ (by omega)]
  simp only [oS]
  rw [Au (by simp only [C2]; omega)]
  obtain ⟨a', e, ha⟩ := Fy (El N p fun v7 => some (Ac.mk p.fh (zA6 p.fh.length (-1)) v7, 0)) (fun a i => (a, i)) p.fc.length (fun v7 => some (Ac.mk p.fh (zA6 p.fh.length (-1)) v7, 0))
   (fun i a => a = (p.fc.map (Fp p)).take i ++ zA6 ((p.fc.map (Fp p)).length - i) 0)
   (fun n i a hi ha => by
    have hx : p.fc[i]? = some p.fc[i] := by simp [hi]
    have hm : p.fc[i] ∈ p.fc := zE9 hi
    obtain ⟨n1, n2, n3, n4, _⟩ := Uf hv hm
    rw [El, AC (by simp only; omega)]
    simp only [Bl, AV, hx, oS, Kc, AE (show i < 1000000 by omega)]
    have hal : i < (p.fc.map (Fp p)).length := by simpa using hi
    cases hs : By p.fc[i]
    ·rw [Ao]
     refine ⟨a, rfl, ?_⟩
     rw [ha]
     exact VA _ _ hal (by rw [Kw hx]; unfold Fp; rw [hs]; rfl)
    ·rw [AP]
     have e1 : Bs p.fh p.fc[i].ff = some (p.fh.getD p.fc[i].ff.toNat 0) := by
      obtain ⟨q, hq⟩ := zA8 n1
      rw [hq]; exact De (by rw [hq] at n2; simpa using n2)
     rw [e1]
     simp only [oS]
     rw [Au n3]
     have hl : i < a.length := by rw [ha]; simp; omega
     have e2 : a[i]? = some a[i] := by simp [hl]
     rw [e2]
     simp only [oS]
     refine ⟨_, rfl, ?_⟩
     rw [← SJ _ _ hal, Kw hx, ha]
     unfold Fp; rw [hs]; rfl)
   (fun n a ha => by rw [El, Ay (by simp)]) N 0 (zA6 p.fc.length 0) (zA9 _) (by omega) (by simp)
  have e' : El N p (fun v7 => some (Ac.mk p.fh (zA6 p.fh.length (-1)) v7, 0)) N (zA6 ((p.fc.length : Int)).toNat (0 : Int), 0) = _ := e
  rw [e', ha]
  have e5 : (p.fc.map (Fp p)).take p.fc.length = p.fc.map (Fp p) := List.take_of_length_le (by simp)
  simp [Fg, e5]
 ·rw [if_neg hv, bne_iff_ne.2 hv, AP]
theorem RS (N : Nat) (p : Aa) (hN : N ≤ 1000000) (h20 : 100 ≤ N) : E2 N p = some (if BG p = 0 then Fg p else ⟨[], [], []⟩, BG p) := by
 unfold E2
 rw [KM N p hN (by omega)]
 simp only [oS]
 by_cases hv : BG p = 0
 ·rw [if_pos hv, hv]
  obtain ⟨hp, _⟩ := CW hv
  have hnv := hp.nv
  have hnt := hp.nt
  have hnow := hp.now
  rw [bne_self_eq_false, Ao]
  obtain ⟨a', e, ha⟩ := Fy (Cf N p fun v4 => Bi N p (fun v10 => some (Ac.mk v4.1 v4.2 v10, 0)) N (([] : List Int), 0)) (fun a i => (a.1, a.2, i)) p.fa.length (fun v4 => Bi N p (fun v10 => some (Ac.mk v4.1 v4.2 v10, 0)) N (([] : List Int), 0))
   (fun i a => a = (p.fh.take i, zA6 i (-1)))
   (fun n i a hi ha => by
    subst ha
    rw [Cf, AC (by simp only; omega)]
    have hx : p.fh[i]? = some p.fh[i] := by simp [show i < p.fh.length from by omega]
    simp only [AV, hx, oS, AE (show i < 1000000 by omega)]
    rw [Au (by simp [C2]; omega), Au (by simp [C2]; omega)]
    refine ⟨(p.fh.take i ++ [p.fh[i]], zA6 i (-1) ++ [-1]), rfl, ?_⟩
    rw [zE2, hx, List.replicate_succ']; rfl)
   (fun n a ha => by rw [Cf, Ay (by simp)]) N 0 ([], []) (zA9 _) (by omega) rfl
  have e' : Cf N p (fun v4 => Bi N p (fun v10 => some (Ac.mk v4.1 v4.2 v10, 0)) N (([] : List Int), 0)) N (([] : List Int), ([] : List Int), 0) = _ := e
  rw [e', ha]
  simp only
  obtain ⟨b', e2, hb⟩ := Fy (Bi N p fun v10 => some (Ac.mk (p.fh.take p.fa.length) (zA6 p.fa.length (-1)) v10, 0)) (fun a i => (a, i)) p.fc.length (fun v10 => some (Ac.mk (p.fh.take p.fa.length) (zA6 p.fa.length (-1)) v10, 0))
   (fun i a => a = (p.fc.map (Fp p)).take i)
   (fun n i a hi ha => by
    subst ha
    have hx : p.fc[i]? = some p.fc[i] := by simp [hi]
    have hm : p.fc[i] ∈ p.fc := zE9 hi
    obtain ⟨n1, n2, n3, n4, _⟩ := Uf hv hm
    rw [Bi, AC (by simp only; omega)]
    simp only [Bl, AV, hx, oS, Hz, AE (show i < 1000000 by omega)]
    have hT : (p.fc.map (Fp p))[i]? = some (Fp p p.fc[i]) := by rw [zA1, hx]; rfl
    have hlen : ((p.fc.map (Fp p)).take i).length + 1 ≤ C2 := by simp [C2]; omega
    cases hs : By p.fc[i]
    ·rw [Ao, Au (by simpa using hlen)]
     refine ⟨_, rfl, ?_⟩
     rw [zE2, hT]
     unfold Fp; rw [hs]; rfl
    ·rw [AP]
     have e1 : Bs p.fh p.fc[i].ff = some (p.fh.getD p.fc[i].ff.toNat 0) := by
      obtain ⟨q, hq⟩ := zA8 n1
      rw [hq]; exact De (by rw [hq] at n2; simpa using n2)
     rw [e1]
     simp only [oS]
     rw [Au n3, Au (by simpa using hlen)]
     refine ⟨_, rfl, ?_⟩
     rw [zE2, hT]
     unfold Fp; rw [hs]; rfl)
   (fun n a ha => by rw [Bi, Ay (by simp)]) N 0 [] (zA9 _) (by omega) rfl
  have e3 : Bi N p (fun v10 => some (Ac.mk (p.fh.take p.fa.length) (zA6 p.fa.length (-1)) v10, 0)) N (([] : List Int), 0) = _ := e2
  rw [e3, hb]
  simp only [Fg, ← hnow, zI0]
  rw [show p.fc.length = (p.fc.map (Fp p)).length from by simp, zI0]
 ·rw [if_neg hv, bne_iff_ne.2 hv, AP]
theorem LD {p : Aa} (hv : BG p = 0) : Bp p (Fg p) := by
 obtain ⟨hp, hr⟩ := CW hv
 have hnow := hp.now
 have hnx : ∀ i, i < p.fa.length → (zA6 p.fh.length (-1 : Int)).getD i 0 = -1 := fun i hi => by
  rw [lD, List.getElem?_replicate, if_pos (by omega)]; rfl
 have hone : ∀ (i : Nat) (t : Al), p.fc[i]? = some t → ∃ b : Nat, b < 6 ∧ p.fh.getD t.ff.toNat 0 = (b : Int) ∧ (b : Int) < p.fa.getD t.ff.toNat 0 ∧ t.ff.toNat < p.fa.length := fun i t ht => by
  obtain ⟨n1, n2, n3, n4, n5, n6⟩ := Uf hv (lM ht)
  obtain ⟨b, hb⟩ := zA8 n3
  exact ⟨b, by omega, hb, by omega, n6⟩
 have hbit : ∀ b : Nat, b < 8 → ∀ v, D6 (DQ .u8 1 (b : Int)) v = decide (b = v) := fun b hb v => by
  by_cases h : v < 8
  ·exact (KY ⟨b, hb⟩ ⟨v, h⟩).1
  ·rw [KI (KY ⟨b, hb⟩ ⟨0, by omega⟩).2.2 (by omega)]
   symm; apply decide_eq_false; omega
 refine { base := hnow, next := by simp [Fg, hnow], held := by simp [Fg], b0 := fun i hi => ⟨(hr i hi).1, (hr i hi).2.1⟩, n0 := fun i hi => ?_, ne := fun i hi => ?_, range := fun i hi => ?_, low := fun i t ht hs v hv' => ?_, high := fun i t ht hs v hb => ?_, none := fun i t ht hs => ?_ }
 ·show -1 ≤ (zA6 p.fh.length (-1 : Int)).getD i 0 ∧ (zA6 p.fh.length (-1 : Int)).getD i 0 < _
  rw [hnx i hi]
  have := IZ hp hi
  omega
 ·show p.fh.getD i 0 ≠ (zA6 p.fh.length (-1 : Int)).getD i 0
  rw [hnx i hi]
  have := hr i hi
  omega
 ·have hx : p.fc[i]? = some p.fc[i] := by simp [hi]
  show 0 ≤ (p.fc.map (Fp p)).getD i 0 ∧ (p.fc.map (Fp p)).getD i 0 ≤ 255
  rw [Kw hx]
  unfold Fp
  split
  ·obtain ⟨b, h1, h2, _⟩ := hone i _ hx
   rw [h2]
   exact (KY ⟨b, by omega⟩ ⟨0, by omega⟩).2
  ·omega
 ·show D6 ((p.fc.map (Fp p)).getD i 0) v = true
  obtain ⟨b, h1, h2, h3, h4⟩ := hone i t ht
  rw [Kw ht]
  unfold Fp
  rw [if_pos hs, h2, hbit b (by omega)]
  unfold Ic at hv'
  have h5 : (Fg p).fd.getD t.ff.toNat 0 = (b : Int) := h2
  have h6 : (Fg p).fb.getD t.ff.toNat 0 = -1 := hnx _ h4
  rw [h5, h6, zG0, decide_eq_true_iff, decide_eq_true_iff] at hv'
  apply decide_eq_true; omega
 ·have hb : D6 ((p.fc.map (Fp p)).getD i 0) v = true := hb
  obtain ⟨b, h1, h2, h3, h4⟩ := hone i t ht
  rw [Kw ht] at hb
  unfold Fp at hb
  rw [if_pos hs, h2, hbit b (by omega), decide_eq_true_iff] at hb
  omega
 ·show (p.fc.map (Fp p)).getD i 0 = 0
  rw [Kw ht]; unfold Fp; rw [hs]; rfl
theorem Oi (x : BitVec 8) : wI .u8 (x.toNat : Int) = (x.toNat : Int) := by
 have := x.isLt
 simp [wI, IntKind.signed, IntKind.bits]
 omega
theorem Ss (x : BitVec 8) : 0 ≤ (x.toNat : Int) ∧ (x.toNat : Int) ≤ 255 := by
 have := x.isLt
 omega
theorem WY (x : BitVec 8) (v : Nat) : D6 (x.toNat : Int) v = x.getLsbD v := by
 unfold D6; rw [zA7]; rfl
theorem Rn {a : Int} (ha : 0 ≤ a ∧ a ≤ 255) (v : Nat) : (BitVec.ofInt 8 a).getLsbD v = D6 a v := by
 obtain ⟨a, rfl⟩ := zA8 ha.1
 unfold BitVec.getLsbD D6
 rw [Xn (by omega), zA7]
theorem TT {a b : Int} (ha : 0 ≤ a ∧ a ≤ 255) (hb : 0 ≤ b ∧ b ≤ 255) : (∀ v, D6 (CZ .u8 a b) v = (D6 a v && !D6 b v)) ∧ 0 ≤ CZ .u8 a b ∧ CZ .u8 a b ≤ 255 := by
 have e : CZ .u8 a b = ((BitVec.ofInt 8 a &&& ~~~BitVec.ofInt 8 b).toNat : Int) := Oi (BitVec.ofInt 8 a &&& ~~~BitVec.ofInt 8 b)
 rw [e]
 refine ⟨fun v => ?_, Ss _⟩
 rw [WY, BitVec.getLsbD_and, BitVec.getLsbD_not, Rn ha, Rn hb]
 by_cases h : v < 8
 ·simp [h]
 ·rw [KI ha.2 (by omega)]; simp
theorem Tx {a b : Int} (ha : 0 ≤ a ∧ a ≤ 255) (hb : 0 ≤ b ∧ b ≤ 255) : (∀ v, D6 (PP .u8 a b) v = (D6 a v || D6 b v)) ∧ 0 ≤ PP .u8 a b ∧ PP .u8 a b ≤ 255 := by
 have e : PP .u8 a b = ((BitVec.ofInt 8 a ||| BitVec.ofInt 8 b).toNat : Int) := Oi (BitVec.ofInt 8 a ||| BitVec.ofInt 8 b)
 rw [e]
 refine ⟨fun v => ?_, Ss _⟩
 rw [WY, BitVec.getLsbD_or, Rn ha, Rn hb]
theorem Yd {b : Nat} (hb : b < 8) : (∀ v, D6 (DQ .u8 1 (b : Int)) v = decide (b = v)) ∧ 0 ≤ DQ .u8 1 (b : Int) ∧ DQ .u8 1 (b : Int) ≤ 255 := by
 refine ⟨fun v => ?_, (KY ⟨b, hb⟩ ⟨0, by omega⟩).2⟩
 by_cases h : v < 8
 ·exact (KY ⟨b, hb⟩ ⟨v, h⟩).1
 ·rw [KI (KY ⟨b, hb⟩ ⟨0, by omega⟩).2.2 (by omega)]
  symm; apply decide_eq_false; omega
theorem Xr (N : Nat) {s : Int} {v : Nat} (hs : 0 ≤ s ∧ s ≤ 255) (hv : v < 8) : CA N s (v : Int) = some (D6 s v) := by
 unfold CA
 rw [Au (by omega), Ry hs.1 hs.2 hv]
 cases D6 s v <;> rfl
def Za (v : Nat) : Nat := ((zB4 8).find? fun u => v.testBit u).getD 8
def cy (v : Nat) : Nat := ((zB4 8).filter fun u => v.testBit u).length
theorem ay : ∀ v : Fin 256, C4 0 (v.val : Int) = some (Za v.val : Int) := by decide +kernel
theorem aU (N : Nat) {v : Nat} (h : v < 256) : C4 N (v : Int) = some (Za v : Int) := ay ⟨v, h⟩
theorem Y3 : ∀ v : Fin 256, v.val ≠ 0 → Za v.val < 8 ∧ D6 (v.val : Int) (Za v.val) = true ∧ 0 ≤ AI .u8 (v.val : Int) (wI .u8 ((v.val : Int) - 1)) ∧ AI .u8 (v.val : Int) (wI .u8 ((v.val : Int) - 1)) ≤ 255 ∧
  cy (AI .u8 (v.val : Int) (wI .u8 ((v.val : Int) - 1))).toNat + 1 = cy v.val ∧
  ∀ u : Fin 8, D6 (AI .u8 (v.val : Int) (wI .u8 ((v.val : Int) - 1))) u.val = (D6 (v.val : Int) u.val && decide (u.val ≠ Za v.val)) := by decide +kernel
theorem bN (v : Nat) : cy v ≤ 8 := by
 have := List.length_filter_le (fun u => v.testBit u) (zB4 8)
 simpa [cy] using this
theorem Sp (N : Nat) (t : Al) (b : Int) (rw_ : Nat → Bool) : ∀ (k n v : Nat), cy v ≤ k → k < n → v < 256 →
  (∀ u, u < 8 → D6 (v : Int) u = true → ∃ row, Bs t.fk (u : Int) = some row ∧ Bs row b = some (rw_ u)) →
  DI N t b (fun _ => some true) n (v : Int) = some ((zB4 8).all fun u => !D6 (v : Int) u || rw_ u)
 | k, 0, v, _, h, _, _ => by omega
 | k, n + 1, v, hk, hn, hv, hr => by
  rw [DI]
  by_cases h0 : v = 0
  ·subst h0
   have : (((0 : Nat) : Int) != 0) = false := rfl
   rw [this, Ao]
   congr 1
  ·have h1 : ((v : Int) != 0) = true := bne_iff_ne.2 (by omega)
   obtain ⟨l1, l2, l3, l4, l5, l6⟩ := Y3 ⟨v, hv⟩ h0
   simp only at l1 l2 l3 l4 l5 l6
   obtain ⟨row, e1, e2⟩ := hr _ l1 l2
   rw [h1, AP, aU N hv]
   simp only [oS, e1, e2]
   obtain ⟨w, hw⟩ := zA8 l3
   rw [hw] at l4 l5 l6 ⊢
   rw [zA7] at l5
   cases hq : rw_ (Za v)
   ·rw [zE6, AP]
    congr 1
    symm
    rw [List.all_eq_false]
    exact ⟨Za v, by simpa using l1, by rw [l2, hq]; simp⟩
   ·rw [zC3, Ao]
    match k, hk with
    | 0, hk => exfalso; omega
    | k + 1, hk =>
    rw [Sp N t b rw_ k n w (by omega) (by omega) (by omega) (fun u hu hb => hr u hu (by have := l6 ⟨u, hu⟩; simp only at this; rw [hb] at this; simpa using (zH9.1 this.symm).1))]
    congr 1
    rw [Bool.eq_iff_iff, zA2, zA2]
    refine ⟨fun h u hu => ?_, fun h u hu => ?_⟩
    ·have hu8 : u < 8 := by simpa using hu
     have h3 := h u hu
     have h4 := l6 ⟨u, hu8⟩
     simp only at h4
     rw [h4] at h3
     by_cases e : u = Za v
     ·rw [e, hq]; simp
     ·simpa [e] using h3
    ·have hu8 : u < 8 := by simpa using hu
     have h3 := h u hu
     have h4 := l6 ⟨u, hu8⟩
     simp only at h4
     rw [h4]
     cases hb : D6 (v : Int) u
     ·simp
     ·rw [hb] at h3; simp at h3; simp [h3]
theorem Sf (N : Nat) (m : Ac) (s : Int) (h0 : 0 ≤ s) (h1 : s < (m.fd.length : Int)) (h2 : s < (m.fb.length : Int)) (hb : 0 ≤ m.fd.getD s.toNat 0) : Gz N m s = some (Gf m s.toNat) := by
 unfold Gz Gf
 rw [D9 (d := 0) h0 h1, D9 (d := 0) h0 h2]
 simp only [oS, Bd]
 rw [show DH (0 ≤ m.fd.getD s.toNat 0) = some () from by unfold DH; rw [if_pos hb]]
 simp only [oS]
 by_cases h : 0 ≤ m.fb.getD s.toNat 0
 ·rw [AC h, if_pos h, show DH (0 ≤ m.fb.getD s.toNat 0) = some () from by unfold DH; rw [if_pos h]]; rfl
 ·rw [Ay h, if_neg h]
theorem Lk (N : Nat) (t : Al) : F9 N t = some (By t) := by
 unfold F9 By
 simp only [Bd]
 cases h : t.fg == 3 <;> simp
def F2 (s : Ad) : Bool := decide (1 ≤ s.fg ∧ s.fg ≤ 4 ∧ 0 ≤ s.fi ∧ 0 ≤ s.fo) && (s.fg == 1 || s.fo == 0)
def Fb (p : Aa) (s : Ad) : Bool :=
 if s.fg = 3 then decide (s.fi < (p.fc.length : Int)) else decide (s.fi < (p.fa.length : Int)) && (s.fg != 1 || decide (s.fo < p.fa.getD s.fi.toNat 0))
theorem Qc (N : Nat) (s : Ad) : Hq N s = some (F2 s) := by
 unfold Hq F2 W8
 simp only [Bd]
 by_cases h1 : (if s.fo < s.fi then s.fo else s.fi) < 0
 ·rw [AC h1, AP, decide_eq_false (by split at h1 <;> omega)]; rfl
 ·rw [Ay h1]
  by_cases h2 : s.fg < 1
  ·rw [AC h2, AP, decide_eq_false (by omega)]; rfl
  ·rw [Ay h2]
   by_cases h3 : 4 < s.fg
   ·rw [decide_eq_true h3, AP, decide_eq_false (by omega)]; rfl
   ·rw [decide_eq_false h3, Ao, decide_eq_true (by split at h1 <;> omega), zE5]
    cases h4 : s.fg == 1 <;> simp
theorem Rh (N : Nat) (s : Ad) : EO N s = some (F2 s) := by
 unfold EO F2
 simp only [Bd]
 by_cases h1 : 1 ≤ s.fg
 ·rw [AC h1]
  by_cases h2 : s.fg ≤ 4
  ·rw [AC h2]
   by_cases h3 : 0 ≤ s.fi
   ·rw [AC h3]
    by_cases h4 : 0 ≤ s.fo
    ·rw [AC h4, decide_eq_true (by omega), zE5]
     cases h5 : s.fg == 1 <;> simp
    ·rw [Ay h4, decide_eq_false (by omega)]; rfl
   ·rw [Ay h3, decide_eq_false (by omega)]; rfl
  ·rw [Ay h2, decide_eq_false (by omega)]; rfl
 ·rw [Ay h1, decide_eq_false (by omega)]; rfl
theorem PL (N : Nat) (p : Aa) (s : Ad) (hv : F2 s = true) : GW N p s = some (Fb p s) := by
 have h0 : 0 ≤ s.fi := by
  unfold F2 at hv
  rw [zA5, decide_eq_true_iff] at hv
  exact hv.1.2.2.1
 unfold GW Fb
 simp only [Bd]
 by_cases h1 : s.fg = 3
 ·rw [if_pos h1, beq_iff_eq.2 h1, AP]
 ·rw [if_neg h1, beq_eq_false_iff_ne.2 h1, Ao]
  by_cases h2 : s.fi < (p.fa.length : Int)
  ·rw [AC h2, decide_eq_true h2, zE5]
   cases h3 : s.fg != 1
   ·rw [Ao, D9 (d := 0) h0 h2, zJ9]; rfl
   ·rw [AP]; rfl
  ·rw [Ay h2, decide_eq_false h2]; rfl
def R0 (s : Ad) (t : Al) : Bool := t.ff == s.fi && By t
def VL (s : Ad) (i : Nat) (t : Al) (a : List Int) : List Int := if R0 s t = true then a.set i (PP .u8 (a.getD i 0) (DQ .u8 1 s.fo)) else a
def HK (p : Aa) (s : Ad) (held : List Int) : List Int := I1 (VL s) 0 p.fc held
theorem Ou {_R : Type} (N : Nat) (p : Aa) (s : Ad) (held : List Int) (hv : 0 ≤ s.fo) (hl : held.length = p.fc.length) (h12 : p.fc.length < N) (hN : N ≤ 1000000) (j : List Int → Option (Bool × List Int × List Int)) :
  DY N p s j N (held, 0) = j (HK p s held) ∧ (HK p s held).length = p.fc.length := by
 have := HU (DY N p s j) (fun a i => (a, i)) p.fc j (VL s) (fun i a => a.length = p.fc.length)
  (fun n i x a hx ha => by
   have hi := (lI.1 hx).1
   rw [DY, AC (by simp only; omega)]
   simp only [Bl, AV, hx, oS, Lk, AE (show i < 1000000 by omega)]
   have e2 : a[i]? = some (a.getD i 0) := by rw [lD]; simp [show i < a.length from by omega]
   unfold VL R0
   cases h1 : x.ff == s.fi
   ·rw [Ao, Ao, zK6, if_neg (by simp)]; exact ⟨rfl, ha⟩
   ·rw [AP, zE5]
    cases h2 : By x
    ·rw [Ao, if_neg (by simp)]; exact ⟨rfl, ha⟩
    ·rw [AP, e2, if_pos rfl]
     simp only [oS]
     rw [Au hv]
     exact ⟨rfl, by simpa using ha⟩)
  (fun n a ha => by rw [DY, Ay (by simp)]) N 0 held (zA9 _) (by omega) hl
 rw [zC4] at this
 exact this
theorem Pb (N : Nat) (p : Aa) (s : Ad) (held : List Int) (hv : 0 ≤ s.fo) (hl : held.length = p.fc.length) (h12 : p.fc.length < N) (hN : N ≤ 1000000) (j : List Int → Option (Ac × Bool)) :
  B3 N p s j N (held, 0) = j (HK p s held) := by
 have := HU (B3 N p s j) (fun a i => (a, i)) p.fc j (VL s) (fun i a => a.length = p.fc.length)
  (fun n i x a hx ha => by
   have hi := (lI.1 hx).1
   rw [B3, AC (by simp only; omega)]
   simp only [Bl, AV, hx, oS, Hz, AE (show i < 1000000 by omega)]
   have e2 : a[i]? = some (a.getD i 0) := by rw [lD]; simp [show i < a.length from by omega]
   unfold VL R0
   cases h1 : x.ff == s.fi
   ·rw [Ao, Ao, zK6, if_neg (by simp)]; exact ⟨rfl, ha⟩
   ·rw [AP, zE5]
    cases h2 : By x
    ·rw [Ao, if_neg (by simp)]; exact ⟨rfl, ha⟩
    ·rw [AP, e2, if_pos rfl]
     simp only [oS]
     rw [Au hv]
     exact ⟨rfl, by simpa using ha⟩)
  (fun n a ha => by rw [B3, Ay (by simp)]) N 0 held (zA9 _) (by omega) hl
 rw [zC4] at this
 exact this.1
def Ky (m : Ac) (t : Al) (u : Nat) : Bool := (t.fk.getD u []).getD (m.fd.getD t.ff.toNat 0).toNat false
def Ns (m : Ac) (i : Nat) (t : Al) (u : Nat) : Bool := D6 (m.fe.getD i 0) u && !Ic m t.ff.toNat u
def HF (_p : Aa) (m : Ac) (i : Nat) (t : Al) : Bool := t.fg == 4 && (zB4 8).any fun u => Ns m i t u && !Ky m t u
def EL (p : Aa) (m : Ac) (s : Ad) : Option Ac :=
 let i := s.fi.toNat
 if s.fg = 1 then (if 0 ≤ m.fb.getD i 0 ∨ m.fd.getD i 0 = s.fo then none else some ⟨m.fd, m.fb.set i s.fo, HK p s m.fe⟩)
 else if s.fg = 3 then match p.fc[i]? with
  | none => none
  | some t => if By t = false ∨ m.fe.getD i 0 = Gf m t.ff.toNat ∨ HF p m i t = true then none else some ⟨m.fd, m.fb, m.fe.set i (Gf m t.ff.toNat)⟩
 else if m.fb.getD i 0 < 0 then none
 else some ⟨if s.fg = 2 then m.fd.set i (m.fb.getD i 0) else m.fd, m.fb.set i (-1), m.fe⟩
def A5 (p : Aa) (m : Ac) (s : Ad) : Ac × Int :=
 if F2 s = false then (H4, 1) else if Fb p s = false then (H4, 4) else match EL p m s with
  | none => (H4, 11)
  | some x => (x, 0)
end Go.Lift
namespace Go.Lift
open Option renaming bind_some → oS
open List renaming mem_of_getElem? → lM
open List renaming getElem?_eq_some_iff → lI
open List renaming getD_eq_getElem?_getD → lD
open Go
section clear
variable {p : Aa} {m : Ac} {i : Nat} {t : Al}
theorem VT (hp : A4 p) (hm : Bp p m) (ht : p.fc[i]? = some t) (hs : By t = true) {u : Nat} (h : D6 (m.fe.getD i 0) u = true) : (u : Int) < p.fa.getD t.ff.toNat 0 ∧ u < 6 ∧ t.ff.toNat < p.fa.length := by
 have h1 := hm.high i t ht hs u h
 have hin := Jz (hp.tab t (lM ht))
 have h2 := IZ hp (i := t.ff.toNat) (by omega)
 exact ⟨h1, by omega, by omega⟩
theorem WT (hp : A4 p) (hm : Bp p m) (ht : p.fc[i]? = some t) (hs : By t = true) (h4 : t.fg = 4) {u : Nat} (h : D6 (m.fe.getD i 0) u = true) :
  Bs t.fk (u : Int) = some (t.fk.getD u []) ∧ Bs (t.fk.getD u []) (m.fd.getD t.ff.toNat 0) = some (Ky m t u) := by
 have hT := Is (hp.tab t (lM ht))
 obtain ⟨h1, h2, h3⟩ := VT hp hm ht hs h
 have hl := hT.reL h4
 have e : t.fk[u]? = some (t.fk.getD u []) := by rw [lD]; simp [show u < t.fk.length from by omega]
 have hr := hT.reR _ (lM e)
 have hb := hm.b0 t.ff.toNat h3
 refine ⟨by rw [AV, e], ?_⟩
 unfold Ky
 obtain ⟨b, hb'⟩ := zA8 hb.1
 rw [hb'] at hb ⊢
 rw [zA7]
 exact De (by omega)
theorem PR (N : Nat) (hN : N ≤ 1000000) (h20 : 100 ≤ N) (hp : A4 p) (hm : Bp p m) (ht : p.fc[i]? = some t) :
  HA N p m (i : Int) = some (if By t = false ∨ m.fe.getD i 0 = Gf m t.ff.toNat ∨ HF p m i t = true then (false, m.fe) else (true, m.fe.set i (Gf m t.ff.toNat))) := by
 have hi := (lI.1 ht).1
 have hin := Jz (hp.tab t (lM ht))
 have hb := hm.base
 have hnx := hm.next
 have hh := hm.held
 have hr := IS hp hm.toMixServ (s := t.ff.toNat) (by omega)
 have hrg := hm.range i hi
 have eh : Bs m.fe (i : Int) = some (m.fe.getD i 0) := De (by omega)
 unfold HA
 simp only [Bl, AV, ht, oS, Lk]
 have eh' : m.fe[i]? = some (m.fe.getD i 0) := by rw [← AV, eh]
 cases hs : By t
 ·rw [zE6, AP, if_pos (.inl rfl)]
 ·rw [zC3, Ao, Sf N m _ hin.1 (by omega) (by omega) (hm.b0 _ (by omega)).1]
  simp only [oS, eh']
  by_cases h1 : m.fe.getD i 0 = Gf m t.ff.toNat
  ·rw [beq_iff_eq.2 h1, AP, AP, if_pos (.inr (.inl h1))]
  ·rw [beq_eq_false_iff_ne.2 h1, Ao]
   by_cases h4 : t.fg = 4
   ·rw [beq_iff_eq.2 h4, AP, D9 (d := 0) hin.1 (by omega)]
    simp only [oS]
    obtain ⟨a1, a2, a3⟩ := TT hrg hr.2
    obtain ⟨w, hw⟩ := zA8 a2
    unfold Gt
    rw [hw] at a1 a3 ⊢
    rw [Sp N t _ (Ky m t) 8 N w (bN _) (by omega) (by omega) (fun u hu hbu => by
     have := a1 u; rw [hbu] at this
     exact ⟨_, WT hp hm ht hs h4 (zH9.1 this.symm).1⟩)]
    simp only [oS]
    have e : (!(zB4 8).all fun u => !D6 (w : Int) u || Ky m t u) = HF p m i t := by
     unfold HF
     rw [beq_iff_eq.2 h4, zE5, List.not_all_eq_any_not]
     congr 1
     funext u
     rw [a1 u, hr.1 u]
     unfold Ns
     cases D6 (m.fe.getD i 0) u <;> cases Ic m t.ff.toNat u <;> cases Ky m t u <;> rfl
    rw [e]
    cases hst : HF p m i t
    ·rw [Ao, if_neg (by rintro (h | h | h); cases h; exact h1 h; cases h)]; rfl
    ·rw [AP, if_pos (.inr (.inr rfl))]
   ·have e : HF p m i t = false := by unfold HF; rw [beq_eq_false_iff_ne.2 h4]; rfl
    rw [beq_eq_false_iff_ne.2 h4, Ao, Ao, e, if_neg (by rintro (h | h | h); cases h; exact h1 h; cases h)]; rfl
theorem PD (N : Nat) (hN : N ≤ 1000000) (h20 : 100 ≤ N) (hp : A4 p) (hm : Bp p m) (ht : p.fc[i]? = some t) (hs : By t = true) (s : Ad) (hsi : s.fi = (i : Int)) (j : Option (Ac × Bool)) :
  BI N p m s t (Gf m t.ff.toNat) (fun _ => j) N 0 = if HF p m i t = true then some (H4, false) else j := by
 have hi := (lI.1 ht).1
 have hin := Jz (hp.tab t (lM ht))
 have hb := hm.base
 have hh := hm.held
 have hr := IS hp hm.toMixServ (s := t.ff.toNat) (by omega)
 have hrg := hm.range i hi
 have hver := IZ hp (i := t.ff.toNat) (by omega)
 obtain ⟨nv, hnv⟩ := zA8 (show 0 ≤ p.fa.getD t.ff.toNat 0 by omega)
 have eh' : m.fe[i]? = some (m.fe.getD i 0) := by rw [lD]; simp [show i < m.fe.length from by omega]
 have := Ck (BI N p m s t (Gf m t.ff.toNat) fun _ => j) (zB4 nv) j (fun u _ => if (Ns m i t u && (t.fg == 4 && !Ky m t u)) = true then some (H4, false) else none)
  (fun n u x hx => by
   have hu : u < nv := by
    have := (lI.1 hx).1
    simpa using this
   rw [BI, D9 (d := 0) hin.1 (by omega), hnv]
   simp only [oS]
   rw [AC (by omega)]
   simp only [Bl, hsi, AV, eh', oS]
   rw [Xr N hrg (by omega), AE (by omega)]
   simp only [oS]
   cases h1 : D6 (m.fe.getD i 0) u
   ·have e : Ns m i t u = false := by unfold Ns; rw [h1]; rfl
    rw [Ao, Ao, Ao, e]; rfl
   ·rw [AP, Xr N hr.2 (by omega), hr.1 u]
    simp only [oS]
    have e : Ns m i t u = !Ic m t.ff.toNat u := by unfold Ns; rw [h1]; rfl
    rw [← e]
    cases h2 : Ns m i t u
    ·rw [Ao, Ao]; rfl
    ·rw [AP]
     by_cases h4 : t.fg = 4
     ·obtain ⟨e1, e2⟩ := WT hp hm ht hs h4 h1
      rw [AV] at e1
      rw [beq_iff_eq.2 h4, AP, e1, D9 (d := 0) hin.1 (by omega)]
      simp only [oS]
      rw [e2]
      simp only [oS]
      cases Ky m t u <;> rfl
     ·rw [beq_eq_false_iff_ne.2 h4, Ao, Ao]; rfl)
  (fun n => by
   rw [BI, D9 (d := 0) hin.1 (by omega), hnv]
   simp only [oS, zH8]
   rw [Ay (by omega)]) N 0 (zA9 _) (by simp; omega)
 have e0 : BI N p m s t (Gf m t.ff.toNat) (fun _ => j) N 0 = _ := this
 rw [e0, zC4]
 by_cases hst : HF p m i t = true
 ·rw [if_pos hst]
  unfold HF at hst
  rw [zA5, zE0] at hst
  obtain ⟨h4, u, hu, h5⟩ := hst
  rw [zA5] at h5
  have h6 : D6 (m.fe.getD i 0) u = true := by have := h5.1; unfold Ns at this; exact (zH9.1 this).1
  have h7 := VT hp hm ht hs h6
  cases hsc : CC (fun u (_ : Nat) => if (Ns m i t u && (t.fg == 4 && !Ky m t u)) = true then some (H4, false) else none) 0 (zB4 nv) with
  | some r =>
   obtain ⟨q, x, hx, hf⟩ := DJ hsc
   split at hf
   ·cases hf; rfl
   ·cases hf
  | none =>
   exfalso
   have hx : (zB4 nv)[u]? = some u := List.getElem?_range (by omega)
   have := EB hsc u u hx
   rw [zA3, h5.1, h4, h5.2] at this
   cases this
 ·rw [if_neg hst]
  have : CC (fun u (_ : Nat) => if (Ns m i t u && (t.fg == 4 && !Ky m t u)) = true then some (H4, false) else none) 0 (zB4 nv) = none := FJ fun q x hx => by
   rw [zA3]
   split
   ·rename_i h5
    exfalso; apply hst
    rw [zA5, zA5] at h5
    unfold HF
    rw [h5.2.1, zE5, zE0]
    have hq : q < nv := by
     have := (lI.1 hx).1
     simpa using this
    exact ⟨q, zD8.2 (by omega), by rw [h5.1, h5.2.2]; rfl⟩
   ·rfl
  rw [this]; rfl
end clear
end Go.Lift
namespace Go.Lift
open Option renaming bind_some → oS
open List renaming mem_of_getElem? → lM
open Go
theorem Ix {s : Ad} (h : F2 s = true) : 1 ≤ s.fg ∧ s.fg ≤ 4 ∧ 0 ≤ s.fi ∧ 0 ≤ s.fo ∧ (s.fg ≠ 1 → s.fo = 0) := by
 unfold F2 at h
 rw [zA5, decide_eq_true_iff, zG0, beq_iff_eq, beq_iff_eq] at h
 exact ⟨h.1.1, h.1.2.1, h.1.2.2.1, h.1.2.2.2, fun hk => h.2.elim (fun e => (hk e).elim) id⟩
theorem Jo {p : Aa} {s : Ad} (h : Fb p s = true) : (s.fg = 3 → s.fi < (p.fc.length : Int)) ∧ (s.fg ≠ 3 → s.fi < (p.fa.length : Int)) ∧ (s.fg = 1 → s.fo < p.fa.getD s.fi.toNat 0) := by
 unfold Fb at h
 split at h
 ·rename_i hk
  rw [decide_eq_true_iff] at h
  exact ⟨fun _ => h, fun hn => (hn hk).elim, fun h1 => by omega⟩
 ·rename_i hk
  rw [zA5, decide_eq_true_iff, zG0, decide_eq_true_iff, bne_iff_ne] at h
  exact ⟨fun h3 => (hk h3).elim, fun _ => h.1, fun h1 => h.2.elim (fun hn => (hn h1).elim) id⟩
theorem Vg (N : Nat) {p : Aa} {m : Ac} (hp : A4 p) (hm : Bp p m) : G5 N m = some m := by
 have hnv := hp.nv
 have hnt := hp.nt
 have h1 := hm.base
 have h2 := hm.next
 have h3 := hm.held
 unfold G5
 rw [Kv N _ (by simp only [C2]; omega), Kv N _ (by simp only [C2]; omega), QQ N _ (by simp only [C2]; omega)]
 rfl
theorem Mj (N : Nat) (hN : N ≤ 1000000) (h20 : 100 ≤ N) {p : Aa} {m : Ac} (hp : A4 p) (hm : Bp p m) {s : Ad} (hv : F2 s = true) (hx : Fb p s = true) :
  ∃ o, F0 N p m s = some (o, (EL p m s).isSome) ∧ ∀ x, EL p m s = some x → o = x := by
 obtain ⟨k1, k4, i0, v0, vk⟩ := Ix hv
 obtain ⟨x3, xn, x1⟩ := Jo hx
 have hnv := hp.nv
 have hnt := hp.nt
 have hb := hm.base
 have hn := hm.next
 have hh := hm.held
 obtain ⟨i, hi⟩ := zA8 i0
 unfold F0 EL
 rw [Vg N hp hm]
 simp only [oS, Bl]
 by_cases hk1 : s.fg = 1
 ·have hi1 : (i : Int) < p.fa.length := by have := xn (by omega); omega
  rw [beq_iff_eq.2 hk1, AP, if_pos hk1]
  unfold Iz
  simp only [Bl, hi, zA7]
  rw [De (d := 0) (show i < m.fb.length by omega)]
  simp only [oS]
  by_cases c1 : 0 ≤ m.fb.getD i 0
  ·rw [AC c1, AP, if_pos (.inl c1)]
   exact ⟨_, rfl, fun x hx => by cases hx⟩
  ·rw [Ay c1, De (d := 0) (show i < m.fd.length by omega)]
   simp only [oS]
   by_cases c2 : m.fd.getD i 0 = s.fo
   ·rw [beq_iff_eq.2 c2, AP, if_pos (.inr c2)]
    exact ⟨_, rfl, fun x hx => by cases hx⟩
   ·rw [beq_eq_false_iff_ne.2 c2, Ao, (Ou (_R := Unit) N p s m.fe v0 hh (by omega) hN _).1, if_neg (by rintro (h | h); exact c1 h; exact c2 h)]
    exact ⟨_, rfl, fun x hx => by cases hx; rfl⟩
 ·rw [beq_eq_false_iff_ne.2 hk1, Ao, if_neg hk1]
  by_cases hk3 : s.fg = 3
  ·have hi3 : i < p.fc.length := by have := x3 hk3; omega
   have ht : p.fc[i]? = some p.fc[i] := by simp [hi3]
   rw [beq_iff_eq.2 hk3, AP, if_pos hk3, hi, PR N hN h20 hp hm ht]
   simp only [oS, zA7, ht]
   split
   ·exact ⟨_, rfl, fun x hx => by cases hx⟩
   ·exact ⟨_, rfl, fun x hx => by cases hx; rfl⟩
  ·have hi1 : (i : Int) < p.fa.length := by have := xn hk3; omega
   rw [beq_eq_false_iff_ne.2 hk3, Ao, if_neg hk3, hi, De (d := 0) (show i < m.fb.length by omega)]
   simp only [oS, zA7]
   by_cases c1 : m.fb.getD i 0 < 0
   ·rw [AC c1, if_pos c1]
    exact ⟨_, rfl, fun x hx => by cases hx⟩
   ·rw [Ay c1, if_neg c1]
    by_cases hk2 : s.fg = 2
    ·rw [beq_iff_eq.2 hk2, AP, De (d := 0) (show i < m.fd.length by omega), if_pos hk2]
     exact ⟨_, rfl, fun x hx => by cases hx; rfl⟩
    ·rw [beq_eq_false_iff_ne.2 hk2, Ao, if_neg hk2]
     exact ⟨_, rfl, fun x hx => by cases hx; rfl⟩
theorem PS (N : Nat) (hN : N ≤ 1000000) (h20 : 100 ≤ N) {p : Aa} {m : Ac} (hp : A4 p) (hm : Bp p m) (s : Ad) : Hv N p m s = some (A5 p m s) := by
 unfold Hv A5
 rw [Qc]
 simp only [oS]
 cases hv : F2 s
 ·rw [zE6, AP, if_pos rfl]; rfl
 ·rw [zC3, Ao, if_neg (by simp), PL N p s hv]
  simp only [oS]
  cases hx : Fb p s
  ·rw [zE6, AP, if_pos rfl]; rfl
  ·rw [zC3, Ao, if_neg (by simp)]
   obtain ⟨o, e, ho⟩ := Mj N hN h20 hp hm hv hx
   rw [e]
   simp only [oS]
   cases ha : EL p m s with
   | none => rfl
   | some x => rw [ho x ha]; rfl
theorem Nc (N : Nat) (hN : N ≤ 1000000) (h20 : 100 ≤ N) {p : Aa} {m : Ac} (hp : A4 p) (hm : Bp p m) {s : Ad} (hv : F2 s = true) (hx : Fb p s = true) :
  CR N p m s = some (match EL p m s with | none => (H4, false) | some x => (x, true)) := by
 obtain ⟨k1, k4, i0, v0, vk⟩ := Ix hv
 obtain ⟨x3, xn, x1⟩ := Jo hx
 have hnv := hp.nv
 have hnt := hp.nt
 have hb := hm.base
 have hn := hm.next
 have hh := hm.held
 obtain ⟨i, hi⟩ := zA8 i0
 unfold CR EL
 rw [Au (by simp [C2]; omega), Au (by simp [C2]; omega), Au (by simp [C2]; omega)]
 simp only [Bl, zG5]
 by_cases hk1 : s.fg = 1
 ·have hi1 : (i : Int) < p.fa.length := by have := xn (by omega); omega
  rw [beq_iff_eq.2 hk1, AP, if_pos hk1]
  simp only [hi, zA7]
  rw [De (d := 0) (show i < m.fb.length by omega)]
  simp only [oS]
  by_cases c1 : 0 ≤ m.fb.getD i 0
  ·rw [AC c1, AP, if_pos (.inl c1)]; rfl
  ·rw [Ay c1, De (d := 0) (show i < m.fd.length by omega)]
   simp only [oS]
   by_cases c2 : m.fd.getD i 0 = s.fo
   ·rw [beq_iff_eq.2 c2.symm, AP, if_pos (.inr c2)]; rfl
   ·rw [beq_eq_false_iff_ne.2 (fun h => c2 h.symm), Ao, Pb N p s m.fe v0 hh (by omega) hN _, if_neg (by rintro (h | h); exact c1 h; exact c2 h)]
 ·rw [beq_eq_false_iff_ne.2 hk1, Ao, if_neg hk1]
  by_cases hk3 : s.fg = 3
  ·have hi3 : i < p.fc.length := by have := x3 hk3; omega
   have ht : p.fc[i]? = some p.fc[i] := by simp [hi3]
   have hin := Jz (hp.tab _ (lM ht))
   have eh' : Bs m.fe (i : Int) = some (m.fe.getD i 0) := De (by omega)
   rw [beq_eq_false_iff_ne.2 (show s.fg ≠ 2 by omega), Ao, beq_iff_eq.2 hk3, AP, if_pos hk3, hi, AV, ht]
   simp only [oS, Hz, zA7, ht]
   cases hs : By p.fc[i]
   ·rw [zE6, AP, if_pos (.inl rfl)]; rfl
   ·rw [zC3, Ao, KR N m _ hin.1 (by omega) (by omega) (hm.b0 _ (by omega)).1, eh']
    simp only [oS]
    by_cases h1 : m.fe.getD i 0 = Gf m (p.fc[i]).ff.toNat
    ·rw [beq_iff_eq.2 h1, AP, if_pos (.inr (.inl h1))]; rfl
    ·rw [beq_eq_false_iff_ne.2 h1, Ao]
     rw [PD N hN h20 hp hm ht hs s hi]
     cases hst : HF p m i p.fc[i]
     ·rw [if_neg (by simp), if_neg (by rintro (h | h | h); cases h; exact h1 h; cases h)]
     ·rw [if_pos rfl, if_pos (.inr (.inr rfl))]
  ·have hi1 : (i : Int) < p.fa.length := by have := xn hk3; omega
   rw [if_neg hk3, hi, De (d := 0) (show i < m.fb.length by omega)]
   simp only [oS, zA7]
   by_cases hk2 : s.fg = 2
   ·rw [beq_iff_eq.2 hk2, AP, if_pos hk2]
    by_cases c1 : m.fb.getD i 0 < 0
    ·rw [AC c1, if_pos c1]; rfl
    ·rw [Ay c1, if_neg c1, De (d := 0) (show i < m.fd.length by omega)]; rfl
   ·rw [beq_eq_false_iff_ne.2 hk2, Ao, beq_eq_false_iff_ne.2 hk3, Ao, if_neg hk2]
    by_cases c1 : m.fb.getD i 0 < 0
    ·rw [AC c1, if_pos c1]; rfl
    ·rw [Ay c1, if_neg c1]
end Go.Lift
namespace Go.Lift
open Option renaming bind_some → oS
open List renaming mem_of_getElem? → lM
open List renaming getElem?_eq_some_iff → lI
open Go
theorem Sq (s : Ad) : ∀ (xs : List Al) (i : Nat) (a : List Int), i + xs.length ≤ a.length → (I1 (VL s) i xs a).length = a.length ∧ ∀ q, (I1 (VL s) i xs a).getD q 0 = match (if i ≤ q then xs[q - i]? else none) with
  | some t => if R0 s t = true then PP .u8 (a.getD q 0) (DQ .u8 1 s.fo) else a.getD q 0
  | none => a.getD q 0
 | [], i, a, _ => by
  refine ⟨rfl, fun q => ?_⟩
  split
  ·rename_i h; split at h
   ·simp at h
   ·cases h
  ·rfl
 | x :: xs, i, a, hl => by
  have hl' : i + (xs.length + 1) ≤ a.length := by simpa using hl
  have ha : (VL s i x a).length = a.length := by unfold VL; split <;> simp
  obtain ⟨ih1, ih2⟩ := Sq s xs (i + 1) (VL s i x a) (by omega)
  refine ⟨by rw [I1, ih1, ha], fun q => ?_⟩
  rw [I1, ih2 q]
  have hu : (VL s i x a).getD q 0 = if q = i ∧ R0 s x = true then PP .u8 (a.getD q 0) (DQ .u8 1 s.fo) else a.getD q 0 := by
   unfold VL
   by_cases hc : R0 s x = true
   ·rw [if_pos hc, JM (by omega)]
    by_cases hq : q = i
    ·subst hq; rw [if_pos rfl, if_pos ⟨rfl, hc⟩]
    ·rw [if_neg hq, if_neg (fun h => hq h.1)]
   ·rw [if_neg hc, if_neg (fun h => hc h.2)]
  by_cases h1 : i + 1 ≤ q
  ·rw [if_pos h1, if_pos (show i ≤ q by omega), hu, if_neg (by omega)]
   rw [show (x :: xs)[q - i]? = xs[q - (i + 1)]? from by rw [show q - i = (q - (i + 1)) + 1 from by omega, zL8]]
  ·rw [if_neg h1]
   by_cases h2 : q = i
   ·subst h2
    rw [if_pos (zB1 _), zI3, hu]
    simp
   ·rw [if_neg (show ¬ i ≤ q by omega), hu, if_neg (by omega)]
theorem NW {p : Aa} {s : Ad} {held : List Int} (hl : held.length = p.fc.length) : (HK p s held).length = p.fc.length ∧ ∀ q t, p.fc[q]? = some t → (HK p s held).getD q 0 = if R0 s t = true then PP .u8 (held.getD q 0) (DQ .u8 1 s.fo) else held.getD q 0 := by
 obtain ⟨h1, h2⟩ := Sq s p.fc 0 held (by omega)
 refine ⟨h1.trans hl, fun q t ht => ?_⟩
 have := h2 q
 rw [if_pos (zA9 _), Nat.sub_zero, ht] at this
 exact this
theorem OC {m : Ac} {s v : Nat} : Ic m s v = true ↔ m.fd.getD s 0 = (v : Int) ∨ m.fb.getD s 0 = (v : Int) := by
 unfold Ic; rw [zG0, decide_eq_true_iff, decide_eq_true_iff]
theorem Lr {p : Aa} {m x : Ac} (hp : A4 p) (hm : Bp p m) {s : Ad} (hv : F2 s = true) (hx : Fb p s = true) (h : EL p m s = some x) : Bp p x := by
 obtain ⟨k1, k4, i0, v0, vk⟩ := Ix hv
 obtain ⟨x3, xn, x1⟩ := Jo hx
 obtain ⟨i, hi⟩ := zA8 i0
 have hb := hm.base
 have hn := hm.next
 have hh := hm.held
 unfold EL at h
 simp only [hi, zA7] at h
 rw [hi, zA7] at x1
 split at h
 ·rename_i hk1
  have hi1 : i < p.fa.length := by have := xn (by omega); omega
  have hx1 := x1 hk1
  have hvi := IZ hp hi1
  split at h
  ·cases h
  rename_i hc
  cases h
  obtain ⟨u1, u2⟩ := NW (s := s) hh
  obtain ⟨b, hbv⟩ := zA8 v0
  have hob := Yd (b := b) (by omega)
  have hN : ∀ q, (m.fb.set i s.fo).getD q 0 = if q = i then s.fo else m.fb.getD q 0 := fun q => JM (by omega)
  refine { base := hb, next := by simpa using hn, held := u1, b0 := hm.b0, n0 := fun q hq => ?_, ne := fun q hq => ?_, range := fun q hq => ?_, low := fun q t ht hs v hr => ?_, high := fun q t ht hs v hbit => ?_, none := fun q t ht hs => ?_ }
  ·show -1 ≤ (m.fb.set i s.fo).getD q 0 ∧ (m.fb.set i s.fo).getD q 0 < _
   rw [hN q]
   split
   ·rename_i e; subst e; omega
   ·exact hm.n0 q hq
  ·show m.fd.getD q 0 ≠ (m.fb.set i s.fo).getD q 0
   rw [hN q]
   split
   ·rename_i e; subst e; exact fun h => hc (.inr h)
   ·exact hm.ne q hq
  ·have ht : p.fc[q]? = some p.fc[q] := by simp [hq]
   show 0 ≤ (HK p s m.fe).getD q 0 ∧ (HK p s m.fe).getD q 0 ≤ 255
   rw [u2 q _ ht, hbv]
   split
   ·exact (Tx (hm.range q hq) hob.2).2
   ·exact hm.range q hq
  ·have hq := (lI.1 ht).1
   show D6 ((HK p s m.fe).getD q 0) v = true
   have hin := Jz (hp.tab t (lM ht))
   rw [OC] at hr
   have hr : m.fd.getD t.ff.toNat 0 = (v : Int) ∨ (m.fb.set i s.fo).getD t.ff.toNat 0 = (v : Int) := hr
   rw [hN] at hr
   rw [u2 q t ht, hbv]
   have hlow := hm.low q t ht hs v
   rw [OC] at hlow
   by_cases hf : t.ff.toNat = i
   ·have hup : R0 s t = true := by unfold R0; rw [hs, Bool.and_true, beq_iff_eq, hi]; omega
    rw [if_pos hup, (Tx (hm.range q hq) hob.2).1, hob.1 v, zG0, decide_eq_true_iff]
    rw [if_pos hf] at hr
    rcases hr with h | h
    ·exact .inl (hlow (.inl h))
    ·right; omega
   ·rw [if_neg hf] at hr
    have hup : R0 s t = false := by unfold R0; rw [hs, Bool.and_true, beq_eq_false_iff_ne, hi]; omega
    rw [hup, if_neg (by simp)]
    exact hlow hr
  ·have hq := (lI.1 ht).1
   have hbit : D6 ((HK p s m.fe).getD q 0) v = true := hbit
   have hin := Jz (hp.tab t (lM ht))
   rw [u2 q t ht, hbv] at hbit
   split at hbit
   ·rename_i hup
    rw [(Tx (hm.range q hq) hob.2).1, hob.1 v, zG0, decide_eq_true_iff] at hbit
    rcases hbit with h | h
    ·exact hm.high q t ht hs v h
    ·unfold R0 at hup
     rw [hs, Bool.and_true, beq_iff_eq, hi] at hup
     rw [hup, zA7]; omega
   ·exact hm.high q t ht hs v hbit
  ·show (HK p s m.fe).getD q 0 = 0
   have hup : R0 s t = false := by unfold R0; rw [hs, Bool.and_false]
   rw [u2 q t ht, hup, if_neg (by simp)]
   exact hm.none q t ht hs
 ·rename_i hk1
  split at h
  ·rename_i hk3
   have hi3 : i < p.fc.length := by have := x3 hk3; omega
   have ht0 : p.fc[i]? = some p.fc[i] := by simp [hi3]
   rw [ht0] at h
   simp only at h
   split at h
   ·cases h
   rename_i hc
   cases h
   have hin0 := Jz (hp.tab _ (lM ht0))
   have hr0 := IS hp hm.toMixServ (s := (p.fc[i]).ff.toNat) (by omega)
   have hs0 : By p.fc[i] = true := by
    cases hs : By p.fc[i]
    ·exact (hc (.inl hs)).elim
    ·rfl
   have hH : ∀ q, (m.fe.set i (Gf m (p.fc[i]).ff.toNat)).getD q 0 = if q = i then Gf m (p.fc[i]).ff.toNat else m.fe.getD q 0 := fun q => JM (by omega)
   refine { base := hb, next := hn, held := by simpa using hh, b0 := hm.b0, n0 := hm.n0, ne := hm.ne, range := fun q hq => ?_, low := fun q t ht hs v hr => ?_, high := fun q t ht hs v hbit => ?_, none := fun q t ht hs => ?_ }
   ·show 0 ≤ (m.fe.set i (Gf m (p.fc[i]).ff.toNat)).getD q 0 ∧ (m.fe.set i (Gf m (p.fc[i]).ff.toNat)).getD q 0 ≤ 255
    rw [hH q]
    split
    ·exact hr0.2
    ·exact hm.range q hq
   ·show D6 ((m.fe.set i (Gf m (p.fc[i]).ff.toNat)).getD q 0) v = true
    have hr : Ic m t.ff.toNat v = true := hr
    rw [hH q]
    split
    ·rename_i e; subst e
     rw [ht0] at ht; cases ht
     rw [hr0.1]; exact hr
    ·exact hm.low q t ht hs v hr
   ·have hbit : D6 ((m.fe.set i (Gf m (p.fc[i]).ff.toNat)).getD q 0) v = true := hbit
    rw [hH q] at hbit
    split at hbit
    ·rename_i e; subst e
     rw [ht0] at ht; cases ht
     rw [hr0.1] at hbit
     exact hm.high q _ ht0 hs0 v (hm.low q _ ht0 hs0 v hbit)
    ·exact hm.high q t ht hs v hbit
   ·show (m.fe.set i (Gf m (p.fc[i]).ff.toNat)).getD q 0 = 0
    rw [hH q, if_neg (fun e => by subst e; rw [ht0] at ht; cases ht; rw [hs0] at hs; cases hs)]
    exact hm.none q t ht hs
  ·rename_i hk3
   have hi1 : i < p.fa.length := by have := xn hk3; omega
   have hvi := IZ hp hi1
   split at h
   ·cases h
   rename_i hc
   cases h
   have hN : ∀ q, (m.fb.set i (-1)).getD q 0 = if q = i then -1 else m.fb.getD q 0 := fun q => JM (by omega)
   have hB : ∀ q, (if s.fg = 2 then m.fd.set i (m.fb.getD i 0) else m.fd).getD q 0 = if s.fg = 2 ∧ q = i then m.fb.getD i 0 else m.fd.getD q 0 := fun q => by
    by_cases hk2 : s.fg = 2
    ·rw [if_pos hk2, JM (by omega)]
     by_cases e : q = i
     ·rw [if_pos e, if_pos ⟨hk2, e⟩]
     ·rw [if_neg e, if_neg (fun h => e h.2)]
    ·rw [if_neg hk2, if_neg (fun h => hk2 h.1)]
   have hrun : ∀ q v, Ic ⟨if s.fg = 2 then m.fd.set i (m.fb.getD i 0) else m.fd, m.fb.set i (-1), m.fe⟩ q v = true → Ic m q v = true := fun q v hr => by
    rw [OC] at hr ⊢
    simp only [hN q, hB q] at hr
    by_cases e : q = i
    ·subst e
     rw [if_pos rfl] at hr
     by_cases hk2 : s.fg = 2
     ·rw [if_pos ⟨hk2, rfl⟩] at hr; omega
     ·rw [if_neg (fun h => hk2 h.1)] at hr; omega
    ·rw [if_neg e, if_neg (fun h => e h.2)] at hr; exact hr
   refine { base := by simp only; split <;> simp [hb], next := by simpa using hn, held := hh, b0 := fun q hq => ?_, n0 := fun q hq => ?_, ne := fun q hq => ?_, range := hm.range, low := fun q t ht hs v hr => hm.low q t ht hs v (hrun _ _ hr), high := hm.high, none := hm.none }
   ·simp only [hB q]
    split
    ·rename_i e; obtain ⟨_, e⟩ := e; subst e
     have := hm.n0 q hq
     omega
    ·exact hm.b0 q hq
   ·simp only [hN q]
    split
    ·rename_i e; subst e; omega
    ·exact hm.n0 q hq
   ·simp only [hB q, hN q]
    have h1 := hm.b0 q hq
    by_cases e : q = i
    ·rw [if_pos e]
     split
     ·rename_i e2; obtain ⟨_, e2⟩ := e2; subst e2; omega
     ·omega
    ·rw [if_neg e, if_neg (fun h => e h.2)]; exact hm.ne q hq
theorem RH (N : Nat) (hN : N ≤ 1000000) (h20 : 100 ≤ N) {p : Aa} {m : Ac} (hw : PO Mh m.fe) (s : Ad) : E3 N p m s = some (if Gr p m = 0 then A5 p m s else (H4, Gr p m)) := by
 unfold E3 A5
 rw [RB N p m hN (by omega)]
 simp only [oS, Bl]
 by_cases hval : Gr p m = 0
 ·obtain ⟨hp, hm⟩ := Lm hw hval
  rw [if_pos hval, hval, bne_self_eq_false, Ao, Rh]
  simp only [oS]
  cases hv : F2 s
  ·rw [zE6, AP, if_pos rfl]; rfl
  ·rw [zC3, Ao, if_neg (by simp)]
   obtain ⟨k1, k4, i0, v0, vk⟩ := Ix hv
   have key : ∀ b : Bool, Fb p s = b → (if b = false then (H4, (4 : Int)) else match EL p m s with | none => (H4, 11) | some x => (x, 0)) = (if b = false then (H4, (4 : Int)) else match EL p m s with | none => (H4, 11) | some x => (x, 0)) := fun _ _ => rfl
   have tail : Fb p s = true → ((CR N p m s).bind fun v15 => AR (!v15.2) (some (Ac.mk [] [] [], (11 : Int))) (some (v15.1, 0))) = some (match EL p m s with | none => (H4, 11) | some x => (x, 0)) := fun hx => by
    rw [Nc N hN h20 hp hm hv hx]
    cases EL p m s <;> rfl
   have zz : (Ac.mk [] [] [], (4 : Int)) = (H4, 4) := rfl
   by_cases hk3 : s.fg = 3
   ·rw [beq_iff_eq.2 hk3, AP, show (s.fg != 3) = false from by rw [hk3]; rfl]
    have hX : Fb p s = decide (s.fi < (p.fc.length : Int)) := by unfold Fb; rw [if_pos hk3]
    by_cases c : (p.fc.length : Int) ≤ s.fi
    ·rw [AC c, AP, hX, decide_eq_false (by omega), if_pos rfl]; rfl
    ·have hx : Fb p s = true := by rw [hX, decide_eq_true (by omega)]
     rw [Ay c, Ao, Ao, beq_eq_false_iff_ne.2 (show s.fg ≠ 1 by omega), Ao, Ao, hx, if_neg (by simp)]
     exact tail hx
   ·rw [beq_eq_false_iff_ne.2 hk3, Ao, bne_iff_ne.2 hk3, AP]
    have hX : Fb p s = (decide (s.fi < (p.fa.length : Int)) && (s.fg != 1 || decide (s.fo < p.fa.getD s.fi.toNat 0))) := by unfold Fb; rw [if_neg hk3]
    by_cases c : (p.fa.length : Int) ≤ s.fi
    ·rw [decide_eq_true c, AP, hX, decide_eq_false (show ¬ s.fi < (p.fa.length : Int) by omega), zK6, if_pos rfl]; rfl
    ·rw [decide_eq_false c, Ao]
     by_cases hk1 : s.fg = 1
     ·rw [beq_iff_eq.2 hk1, AP, D9 (d := 0) i0 (by omega)]
      simp only [oS]
      by_cases c2 : p.fa.getD s.fi.toNat 0 ≤ s.fo
      ·rw [decide_eq_true c2, AP, hX, decide_eq_false (show ¬ s.fo < p.fa.getD s.fi.toNat 0 by omega), show (s.fg != 1) = false from by rw [hk1]; rfl, zJ9, Bool.and_false, if_pos rfl]; rfl
      ·have hx : Fb p s = true := by rw [hX, decide_eq_true (by omega), decide_eq_true (by omega), Bool.or_true]; rfl
       rw [decide_eq_false c2, Ao, hx, if_neg (by simp)]
       exact tail hx
     ·have hx : Fb p s = true := by rw [hX, decide_eq_true (by omega), bne_iff_ne.2 hk1]; rfl
      rw [beq_eq_false_iff_ne.2 hk1, Ao, Ao, hx, if_neg (by simp)]
      exact tail hx
 ·rw [if_neg hval, bne_iff_ne.2 hval, AP]; rfl
theorem P0 (N : Nat) (hN : N ≤ 1000000) (h20 : 100 ≤ N) {p : Aa} {m : Ac} (hw : PO Mh m.fe) (s : Ad) : Hx N p m s = some (if Gr p m = 0 then A5 p m s else (H4, Gr p m)) := by
 unfold Hx
 rw [Ja N p m hN (by omega) hw]
 simp only [oS]
 by_cases hval : Gr p m = 0
 ·obtain ⟨hp, hm⟩ := Lm hw hval
  rw [if_pos hval, hval, bne_self_eq_false, Ao, PS N hN h20 hp hm s]; rfl
 ·rw [if_neg hval, bne_iff_ne.2 hval, AP]; rfl
theorem L0 {p : Aa} {m : Ac} (hp : A4 p) (hm : Bp p m) {s : Ad} (h : (A5 p m s).2 = 0) : Bp p (A5 p m s).1 := by
 unfold A5 at h ⊢
 split at h
 ·cases h
 rename_i h1
 rw [if_neg h1]
 split at h
 ·cases h
 rename_i h2
 rw [if_neg h2]
 cases ha : EL p m s with
 | none => rw [ha] at h; cases h
 | some x => exact Lr hp hm (by simpa using h1) (by simpa using h2) ha
end Go.Lift
namespace Go.Lift
open Go
section
variable {N : Nat} {p : Aa} {l : List Ad}
end
end Go.Lift
namespace Go.Lift
open Go
def JP (p : Aa) (m : Ac) (s : Ad) : Option Ac := if (A5 p m s).2 = 0 ∧ s.fg ≠ 4 ∧ Br p (A5 p m s).1 = true then some (A5 p m s).1 else none
def Ld (p : Aa) : Ac → List Ad → Option Ac
 | m, [] => some m
 | m, s :: l => (JP p m s).bind fun x => Ld p x l
def LC (p : Aa) (m : Ac) (l : List Ad) : Bool := match Ld p m l with
 | some x => H6 p x
 | none => false
theorem Kl {p : Aa} {m x : Ac} {s : Ad} : JP p m s = some x ↔ F2 s = true ∧ Fb p s = true ∧ EL p m s = some x ∧ s.fg ≠ 4 ∧ Br p x = true := by
 unfold JP A5
 cases h1 : F2 s
 ·simp
 cases h2 : Fb p s
 ·simp
 cases h3 : EL p m s with
 | none => simp
 | some y =>
  simp only [Bool.true_eq_false, if_false, true_and, Option.some.injEq]
  constructor
  ·intro h
   split at h
   ·rename_i hc; cases h; exact ⟨rfl, hc.1, hc.2⟩
   ·cases h
  ·rintro ⟨rfl, h4, h5⟩
   rw [if_pos ⟨h4, h5⟩]
theorem Xa {p : Aa} {m x : Ac} {s : Ad} (hp : A4 p) (hm : Bp p m) (h : JP p m s = some x) : Bp p x := by
 obtain ⟨h1, h2, h3, _⟩ := Kl.1 h
 exact Lr hp hm h1 h2 h3
theorem UJ {p : Aa} (hp : A4 p) : ∀ (l : List Ad) (m x : Ac), Bp p m → Ld p m l = some x → Bp p x
 | [], m, x, hm, h => by cases h; exact hm
 | s :: l, m, x, hm, h => by
  rw [Ld] at h
  cases hs : JP p m s with
  | none => rw [hs] at h; cases h
  | some y => rw [hs] at h; exact UJ hp l y x (Xa hp hm hs) h
theorem Qf {p : Aa} {m : Ac} {l : List Ad} (h : LC p m l = true) : ∃ x, Ld p m l = some x ∧ H6 p x = true := by
 unfold LC at h
 cases hr : Ld p m l with
 | none => rw [hr] at h; cases h
 | some x => rw [hr] at h; exact ⟨x, rfl, h⟩
end Go.Lift
namespace Go.Lift
open IntKind renaming wrap → wI
open Option renaming bind_some → oS
open List renaming getElem?_eq_some_iff → lI
open List renaming getD_eq_getElem?_getD → lD
open Go
def GN (m : Ac) (i : Nat) (b : Int) : List Int := [wI .u8 b, wI .u8 (wI .i64 (m.fb.getD i 0 + 1))]
def Lh (m : Ac) : List Int := Bz (GN m) 0 m.fd ++ m.fe
theorem VX (N : Nat) (hN : N ≤ 1000000) (h20 : 100 ≤ N) {p : Aa} {m : Ac} (hp : A4 p) (hm : Bp p m) : HV N m = some (CG (Lh m)) := by
 have hnv := hp.nv
 have hnt := hp.nt
 have hb := hm.base
 have hn := hm.next
 have hh := hm.held
 unfold HV
 have e1 : wI .i64 (2 * (m.fd.length : Int)) = 2 * (m.fd.length : Int) := CH (by omega) (by omega)
 rw [e1, CH (n := 2 * (m.fd.length : Int) + (m.fe.length : Int)) (by omega) (by omega), Au ⟨Int.le_refl 0, by omega, by simp only [C2]; omega⟩]
 have l1 := FG (E1 N m fun v3 => DO N m (fun v9 => some (CG v9)) N (v3, 0)) (fun a i => (a, i)) m.fd (fun v3 => DO N m (fun v9 => some (CG v9)) N (v3, 0)) (GN m) 2 100
  (fun i x hx => by simp [GN])
  (fun n i x a hx hl => by
   have hi := (lI.1 hx).1
   rw [E1, AC (by simp only; omega)]
   simp only [AV, hx, oS, AE (show i < 1000000 by omega)]
   have e2 : m.fb[i]? = some (m.fb.getD i 0) := by rw [lD]; simp [show i < m.fb.length by omega]
   rw [e2]
   simp only [oS]
   rw [Au (by simp [C2]; simp [GN] at hl; omega)]
   rfl)
  (fun n a => by rw [E1, Ay (by simp)]) N [] (by omega) (by simp; omega)
 have l1' : E1 N m (fun v3 => DO N m (fun v9 => some (CG v9)) N (v3, 0)) N (zA6 (0 : Int).toNat (0 : Int), 0) = _ := l1
 rw [l1', zG5]
 have hfl : (Bz (GN m) 0 m.fd).length ≤ 2 * m.fd.length := Ga fun j x hx => by simp [GN]
 have l2 := FG (DO N m fun v9 => some (CG v9)) (fun a i => (a, i)) m.fe (fun v9 => some (CG v9)) (fun _ x => [x]) 1 100
  (fun i x hx => by simp)
  (fun n i x a hx hl => by
   have hi := (lI.1 hx).1
   rw [DO, AC (by simp only; omega)]
   simp only [AV, hx, oS, AE (show i < 1000000 by omega)]
   rw [Au (by simp [C2]; simp at hl; omega)])
  (fun n a => by rw [DO, Ay (by simp)]) N (Bz (GN m) 0 m.fd) (by omega) (by omega)
 have e3 : ∀ (i : Nat) (l : List Int), Bz (fun _ (x : Int) => [x]) i l = l := by
  intro i l
  induction l generalizing i with
  | nil => rfl
  | cons x l ih => rw [Bz, ih]; rfl
 refine l2.trans ?_
 rw [e3]; rfl
theorem T4 (xs : List Int) : ∀ b : ByteArray, (xs.foldl (fun s n => s.push (UInt8.ofNat n.toNat)) b).data.toList = b.data.toList ++ xs.map fun n => UInt8.ofNat n.toNat := by
 induction xs with
 | nil => intro b; simp
 | cons x xs ih => intro b; rw [List.foldl_cons, ih]; simp [ByteArray.push]
theorem Nu (xs : List Int) : (CG xs).data.toList = xs.map fun n => UInt8.ofNat n.toNat := by
 unfold CG
 rw [T4]; rfl
theorem am {a b : Int} (ha : 0 ≤ a ∧ a ≤ 255) (hb : 0 ≤ b ∧ b ≤ 255) (h : UInt8.ofNat a.toNat = UInt8.ofNat b.toNat) : a = b := by
 have := congrArg UInt8.toNat h
 simp at this
 omega
theorem Pm : ∀ {xs ys : List Int}, (∀ x, x ∈ xs → 0 ≤ x ∧ x ≤ 255) → (∀ x, x ∈ ys → 0 ≤ x ∧ x ≤ 255) → (xs.map fun n => UInt8.ofNat n.toNat) = (ys.map fun n => UInt8.ofNat n.toNat) → xs = ys
 | [], [], _, _, _ => rfl
 | [], _ :: _, _, _, h => by cases h
 | _ :: _, [], _, _, h => by cases h
 | x :: xs, y :: ys, hx, hy, h => by
  rw [zC7, zC7, List.cons.injEq] at h
  rw [am (hx x (by simp)) (hy y (by simp)) h.1, Pm (fun z hz => hx z (zG8 _ hz)) (fun z hz => hy z (zG8 _ hz)) h.2]
theorem Sw {xs ys : List Int} (hx : ∀ x, x ∈ xs → 0 ≤ x ∧ x ≤ 255) (hy : ∀ x, x ∈ ys → 0 ≤ x ∧ x ≤ 255) (h : (CG xs == CG ys) = true) : xs = ys := by
 rw [Kb, beq_iff_eq] at h
 have h := congrArg Array.toList h
 rw [Nu, Nu] at h
 exact Pm hx hy h
theorem Ri (xs : List Int) : (CG xs == CG xs) = true := by rw [Kb]; simp
theorem Qu {α β : Type} {g h : Nat → α → List β} {c : Nat} : ∀ {i : Nat} {xs ys : List α}, xs.length = ys.length → (∀ i x, (g i x).length = c) → (∀ i x, (h i x).length = c) → Bz g i xs = Bz h i ys → ∀ j x y, xs[j]? = some x → ys[j]? = some y → g (i + j) x = h (i + j) y
 | i, [], ys, _, _, _, _, j, x, y, hx, _ => by simp at hx
 | i, x :: xs, [], hl, _, _, _, _, _, _, _, _ => by simp at hl
 | i, x :: xs, y :: ys, hl, hg, hh, e, j, x', y', hx, hy => by
  rw [Bz, Bz] at e
  have e1 := List.append_inj e ((hg i x).trans (hh i y).symm)
  cases j with
  | zero => simp at hx hy; subst hx; subst hy; exact e1.1
  | succ j =>
   have := Qu (i := i + 1) (by simpa using hl) hg hh e1.2 j x' y' (by simpa using hx) (by simpa using hy)
   rwa [show i + 1 + j = i + (j + 1) from by omega] at this
theorem QD {p : Aa} {m : Ac} (_hp : A4 p) (hm : Bp p m) : ∀ x, x ∈ Lh m → 0 ≤ x ∧ x ≤ 255 := by
 intro x hx
 unfold Lh at hx
 rcases zC2.1 hx with h | h
 ·obtain ⟨j, b, hb, hk⟩ := Gd.1 h
  have hw : ∀ n : Int, 0 ≤ wI .u8 n ∧ wI .u8 n ≤ 255 := fun n => by
   simp [wI, IntKind.signed, IntKind.bits]; omega
  unfold GN at hk
  rcases zB6.1 hk with e | e
  ·subst e; exact hw _
  ·rcases zB6.1 e with e | e
   ·subst e; exact hw _
   ·cases e
 ·obtain ⟨j, hj⟩ := zB3.1 h
  have hl := (lI.1 hj).1
  have := hm.range j (by rw [← hm.held]; exact hl)
  rw [lD, hj] at this
  exact this
theorem IA {n : Int} (h : 0 ≤ n ∧ n ≤ 255) : wI .u8 n = n := by
 simp [wI, IntKind.signed, IntKind.bits]; omega
theorem YU {p : Aa} {m x : Ac} (hp : A4 p) (hm : Bp p m) (hx : Bp p x) (h : (CG (Lh m) == CG (Lh x)) = true) : m = x := by
 have e := Sw (QD hp hm) (QD hp hx) h
 unfold Lh at e
 have hbl : m.fd.length = x.fd.length := hm.base.trans hx.base.symm
 have hfl : ∀ y : Ac, (Bz (GN y) 0 y.fd).length = 2 * y.fd.length := fun y => by
  have : ∀ (i : Nat) (l : List Int), (Bz (GN y) i l).length = 2 * l.length := by
   intro i l
   induction l generalizing i with
   | nil => rfl
   | cons b l ih => rw [Bz, zB2, ih, zC5]; simp [GN]; omega
  exact this 0 _
 obtain ⟨e1, e2⟩ := List.append_inj e (by rw [hfl, hfl, hbl])
 have key : ∀ j, j < p.fa.length → m.fd.getD j 0 = x.fd.getD j 0 ∧ m.fb.getD j 0 = x.fb.getD j 0 := fun j hj => by
  have h1 : m.fd[j]? = some (m.fd.getD j 0) := by rw [lD]; simp [hm.base, hj]
  have h2 : x.fd[j]? = some (x.fd.getD j 0) := by rw [lD]; simp [hx.base, hj]
  have h3 := Qu (c := 2) hbl (fun _ _ => by simp [GN]) (fun _ _ => by simp [GN]) e1 j _ _ h1 h2
  rw [zA3] at h3
  have v := IZ hp hj
  have b1 := hm.b0 j hj
  have b2 := hx.b0 j hj
  have n1 := hm.n0 j hj
  have n2 := hx.n0 j hj
  unfold GN at h3
  rw [CH (n := m.fb.getD j 0 + 1) (by omega) (by omega), CH (n := x.fb.getD j 0 + 1) (by omega) (by omega), IA (n := m.fd.getD j 0) (by omega), IA (n := x.fd.getD j 0) (by omega), IA (n := m.fb.getD j 0 + 1) (by omega), IA (n := x.fb.getD j 0 + 1) (by omega), List.cons.injEq, List.cons.injEq] at h3
  exact ⟨h3.1, by omega⟩
 have hB : m.fd = x.fd := GH hbl fun q hq => (key q (by rw [← hm.base]; exact hq)).1
 have hN : m.fb = x.fb := GH (hm.next.trans hx.next.symm) fun q hq => (key q (by rw [← hm.next]; exact hq)).2
 cases m; cases x
 simp only at hB hN e2
 rw [hB, hN, e2]
end Go.Lift
namespace Go.Lift
open Option renaming bind_some → oS
open List renaming mem_of_getElem? → lM
open List renaming getElem?_eq_some_iff → lI
open Go
def JW (i : Nat) (n : Int) : List Ad := (zB4 n.toNat).map fun v => ⟨1, (i : Int), ((v : Nat) : Int), ⟩
def EW (p : Aa) : List Ad := Bz JW 0 p.fa ++ ((zB4 p.fa.length).map fun i => (⟨2, ((i : Nat) : Int), 0⟩ : Ad)) ++ ((zB4 p.fc.length).map fun i => (⟨3, ((i : Nat) : Int), 0⟩ : Ad))
def F4 (p : Aa) (m : Ac) : List Ad := (EW p).filter fun s => (A5 p m s).2 == 0
theorem UN {p : Aa} (hp : A4 p) : (EW p).length ≤ 54 := by
 have h1 : (Bz JW 0 p.fa).length ≤ 6 * p.fa.length := Ga fun j x hx => by
  have := hp.ver x (lM hx)
  simp [JW]; omega
 have := hp.nv
 have := hp.nt
 unfold EW
 simp only [zB2, zB0, zH8]
 omega
theorem Sn (N : Nat) (hN : N ≤ 1000000) (h20 : 100 ≤ N) {p : Aa} (hp : A4 p) : IG N p = some (EW p) := by
 have hnv := hp.nv
 have hnt := hp.nt
 unfold IG
 have l1 := FG (Do N p fun v2 => Ct N p (fun v10 => Bt N p (fun v14 => some v14) N (v10, 0)) N (v2, 0)) (fun a i => (a, i)) p.fa (fun v2 => Ct N p (fun v10 => Bt N p (fun v14 => some v14) N (v10, 0)) N (v2, 0)) JW 6 100
  (fun i x hx => by have := hp.ver x (lM hx); simp [JW]; omega)
  (fun n i x a hx hl => by
   have hi := (lI.1 hx).1
   have hx6 := hp.ver x (lM hx)
   obtain ⟨k, hk⟩ := zA8 (show 0 ≤ x by omega)
   rw [Do, AC (by simp only; omega)]
   simp only [AV, hx, oS, AE (show i < 1000000 by omega)]
   subst hk
   obtain ⟨a', e, ha⟩ := Fy (EP N (a, (i : Int)) (k : Int) fun v6 => Do N p (fun v2 => Ct N p (fun v10 => Bt N p (fun v14 => some v14) N (v10, 0)) N (v2, 0)) n (v6, ((i + 1 : Nat) : Int))) (fun b v => (b, v)) k (fun v6 => Do N p (fun v2 => Ct N p (fun v10 => Bt N p (fun v14 => some v14) N (v10, 0)) N (v2, 0)) n (v6, ((i + 1 : Nat) : Int)))
    (fun v b => b = a ++ (zB4 v).map fun v => (⟨1, (i : Int), ((v : Nat) : Int)⟩ : Ad))
    (fun n v b hv hb => by
     subst hb
     rw [EP, AC (by simp only; omega), Au (by simp [C2]; simp [JW] at hl; omega), AE (by omega)]
     exact ⟨_, rfl, by rw [zG4, zF0, zD7]; rfl⟩)
    (fun n b hb => by rw [EP, Ay (by simp)]) N 0 a (zA9 _) (by omega) (by simp)
   have e' : EP N (a, (i : Int)) (k : Int) (fun v6 => Do N p (fun v2 => Ct N p (fun v10 => Bt N p (fun v14 => some v14) N (v10, 0)) N (v2, 0)) n (v6, ((i + 1 : Nat) : Int))) N (a, 0) = _ := e
   rw [e', ha]; rfl)
  (fun n a => by rw [Do, Ay (by simp)]) N [] (by omega) (by simp; omega)
 have l1' : Do N p (fun v2 => Ct N p (fun v10 => Bt N p (fun v14 => some v14) N (v10, 0)) N (v2, 0)) N (([] : List Ad), 0) = _ := l1
 rw [l1', zG5]
 have hA : (Bz JW 0 p.fa).length ≤ 6 * p.fa.length := Ga fun j x hx => by
  have := hp.ver x (lM hx)
  simp [JW]; omega
 generalize hAe : Bz JW 0 p.fa = A at hA
 obtain ⟨b', e2, hb⟩ := Fy (Ct N p fun v10 => Bt N p (fun v14 => some v14) N (v10, 0)) (fun b v => (b, v)) p.fa.length (fun v10 => Bt N p (fun v14 => some v14) N (v10, 0))
  (fun v b => b = A ++ (zB4 v).map fun i => (⟨2, ((i : Nat) : Int), 0⟩ : Ad))
  (fun n v b hv hb => by
   subst hb
   rw [Ct, AC (by simp only; omega), Au (by simp [C2]; omega), AE (by omega)]
   exact ⟨_, rfl, by rw [zG4, zF0, zD7]; rfl⟩)
  (fun n b hb => by rw [Ct, Ay (by simp)]) N 0 A (zA9 _) (by omega) (by simp)
 have e2' : Ct N p (fun v10 => Bt N p (fun v14 => some v14) N (v10, 0)) N (A, 0) = _ := e2
 rw [e2', hb]
 generalize hBe : A ++ (zB4 p.fa.length).map (fun i => (⟨2, ((i : Nat) : Int), 0⟩ : Ad)) = B
 have hB : B.length ≤ 50 := by rw [← hBe]; simp; omega
 obtain ⟨c', e3, hc⟩ := Fy (Bt N p fun v14 => some v14) (fun b v => (b, v)) p.fc.length (fun v14 => some v14)
  (fun v b => b = B ++ (zB4 v).map fun i => (⟨3, ((i : Nat) : Int), 0⟩ : Ad))
  (fun n v b hv hb => by
   subst hb
   rw [Bt, AC (by simp only; omega), Au (by simp [C2]; omega), AE (by omega)]
   exact ⟨_, rfl, by rw [zG4, zF0, zD7]; rfl⟩)
  (fun n b hb => by rw [Bt, Ay (by simp)]) N 0 B (zA9 _) (by omega) (by simp)
 have e3' : Bt N p (fun v14 => some v14) N (B, 0) = _ := e3
 rw [e3', hc, ← hBe, ← hAe]; rfl
end Go.Lift
namespace Go.Lift
open Option renaming bind_some → oS
open List renaming mem_of_getElem? → lM
open List renaming getElem?_eq_some_iff → lI
open List renaming getD_eq_getElem?_getD → lD
open Go
theorem NX {p : Aa} (hp : A4 p) {s : Ad} (h : s ∈ EW p) : F2 s = true ∧ Fb p s = true := by
 have hnv := hp.nv
 unfold EW at h
 rcases zC2.1 h with h | h
 ·rcases zC2.1 h with h | h
  ·obtain ⟨j, x, hx, hk⟩ := Gd.1 h
   rw [zA3] at hk
   unfold JW at hk
   obtain ⟨v, hv, rfl⟩ := zB5.1 hk
   have hx6 := hp.ver x (lM hx)
   have hv := zD8.1 hv
   have hj := (lI.1 hx).1
   refine ⟨by unfold F2; simp, ?_⟩
   unfold Fb
   have e : p.fa.getD j 0 = x := by rw [lD, hx]; rfl
   simp only
   rw [if_neg (by omega), decide_eq_true (by omega), zA7, e, decide_eq_true (by omega), Bool.or_true]; rfl
  ·obtain ⟨v, hv, rfl⟩ := zB5.1 h
   have hv := zD8.1 hv
   refine ⟨by unfold F2; simp, ?_⟩
   unfold Fb
   simp only
   rw [if_neg (by omega), decide_eq_true (by omega)]; rfl
 ·obtain ⟨v, hv, rfl⟩ := zB5.1 h
  have hv := zD8.1 hv
  refine ⟨by unfold F2; simp, ?_⟩
  unfold Fb
  simp only
  rw [if_pos trivial, decide_eq_true (by omega)]
theorem Xo {p : Aa} {m : Ac} {s : Ad} (hv : F2 s = true) (hx : Fb p s = true) : ((A5 p m s).2 == 0) = (EL p m s).isSome := by
 unfold A5
 rw [hv, hx, if_neg (by simp), if_neg (by simp)]
 cases EL p m s <;> rfl
theorem SK (N : Nat) (hN : N ≤ 1000000) (h20 : 100 ≤ N) {p : Aa} {m : Ac} (hp : A4 p) (hm : Bp p m) {s : Ad} (h : s ∈ EW p) :
  DE N s p.fa p.fh p.fq p.fc m.fd m.fb m.fe = some (!((A5 p m s).2 == 0)) := by
 obtain ⟨hv, hx⟩ := NX hp h
 unfold DE
 obtain ⟨o, e, _⟩ := Mj N hN h20 hp hm hv hx
 have e' : F0 N ⟨p.fa, p.fh, p.fq, p.fc⟩ ⟨m.fd, m.fb, m.fe⟩ s = some (o, (EL p m s).isSome) := e
 rw [e', Xo hv hx]; rfl
theorem Uh (N : Nat) (hN : N ≤ 1000000) (a : List Ad) (f : Ad → Option Bool) (g : Ad → Bool) (h : a.length < N) (hf : ∀ x, x ∈ a → f x = some (g x)) :
  BS N a f = some ((CC (fun i x => if g x = true then some (i : Int) else none) 0 a).getD (-1)) := by
 unfold BS
 have := Ck (A2 N a f fun _ => some (-1)) a (some (-1)) (fun i x => if g x = true then some (i : Int) else none)
  (fun n i x hx => by
   have hi := (lI.1 hx).1
   rw [A2, AC (by omega), AV, hx]
   simp only [oS]
   rw [hf x (lM hx), AE (by omega)]
   simp only [oS]
   cases g x <;> rfl)
  (fun n => by rw [A2, Ay (by simp)]) N 0 (zA9 _) (by omega)
 refine this.trans ?_
 rw [zC4]
 cases CC (fun i x => if g x = true then some (i : Int) else none) 0 a <;> rfl
theorem P4 {α : Type} {l : List α} {i : Nat} {v : α} (h : i < l.length) : (l.set i v).take (i + 1) = l.take i ++ [v] := by
 rw [zE2, List.take_set_of_le (zB1 i)]
 congr 1
 simp [h]
theorem SP (N : Nat) (hN : N ≤ 1000000) (a : List Ad) (f : Ad → Option Bool) (g : Ad → Bool) (h : a.length < N) (h9 : a.length ≤ 1000) (hf : ∀ x, x ∈ a → f x = some (g x)) :
  ∃ X n, BN N a f = some (n, X) ∧ n ≤ X.length ∧ X.take n = a.filter fun x => !g x := by
 unfold BN
 rw [Uh N hN a f g h hf]
 simp only [oS]
 cases hs : CC (fun i x => if g x = true then some (i : Int) else none) 0 a with
 | none =>
  refine ⟨a, a.length, rfl, zB1 _, ?_⟩
  rw [zI0]
  symm
  rw [List.filter_eq_self]
  intro x hx
  obtain ⟨j, hj⟩ := zB3.1 hx
  have := EB hs j x hj
  cases hg : g x
  ·rfl
  ·rw [hg] at this; cases this
 | some r =>
  obtain ⟨j, x, hx, hr⟩ := DJ hs
  rw [zA3] at hr
  split at hr
  ·rename_i hg
   cases hr
   have hj := (lI.1 hx).1
   have e0 : ((some (j : Int)).getD (-1) == (-1 : Int)) = false := beq_eq_false_iff_ne.2 (by simp only [zC6]; omega)
   rw [e0, Ao]
   simp only [zC6]
   rw [AE (by omega)]
   -- what lies before the first that goes is kept
   have hpre : (a.take (j + 1)).filter (fun x => !g x) = a.take j := by
    rw [zE2, hx, zF5]
    have h1 : (a.take j).filter (fun x => !g x) = a.take j := by
     rw [List.filter_eq_self]
     intro y hy
     obtain ⟨q, hq⟩ := zB3.1 hy
     have hql := (lI.1 hq).1
     simp at hql
     rw [zC9 (by omega)] at hq
     cases hgy : g y
     ·rfl
     ·exfalso
      have : ∀ (xs : List Ad) (i j q : Nat) (y : Ad), CC (fun i x => if g x = true then some (i : Int) else none) i xs = some ((i + j : Nat) : Int) → q < j → xs[q]? = some y → g y = true → False := by
       intro xs
       induction xs with
       | nil => intro i j q y _ _ hq; simp at hq
       | cons z zs ih =>
        intro i j q y hs hqj hq hgy
        rw [FF] at hs
        cases hz : g z
        ·rw [hz] at hs
         cases q with
         | zero => simp at hq; subst hq; rw [hz] at hgy; cases hgy
         | succ q =>
          cases j with
          | zero => omega
          | succ j => exact ih (i + 1) j q y (by rw [show i + 1 + j = i + (j + 1) from by omega]; exact hs) (by omega) (by simpa using hq) hgy
        ·rw [hz] at hs
         have hs : (some (i : Int)) = some ((i + j : Nat) : Int) := hs
         have := Option.some.inj hs
         omega
      exact this a 0 j q y (by rw [zA3]; exact hs) (by omega) hq hgy
    rw [h1]
    simp [hg]
   obtain ⟨b, e, hb⟩ := Fy (AW N f fun v4 => (DH ((0 : Int) ≤ v4.2 ∧ (v4.2).toNat ≤ v4.1.length ∧ v4.1.length ≤ v4.1.length)).bind fun _ =>
     (DH ((0 : Int) ≤ v4.2 ∧ 0 ≤ (v4.2).toNat ∧ (v4.2).toNat ≤ (Ji v4.1 ((v4.2).toNat) (zA6 ((v4.1.length - (v4.2).toNat)) ((Ad.mk 0 0 0)))).length)).bind fun _ =>
     some ((v4.2).toNat, Ji v4.1 ((v4.2).toNat) (zA6 ((v4.1.length - (v4.2).toNat)) ((Ad.mk 0 0 0)))))
    (fun (b : List Ad × Nat) i => (b.1, ((b.2 : Nat) : Int), i)) a.length (fun b => (DH ((0 : Int) ≤ ((b.2 : Nat) : Int) ∧ (((b.2 : Nat) : Int)).toNat ≤ b.1.length ∧ b.1.length ≤ b.1.length)).bind fun _ =>
     (DH ((0 : Int) ≤ ((b.2 : Nat) : Int) ∧ 0 ≤ (((b.2 : Nat) : Int)).toNat ∧ (((b.2 : Nat) : Int)).toNat ≤ (Ji b.1 ((((b.2 : Nat) : Int)).toNat) (zA6 ((b.1.length - (((b.2 : Nat) : Int)).toNat)) ((Ad.mk 0 0 0)))).length)).bind fun _ =>
     some ((((b.2 : Nat) : Int)).toNat, Ji b.1 ((((b.2 : Nat) : Int)).toNat) (zA6 ((b.1.length - (((b.2 : Nat) : Int)).toNat)) ((Ad.mk 0 0 0)))))
    (fun i b => b.1.length = a.length ∧ b.2 ≤ i ∧ b.1.drop i = a.drop i ∧ b.1.take b.2 = (a.take i).filter fun x => !g x)
    (fun n i b hi hb => by
     obtain ⟨b1, b2, b3, b4⟩ := hb
     rw [AW, AC (by simp only; omega)]
     have hai : a[i]? = some a[i] := by simp [hi]
     have hbi : b.1[i]? = some a[i] := by
      have := congrArg (fun l => l[0]?) b3
      simp only [zF4, zF7] at this
      rw [this, hai]
     simp only [Bl, AV, hbi, oS]
     rw [hf a[i] (zE9 hi), AE (i := i) (by omega)]
     simp only [oS]
     have hnext : b.1.drop (i + 1) = a.drop (i + 1) := by
      have := congrArg (List.drop 1) b3
      rwa [List.drop_drop, List.drop_drop] at this
     cases hgi : g a[i]
     ·rw [zE6, AP]
      have hbj : b.1[b.2]? = some b.1[b.2] := by simp [show b.2 < b.1.length from by omega]
      rw [hbj, AE (i := b.2) (by omega)]
      refine ⟨(b.1.set b.2 a[i], b.2 + 1), rfl, by simpa using b1, by simp only; omega, ?_, ?_⟩
      ·simp only
       rw [List.drop_set_of_lt (by omega), hnext]
      ·simp only
       rw [P4 (by omega), b4, zE2, hai, zF5]
       simp [hgi]
     ·rw [zC3, Ao]
      refine ⟨b, rfl, b1, by omega, hnext, ?_⟩
      rw [b4, zE2, hai, zF5]
      simp [hgi])
    (fun n b hb => by rw [AW, Ay (by simp [hb.1])]) N (j + 1) (a, j) (by omega) (by omega) ⟨rfl, by simp only; omega, rfl, hpre.symm⟩
   obtain ⟨b1, b2, b3, b4⟩ := hb
   have e' : AW N f (fun v4 => (DH ((0 : Int) ≤ v4.2 ∧ (v4.2).toNat ≤ v4.1.length ∧ v4.1.length ≤ v4.1.length)).bind fun _ =>
     (DH ((0 : Int) ≤ v4.2 ∧ 0 ≤ (v4.2).toNat ∧ (v4.2).toNat ≤ (Ji v4.1 ((v4.2).toNat) (zA6 ((v4.1.length - (v4.2).toNat)) ((Ad.mk 0 0 0)))).length)).bind fun _ =>
     some ((v4.2).toNat, Ji v4.1 ((v4.2).toNat) (zA6 ((v4.1.length - (v4.2).toNat)) ((Ad.mk 0 0 0))))) N (a, (j : Int), ((j + 1 : Nat) : Int)) = _ := e
   rw [e']
   have hsl : (Ji b.1 b.2 (zA6 (b.1.length - b.2) (Ad.mk 0 0 0))).length = b.1.length := JO (by rw [List.length_replicate]; omega)
   simp only [zA7]
   rw [Au ⟨by omega, by omega, zB1 _⟩, Au ⟨by omega, by omega, by rw [hsl]; omega⟩]
   refine ⟨_, _, rfl, by rw [hsl]; omega, ?_⟩
   unfold Ji
   rw [zD7, List.take_append_of_le_length (by simp; omega), List.take_take, Nat.min_self, b4, zI0]
  ·cases hr
theorem T9 (N : Nat) (hN : N ≤ 1000000) (h20 : 100 ≤ N) {p : Aa} {m : Ac} (hv : BG p = 0) (hm : Bp p m) : Gv N p m = some (F4 p m, 0) := by
 obtain ⟨hp, _⟩ := CW hv
 unfold Gv
 rw [Ja N p m hN (by omega) (MV hm), IK hv hm]
 simp only [oS, bne_self_eq_false, Ao]
 rw [Sn N hN h20 hp]
 simp only [oS]
 have hl := UN hp
 obtain ⟨X, n, e, h1, h2⟩ := SP N hN (EW p) (fun x => DE N x p.fa p.fh p.fq p.fc m.fd m.fb m.fe) (fun s => !((A5 p m s).2 == 0)) (by omega) (by omega) (fun x hx => SK N hN h20 hp hm hx)
 rw [e]
 simp only [oS]
 rw [Au h1, h2]
 unfold F4
 simp
theorem IN {β : Type} (g : Nat → List β) : ∀ n : Nat, Bz (fun i (_ : Nat) => g i) 0 (zB4 n) = (zB4 n).flatMap g
 | 0 => rfl
 | n + 1 => by rw [zG4, Nn, IN g n, zJ6]; simp [Bz]
def XL (p : Aa) (m : Ac) (s : Ad) : Bool := (A5 p m s).2 == 0
def gS (p : Aa) (m : Ac) (k : Int) (i v : Nat) : List Ad := if XL p m ⟨k, (i : Int), (v : Int)⟩ = true then [⟨k, (i : Int), (v : Int)⟩] else []
def bS (p : Aa) (m : Ac) (k : Int) (i : Nat) : List Ad := (zB4 6).flatMap (gS p m k i)
def T0 (p : Aa) : Nat := max p.fa.length p.fc.length
def kS (p : Aa) (m : Ac) (k : Int) : List Ad := (zB4 (T0 p)).flatMap (bS p m k)
theorem LH {β : Type} (f : Nat → β) (q : β → Bool) : ∀ n : Nat, ((zB4 n).flatMap fun v => if q (f v) = true then [f v] else []) = ((zB4 n).map f).filter q
 | 0 => rfl
 | n + 1 => by
  rw [zG4, zJ6, LH f q n, zF0, zF5]
  cases h : q (f n) <;> simp [h]
theorem LG {β : Type} (g : Nat → List β) (a : Nat) (h : ∀ v, a ≤ v → g v = []) : ∀ n, a ≤ n → (zB4 n).flatMap g = (zB4 a).flatMap g
 | 0, hn => by rw [Nat.le_zero.1 hn]
 | n + 1, hn => by
  by_cases h1 : a = n + 1
  ·rw [h1]
  ·rw [zG4, zJ6, LG g a h n (by omega)]
   simp [h n (by omega)]
theorem WH (p : Aa) (m : Ac) (k : Int) (i v : Nat) : (gS p m k i v).length ≤ 1 := by unfold gS; split <;> simp
theorem XF (p : Aa) (m : Ac) (k : Int) (i : Nat) : (bS p m k i).length ≤ 6 := by
 unfold bS
 rw [← IN]
 have := Ga (g := fun i' (_ : Nat) => gS p m k i i') (c := 1) (i := 0) (xs := zB4 6) fun j x _ => WH p m k i _
 simpa using this
theorem ab {p : Aa} (hp : A4 p) (m : Ac) (k : Int) : (kS p m k).length ≤ 72 := by
 have h1 := hp.nv
 have h2 := hp.nt
 unfold kS
 rw [← IN]
 have := Ga (g := fun i' (_ : Nat) => bS p m k i') (c := 6) (i := 0) (xs := zB4 (T0 p)) fun j x _ => XF p m k _
 simp only [zH8] at this
 have h3 : T0 p ≤ 12 := by unfold T0; omega
 omega
theorem ax {p : Aa} {m : Ac} {s : Ad} (h : XL p m s = true) : F2 s = true ∧ Fb p s = true := by
 unfold XL A5 at h
 split at h
 ·cases h
 ·rename_i h1
  split at h
  ·cases h
  ·rename_i h2
   exact ⟨by simpa using h1, by simpa using h2⟩
theorem M1 {p : Aa} {m : Ac} {k : Int} {i v : Nat} (h : XL p m ⟨k, (i : Int), (v : Int)⟩ = true) : (k = 3 → i < p.fc.length) ∧ (k ≠ 3 → i < p.fa.length) ∧ (k = 1 → (v : Int) < p.fa.getD i 0) ∧ (k ≠ 1 → v = 0) := by
 obtain ⟨h1, h2⟩ := ax h
 obtain ⟨a1, a2, a3, a4, a5⟩ := Ix h1
 obtain ⟨b1, b2, b3⟩ := Jo h2
 simp only [zA7] at *
 exact ⟨fun e => by have := b1 e; omega, fun e => by have := b2 e; omega, b3, fun e => by have := a5 e; omega⟩
theorem Wn {p : Aa} (hp : A4 p) (m : Ac) : kS p m 1 ++ kS p m 2 ++ kS p m 3 = F4 p m := by
 have hnv := hp.nv
 have hnt := hp.nt
 unfold F4 EW
 rw [zF5, zF5]
 have e1 : kS p m 1 = (Bz JW 0 p.fa).filter fun s => (A5 p m s).2 == 0 := by
  unfold kS
  rw [LG (bS p m 1) p.fa.length (fun i hi => by
   unfold bS
   rw [zL9]
   intro v _
   unfold gS
   rw [if_neg]
   intro h
   have := (M1 h).2.1 (by decide)
   omega) (T0 p) (by unfold T0; omega)]
  have e : ∀ (xs : List Int) (i : Nat), (∀ j x, xs[j]? = some x → 1 ≤ x ∧ x ≤ 6 ∧ p.fa.getD (i + j) 0 = x) → ((zB4 xs.length).flatMap fun j => bS p m 1 (i + j)) = (Bz JW i xs).filter fun s => (A5 p m s).2 == 0 := by
   intro xs
   induction xs with
   | nil => intro i _; rfl
   | cons x xs ih =>
    intro i hx
    rw [zC5, List.range_succ_eq_map, List.flatMap_cons, List.flatMap_map, Bz, zF5]
    have ih' := ih (i + 1) (fun j y hy => by
     have := hx (j + 1) y (by simpa using hy)
     rw [show i + 1 + j = i + (j + 1) from by omega]; exact this)
    have hx0 := hx 0 x rfl
    rw [zF7] at hx0
    congr 1
    ·rw [zF7]
     unfold bS JW
     rw [LG (gS p m 1 i) x.toNat (fun v hv => by
      unfold gS
      rw [if_neg]
      intro h
      have := (M1 h).2.2.1 rfl
      rw [hx0.2.2] at this
      omega) 6 (by omega)]
     exact LH (fun v => (⟨1, (i : Int), ((v : Nat) : Int)⟩ : Ad)) (XL p m) x.toNat
    ·rw [← ih']
     congr 1
     funext j
     rw [show i + (j + 1) = i + 1 + j from by omega]
  have := e p.fa 0 (fun j x hx => by
   have h1 := hp.ver x (lM hx)
   refine ⟨h1.1, h1.2, ?_⟩
   rw [zA3, lD, hx]; rfl)
  simp only [zA3] at this
  exact this
 have e23 : ∀ (k : Int) (n : Nat), k ≠ 1 → n ≤ T0 p → (∀ i v, XL p m ⟨k, ((i : Nat) : Int), ((v : Nat) : Int)⟩ = true → i < n) → kS p m k = (((zB4 n).map fun i => (⟨k, ((i : Nat) : Int), 0⟩ : Ad)).filter fun s => (A5 p m s).2 == 0) := by
  intro k n hk hn hi
  unfold kS
  rw [LG (bS p m k) n (fun i hi' => by
   unfold bS
   rw [zL9]
   intro v _
   unfold gS
   rw [if_neg]
   intro h
   have := hi i v h
   omega) (T0 p) hn]
  show _ = List.filter (XL p m) _
  rw [← LH (fun i => (⟨k, ((i : Nat) : Int), 0⟩ : Ad)) (XL p m) n]
  congr 1
  funext i
  unfold bS
  rw [LG (gS p m k i) 1 (fun v hv => by
   unfold gS
   rw [if_neg]
   intro h
   have := (M1 h).2.2.2 hk
   omega) 6 (by omega)]
  simp [gS]
 rw [e1, e23 2 p.fa.length (by decide) (by unfold T0; omega) (fun i v h => (M1 h).2.1 (by decide)), e23 3 p.fc.length (by decide) (by unfold T0; omega) (fun i v h => (M1 h).1 rfl)]
theorem Su (a b : Nat) : Vj (a : Int) (b : Int) = ((max a b : Nat) : Int) := by
 unfold Vj
 omega
theorem Rs (N : Nat) (hN : N ≤ 1000000) (h20 : 100 ≤ N) {p : Aa} {m : Ac} (hv : BG p = 0) (hm : Bp p m) : EZ N p m = some (F4 p m) := by
 obtain ⟨hp, _⟩ := CW hv
 have hnv := hp.nv
 have hnt := hp.nt
 have hmx : T0 p ≤ 12 := by unfold T0; omega
 unfold EZ
 have hmix := IK hv hm
 -- one number
 have inn : ∀ (k : Int) (c0 a : List Ad) (i : Nat) (d0 : List Ad) (j : List Ad → Option (List Ad)), a.length ≤ 1000 →
   Cc N p m (c0, k) (d0, (i : Int)) j N (a, 0) = j (a ++ bS p m k i) := by
  intro k c0 a i d0 j ha
  have := FG (Cc N p m (c0, k) (d0, (i : Int)) j) (fun a i => (a, i)) (zB4 6) j (fun v _ => gS p m k i v) 1 2000
   (fun v x _ => WH _ _ _ _ _)
   (fun n v x a hx hl => by
    have hi := (lI.1 hx).1
    simp only [zH8] at hi
    rw [Cc, AC (by simp only; omega)]
    simp only [Bl]
    rw [RH N hN h20 (MV hm), if_pos hmix]
    simp only [oS, AE (show v < 1000000 by omega)]
    unfold gS XL
    cases hq : (A5 p m ⟨k, (i : Int), (v : Int)⟩).2 == 0
    ·rw [Ao, if_neg (by simp), zH1]
    ·rw [AP, if_pos rfl, Au (by simp [C2]; unfold gS XL at hl; rw [hq] at hl; simp at hl; omega)])
   (fun n a => by rw [Cc, Ay (by simp)]) N a (by simp; omega) (by simp; omega)
  rw [IN] at this
  exact this
 have mid : ∀ (k : Int) (c0 a : List Ad) (j : List Ad → Option (List Ad)), a.length ≤ 500 →
   Cd N p m (c0, k) j N (a, 0) = j (a ++ kS p m k) := by
  intro k c0 a j ha
  have := FG (Cd N p m (c0, k) j) (fun a i => (a, i)) (zB4 (T0 p)) j (fun i _ => bS p m k i) 6 900
   (fun v x _ => XF _ _ _ _)
   (fun n i x a hx hl => by
    have hi := (lI.1 hx).1
    simp only [zH8] at hi
    rw [Cd, AC (by simp only; rw [Su]; unfold T0 at hi; omega)]
    rw [inn k c0 a i a _ (by omega)]
    simp only [AE (show i < 1000000 by omega)])
   (fun n a => by rw [Cd, Ay (by simp [Su, T0])]) N a (by simp; omega) (by simp; omega)
  rw [IN] at this
  exact this
 have hk := ab hp m
 have go : ∀ (k : Int) (n : Nat) (a : List Ad), k ≤ 3 → 1 ≤ k → a.length ≤ 300 → Bw N p m (fun v2 => some v2) (n + 1) (a, k) = Bw N p m (fun v2 => some v2) n (a ++ kS p m k, k + 1) := by
  intro k n a h1 h2 ha
  rw [Bw, AC h1]
  rw [mid k a a _ (by omega), CH (by omega) (by omega)]
 obtain ⟨N', hN'⟩ : ∃ q, N = q + 4 := ⟨N - 4, by omega⟩
 have e0 : Bw N p m (fun v2 => some v2) N ([], 1) = Bw N p m (fun v2 => some v2) (N' + 4) ([], 1) := by rw [hN']
 rw [e0, go 1 (N' + 3) [] (by decide) (by decide) (by simp), zG5]
 rw [show (1 : Int) + 1 = 2 from rfl, go 2 (N' + 2) _ (by decide) (by decide) (by have := hk 1; omega)]
 rw [show (2 : Int) + 1 = 3 from rfl, go 3 (N' + 1) _ (by decide) (by decide) (by have h1 := hk 1; have h2 := hk 2; rw [zB2]; omega)]
 rw [Bw, Ay (by simp), Wn hp]
end Go.Lift
namespace Go.Lift
open List renaming mem_of_getElem? → lM
open List renaming getElem?_eq_some_iff → lI
namespace Bfs
section
variable {α σ : Type}
def code (rk : σ → Nat) (K : Nat) (w : List σ) : Nat := w.foldl (fun c s => c * K + rk s) 0
theorem Jp (rk : σ → Nat) (K : Nat) (w : List σ) (s : σ) : code rk K (w ++ [s]) = code rk K w * K + rk s := by
 simp [code]
theorem Tn (rk : σ → Nat) (K : Nat) : code rk K ([] : List σ) = 0 := rfl
def Dig (rk : σ → Nat) (K : Nat) (w : List σ) : Prop := ∀ s, s ∈ w → 1 ≤ rk s ∧ rk s ≤ K
theorem Dig.snoc {rk : σ → Nat} {K : Nat} {w : List σ} {s : σ} (h : Dig rk K w) (hs : 1 ≤ rk s ∧ rk s ≤ K) : Dig rk K (w ++ [s]) := by
 intro x hx; rcases zC2.1 hx with h1 | h1
 ·exact h x h1
 ·rw [zD6.1 h1]; exact hs
theorem U6 {c d K a b : Nat} (h : c < d) (_ : 1 ≤ b) (ha : a ≤ K) : c * K + a < d * K + b := by
 have : c * K + K ≤ d * K := by rw [← zC1]; exact zA4 K h
 omega
theorem XO {c d K a : Nat} (h : c ≤ d) : c * K + a ≤ d * K + a := Nat.add_le_add_right (zA4 K h) a
theorem list_snoc {β : Type} (l : List β) : l = [] ∨ ∃ u s, l = u ++ [s] := by
 cases h : l.reverse with
 | nil => exact .inl (List.reverse_eq_nil_iff.1 h)
 | cons s r => exact .inr ⟨r.reverse, s, by rw [← List.reverse_cons, ← h, List.reverse_reverse]⟩
abbrev Nd (α σ : Type) := α × Int × σ
def put [DecidableEq α] (i : Nat) (l : List (Nd α σ)) (q : σ × α) : List (Nd α σ) := if (l.any fun n => decide (n.1 = q.2)) = true then l else l ++ [(q.2, (i : Int), q.1)]
def inner [DecidableEq α] (most i : Nat) : List (σ × α) → List (Nd α σ) → Option (List (Nd α σ))
 | [], l => some l
 | q :: qs, l => if most < (put i l q).length then none else inner most i qs (put i l q)
def go [DecidableEq α] (nxt : α → List (σ × α)) (most : Nat) : Nat → Nat → List (Nd α σ) → Option (List (Nd α σ))
 | 0, _, _ => none
 | n + 1, i, l => match l[i]? with
  | none => some l
  | some nd => (inner most i (nxt nd.1) l).bind fun l' => go nxt most n (i + 1) l'
structure Inv (nxt : α → List (σ × α)) (rk : σ → Nat) (K : Nat) (root : α) (i : Nat) (done : List (σ × α)) (l : List (Nd α σ)) (ws : List (List σ)) : Prop where
 len : ws.length = l.length
 root : ∃ s, l[0]? = some (root, -1, s)
 root' : ws[0]? = some []
 par : ∀ (k : Nat) x f s, 0 < k → l[k]? = some (x, f, s) → ∃ (j : Nat) (y : α) (g : Int) (t : σ) (w : List σ), f = (j : Int) ∧ j < k ∧ l[j]? = some (y, g, t) ∧ (s, x) ∈ nxt y ∧ ws[j]? = some w ∧ ws[k]? = some (w ++ [s]) ∧ (j < i ∨ (j = i ∧ (s, x) ∈ done))
 nodup : ∀ (a b : Nat) x f s g t, l[a]? = some (x, f, s) → l[b]? = some (x, g, t) → a = b
 inc : ∀ (a b : Nat) u w, ws[a]? = some u → ws[b]? = some w → a < b → code rk K u < code rk K w
 dig : ∀ (k : Nat) w, ws[k]? = some w → Dig rk K w
 closed : ∀ (j : Nat) x f s w, l[j]? = some (x, f, s) → ws[j]? = some w → ∀ q, (j < i ∧ q ∈ nxt x) ∨ (j = i ∧ q ∈ done) → ∃ (k : Nat) (f' : Int) (s' : σ) (w' : List σ), l[k]? = some (q.2, f', s') ∧ ws[k]? = some w' ∧ code rk K w' ≤ code rk K (w ++ [q.1])
theorem get_app {β : Type} {l : List β} {y x : β} {k : Nat} (h : (l ++ [y])[k]? = some x) : l[k]? = some x ∨ (k = l.length ∧ x = y) := by
 rcases Nat.lt_trichotomy k l.length with h1 | h1 | h1
 ·rw [zC8 h1] at h; exact .inl h
 ·subst h1; simp at h; exact .inr ⟨rfl, h.symm⟩
 ·rw [zD1 (by simp; omega)] at h; cases h
theorem get_app_of {β : Type} {l : List β} {y x : β} {k : Nat} (h : l[k]? = some x) : (l ++ [y])[k]? = some x := by
 rw [zC8 ((lI.1 h).1)]; exact h
theorem get_app_new {β : Type} {l : List β} {y : β} : (l ++ [y])[l.length]? = some y := by simp
theorem lt_get {β : Type} {l : List β} {k : Nat} {x : β} (h : l[k]? = some x) : k < l.length := (lI.1 h).1
theorem get_ex {β : Type} {l : List β} {k : Nat} (h : k < l.length) : ∃ x, l[k]? = some x := ⟨l[k], zC0 h⟩
theorem Yf [DecidableEq α] {nxt : α → List (σ × α)} {rk : σ → Nat} {K : Nat} {root : α} {i : Nat} {done : List (σ × α)} {l : List (Nd α σ)} {ws : List (List σ)} {x : α} {f : Int} {s : σ} {q : σ × α}
  (hI : Inv nxt rk K root i done l ws) (hx : l[i]? = some (x, f, s)) (hq : q ∈ nxt x) (hd : ∀ r, r ∈ done → rk r.1 < rk q.1) (hr : 1 ≤ rk q.1 ∧ rk q.1 ≤ K) :
  ∃ ws', Inv nxt rk K root i (done ++ [q]) (put i l q) ws' ∧ (∀ (k : Nat) w, ws[k]? = some w → ws'[k]? = some w) ∧ (∀ (k : Nat) n, l[k]? = some n → (put i l q)[k]? = some n) := by
 obtain ⟨w0, hw0⟩ := get_ex (l := ws) (k := i) (by rw [hI.len]; exact lt_get hx)
 unfold put
 by_cases hin : (l.any fun n => decide (n.1 = q.2)) = true
 ·rw [if_pos hin]
  refine ⟨ws, ⟨hI.len, hI.root, hI.root', ?_, hI.nodup, hI.inc, hI.dig, ?_⟩, fun _ _ h => h, fun _ _ h => h⟩
  ·intro k y g t hk hy
   obtain ⟨j, y', g', t', w, h1, h2, h3, h4, h5, h6, h7⟩ := hI.par k y g t hk hy
   exact ⟨j, y', g', t', w, h1, h2, h3, h4, h5, h6, h7.imp id fun h => ⟨h.1, zF2 _ h.2⟩⟩
  ·intro j y g t w hy hw r hr'
   by_cases hold : (j < i ∧ r ∈ nxt y) ∨ (j = i ∧ r ∈ done)
   ·exact hI.closed j y g t w hy hw r hold
   ·have hjr : j = i ∧ r = q := by
     rcases hr' with h | ⟨h1, h2⟩
     ·exact absurd (.inl h) hold
     ·rcases zC2.1 h2 with h3 | h3
      ·exact absurd (.inr ⟨h1, h3⟩) hold
      ·exact ⟨h1, zD6.1 h3⟩
    obtain ⟨rfl, rfl⟩ := hjr
    rw [hw0] at hw; cases hw
    obtain ⟨n, hn1, hn2⟩ := zE0.1 hin
    obtain ⟨k, hk⟩ := zB3.1 hn1
    obtain ⟨nx, nf, ns⟩ := n
    have hn2 : nx = r.2 := of_decide_eq_true hn2
    subst hn2
    obtain ⟨wk, hwk⟩ := get_ex (l := ws) (k := k) (by rw [hI.len]; exact lt_get hk)
    refine ⟨k, nf, ns, wk, hk, hwk, ?_⟩
    rw [Jp]
    rcases zH4 k with rfl | hk0
    ·rw [hI.root'] at hwk; cases hwk; rw [Tn]; omega
    ·obtain ⟨j', y', g', t', w, h1, h2, h3, h4, h5, h6, h7⟩ := hI.par k _ _ _ hk0 hk
     rw [h6] at hwk; cases hwk
     rw [Jp]
     have hdg : 1 ≤ rk ns ∧ rk ns ≤ K := hI.dig k _ h6 ns (by simp)
     rcases h7 with h7 | ⟨h7, h8⟩
     ·exact Nat.le_of_lt (U6 (hI.inc _ _ _ _ h5 hw0 h7) hr.1 hdg.2)
     ·subst h7; rw [hw0] at h5; cases h5
      have := hd _ h8
      simp only at this; omega
 ·rw [if_neg hin]
  have hnew : ∀ (k : Nat) y g t, l[k]? = some (y, g, t) → y ≠ q.2 := fun k y g t hy e => hin (zE0.2 ⟨_, lM hy, decide_eq_true e⟩)
  have hbig : ∀ (k : Nat) u, ws[k]? = some u → code rk K u < code rk K (w0 ++ [q.1]) := by
   intro k u hu
   rw [Jp]
   obtain ⟨⟨nx, nf, ns⟩, hk⟩ := get_ex (l := l) (k := k) (by rw [← hI.len]; exact lt_get hu)
   rcases zH4 k with rfl | hk0
   ·rw [hI.root'] at hu; cases hu; rw [Tn]; omega
   ·obtain ⟨j', y', g', t', w, h1, h2, h3, h4, h5, h6, h7⟩ := hI.par k _ _ _ hk0 hk
    rw [h6] at hu; cases hu
    rw [Jp]
    have hdg : 1 ≤ rk ns ∧ rk ns ≤ K := hI.dig k _ h6 ns (by simp)
    rcases h7 with h7 | ⟨h7, h8⟩
    ·exact U6 (hI.inc _ _ _ _ h5 hw0 h7) hr.1 hdg.2
    ·subst h7; rw [hw0] at h5; cases h5
     have := hd _ h8
     simp only at this; omega
  refine ⟨ws ++ [w0 ++ [q.1]], ⟨by simp [hI.len], ?_, get_app_of hI.root', ?_, ?_, ?_, ?_, ?_⟩, fun _ _ h => get_app_of h, fun _ _ h => get_app_of h⟩
  ·obtain ⟨s0, hs0⟩ := hI.root; exact ⟨s0, get_app_of hs0⟩
  ·intro k y g t hk hy
   rcases get_app hy with hy | ⟨hk1, hy⟩
   ·obtain ⟨j, y', g', t', w, h1, h2, h3, h4, h5, h6, h7⟩ := hI.par k y g t hk hy
    exact ⟨j, y', g', t', w, h1, h2, get_app_of h3, h4, get_app_of h5, get_app_of h6, h7.imp id fun h => ⟨h.1, zF2 _ h.2⟩⟩
   ·cases hy
    refine ⟨i, x, f, s, w0, rfl, by rw [hk1]; exact lt_get hx, get_app_of hx, hq, get_app_of hw0, by rw [hk1, ← hI.len]; exact get_app_new, .inr ⟨rfl, by simp⟩⟩
  ·intro a b y g t g' t' ha hb
   rcases get_app ha with ha | ⟨ha1, ha⟩ <;> rcases get_app hb with hb | ⟨hb1, hb⟩
   ·exact hI.nodup a b y g t g' t' ha hb
   ·cases hb; exact absurd rfl (hnew _ _ _ _ ha)
   ·cases ha; exact absurd rfl (hnew _ _ _ _ hb)
   ·omega
  ·intro a b u w ha hb hab
   rcases get_app ha with ha | ⟨ha1, ha⟩ <;> rcases get_app hb with hb | ⟨hb1, hb⟩
   ·exact hI.inc a b u w ha hb hab
   ·rw [hb]; exact hbig _ _ ha
   ·have := lt_get hb; omega
   ·omega
  ·intro k w hw
   rcases get_app hw with hw | ⟨hw1, hw⟩
   ·exact hI.dig k w hw
   ·rw [hw]; exact (hI.dig _ _ hw0).snoc hr
  ·intro j y g t w hy hw r hr'
   rcases get_app hy with hy1 | ⟨hy1, hy2⟩
   ·have hw1 : ws[j]? = some w := by
     rcases get_app hw with h | ⟨h, _⟩
     ·exact h
     ·have := lt_get hy1; rw [← hI.len] at this; omega
    by_cases hold : (j < i ∧ r ∈ nxt y) ∨ (j = i ∧ r ∈ done)
    ·obtain ⟨k, f', s', w', h1, h2, h3⟩ := hI.closed j y g t w hy1 hw1 r hold
     exact ⟨k, f', s', w', get_app_of h1, get_app_of h2, h3⟩
    ·have hjr : j = i ∧ r = q := by
      rcases hr' with h | ⟨h1, h2⟩
      ·exact absurd (.inl h) hold
      ·rcases zC2.1 h2 with h3 | h3
       ·exact absurd (.inr ⟨h1, h3⟩) hold
       ·exact ⟨h1, zD6.1 h3⟩
     obtain ⟨rfl, rfl⟩ := hjr
     rw [hw0] at hw1; cases hw1
     exact ⟨l.length, _, _, _, get_app_new, by rw [← hI.len]; exact get_app_new, zB1 _⟩
   ·have := lt_get hx
    rcases hr' with h | h <;> omega
theorem Qr [DecidableEq α] {nxt : α → List (σ × α)} {rk : σ → Nat} {K : Nat} {root : α} {i most : Nat} {x : α} {f : Int} {s : σ} (hP : (nxt x).Pairwise fun a b => rk a.1 < rk b.1) (hD : ∀ q, q ∈ nxt x → 1 ≤ rk q.1 ∧ rk q.1 ≤ K) :
  ∀ (qs done : List (σ × α)) (l l' : List (Nd α σ)) (ws : List (List σ)), done ++ qs = nxt x → Inv nxt rk K root i done l ws → l[i]? = some (x, f, s) → inner most i qs l = some l' →
   ∃ ws', Inv nxt rk K root i (nxt x) l' ws' ∧ (∀ (k : Nat) w, ws[k]? = some w → ws'[k]? = some w) ∧ (∀ (k : Nat) n, l[k]? = some n → l'[k]? = some n)
 | [], done, l, l', ws, he, hI, hx, h => by
  cases h; rw [zH1] at he; subst he; exact ⟨ws, hI, fun _ _ h => h, fun _ _ h => h⟩
 | q :: qs, done, l, l', ws, he, hI, hx, h => by
  have hqm : q ∈ nxt x := by rw [← he]; simp
  have hlt : ∀ r, r ∈ done → rk r.1 < rk q.1 := fun r hr => by
   rw [← he] at hP
   exact (zI5.1 hP).2.2 r hr q (by simp)
  obtain ⟨ws1, h1, h2, h3⟩ := Yf hI hx hqm hlt (hD q hqm)
  simp only [inner] at h
  split at h
  ·cases h
  ·obtain ⟨ws2, g1, g2, g3⟩ := Qr hP hD qs (done ++ [q]) _ l' ws1 (by rw [zD7]; exact he) h1 (h3 _ _ hx) h
   exact ⟨ws2, g1, fun k w hw => g2 k w (h2 k w hw), fun k n hn => g3 k n (h3 k n hn)⟩
theorem WB {nxt : α → List (σ × α)} {rk : σ → Nat} {K : Nat} {root : α} {i : Nat} {x : α} {f : Int} {s : σ} {l : List (Nd α σ)} {ws : List (List σ)} (h : Inv nxt rk K root i (nxt x) l ws) (hx : l[i]? = some (x, f, s)) : Inv nxt rk K root (i + 1) [] l ws := by
 refine ⟨h.len, h.root, h.root', ?_, h.nodup, h.inc, h.dig, ?_⟩
 ·intro k y g t hk hy
  obtain ⟨j, y', g', t', w, h1, h2, h3, h4, h5, h6, h7⟩ := h.par k y g t hk hy
  exact ⟨j, y', g', t', w, h1, h2, h3, h4, h5, h6, .inl (by rcases h7 with h7 | h7 <;> omega)⟩
 ·intro j y g t w hy hw r hr
  rcases hr with ⟨h1, h2⟩ | ⟨_, h2⟩
  ·refine h.closed j y g t w hy hw r ?_
   by_cases hj : j < i
   ·exact .inl ⟨hj, h2⟩
   ·have : j = i := by omega
    subst this; rw [hx] at hy; cases hy; exact .inr ⟨rfl, h2⟩
  ·cases h2
theorem inv_go [DecidableEq α] {nxt : α → List (σ × α)} {rk : σ → Nat} {K : Nat} {root : α} {most : Nat} (P : α → Prop) (hP : ∀ x, P x → (nxt x).Pairwise fun a b => rk a.1 < rk b.1) (hD : ∀ x, P x → ∀ q, q ∈ nxt x → (1 ≤ rk q.1 ∧ rk q.1 ≤ K) ∧ P q.2) (hroot : P root) :
  ∀ (n i : Nat) (l l' : List (Nd α σ)) (ws : List (List σ)), i ≤ l.length → Inv nxt rk K root i [] l ws → (∀ (k : Nat) x f s, l[k]? = some (x, f, s) → P x) → go nxt most n i l = some l' → ∃ ws', Inv nxt rk K root l'.length [] l' ws' ∧ (∀ (k : Nat) x f s, l'[k]? = some (x, f, s) → P x)
 | 0, i, l, l', ws, _, _, _, h => by cases h
 | n + 1, i, l, l', ws, hi, hI, hA, h => by
  simp only [go] at h
  split at h
  ·rename_i hn
   cases h
   have : i = l.length := by
    have := List.getElem?_eq_none_iff.1 hn; omega
   subst this
   exact ⟨ws, hI, hA⟩
  ·rename_i nd hn
   obtain ⟨x, f, s⟩ := nd
   cases hin : inner most i (nxt x) l with
   | none => rw [hin] at h; cases h
   | some l1 =>
    rw [hin] at h
    have hx := hA _ _ _ _ hn
    obtain ⟨ws1, h1, h2, h3⟩ := Qr (hP x hx) (fun q hq => (hD x hx q hq).1) (nxt x) [] l l1 ws rfl hI hn hin
    have hA1 : ∀ (k : Nat) y g t, l1[k]? = some (y, g, t) → P y := fun k y g t hy => by
     rcases zH4 k with rfl | hk
     ·obtain ⟨s0, hs0⟩ := h1.root; rw [hs0] at hy; cases hy; exact hroot
     ·obtain ⟨j, y', g', t', w, e1, e2, e3, e4, e5, e6, e7⟩ := h1.par k y g t hk hy
      have hj : P y' := by
       have hjl : j < l.length := by rcases e7 with h | h <;> have := lt_get hn <;> omega
       obtain ⟨⟨z, zf, zs⟩, hz⟩ := get_ex hjl
       have := h3 _ _ hz
       rw [e3] at this; cases this
       exact hA _ _ _ _ hz
      exact (hD y' hj _ e4).2
    exact inv_go P hP hD hroot n (i + 1) l1 l' ws1 (by have := lt_get (h3 _ _ hn); omega) (WB h1 (h3 _ _ hn)) hA1 h
theorem inv_start {nxt : α → List (σ × α)} {rk : σ → Nat} {K : Nat} {root : α} {s : σ} : Inv nxt rk K root 0 [] [(root, -1, s)] [[]] := by
 refine ⟨rfl, ⟨s, rfl⟩, rfl, ?_, ?_, ?_, ?_, ?_⟩
 ·intro k x f s hk h; rw [zD1 (by simp; omega)] at h; cases h
 ·intro a b x f s g t ha hb; have := lt_get ha; have := lt_get hb; simp at *; omega
 ·intro a b u w ha hb hab; have := lt_get hb; simp at this; omega
 ·intro k w hw
  have := lt_get hw; simp at this; subst this; simp at hw; subst hw
  intro s hs; cases hs
 ·intro j x f s w _ _ q h
  rcases h with h | h
  ·omega
  ·cases h.2
def run (nxt : α → List (σ × α)) (x : α) : List σ → α → Prop
 | [], y => y = x
 | s :: w, y => ∃ z, (s, z) ∈ nxt x ∧ run nxt z w y
theorem Gs {nxt : α → List (σ × α)} : ∀ {u w : List σ} {x y : α}, run nxt x (u ++ w) y ↔ ∃ z, run nxt x u z ∧ run nxt z w y
 | [], w, x, y => by simp [run]
 | s :: u, w, x, y => by
  simp only [zH2, run]
  constructor
  ·rintro ⟨z, h1, h2⟩
   obtain ⟨z', h3, h4⟩ := Gs.1 h2
   exact ⟨z', ⟨z, h1, h3⟩, h4⟩
  ·rintro ⟨z', ⟨z, h1, h3⟩, h4⟩
   exact ⟨z, h1, Gs.2 ⟨z', h3, h4⟩⟩
theorem way_run {nxt : α → List (σ × α)} {rk : σ → Nat} {K : Nat} {root : α} {i : Nat} {l : List (Nd α σ)} {ws : List (List σ)} (h : Inv nxt rk K root i [] l ws) : ∀ (n k : Nat) {x : α} {f : Int} {s : σ} {w : List σ}, k < n → l[k]? = some (x, f, s) → ws[k]? = some w → run nxt root w x
 | 0, k, _, _, _, _, hk, _, _ => by omega
 | n + 1, k, x, f, s, w, hk, hx, hw => by
  rcases zH4 k with rfl | hk0
  ·obtain ⟨s0, hs0⟩ := h.root; rw [hs0] at hx; cases hx
   rw [h.root'] at hw; cases hw; rfl
  ·obtain ⟨j, y', g', t', w', e1, e2, e3, e4, e5, e6, e7⟩ := h.par k _ _ _ hk0 hx
   rw [e6] at hw; cases hw
   exact Gs.2 ⟨y', way_run h n j (by omega) e3 e5, x, e4, rfl⟩
theorem reach_node {nxt : α → List (σ × α)} {rk : σ → Nat} {K : Nat} {root : α} {l : List (Nd α σ)} {ws : List (List σ)} (h : Inv nxt rk K root l.length [] l ws) : ∀ (n : Nat) {w : List σ} {y : α}, w.length = n → run nxt root w y → ∃ (k : Nat) (f : Int) (s : σ) (u : List σ), l[k]? = some (y, f, s) ∧ ws[k]? = some u ∧ code rk K u ≤ code rk K w
 | 0, w, y, hn, hr => by
  rw [List.length_eq_zero_iff.1 hn] at hr ⊢
  simp only [run] at hr; subst hr
  obtain ⟨s, hs⟩ := h.root
  exact ⟨0, _, _, _, hs, h.root', zB1 _⟩
 | n + 1, w, y, hn, hr => by
  rcases list_snoc w with rfl | ⟨w', s, rfl⟩
  ·simp at hn
  obtain ⟨z, h1, h2⟩ := Gs.1 hr
  simp only [run] at h2
  obtain ⟨z', h2, rfl⟩ := h2
  simp only [zB2, zB8] at hn
  obtain ⟨k, f, t, u, g1, g2, g3⟩ := reach_node h n (by omega) h1
  obtain ⟨k', f', s', u', e1, e2, e3⟩ := h.closed k z f t u g1 g2 (s, y) (.inl ⟨lt_get g1, h2⟩)
  refine ⟨k', f', s', u', e1, e2, zG3 e3 ?_⟩
  rw [Jp, Jp]
  exact XO g3
theorem PC [DecidableEq α] {most more i : Nat} (hm : most ≤ more) : ∀ (qs : List (σ × α)) (l l' : List (Nd α σ)), inner most i qs l = some l' → inner more i qs l = some l'
 | [], l, l', h => h
 | q :: qs, l, l', h => by
  simp only [inner] at h ⊢
  split at h
  ·cases h
  ·rw [if_neg (by omega)]; exact PC hm qs _ _ h
theorem go_more [DecidableEq α] {nxt : α → List (σ × α)} {most more : Nat} (hm : most ≤ more) : ∀ (n m i : Nat) (l l' : List (Nd α σ)), n ≤ m → go nxt most n i l = some l' → go nxt more m i l = some l'
 | 0, m, i, l, l', _, h => by cases h
 | n + 1, m, i, l, l', hnm, h => by
  obtain ⟨m, rfl⟩ : ∃ k, m = k + 1 := ⟨m - 1, by omega⟩
  simp only [go] at h ⊢
  cases hl : l[i]? with
  | none => rw [hl] at h; exact h
  | some nd =>
   rw [hl] at h
   simp only at h ⊢
   cases hin : inner most i (nxt nd.1) l with
   | none => rw [hin] at h; cases h
   | some l1 =>
    rw [hin] at h
    rw [PC hm _ _ _ hin]
    exact go_more hm n m (i + 1) l1 l' (by omega) h
theorem inner_len [DecidableEq α] {most i : Nat} : ∀ (qs : List (σ × α)) (l l' : List (Nd α σ)), l.length ≤ most → inner most i qs l = some l' → l'.length ≤ most
 | [], l, l', h0, h => by cases h; exact h0
 | q :: qs, l, l', h0, h => by
  simp only [inner] at h
  split at h
  ·cases h
  ·exact inner_len qs _ _ (by omega) h
theorem go_len [DecidableEq α] {nxt : α → List (σ × α)} {most : Nat} : ∀ (n i : Nat) (l l' : List (Nd α σ)), l.length ≤ most → go nxt most n i l = some l' → l'.length ≤ most
 | 0, i, l, l', _, h => by cases h
 | n + 1, i, l, l', h0, h => by
  simp only [go] at h
  split at h
  ·cases h; exact h0
  ·rename_i nd hn
   cases hin : inner most i (nxt nd.1) l with
   | none => rw [hin] at h; cases h
   | some l1 => rw [hin] at h; exact go_len n (i + 1) l1 l' (inner_len _ _ _ h0 hin) h
end
end Bfs
end Go.Lift
namespace Go.Lift
open IntKind renaming wrap → wI
open Option renaming bind_some → oS
open List renaming mem_of_getElem? → lM
open List renaming getElem?_eq_some_iff → lI
open List renaming getD_eq_getElem?_getD → lD
open Go
theorem SQ : ∀ {l : List Int}, Z5 l = 0 → ∀ x, x ∈ l → x = 0
 | [], _, x, hx => by cases hx
 | y :: ys, h, x, hx => by
  unfold Z5 at h
  split at h
  ·rename_i hy
   rcases zB6.1 hx with rfl | hx
   ·exact hy
   ·exact SQ h x hx
  ·rename_i hy; exact absurd h hy
theorem Qz {a b : Ac} (h : T1 a b = 0) : a = b := by
 have := SQ h
 have h1 := OA _ _ (this (Jb a.fd b.fd) (by simp))
 have h2 := OA _ _ (this (Jb a.fb b.fb) (by simp))
 have h3 := OA _ _ (this (Jb a.fe b.fe) (by simp))
 cases a; cases b; simp only at h1 h2 h3; subst h1; subst h2; subst h3; rfl
instance dH : DecidableEq Ac := fun a b => if h : T1 a b = 0 then isTrue (Qz h) else isFalse (fun e => h (by rw [e]; exact QN b))
theorem WS (a b : Ac) : (T1 a b == 0) = decide (a = b) := by
 by_cases h : a = b
 ·rw [decide_eq_true h, h, QN]; rfl
 ·rw [decide_eq_false h]
  exact beq_eq_false_iff_ne.2 fun e => h (Qz e)
def QO (p : Aa) (m : Ac) (ss : List Ad) : List (Ad × Ac) := ss.filterMap fun s => if Br p (A5 p m s).1 = true then some (s, (A5 p m s).1) else none
def IU (p : Aa) (m : Ac) : List (Ad × Ac) := QO p m (F4 p m)
def MK (s : Ad) : Nat := if s.fg = 1 then 1 + 8 * s.fi.toNat + s.fo.toNat else if s.fg = 2 then 60 + s.fi.toNat else 70 + s.fi.toNat
theorem IL {p : Aa} {m : Ac} {s : Ad} (h : s ∈ F4 p m) : s ∈ EW p ∧ (A5 p m s).2 = 0 := by
 unfold F4 at h
 have := List.mem_filter.1 h
 exact ⟨this.1, by simpa using this.2⟩
theorem UT {p : Aa} {m : Ac} {ss : List Ad} {q : Ad × Ac} : q ∈ QO p m ss ↔ q.1 ∈ ss ∧ q.2 = (A5 p m q.1).1 ∧ Br p q.2 = true := by
 unfold QO
 rw [List.mem_filterMap]
 constructor
 ·rintro ⟨s, h1, h2⟩
  split at h2
  ·rename_i h3; cases h2; exact ⟨h1, rfl, h3⟩
  ·cases h2
 ·rintro ⟨h1, h2, h3⟩
  refine ⟨q.1, h1, ?_⟩
  rw [← h2, if_pos h3]
theorem M2 {p : Aa} {m : Ac} {q : Ad × Ac} : q ∈ IU p m ↔ q.1 ∈ F4 p m ∧ q.2 = (A5 p m q.1).1 ∧ Br p q.2 = true := UT
theorem TE {p : Aa} {m : Ac} (hp : A4 p) (hm : Bp p m) {q : Ad × Ac} (h : q ∈ IU p m) : Bp p q.2 ∧ Br p q.2 = true := by
 obtain ⟨h1, h2, h3⟩ := M2.1 h
 exact ⟨by rw [h2]; exact L0 hp hm (IL h1).2, h3⟩
theorem O0 {p : Aa} (hp : A4 p) {s : Ad} (h : s ∈ EW p) : s.fg ≤ 3 ∧ 1 ≤ MK s ∧ MK s ≤ 100 := by
 obtain ⟨h1, h2⟩ := NX hp h
 obtain ⟨a1, a2, a3, a4, a5⟩ := Ix h1
 obtain ⟨b1, b2, b3⟩ := Jo h2
 have hnv := hp.nv
 have hnt := hp.nt
 have hk : s.fg ≤ 3 := by
  unfold EW at h
  rcases zC2.1 h with h | h
  ·rcases zC2.1 h with h | h
   ·obtain ⟨j, x, hx, hk⟩ := Gd.1 h
    unfold JW at hk
    obtain ⟨v, hv, rfl⟩ := zB5.1 hk
    exact (by decide : (1 : Int) ≤ 3)
   ·obtain ⟨v, hv, rfl⟩ := zB5.1 h
    exact (by decide : (2 : Int) ≤ 3)
  ·obtain ⟨v, hv, rfl⟩ := zB5.1 h
   exact (by decide : (3 : Int) ≤ 3)
 refine ⟨hk, ?_⟩
 unfold MK
 by_cases h1 : s.fg = 1
 ·rw [if_pos h1]
  have := b2 (by omega)
  have h3 := b3 h1
  have h4 := (IZ hp (i := s.fi.toNat) (by omega)).2
  omega
 ·rw [if_neg h1]
  by_cases h2 : s.fg = 2
  ·rw [if_pos h2]
   have := b2 (by omega)
   omega
  ·rw [if_neg h2]
   have := b1 (by omega)
   omega
theorem YY (i : Nat) (n : Int) : (JW i n).Pairwise fun a b => MK a < MK b := by
 unfold JW
 rw [zL1]
 refine List.Pairwise.imp ?_ zJ8
 intro a b h
 simp [MK]; omega
theorem YP {p : Aa} (hp : A4 p) : (EW p).Pairwise fun a b => MK a < MK b := by
 have hnv := hp.nv
 have hnt := hp.nt
 have e1 : ∀ (xs : List Int) (i : Nat), (∀ x, x ∈ xs → x ≤ 6) → (Bz JW i xs).Pairwise fun a b => MK a < MK b := by
  intro xs
  induction xs with
  | nil => intro i _; exact List.Pairwise.nil
  | cons x xs ih =>
   intro i hx
   rw [Bz, zI5]
   refine ⟨YY i x, ih (i + 1) fun y hy => hx y (zG8 _ hy), ?_⟩
   intro a ha b hb
   unfold JW at ha
   obtain ⟨v, hv, rfl⟩ := zB5.1 ha
   obtain ⟨j, y, hy, hb⟩ := Gd.1 hb
   unfold JW at hb
   obtain ⟨w, hw, rfl⟩ := zB5.1 hb
   have := hx x (by simp)
   have := zD8.1 hv
   simp [MK]; omega
 unfold EW
 rw [zI5, zI5]
 refine ⟨⟨e1 _ 0 fun x hx => (hp.ver x hx).2, ?_, ?_⟩, ?_, ?_⟩
 ·rw [zL1]
  refine List.Pairwise.imp ?_ zJ8
  intro a b h
  simp [MK]; omega
 ·intro a ha b hb
  obtain ⟨w, hw, rfl⟩ := zB5.1 hb
  obtain ⟨j, y, hy, ha⟩ := Gd.1 ha
  unfold JW at ha
  obtain ⟨v, hv, rfl⟩ := zB5.1 ha
  have := zD8.1 hv
  have := (hp.ver y (lM hy)).2
  have := (lI.1 hy).1
  simp [MK]; omega
 ·rw [zL1]
  refine List.Pairwise.imp ?_ zJ8
  intro a b h
  simp [MK]; omega
 ·intro a ha b hb
  obtain ⟨w, hw, rfl⟩ := zB5.1 hb
  have hw := zD8.1 hw
  rcases zC2.1 ha with ha | ha
  ·obtain ⟨j, y, hy, ha⟩ := Gd.1 ha
   unfold JW at ha
   obtain ⟨v, hv, rfl⟩ := zB5.1 ha
   have := zD8.1 hv
   have := (hp.ver y (lM hy)).2
   have := (lI.1 hy).1
   simp [MK]; omega
  ·obtain ⟨v, hv, rfl⟩ := zB5.1 ha
   have := zD8.1 hv
   simp [MK]; omega
theorem ac {p : Aa} {m : Ac} {ss : List Ad} (h : ss.Pairwise fun a b => MK a < MK b) : (QO p m ss).Pairwise fun a b => MK a.1 < MK b.1 := by
 unfold QO
 rw [List.pairwise_filterMap]
 refine List.Pairwise.imp ?_ h
 intro a b hab x hx y hy
 split at hx
 ·cases hx
  split at hy
  ·cases hy; exact hab
  ·cases hy
 ·cases hx
theorem ZS {p : Aa} (hp : A4 p) (m : Ac) : (IU p m).Pairwise fun a b => MK a.1 < MK b.1 := ac ((YP hp).filter _)
theorem X2 {p : Aa} {s : Ad} (hv : F2 s = true) (hx : Fb p s = true) (hk : s.fg ≠ 4) : s ∈ EW p := by
 obtain ⟨a1, a2, a3, a4, a5⟩ := Ix hv
 obtain ⟨b1, b2, b3⟩ := Jo hx
 obtain ⟨k, i, v⟩ := s
 simp only at *
 unfold EW
 obtain ⟨i, rfl⟩ := zA8 a3
 by_cases h1 : k = 1
 ·subst h1
  have h2 := b2 (by decide)
  have h3 := b3 rfl
  obtain ⟨v, rfl⟩ := zA8 a4
  refine zF2 _ (zF2 _ (Gd.2 ⟨i, p.fa.getD i 0, ?_, ?_⟩))
  ·rw [lD]
   have hi : i < p.fa.length := by omega
   simp [hi]
  ·unfold JW
   refine zB5.2 ⟨v, zD8.2 ?_, by simp⟩
   simp only [zA7] at h3
   omega
 ·have hv0 := a5 h1
  subst hv0
  by_cases h2 : k = 2
  ·subst h2
   have := b2 (by decide)
   exact zF2 _ (List.mem_append_right _ (zB5.2 ⟨i, zD8.2 (by omega), rfl⟩))
  ·have h3 : k = 3 := by omega
   subst h3
   have := b1 rfl
   exact List.mem_append_right _ (zB5.2 ⟨i, zD8.2 (by omega), rfl⟩)
theorem Qd {p : Aa} {m x : Ac} {s : Ad} : JP p m s = some x → (s, x) ∈ IU p m := by
 intro h
 obtain ⟨h1, h2, h3, h4, h5⟩ := Kl.1 h
 unfold JP at h
 split at h
 ·rename_i h6
  cases h
  refine M2.2 ⟨?_, rfl, h6.2.2⟩
  unfold F4
  exact List.mem_filter.2 ⟨X2 h1 h2 h4, by simpa using h6.1⟩
 ·cases h
theorem Vs {p : Aa} (hp : A4 p) {m x : Ac} {s : Ad} (h : (s, x) ∈ IU p m) : JP p m s = some x := by
 obtain ⟨h1, h2, h3⟩ := M2.1 h
 have h1 : s ∈ F4 p m := h1
 obtain ⟨h4, h5⟩ := IL h1
 have := (O0 hp h4).1
 have h2 : x = (A5 p m s).1 := h2
 have h3 : Br p x = true := h3
 unfold JP
 rw [if_pos ⟨h5, by omega, by rw [← h2]; exact h3⟩, h2]
theorem MP {p : Aa} (hp : A4 p) : ∀ {w : List Ad} {m x : Ac}, Ld p m w = some x ↔ Bfs.run (IU p) m w x
 | [], m, x => by simp only [Ld, Bfs.run, Option.some.injEq]; exact eq_comm
 | s :: w, m, x => by
  simp only [Ld, Bfs.run]
  constructor
  ·intro h
   cases hs : JP p m s with
   | none => rw [hs] at h; cases h
   | some z => rw [hs] at h; exact ⟨z, Qd hs, (MP hp).1 h⟩
  ·rintro ⟨z, h1, h2⟩
   rw [Vs hp h1]
   exact (MP hp).2 h2
abbrev JS := Bfs.Nd Ac Ad
def K8 (n : JS) : AD := ⟨n.1, n.2.1, n.2.2⟩
def ML : Ad := ⟨0, 0, 0⟩
theorem WL {N : Nat} {p : Aa} {a b : Ac} (hN : N ≤ 1000000) (h20 : 100 ≤ N) (hp : A4 p) (ha : Bp p a) (hb : Bp p b) : ET N a b = some (decide (a = b)) := by
 have hnv := hp.nv
 have hnt := hp.nt
 unfold ET
 rw [S7 hN (by rw [ha.base]; omega) (by rw [ha.next]; omega) (by rw [ha.held]; omega) (by rw [hb.held]; omega) (MV ha) (MV hb)]
 simp only [oS]
 rw [WS]
theorem S4 {N : Nat} (hN : N ≤ 1000000) (h20 : 100 ≤ N) {p : Aa} (hp : A4 p) {x : Ac} (hx : Bp p x) {l : List JS} (hl : l.length < N) (hA : ∀ n, n ∈ l → Bp p n.1) :
  ∃ r, Ej N (l.map K8) x = some r ∧ decide (r < 0) = !(l.any fun n => decide (n.1 = x)) := by
 unfold Ej
 have := Ck (Cr N (l.map K8) x fun _ => some (-1)) l (some (-1)) (fun i n => if n.1 = x then some (i : Int) else none)
  (fun n i nd hnd => by
   have hi := (lI.1 hnd).1
   rw [Cr, AC (by rw [zB0]; omega), AV, zA1, hnd]
   simp only [zE1, oS, K8]
   have e := WL hN h20 hp (hA nd (lM hnd)) hx
   rw [show (Ac.mk nd.1.fd nd.1.fb nd.1.fe) = nd.1 from rfl, e, AE (by omega)]
   simp only [oS]
   by_cases h : nd.1 = x
   ·rw [decide_eq_true h, if_pos h]; rfl
   ·rw [decide_eq_false h, if_neg h]; rfl)
  (fun n => by rw [Cr, Ay (by simp)]) N 0 (zA9 _) (by omega)
 have e' : Cr N (l.map K8) x (fun _ => some (-1)) N 0 = _ := this
 rw [e', zC4]
 cases hs : CC (fun i (n : JS) => if n.1 = x then some (i : Int) else none) 0 l with
 | none =>
  refine ⟨_, rfl, ?_⟩
  have : (l.any fun n => decide (n.1 = x)) = false := by
   rw [zK4]
   intro n hn
   obtain ⟨j, hj⟩ := zB3.1 hn
   have := EB hs j n hj
   split at this
   ·cases this
   ·rename_i h; simpa using h
  rw [this]; rfl
 | some r =>
  refine ⟨_, rfl, ?_⟩
  obtain ⟨j, n, hj, hr⟩ := DJ hs
  split at hr
  ·rename_i h
   cases hr
   have : (l.any fun n => decide (n.1 = x)) = true := zE0.2 ⟨n, lM hj, decide_eq_true h⟩
   rw [this]
   exact decide_eq_false (by omega)
  ·cases hr
theorem SN {i : Nat} {l : List JS} {q : Ad × Ac} {k : Nat} {n : JS} (h : l[k]? = some n) : (Bfs.put i l q)[k]? = some n := by
 unfold Bfs.put
 split
 ·exact h
 ·exact Bfs.get_app_of h
theorem UD {i : Nat} {l : List JS} {q : Ad × Ac} {n : JS} (h : n ∈ Bfs.put i l q) : n ∈ l ∨ n.1 = q.2 := by
 unfold Bfs.put at h
 split at h
 ·exact .inl h
 ·rcases zC2.1 h with h | h
  ·exact .inl h
  ·rw [zD6.1 h]; exact .inr rfl
theorem Tg {p : Aa} {m : Ac} {s : Ad} {ss : List Ad} : QO p m (s :: ss) = if Br p (A5 p m s).1 = true then (s, (A5 p m s).1) :: QO p m ss else QO p m ss := by
 unfold QO
 rw [List.filterMap_cons]
 split <;> rename_i h
 ·split at h
  ·cases h
  ·rename_i h2; rw [if_neg h2]
 ·split at h
  ·rename_i h2; cases h; rw [if_pos h2]
  ·cases h
theorem KS {p : Aa} {most i : Nat} : ∀ {qs : List (Ad × Ac)} {l l' : List JS}, Bfs.inner most i qs l = some l' → (∀ q, q ∈ qs → Bp p q.2 ∧ Br p q.2 = true) → (∀ n, n ∈ l → Bp p n.1 ∧ Br p n.1 = true) → (∀ n, n ∈ l' → Bp p n.1 ∧ Br p n.1 = true) ∧ (∀ (k : Nat) n, l[k]? = some n → l'[k]? = some n)
 | [], l, l', h, _, hA => by cases h; exact ⟨hA, fun _ _ h => h⟩
 | q :: qs, l, l', h, hq, hA => by
  simp only [Bfs.inner] at h
  split at h
  ·cases h
  ·obtain ⟨h1, h2⟩ := KS h (fun q hq' => hq q (zG8 _ hq')) (fun n hn => by
    rcases UD hn with h | h
    ·exact hA n h
    ·rw [h]; exact hq q (by simp))
   exact ⟨h1, fun k n hn => h2 k n (SN hn)⟩
theorem RZ (N : Nat) (hN : N ≤ 1000000) (h20 : 100 ≤ N) {p : Aa} {m : Ac} (hp : A4 p) (hm : Bp p m) {s : Ad} (hs : s ∈ F4 p m) : ∃ b, CR N p m s = some ((A5 p m s).1, b) := by
 obtain ⟨h1, h2⟩ := IL hs
 obtain ⟨h3, h4⟩ := NX hp h1
 rw [Nc N hN h20 hp hm h3 h4]
 unfold A5 at h2 ⊢
 rw [h3, h4, if_neg (by simp), if_neg (by simp)] at h2 ⊢
 cases h : EL p m s with
 | none => rw [h] at h2; cases h2
 | some x => exact ⟨true, rfl⟩
theorem KN {N : Nat} (hN : N ≤ 1000000) (h20 : 100 ≤ N) {p : Aa} (hp : A4 p) {m : Ac} (hm : Bp p m) {f : Int} {t : Ad} {most i : Nat} (hmo : most ≤ 20000) {v1 : List AD × Int} (hv1 : v1.2 = (i : Int)) (ss : List Ad) (hss : ∀ s, s ∈ ss → s ∈ F4 p m) (hsl : ss.length ≤ 1000) (j : List AD → Option (List AD × Bool)) :
  ∀ (n k : Nat) (l : List JS), k ≤ ss.length → ss.length - k < n → l[i]? = some (m, f, t) → (∀ n, n ∈ l → Bp p n.1 ∧ Br p n.1 = true) → l.length ≤ most → (l.length < N ∧ most < N ∨ ∃ l', Bfs.inner most i (QO p m (ss.drop k)) l = some l' ∧ l'.length < N) →
   BP N p (most : Int) v1 ss j n (l.map K8, (k : Int)) = match Bfs.inner most i (QO p m (ss.drop k)) l with
    | none => some ([], false)
    | some l' => j (l'.map K8)
 | 0, k, l, _, h, _, _, _, _ => by omega
 | n + 1, k, l, hk, h, hi, hA, hlm, hfu => by
  by_cases h1 : k < ss.length
  ·have hs : ss[k]? = some ss[k] := by simp [h1]
   have hsm := hss _ (lM hs)
   have hl1 : l.length < N := by
    rcases hfu with h | ⟨l', h, h2⟩
    ·exact h.1
    ·have hk := (KS (p := p) h (fun q hq => by
      obtain ⟨g1, g2, g3⟩ := UT.1 hq
      exact ⟨by rw [g2]; exact L0 hp hm (IL (hss _ (List.mem_of_mem_drop g1))).2, g3⟩) hA).2
     by_cases h0 : l.length = 0
     ·omega
     ·have := hk (l.length - 1) l[l.length - 1] (by simp)
      have := (lI.1 this).1
      omega
   rw [BP, AC (by simp only; omega)]
   simp only [Bl, hv1, AV, zA1, hi, hs, zE1, oS, K8]
   obtain ⟨b, ea⟩ := RZ N hN h20 hp hm hsm
   rw [show (Ac.mk m.fd m.fb m.fe) = m from rfl, ea]
   simp only [oS]
   have hxo := L0 hp hm (IL hsm).2
   rw [Mo N p _ hN h20 hp hxo]
   simp only [oS]
   rw [GE hs, Tg] at hfu ⊢
   cases hr : Br p (A5 p m ss[k]).1
   ·rw [hr] at hfu
    rw [Ao, Ao, if_neg (by simp), Ay (by rw [zB0]; omega), AE (by omega)]
    rw [if_neg (by simp)] at hfu
    exact KN hN h20 hp hm hmo hv1 ss hss hsl j n (k + 1) l (by omega) (by omega) hi hA hlm hfu
   ·rw [hr] at hfu
    rw [AP, if_pos rfl]
    rw [if_pos rfl] at hfu
    obtain ⟨r, er, hr2⟩ := S4 hN h20 hp hxo hl1 (fun n hn => (hA n hn).1)
    have er' : Ej N (l.map fun n => AD.mk n.1 n.2.1 n.2.2) (A5 p m ss[k]).1 = some r := er
    have em : (l.map fun n : JS => AD.mk n.1 n.2.1 n.2.2) = l.map K8 := rfl
    rw [← em, er']
    simp only [oS]
    rw [hr2]
    have hput : Bfs.put i l (ss[k], (A5 p m ss[k]).1) = if (l.any fun n => decide (n.1 = (A5 p m ss[k]).1)) = true then l else l ++ [((A5 p m ss[k]).1, (i : Int), ss[k])] := rfl
    simp only [Bfs.inner] at hfu ⊢
    have hA2 : ∀ n, n ∈ Bfs.put i l (ss[k], (A5 p m ss[k]).1) → Bp p n.1 ∧ Br p n.1 = true := fun n hn => by
     rcases UD hn with h | h
     ·exact hA n h
     ·rw [h]; exact ⟨hxo, hr⟩
    have hi2 : (Bfs.put i l (ss[k], (A5 p m ss[k]).1))[i]? = some (m, f, t) := SN hi
    have main : (AR (decide ((most : Int) < (((Bfs.put i l (ss[k], (A5 p m ss[k]).1)).map K8).length : Int))) (some (([] : List AD), false)) (BP N p (most : Int) v1 ss j n ((Bfs.put i l (ss[k], (A5 p m ss[k]).1)).map K8, (wI .i64 ((k : Int) + 1))))) =
      match (if most < (Bfs.put i l (ss[k], (A5 p m ss[k]).1)).length then none else Bfs.inner most i (QO p m (ss.drop (k + 1))) (Bfs.put i l (ss[k], (A5 p m ss[k]).1))) with
      | none => some ([], false)
      | some l' => j (l'.map K8) := by
     by_cases hb : most < (Bfs.put i l (ss[k], (A5 p m ss[k]).1)).length
     ·rw [if_pos hb, AC (by rw [zB0]; omega)]
     ·rw [if_neg hb] at hfu
      rw [if_neg hb, Ay (by rw [zB0]; omega), AE (by omega)]
      exact KN hN h20 hp hm hmo hv1 ss hss hsl j n (k + 1) _ (by omega) (by omega) hi2 hA2 (by omega) (hfu.imp (fun h => ⟨by omega, h.2⟩) id)
    cases hin : (l.any fun n => decide (n.1 = (A5 p m ss[k]).1))
    ·rw [hin] at hput
     rw [zE6, AP, Au (by simp [C2]; omega)]
     rw [if_neg (by simp)] at hput
     rw [hput, zF0] at main
     rw [hput]
     exact main
    ·rw [hin] at hput
     rw [zC3, Ao]
     rw [if_pos rfl] at hput
     rw [hput] at main
     rw [hput]
     exact main
  ·have : k = ss.length := by omega
   subst this
   rw [BP, Ay (by simp), zD9 (zB1 _)]
   rfl
theorem UF {p : Aa} {m : Ac} (hm : Bp p m) (hr : Br p m = true) : ∀ n, n ∈ ([(m, -1, ML)] : List JS) → Bp p n.1 ∧ Br p n.1 = true := fun n hn => by
 rw [zD6.1 hn]; exact ⟨hm, hr⟩
theorem QY {p : Aa} (hp : A4 p) (m : Ac) : (F4 p m).length ≤ 54 := zG3 (List.length_filter_le _ _) (UN hp)
theorem LE {N : Nat} (hN : N ≤ 1000000) (h20 : 100 ≤ N) {p : Aa} (hv : BG p = 0) {most : Nat} (hmo : most ≤ 20000) (j : List AD → Option (List AD × Bool)) :
  ∀ (n i : Nat) (l : List JS), i ≤ l.length → (∀ n, n ∈ l → Bp p n.1 ∧ Br p n.1 = true) → l.length ≤ most → (most < N ∧ most < n + i ∨ ∃ l', Bfs.go (IU p) most n i l = some l' ∧ l'.length < N) →
   BR N p (most : Int) j n (l.map K8, (i : Int)) = match Bfs.go (IU p) most n i l with
    | none => some ([], false)
    | some l' => j (l'.map K8)
 | 0, i, l, hi, _, hlm, hfu => by
  rcases hfu with h | ⟨l', h, _⟩
  ·omega
  ·cases h
 | n + 1, i, l, hi, hA, hlm, hfu => by
  obtain ⟨hp, _⟩ := CW hv
  simp only [Bfs.go] at hfu ⊢
  rw [BR]
  by_cases h1 : i < l.length
  ·obtain ⟨⟨m, f, t⟩, hx⟩ := Bfs.get_ex h1
   have hm := (hA _ (lM hx)).1
   rw [hx] at hfu ⊢
   simp only at hfu ⊢
   rw [AC (by rw [zB0]; omega)]
   simp only [AV, zA1, hx, zE1, oS, K8]
   rw [show (Ac.mk m.fd m.fb m.fe) = m from rfl, Rs N hN h20 hv hm]
   simp only [oS]
   have hgo : QO p m ((F4 p m).drop 0) = IU p m := rfl
   have hsl := QY hp m
   have e := KN hN h20 hp hm hmo (v1 := (l.map K8, (i : Int))) rfl (F4 p m) (fun s hs => hs) (by omega) (fun (v7 : (List AD)) =>
    BR N p (most : Int) j n (v7, (wI .i64 ((i : Int) + 1)))) N 0 l (zA9 _) (by omega) hx hA hlm (by
     rcases hfu with ⟨g1, g2⟩ | ⟨l', h, hl'⟩
     ·exact .inl ⟨by omega, g1⟩
     ·right
      rw [hgo]
      cases hin : Bfs.inner most i (IU p m) l with
      | none => rw [hin] at h; cases h
      | some l1 =>
       rw [hin] at h
       refine ⟨l1, rfl, ?_⟩
       have : l1.length ≤ l'.length := by
        have : ∀ (n i : Nat) (l l' : List JS), Bfs.go (IU p) most n i l = some l' → l.length ≤ l'.length := by
         intro n
         induction n with
         | zero => intro i l l' h; cases h
         | succ n ih =>
          intro i l l' h
          simp only [Bfs.go] at h
          split at h
          ·cases h; exact zB1 _
          ·rename_i nd _
           cases hin : Bfs.inner most i (IU p nd.1) l with
           | none => rw [hin] at h; cases h
           | some l1 =>
            rw [hin] at h
            refine zG3 ?_ (ih _ _ _ h)
            have : ∀ (qs : List (Ad × Ac)) (l l1 : List JS), Bfs.inner most i qs l = some l1 → l.length ≤ l1.length := by
             intro qs
             induction qs with
             | nil => intro l l1 h; cases h; exact zB1 _
             | cons q qs ih =>
              intro l l1 h
              simp only [Bfs.inner] at h
              split at h
              ·cases h
              ·refine zG3 ?_ (ih _ _ h)
               unfold Bfs.put; split
               ·exact zB1 _
               ·simp
            exact this _ _ _ hin
        exact this _ _ _ _ h
       omega)
   have e' : BP N p (most : Int) (l.map K8, (i : Int)) (F4 p m) (fun (v7 : (List AD)) => BR N p (most : Int) j n (v7, (wI .i64 ((i : Int) + 1)))) N (l.map K8, 0) = _ := e
   rw [e', hgo]
   cases hin : Bfs.inner most i (IU p m) l with
   | none => rfl
   | some l1 =>
    rw [hin] at hfu
    obtain ⟨k1, k2⟩ := KS hin (fun q hq => TE hp hm hq) hA
    have := (lI.1 (k2 _ _ hx)).1
    simp only [oS] at hfu ⊢
    rw [AE (by omega)]
    exact LE hN h20 hv hmo j n (i + 1) l1 (by omega) k1 (Bfs.inner_len _ _ _ hlm hin) (hfu.imp (fun h => ⟨h.1, by omega⟩) id)
  ·have hi' : i = l.length := by omega
   subst hi'
   rw [zD1 (zB1 _)]
   rw [Ay (by simp)]
def JL (p : Aa) (m : Ac) (most n : Nat) : Option (List JS) := Bfs.go (IU p) most n 0 [(m, -1, ML)]
theorem Rv {N : Nat} (hN : N ≤ 1000000) (h20 : 100 ≤ N) {p : Aa} (hv : BG p = 0) {m : Ac} (hm : Bp p m) (hr : Br p m = true) {most : Nat} (hmo : most ≤ 20000) (h1 : 1 ≤ most) (hfu : most < N ∨ ∃ l', JL p m most N = some l' ∧ l'.length < N) :
  D2 N p m (most : Int) = some (match JL p m most N with
   | none => ([], false)
   | some l' => (l'.map K8, true)) := by
 unfold D2
 have e := LE hN h20 hv hmo (fun (v2 : (List AD)) => some (v2, true)) N 0 [(m, -1, ML)] (zA9 _) (UF hm hr) h1 (hfu.imp (fun h => ⟨h, by omega⟩) id)
 have e' : BR N p (most : Int) (fun (v2 : (List AD)) => some (v2, true)) N (([(AD.mk m ((-1)) ((Ad.mk 0 0 0)))] : List AD), 0) = _ := e
 rw [e']
 unfold JL
 cases Bfs.go (IU p) most N 0 [(m, -1, ML)] <;> rfl
structure ZY (p : Aa) (m : Ac) (l : List JS) (ws : List (List Ad)) : Prop where
 inv : Bfs.Inv (IU p) MK 100 m l.length [] l ws
 ok : ∀ (k : Nat) x f s, l[k]? = some (x, f, s) → Bp p x ∧ Br p x = true
theorem Xl {p : Aa} (hp : A4 p) {m : Ac} (hm : Bp p m) (hr : Br p m = true) {most n : Nat} {l : List JS} (h : JL p m most n = some l) : ∃ ws, ZY p m l ws := by
 obtain ⟨ws, h1, h2⟩ := Bfs.inv_go (rk := MK) (K := 100) (fun x => Bp p x ∧ Br p x = true) (fun x _ => ZS hp x) (fun x hx q hq => by
  refine ⟨?_, TE hp hx.1 hq⟩
  exact (O0 hp (IL (M2.1 hq).1).1).2) ⟨hm, hr⟩ n 0 [(m, -1, ML)] l [[]] (zA9 _) Bfs.inv_start (fun k x f s hk => by
   have := Bfs.lt_get hk
   simp at this; subst this
   cases hk; exact ⟨hm, hr⟩) h
 exact ⟨ws, h1, h2⟩
theorem YH {p : Aa} (hp : A4 p) {m : Ac} {l : List JS} {ws : List (List Ad)} (h : ZY p m l ws) {k : Nat} {x : Ac} {f : Int} {s : Ad} {w : List Ad} (hx : l[k]? = some (x, f, s)) (hw : ws[k]? = some w) : Ld p m w = some x :=
 (MP hp).2 (Bfs.way_run h.inv (k + 1) k (Nat.lt_succ_self k) hx hw)
theorem Q1 {p : Aa} (hp : A4 p) {m x : Ac} {l : List JS} {ws : List (List Ad)} (h : ZY p m l ws) {w : List Ad} (hw : Ld p m w = some x) : ∃ (k : Nat) (f : Int) (s : Ad) (u : List Ad), l[k]? = some (x, f, s) ∧ ws[k]? = some u ∧ Bfs.code MK 100 u ≤ Bfs.code MK 100 w :=
 Bfs.reach_node h.inv w.length rfl ((MP hp).1 hw)
theorem RV {p : Aa} {m : Ac} {l : List JS} {ws : List (List Ad)} (h : ZY p m l ws) : ∀ (n k : Nat) {w : List Ad}, k < n → ws[k]? = some w → w.length ≤ k
 | 0, k, _, hk, _ => by omega
 | n + 1, k, w, hk, hw => by
  obtain ⟨⟨x, f, s⟩, hx⟩ := Bfs.get_ex (l := l) (k := k) (by rw [← h.inv.len]; exact Bfs.lt_get hw)
  rcases zH4 k with rfl | hk0
  ·rw [h.inv.root'] at hw; cases hw; exact zB1 _
  ·obtain ⟨j, y', g', t', w', e1, e2, e3, e4, e5, e6, e7⟩ := h.inv.par k _ _ _ hk0 hx
   rw [e6] at hw; cases hw
   have := RV h n j (by omega) e5
   simp; omega
def Lq (p : Aa) (l : List JS) : Option Nat := CC (fun i (n : JS) => if H6 p n.1 = true then some i else none) 0 l
theorem Qi {p : Aa} {l : List JS} {k : Nat} (h : Lq p l = some k) : (∃ x f s, l[k]? = some (x, f, s) ∧ H6 p x = true) ∧ ∀ j x f s, j < k → l[j]? = some (x, f, s) → H6 p x = false := by
 have : ∀ (xs : List JS) (i k : Nat), CC (fun i (n : JS) => if H6 p n.1 = true then some i else none) i xs = some (i + k) → (∃ x f s, xs[k]? = some (x, f, s) ∧ H6 p x = true) ∧ ∀ j x f s, j < k → xs[j]? = some (x, f, s) → H6 p x = false := by
  intro xs
  induction xs with
  | nil => intro i k h; cases h
  | cons n xs ih =>
   intro i k h
   rw [FF] at h
   cases hg : H6 p n.1
   ·rw [hg] at h
    simp only [Bool.false_eq_true, if_false] at h
    cases k with
    | zero =>
     exfalso
     obtain ⟨j, x, _, hj⟩ := DJ h
     split at hj
     ·have := Option.some.inj hj; omega
     ·cases hj
    | succ k =>
     obtain ⟨⟨x, f, s, h1, h2⟩, h3⟩ := ih (i + 1) k (by rw [show i + 1 + k = i + (k + 1) from by omega]; exact h)
     refine ⟨⟨x, f, s, by simpa using h1, h2⟩, ?_⟩
     intro j x f s hj hx
     cases j with
     | zero => simp at hx; subst hx; exact hg
     | succ j => exact h3 j x f s (by omega) (by simpa using hx)
   ·rw [hg] at h
    simp only [if_true, Option.some.injEq] at h
    have : k = 0 := by omega
    subst this
    exact ⟨⟨n.1, n.2.1, n.2.2, rfl, hg⟩, fun j _ _ _ hj => by omega⟩
 exact this l 0 k (by rw [zA3]; exact h)
theorem Vw {p : Aa} {l : List JS} (h : Lq p l = none) {k : Nat} {x : Ac} {f : Int} {s : Ad} (hx : l[k]? = some (x, f, s)) : H6 p x = false := by
 have := EB h k _ hx
 split at this
 ·cases this
 ·rename_i h; simpa using h
def PM (p : Aa) (l : List JS) (ws : List (List Ad)) : List Ad × Int := match Lq p l with
 | none => ([], 14)
 | some k => (ws.getD k [], 0)
def Ev (n : Az) : JS := (n.fp, n.ff, n.fu)
def JC (x : Ac) : List (Ac × Int) → Option Int
 | [] => none
 | e :: r => if x = e.1 then some e.2 else JC x r
def L5 (q : List (Ac × Int)) : List (ByteArray × Int) := q.map fun e => (CG (Lh e.1), e.2)
theorem Y0 {p : Aa} (hp : A4 p) {x y : Ac} (hx : Bp p x) (hy : Bp p y) : (CG (Lh x) == CG (Lh y)) = decide (x = y) := by
 by_cases h : x = y
 ·rw [decide_eq_true h, h, Ri]
 ·rw [decide_eq_false h]
  cases hb : CG (Lh x) == CG (Lh y)
  ·rfl
  ·exact absurd (YU hp hx hy hb) h
theorem Pk {p : Aa} (hp : A4 p) {x : Ac} (hx : Bp p x) : ∀ {q : List (Ac × Int)}, (∀ e, e ∈ q → Bp p e.1) → Ir (CG (Lh x)) (L5 q) = JC x q
 | [], _ => rfl
 | e :: q, h => by
  have ih := Pk hp hx (q := q) fun e he => h e (zG8 _ he)
  show (if (CG (Lh x) == CG (Lh e.1)) = true then some e.2 else Ir (CG (Lh x)) (L5 q)) = if x = e.1 then some e.2 else JC x q
  rw [Y0 hp hx (h e (by simp)), ih]
  by_cases h : x = e.1
  ·rw [decide_eq_true h, if_pos rfl, if_pos h]
  ·rw [decide_eq_false h, if_neg (by simp), if_neg h]
theorem Ly (x y : Ac) (r : Int) : ∀ q : List (Ac × Int), JC x (q ++ [(y, r)]) = match JC x q with
  | some v => some v
  | none => if x = y then some r else none
 | [] => rfl
 | e :: q => by
  simp only [zH2, JC]
  by_cases h : x = e.1
  ·rw [if_pos h, if_pos h]
  ·rw [if_neg h, if_neg h, Ly x y r q]
theorem WE (q : List (Ac × Int)) (x : Ac) (r : Int) : L5 (q ++ [(x, r)]) = L5 q ++ [(CG (Lh x), r)] := by simp [L5]
structure Oy (p : Aa) (q : List (Ac × Int)) (l : List JS) : Prop where
 ok : ∀ e, e ∈ q → Bp p e.1
 none : ∀ x, Bp p x → JC x q = none → ∀ n, n ∈ l → n.1 ≠ x
 some : ∀ x r, Bp p x → JC x q = some r → (r = -1 ∧ Br p x = false) ∨ ∃ (j : Nat) (f : Int) (s : Ad), r = (j : Int) ∧ l[j]? = some (x, f, s)
structure Mt (p : Aa) (i : Nat) (done : List (Ad × Ac)) (pl : List Az) : Prop where
 to : ∀ (b : Nat) nd, pl[b]? = some nd → ∀ r, r ∈ nd.fb → ∃ s y, ((b < i ∧ (s, y) ∈ IU p nd.fp) ∨ (b = i ∧ (s, y) ∈ done)) ∧ ∃ (a : Nat) (f : Int) (t : Ad), r = (a : Int) ∧ (pl.map Ev)[a]? = some (y, f, t)
 of : ∀ (b : Nat) nd, pl[b]? = some nd → ∀ s y, ((b < i ∧ (s, y) ∈ IU p nd.fp) ∨ (b = i ∧ (s, y) ∈ done)) → ∃ (a : Nat) (f : Int) (t : Ad), ((a : Nat) : Int) ∈ nd.fb ∧ (pl.map Ev)[a]? = some (y, f, t)
def L4 (pl : List Az) (i : Nat) (nd : Az) (r : Int) : List Az := if 0 ≤ r then pl.set i ⟨nd.fp, nd.ff, nd.fu, nd.fb ++ [r]⟩ else pl
theorem MR {pl : List Az} {i : Nat} {nd : Az} {r : Int} (h : pl[i]? = some nd) : (L4 pl i nd r).map Ev = pl.map Ev := by
 unfold L4
 split
 ·apply List.ext_getElem?
  intro k
  rw [zA1, zA1, zE7]
  by_cases hk : i = k
  ·subst hk
   rw [if_pos rfl, if_pos (Bfs.lt_get h), h]; rfl
  ·rw [if_neg hk]
 ·rfl
theorem LU {pl : List Az} {i : Nat} {nd : Az} {r : Int} (h : pl[i]? = some nd) {b : Nat} {nb : Az} (hb : (L4 pl i nd r)[b]? = some nb) : (b ≠ i ∧ pl[b]? = some nb) ∨ (b = i ∧ nb.fp = nd.fp ∧ nb.ff = nd.ff ∧ nb.fu = nd.fu ∧ nb.fb = if 0 ≤ r then nd.fb ++ [r] else nd.fb) := by
 unfold L4 at hb
 split at hb
 ·rename_i hr
  rw [zE7] at hb
  by_cases hk : i = b
  ·subst hk
   rw [if_pos rfl, if_pos (Bfs.lt_get h)] at hb
   cases hb
   exact .inr ⟨rfl, rfl, rfl, rfl, by rw [if_pos hr]⟩
  ·rw [if_neg hk] at hb
   exact .inl ⟨fun e => hk e.symm, hb⟩
 ·rename_i hr
  by_cases hk : b = i
  ·subst hk; rw [h] at hb; cases hb
   exact .inr ⟨rfl, rfl, rfl, rfl, by rw [if_neg hr]⟩
  ·exact .inl ⟨hk, hb⟩
theorem Sr {p : Aa} {i : Nat} {done : List (Ad × Ac)} {pl pl2 : List Az} {nd : Az} {s : Ad} {x : Ac} {a : Nat} {f : Int} {t : Ad} (h : Mt p i done pl)
  (hkeep : ∀ (b : Nat) nb, pl2[b]? = some nb → pl[b]? = some nb ∨ (i < b ∧ nb.fb = [])) (hk2 : ∀ (b : Nat) n, (pl.map Ev)[b]? = some n → (pl2.map Ev)[b]? = some n) (hi : pl2[i]? = some nd) (ha : (pl2.map Ev)[a]? = some (x, f, t)) : Mt p i (done ++ [(s, x)]) (L4 pl2 i nd (a : Int)) := by
 constructor
 ·intro b nb hb r hr
  rw [MR hi]
  rcases LU hi hb with ⟨h1, h2⟩ | ⟨h1, h2, h3, h4, h5⟩
  ·rcases hkeep b nb h2 with h3 | ⟨h3, h4⟩
   ·obtain ⟨s', y, g1, a', f', t', g2, g3⟩ := h.to b nb h3 r hr
    refine ⟨s', y, ?_, a', f', t', g2, hk2 _ _ g3⟩
    rcases g1 with g1 | g1
    ·exact .inl g1
    ·exact absurd g1.1 h1
   ·rw [h4] at hr; cases hr
  ·subst h1
   rw [h5, if_pos (zK3 a)] at hr
   rcases zC2.1 hr with hr | hr
   ·rcases hkeep b nd hi with h6 | ⟨h6, _⟩
    ·obtain ⟨s', y, g1, a', f', t', g2, g3⟩ := h.to b nd h6 r hr
     refine ⟨s', y, ?_, a', f', t', g2, hk2 _ _ g3⟩
     rcases g1 with g1 | g1
     ·exact .inl ⟨g1.1, by rw [h2]; exact g1.2⟩
     ·exact .inr ⟨rfl, zF2 _ g1.2⟩
    ·omega
   ·rw [zD6.1 hr]
    exact ⟨s, x, .inr ⟨rfl, by simp⟩, a, f, t, rfl, ha⟩
 ·intro b nb hb s' y hs
  rw [MR hi]
  rcases LU hi hb with ⟨h1, h2⟩ | ⟨h1, h2, h3, h4, h5⟩
  ·rcases hkeep b nb h2 with h3 | ⟨h3, h4⟩
   ·obtain ⟨a', f', t', g2, g3⟩ := h.of b nb h3 s' y (by
     rcases hs with hs | hs
     ·exact .inl hs
     ·exact absurd hs.1 h1)
    exact ⟨a', f', t', g2, hk2 _ _ g3⟩
   ·rcases hs with hs | hs <;> omega
  ·subst h1
   rw [h5, if_pos (zK3 a)]
   rcases hkeep b nd hi with h6 | ⟨h6, _⟩
   ·rcases hs with hs | ⟨_, hs⟩
    ·omega
    ·rcases zC2.1 hs with hs | hs
     ·obtain ⟨a', f', t', g2, g3⟩ := h.of b nd h6 s' y (.inr ⟨rfl, hs⟩)
      exact ⟨a', f', t', zF2 _ g2, hk2 _ _ g3⟩
     ·cases zD6.1 hs
      exact ⟨a, f, t, by simp, ha⟩
   ·omega
theorem Hy {N : Nat} (hN : N ≤ 1000000) (h20 : 100 ≤ N) {p : Aa} (hv : BG p = 0) {m : Ac} (hm : Bp p m) {most i : Nat} (hmo : most ≤ 20000) {v2 : List Az × List (ByteArray × Int) × Int} (hv2 : v2.2.2 = (i : Int)) (ss : List Ad) (e0 : Int) (hss : ∀ s, s ∈ ss → s ∈ F4 p m) (hsl : ss.length ≤ 1000) (j : List Az × List (ByteArray × Int) → Option (List Az × Int)) :
  ∀ (n k : Nat) (pl : List Az) (q : List (Ac × Int)) (l' : List JS), k ≤ ss.length → ss.length - k < n → (∃ nd, pl[i]? = some nd ∧ nd.fp = m) → (∀ n, n ∈ pl.map Ev → Bp p n.1 ∧ Br p n.1 = true) → pl.length ≤ most → Oy p q (pl.map Ev) → Mt p i (QO p m (ss.take k)) pl →
   (∃ nd, pl[i]? = some nd ∧ nd.fb.length ≤ k) → Bfs.inner most i (QO p m (ss.drop k)) (pl.map Ev) = some l' →
   ∃ pl' q', Cn N p v2 (ss, e0) j n (pl, L5 q, (k : Int)) = j (pl', L5 q') ∧ pl'.map Ev = l' ∧ Oy p q' l' ∧ Mt p i (QO p m ss) pl' ∧ (∀ (b : Nat) nb, pl'[b]? = some nb → b ≠ i → pl[b]? = some nb ∨ nb.fb = [])
 | 0, k, pl, q, l', _, h, _, _, _, _, _, _, _ => by omega
 | n + 1, k, pl, q, l', hk, h, hi, hA, hlm, hpl, hnx, hfl, hin => by
  obtain ⟨hp, _⟩ := CW hv
  obtain ⟨nd, hnd, hndm⟩ := hi
  obtain ⟨nd', hnd', hfl⟩ := hfl
  rw [hnd] at hnd'; cases hnd'
  by_cases h1 : k < ss.length
  ·have hs : ss[k]? = some ss[k] := by simp [h1]
   have hsm := hss _ (lM hs)
   have hstep := (IL hsm).2
   have hxo := L0 hp hm hstep
   have hil := Bfs.lt_get hnd
   rw [Cn, AC (by simp only; omega)]
   simp only [Bl, hv2, AV, hnd, hs, oS]
   rw [show (Ac.mk nd.fp.fd nd.fp.fb nd.fp.fe) = m from hndm, P0 N hN h20 (MV hm), if_pos (IK hv hm)]
   simp only [oS]
   rw [hstep, bne_self_eq_false, Ao, VX N hN h20 hp hxo]
   simp only [oS]
   rw [Pk hp hxo hpl.ok]
   have htk : ss.take (k + 1) = ss.take k ++ [ss[k]] := by rw [zE2, hs]; rfl
   have hgo : QO p m (ss.take (k + 1)) = if Br p (A5 p m ss[k]).1 = true then QO p m (ss.take k) ++ [(ss[k], (A5 p m ss[k]).1)] else QO p m (ss.take k) := by
    rw [htk]; unfold QO; rw [List.filterMap_append]
    cases hr : Br p (A5 p m ss[k]).1 <;> simp [hr]
   rw [GE hs, Tg] at hin
   -- what follows when the node's number is known
   have tail : ∀ (pl2 : List Az) (q2 : List (Ac × Int)) (r : Int) (nd2 : Az), pl2[i]? = some nd2 → nd2.fp = m → nd2.fb.length ≤ k → pl2.length ≤ most →
     AR (decide (0 ≤ r)) ((Bs pl2 (i : Int)).bind fun v26 => (DH (v26.fb.length + (([r] : List Int)).length ≤ C2)).bind fun _ => (Bs pl2 (i : Int)).bind fun v28 =>
      AR (decide ((20000 : Int) < ((pl2.set ((i : Int)).toNat (Az.mk (Ac.mk v28.fp.fd v28.fp.fb v28.fp.fe) v28.ff (Ad.mk v28.fu.fg v28.fu.fi v28.fu.fo) (v26.fb ++ ([r] : List Int)))).length : Int))) (some (([] : List Az), 3))
       (Cn N p v2 (ss, e0) j n (pl2.set ((i : Int)).toNat (Az.mk (Ac.mk v28.fp.fd v28.fp.fb v28.fp.fe) v28.ff (Ad.mk v28.fu.fg v28.fu.fi v28.fu.fo) (v26.fb ++ ([r] : List Int))), L5 q2, (wI .i64 ((k : Int) + 1)))))
      (AR (decide ((20000 : Int) < (pl2.length : Int))) (some (([] : List Az), 3)) (Cn N p v2 (ss, e0) j n (pl2, L5 q2, (wI .i64 ((k : Int) + 1))))) =
     Cn N p v2 (ss, e0) j n (L4 pl2 i nd2 r, L5 q2, ((k + 1 : Nat) : Int)) := by
    intro pl2 q2 r nd2 h2 h3 h4 h5
    by_cases hr : 0 ≤ r
    ·rw [AC hr]
     simp only [AV, h2, oS, zA7]
     rw [Au (by simp [C2]; omega), Ay (by rw [zG6]; omega), AE (by omega)]
     unfold L4; rw [if_pos hr]
    ·rw [Ay hr, Ay (by omega), AE (by omega)]
     unfold L4; rw [if_neg hr]
   cases hlq : JC (A5 p m ss[k]).1 q with
   | some r =>
    simp only [Option.isSome_some, zC3, Ao, zC6]
    have ht := tail pl q r nd hnd hndm hfl hlm
    simp only [AV, hnd, oS] at ht
    rw [show (Ac.mk nd.fp.fd nd.fp.fb nd.fp.fe) = m from hndm] at ht
    rw [ht]
    rcases hpl.some _ _ hxo hlq with ⟨hr, hnr⟩ | ⟨a, f, t, hr, ha⟩
    ·subst hr
     rw [hnr, if_neg (by simp)] at hin
     rw [hnr, if_neg (by simp)] at hgo
     have hadd : L4 pl i nd (-1) = pl := by unfold L4; rw [if_neg (by decide)]
     rw [hadd]
     exact Hy hN h20 hv hm hmo hv2 ss e0 hss hsl j n (k + 1) pl q l' (by omega) (by omega) ⟨nd, hnd, hndm⟩ hA hlm hpl (by rw [hgo]; exact hnx) ⟨nd, hnd, by omega⟩ hin
    ·subst hr
     have hrob : Br p (A5 p m ss[k]).1 = true := (hA _ (lM ha)).2
     rw [hrob, if_pos rfl] at hin hgo
     have hput : Bfs.put i (pl.map Ev) (ss[k], (A5 p m ss[k]).1) = pl.map Ev := by
      unfold Bfs.put
      rw [if_pos]
      exact zE0.2 ⟨_, lM ha, decide_eq_true rfl⟩
     simp only [Bfs.inner] at hin
     rw [hput, if_neg (by rw [zB0]; omega)] at hin
     have hpr := MR (r := (a : Int)) hnd
     have hnx2 := Sr (s := ss[k]) hnx (pl2 := pl) (fun b nb hb => .inl hb) (fun b n hb => hb) hnd ha
     obtain ⟨nd3, hnd3⟩ := Bfs.get_ex (l := L4 pl i nd (a : Int)) (k := i) (by
      have := congrArg zF8 hpr; simp only [zB0] at this; omega)
     obtain ⟨g1, g2⟩ | ⟨_, g2, g3, g4, g5⟩ := LU hnd hnd3
     ·exact absurd rfl g1
     obtain ⟨pl', q', r1, r2, r3, r4, r5⟩ := Hy hN h20 hv hm hmo hv2 ss e0 hss hsl j n (k + 1) (L4 pl i nd (a : Int)) q l' (by omega) (by omega) ⟨nd3, hnd3, by rw [g2]; exact hndm⟩ (by rw [hpr]; exact hA) (by have := congrArg zF8 hpr; simp only [zB0] at this; omega)  (by rw [hpr]; exact hpl) (by rw [hgo]; exact hnx2) ⟨nd3, hnd3, by rw [g5]; split <;> (try simp only [zB2, zB8]) <;> omega⟩ (by rw [hpr]; exact hin)
     refine ⟨pl', q', r1, r2, r3, r4, ?_⟩
     intro b nb hb hbi
     rcases r5 b nb hb hbi with h2 | h2
     ·rcases LU hnd h2 with ⟨_, h3⟩ | ⟨h3, _⟩
      ·exact .inl h3
      ·exact absurd h3 hbi
     ·exact .inr h2
   | none =>
    simp only [Option.isSome_none, zE6, AP]
    rw [Kj N p _ hN h20 (MV hxo) (IK hv hxo)]
    simp only [oS, bne_self_eq_false, Ao]
    have hms : ∀ r, LB (CG (Lh (A5 p m ss[k]).1)) r (L5 q) = L5 (q ++ [((A5 p m ss[k]).1, r)]) := fun r => by
     rw [WE]; exact LY _ _ (by rw [Pk hp hxo hpl.ok, hlq])
    have hok2 : ∀ r e, e ∈ q ++ [((A5 p m ss[k]).1, r)] → Bp p e.1 := fun r e he => by
     rcases zC2.1 he with he | he
     ·exact hpl.ok e he
     ·rw [zD6.1 he]; exact hxo
    cases hrob : Br p (A5 p m ss[k]).1
    ·rw [zE6, AP]
     rw [hrob, if_neg (by simp)] at hin hgo
     rw [hms]
     have ht := tail pl (q ++ [((A5 p m ss[k]).1, -1)]) (-1) nd hnd hndm hfl hlm
     simp only [AV, hnd, oS] at ht
     rw [show (Ac.mk nd.fp.fd nd.fp.fb nd.fp.fe) = m from hndm] at ht
     rw [ht]
     have hadd : L4 pl i nd (-1) = pl := by unfold L4; rw [if_neg (by decide)]
     rw [hadd]
     refine Hy hN h20 hv hm hmo hv2 ss e0 hss hsl j n (k + 1) pl _ l' (by omega) (by omega) ⟨nd, hnd, hndm⟩ hA hlm ⟨hok2 (-1), ?_, ?_⟩ (by rw [hgo]; exact hnx) ⟨nd, hnd, by omega⟩ hin
     ·intro x hx hq
      rw [Ly] at hq
      cases hq2 : JC x q with
      | none => exact hpl.none x hx hq2
      | some v => rw [hq2] at hq; cases hq
     ·intro x r hx hq
      rw [Ly] at hq
      cases hq2 : JC x q with
      | none =>
       rw [hq2] at hq
       simp only at hq
       split at hq
       ·rename_i he
        cases hq; left; exact ⟨rfl, by rw [he]; exact hrob⟩
       ·cases hq
      | some v => rw [hq2] at hq; cases hq; exact hpl.some x _ hx hq2
    ·rw [zC3, Ao]
     rw [hrob, if_pos rfl] at hin hgo
     rw [hms]
     have hnew : ((pl.map Ev).any fun n => decide (n.1 = (A5 p m ss[k]).1)) = false := by
      rw [zK4]
      intro n hn
      simpa using hpl.none _ hxo hlq n hn
     have hput : Bfs.put i (pl.map Ev) (ss[k], (A5 p m ss[k]).1) = (pl ++ [Az.mk (A5 p m ss[k]).1 (i : Int) ss[k] []]).map Ev := by
      unfold Bfs.put
      rw [hnew, if_neg (by simp), zF0]; rfl
     simp only [Bfs.inner] at hin
     rw [hput] at hin
     split at hin
     ·cases hin
     rename_i hmm
     rw [zB0, zB2, zB8] at hmm
     rw [Au (by simp [C2]; omega)]
     have hnd2 : (pl ++ [Az.mk (A5 p m ss[k]).1 (i : Int) ss[k] []])[i]? = some nd := Bfs.get_app_of hnd
     have ht := tail (pl ++ [Az.mk (A5 p m ss[k]).1 (i : Int) ss[k] []]) (q ++ [((A5 p m ss[k]).1, (pl.length : Int))]) (pl.length : Int) nd hnd2 hndm hfl (by rw [zB2, zB8]; omega)
     simp only [AV] at ht
     rw [ht]
     have hpr := MR (r := (pl.length : Int)) hnd2
     have hlast : ((pl ++ [Az.mk (A5 p m ss[k]).1 (i : Int) ss[k] []]).map Ev)[pl.length]? = some ((A5 p m ss[k]).1, (i : Int), ss[k]) := by
      rw [zA1, Bfs.get_app_new]; rfl
     have hold : ∀ (b : Nat) n, (pl.map Ev)[b]? = some n → ((pl ++ [Az.mk (A5 p m ss[k]).1 (i : Int) ss[k] []]).map Ev)[b]? = some n := fun b n hb => by
      rw [zF0]; exact Bfs.get_app_of hb
     have hkeep : ∀ (b : Nat) nb, (pl ++ [Az.mk (A5 p m ss[k]).1 (i : Int) ss[k] []])[b]? = some nb → pl[b]? = some nb ∨ (i < b ∧ nb.fb = []) := fun b nb hb => by
      rcases Bfs.get_app hb with h2 | ⟨h2, h3⟩
      ·exact .inl h2
      ·exact .inr ⟨by omega, by rw [h3]⟩
     have hnx2 := Sr (s := ss[k]) hnx hkeep hold hnd2 hlast
     have hpl2 : Oy p (q ++ [((A5 p m ss[k]).1, (pl.length : Int))]) ((pl ++ [Az.mk (A5 p m ss[k]).1 (i : Int) ss[k] []]).map Ev) := by
      refine ⟨hok2 _, ?_, ?_⟩
      ·intro x hx hq n hn
       rw [Ly] at hq
       cases hq2 : JC x q with
       | none =>
        rw [hq2] at hq
        simp only at hq
        split at hq
        ·cases hq
        ·rename_i hne
         rw [zF0] at hn
         rcases zC2.1 hn with hn | hn
         ·exact hpl.none x hx hq2 n hn
         ·simp at hn; subst hn
          exact fun e => hne e.symm
       | some v => rw [hq2] at hq; cases hq
      ·intro x r hx hq
       rw [Ly] at hq
       cases hq2 : JC x q with
       | none =>
        rw [hq2] at hq
        simp only at hq
        split at hq
        ·rename_i he
         cases hq
         exact .inr ⟨pl.length, _, _, rfl, by rw [he]; exact hlast⟩
        ·cases hq
       | some v =>
        rw [hq2] at hq; cases hq
        rcases hpl.some x _ hx hq2 with g | ⟨a, f, t, g1, g2⟩
        ·exact .inl g
        ·exact .inr ⟨a, f, t, g1, hold _ _ g2⟩
     obtain ⟨nd3, hnd3⟩ := Bfs.get_ex (l := L4 (pl ++ [Az.mk (A5 p m ss[k]).1 (i : Int) ss[k] []]) i nd (pl.length : Int)) (k := i) (by
      have := congrArg zF8 hpr; simp only [zB0, zB2, zB8] at this; omega)
     obtain ⟨g1, g2⟩ | ⟨_, g2, g3, g4, g5⟩ := LU hnd2 hnd3
     ·exact absurd rfl g1
     obtain ⟨pl', q', r1, r2, r3, r4, r5⟩ := Hy hN h20 hv hm hmo hv2 ss e0 hss hsl j n (k + 1) (L4 (pl ++ [Az.mk (A5 p m ss[k]).1 (i : Int) ss[k] []]) i nd (pl.length : Int)) _ l' (by omega) (by omega) ⟨nd3, hnd3, by rw [g2]; exact hndm⟩ (by
       rw [hpr]
       intro n hn
       rw [zF0] at hn
       rcases zC2.1 hn with hn | hn
       ·exact hA n hn
       ·simp at hn; subst hn; exact ⟨hxo, hrob⟩) (by have := congrArg zF8 hpr; simp only [zB0, zB2, zB8] at this; omega)  (by rw [hpr]; exact hpl2) (by rw [hgo]; exact hnx2) ⟨nd3, hnd3, by rw [g5]; split <;> (try simp only [zB2, zB8]) <;> omega⟩ (by rw [hpr]; exact hin)
     refine ⟨pl', q', r1, r2, r3, r4, ?_⟩
     intro b nb hb hbi
     rcases r5 b nb hb hbi with h2 | h2
     ·rcases LU hnd2 h2 with ⟨_, h3⟩ | ⟨h3, _⟩
      ·rcases hkeep b nb h3 with h4 | ⟨_, h4⟩
       ·exact .inl h4
       ·exact .inr h4
      ·exact absurd h3 hbi
     ·exact .inr h2
  ·have : k = ss.length := by omega
   subst this
   rw [zD9 (zB1 _)] at hin
   have hin : some (pl.map Ev) = some l' := hin
   cases hin
   rw [zI0] at hnx
   rw [Cn, Ay (by simp)]
   exact ⟨pl, q, rfl, rfl, hpl, hnx, fun b nb hb _ => .inl hb⟩
theorem K0 {N : Nat} (hN : N ≤ 1000000) (h20 : 100 ≤ N) {p : Aa} (hv : BG p = 0) {most : Nat} (hmo : most ≤ 20000) (j : List Az → Option (List Az × Int)) :
  ∀ (n i : Nat) (pl : List Az) (q : List (Ac × Int)) (l' : List JS), i ≤ pl.length → (∀ n, n ∈ pl.map Ev → Bp p n.1 ∧ Br p n.1 = true) → pl.length ≤ most → Oy p q (pl.map Ev) → Mt p i [] pl → (∀ (b : Nat) nb, i ≤ b → pl[b]? = some nb → nb.fb = []) →
   Bfs.go (IU p) most n i (pl.map Ev) = some l' →
   ∃ pl', DF N p j n (pl, L5 q, (i : Int)) = j pl' ∧ pl'.map Ev = l' ∧ Mt p l'.length [] pl'
 | 0, i, pl, q, l', _, _, _, _, _, _, h => by cases h
 | n + 1, i, pl, q, l', hi, hA, hlm, hpl, hnx, hem, h => by
  obtain ⟨hp, _⟩ := CW hv
  simp only [Bfs.go] at h
  rw [DF]
  by_cases h1 : i < pl.length
  ·obtain ⟨nd, hx⟩ := Bfs.get_ex h1
   have hxl : (pl.map Ev)[i]? = some (Ev nd) := by rw [zA1, hx]; rfl
   have hm := (hA _ (lM hxl)).1
   have hm : Bp p nd.fp := hm
   rw [hxl] at h
   simp only at h
   rw [AC (by simp only; omega)]
   simp only [AV, hx, oS]
   rw [show (Ac.mk nd.fp.fd nd.fp.fb nd.fp.fe) = nd.fp from rfl, T9 N hN h20 hv hm]
   simp only [oS, bne_self_eq_false, Ao]
   have hsl := QY hp nd.fp
   cases hin : Bfs.inner most i (IU p nd.fp) (pl.map Ev) with
   | none =>
    have hin' : Bfs.inner most i (IU p (Ev nd).1) (pl.map Ev) = none := hin
    rw [hin'] at h; cases h
   | some l1 =>
    have hin' : Bfs.inner most i (IU p (Ev nd).1) (pl.map Ev) = some l1 := hin
    rw [hin'] at h
    simp only [oS] at h
    obtain ⟨pl1, q1, e1, e2, e3, e4, e5⟩ := Hy hN h20 hv hm hmo (v2 := (pl, L5 q, (i : Int))) rfl (F4 p nd.fp) 0 (fun s hs => hs) (by omega) (fun (v9 : (List Az) × (List (ByteArray × Int))) =>
     DF N p j n (v9.1, v9.2, (wI .i64 ((i : Int) + 1)))) N 0 pl q l1 (zA9 _) (by omega) ⟨nd, hx, rfl⟩ hA hlm hpl (by
      rw [List.take_zero]; exact hnx) ⟨nd, hx, by rw [hem i nd (zB1 _) hx]; exact zB1 _⟩ hin
    have e1' : Cn N p (pl, L5 q, (i : Int)) (F4 p nd.fp, 0) (fun (v9 : (List Az) × (List (ByteArray × Int))) =>
     DF N p j n (v9.1, v9.2, (wI .i64 ((i : Int) + 1)))) N (pl, L5 q, 0) = _ := e1
    rw [e1']
    simp only
    obtain ⟨k1, k2⟩ := KS hin (fun q hq => TE hp hm hq) hA
    have hl1 : l1.length = pl1.length := by rw [← e2, zB0]
    have hil : i < pl1.length := by rw [← hl1]; exact Bfs.lt_get (k2 _ _ hxl)
    rw [AE (by have := Bfs.inner_len _ _ _ (by rw [zB0]; exact hlm) hin; omega)]
    refine K0 hN h20 hv hmo j n (i + 1) pl1 q1 l' (by omega) (by rw [e2]; exact k1) (by rw [← hl1]; exact Bfs.inner_len _ _ _ (by rw [zB0]; exact hlm) hin) (by rw [e2]; exact e3) ?_ ?_ (by rw [e2]; exact h)
    ·have hmi : ∀ nb, pl1[i]? = some nb → nb.fp = nd.fp := fun nb hb => by
      have := k2 _ _ hxl
      rw [← e2, zA1, hb] at this
      exact congrArg (fun n : JS => n.1) (Option.some.inj this)
     constructor
     ·intro b nb hb r hr
      obtain ⟨s, y, g1, g2⟩ := e4.to b nb hb r hr
      refine ⟨s, y, .inl ?_, g2⟩
      rcases g1 with g1 | ⟨g1, g3⟩
      ·exact ⟨by omega, g1.2⟩
      ·subst g1; exact ⟨by omega, by rw [hmi nb hb]; exact g3⟩
     ·intro b nb hb s y hs
      refine e4.of b nb hb s y ?_
      rcases hs with ⟨h2, h3⟩ | ⟨_, h3⟩
      ·by_cases hbi : b < i
       ·exact .inl ⟨hbi, h3⟩
       ·have : b = i := by omega
        subst this
        exact .inr ⟨rfl, by rw [hmi nb hb] at h3; exact h3⟩
      ·cases h3
    ·intro b nb hb hb2
     rcases e5 b nb hb2 (by omega) with h2 | h2
     ·exact hem b nb (by omega) h2
     ·exact h2
  ·have hi' : i = pl.length := by omega
   subst hi'
   rw [zD1 (by rw [zB0]; exact zB1 _)] at h
   have h : some (pl.map Ev) = some l' := h
   cases h
   rw [Ay (by simp)]
   exact ⟨pl, rfl, rfl, by rw [zB0]; exact hnx⟩
theorem OQ {N : Nat} (hN : N ≤ 1000000) (h20 : 100 ≤ N) {p : Aa} (hv : BG p = 0) {m : Ac} (hm : Bp p m) (hr : Br p m = true) {most : Nat} (hmo : most ≤ 20000) (h1 : 1 ≤ most) {l : List JS} (hs : JL p m most N = some l) :
  ∃ pl, GX N p m = some (pl, 0) ∧ pl.map Ev = l ∧ Mt p l.length [] pl := by
 obtain ⟨hp, _⟩ := CW hv
 unfold GX
 rw [VX N hN h20 hp hm]
 simp only [oS]
 obtain ⟨pl, e1, e2, e3⟩ := K0 hN h20 hv hmo (fun (v3 : (List Az)) => some (v3, 0)) N 0 [Az.mk m (-1) ML []] [(m, 0)] l (zA9 _) (UF hm hr) h1 (by
  refine ⟨fun e he => by rw [zD6.1 he]; exact hm, ?_, ?_⟩
  ·intro x _ hq n hn
   have hn : n = (m, -1, ML) := zD6.1 hn
   simp only [JC] at hq
   split at hq
   ·cases hq
   ·rename_i h; rw [hn]; exact fun e => h e.symm
  ·intro x r _ hq
   simp only [JC] at hq
   split at hq
   ·rename_i h
    cases hq; right; exact ⟨0, -1, ML, rfl, by rw [h]; rfl⟩
   ·cases hq) (by
  constructor
  ·intro b nb hb r hr
   have := Bfs.lt_get hb
   simp at this; subst this
   cases hb; cases hr
  ·intro b nb hb s y hs
   rcases hs with h | h
   ·omega
   ·cases h.2) (fun b nb _ hb => by
    have := Bfs.lt_get hb
    simp at this; subst this
    cases hb; rfl) hs
 refine ⟨pl, ?_, e2, e3⟩
 exact e1
theorem Uw {α : Type} (xs : List α) (x y : α) : ∀ (A B : List α), ((A ++ x :: (xs ++ y :: B)).set A.length y).set (A.length + 1 + xs.length) x = A ++ y :: (xs ++ x :: B)
 | [], B => by
  rw [zG5, zD4, zK0, show 0 + 1 + xs.length = xs.length + 1 from by omega, zK1, zJ1 _ _ (zB1 _), zI3]
  rfl
 | a :: A, B => by
  have := Uw xs x y A B
  simp only [zH2, zC5]
  rw [zK1, show A.length + 1 + 1 + xs.length = (A.length + 1 + xs.length) + 1 from by omega, zK1, this]
theorem Se (N : Nat) (j : List Ad → Option (List Ad)) : ∀ (n : Nat) (xs A B : List Ad), xs.length < 2 * n → A.length + xs.length ≤ 100000 →
  Bh N j n (A ++ (xs ++ B), (A.length : Int), ((A.length + xs.length : Nat) : Int) - 1) = j (A ++ (xs.reverse ++ B))
 | 0, xs, A, B, h, _ => by omega
 | n + 1, xs, A, B, h, h2 => by
  rw [Bh]
  rcases xs with _ | ⟨x, xs⟩
  ·rw [Ay (by simp only [zD4]; omega)]; rfl
  ·rcases Bfs.list_snoc xs with rfl | ⟨xs, y, rfl⟩
   ·rw [Ay (by simp only [zC5, zD4]; omega)]; rfl
   ·simp only [zC5, zB2, zD4] at h h2
    rw [AC (by simp only [zC5, zB2, zD4]; omega)]
    have e1 : (((A.length + (x :: (xs ++ [y])).length : Nat) : Int) - 1) = ((A.length + 1 + xs.length : Nat) : Int) := by simp only [zC5, zB2, zD4]; omega
    have e2 : A ++ (x :: (xs ++ [y]) ++ B) = A ++ x :: (xs ++ y :: B) := by simp
    simp only [e1, e2, AV, zA7]
    have g1 : (A ++ x :: (xs ++ y :: B))[A.length + 1 + xs.length]? = some y := by
     rw [zB9 (by omega), show A.length + 1 + xs.length - A.length = xs.length + 1 from by omega, zL8, zB9 (zB1 _), zI3]; rfl
    have g2 : (A ++ x :: (xs ++ y :: B))[A.length]? = some x := by
     rw [zB9 (zB1 _), zI3]; rfl
    rw [g1, g2]
    simp only [oS]
    rw [zE7, if_neg (by omega), g1]
    simp only [oS]
    rw [Uw, AE (by omega), show wI .i64 (((A.length + 1 + xs.length : Nat) : Int) - 1) = (((A ++ [y]).length + xs.length : Nat) : Int) - 1 from by
     rw [CH (by omega) (by omega)]; simp only [zB2, zB8]]
    have := Se N j n xs (A ++ [y]) (x :: B) (by omega) (by simp only [zB2, zB8]; omega)
    rw [show ((A.length + 1 : Nat) : Int) = (((A ++ [y]).length : Nat) : Int) from by simp]
    rw [show A ++ y :: (xs ++ x :: B) = (A ++ [y]) ++ (xs ++ x :: B) from by simp, this]
    simp
theorem Uj (N : Nat) (_ : 100 ≤ N) (l : List Ad) (h : l.length < 2 * N) (h2 : l.length ≤ 100000) : Bx N l = some l.reverse := by
 unfold Bx
 rw [CH (by omega) (by omega)]
 have := Se N (fun v2 => some v2) N l [] [] h (by simpa using h2)
 simp only [zG5, zH1, zD4, zA3] at this
 exact this
theorem Mm {p : Aa} {m : Ac} {l : List JS} {ws : List (List Ad)} (h : ZY p m l ws) (N : Nat) {pl : List Az} (hpl : pl.map Ev = l) (j : List Ad → Option (List Ad)) : ∀ (n k : Nat) {w acc : List Ad}, k < n → ws[k]? = some w → acc.length + k ≤ 20000 →
  F6 N pl j n ((k : Int), acc) = j (acc ++ w.reverse)
 | 0, k, _, _, hk, _, _ => by omega
 | n + 1, k, w, acc, hk, hw, ha => by
  obtain ⟨⟨x, f, s⟩, hx⟩ := Bfs.get_ex (l := l) (k := k) (by rw [← h.inv.len]; exact Bfs.lt_get hw)
  have hx2 := hx
  rw [← hpl, zA1] at hx2
  cases hnd : pl[k]? with
  | none => rw [hnd] at hx2; cases hx2
  | some nd =>
   rw [hnd] at hx2
   have hx2 : Ev nd = (x, f, s) := Option.some.inj hx2
   have hf : nd.ff = f := congrArg (fun n : JS => n.2.1) hx2
   have hs : nd.fu = s := congrArg (fun n : JS => n.2.2) hx2
   rw [F6]
   simp only [AV, hnd, oS]
   rw [hf]
   rcases zH4 k with rfl | hk0
   ·obtain ⟨s0, hs0⟩ := h.inv.root; rw [hs0] at hx; cases hx
    rw [h.inv.root'] at hw; cases hw
    rw [Ay (by decide)]; simp
   ·obtain ⟨i, y', g', t', w', e1, e2, e3, e4, e5, e6, e7⟩ := h.inv.par k _ _ _ hk0 hx
    rw [e6] at hw; cases hw
    subst e1
    rw [AC (zK3 i), Au (by simp [C2]; omega)]
    have := Mm h N hpl j n i (w := w') (acc := acc ++ [Ad.mk nd.fu.fg nd.fu.fi nd.fu.fo]) (by omega) e5 (by simp; omega)
    rw [this, show (Ad.mk nd.fu.fg nd.fu.fi nd.fu.fo) = s from hs]
    simp
theorem U3 {p : Aa} {l : List JS} {k : Nat} (h : Lq p l = some k) : k < l.length := by
 obtain ⟨⟨x, f, s, h1, _⟩, _⟩ := Qi h
 exact Bfs.lt_get h1
theorem RO {N : Nat} (hN : N ≤ 1000000) (h20 : 100 ≤ N) {p : Aa} (hv : BG p = 0) {m : Ac} (hm : Bp p m) (hr : Br p m = true) {most : Nat} (hmo : most ≤ 20000) (h1 : 1 ≤ most) {l : List JS} (hs : JL p m most N = some l) (hl : l.length < N) {ws : List (List Ad)} (h : ZY p m l ws) :
  FM N p m = some (PM p l ws) := by
 obtain ⟨hp, _⟩ := CW hv
 have hl2 : l.length ≤ 20000 := zG3 (Bfs.go_len _ _ _ _ (by simpa using h1) hs) hmo
 unfold FM
 rw [Kj N p m hN h20 (MV hm) (IK hv hm), hr]
 simp only [oS, bne_self_eq_false, Ao, zC3]
 obtain ⟨pl, e1, e2, e3⟩ := OQ hN h20 hv hm hr hmo h1 hs
 rw [e1]
 simp only [oS, bne_self_eq_false, Ao]
 have hpll : pl.length = l.length := by rw [← e2, zB0]
 unfold Ci
 have := Ck (AU N pl ((fun (x : Az) => EN N x p.fa p.fh p.fq p.fc)) fun _ => some (-1)) l (some (-1)) (fun i n => (if H6 p n.1 = true then some i else none).map fun (k : Nat) => (k : Int))
  (fun n i nd hnd => by
   have hi := (lI.1 hnd).1
   have hnd2 := hnd
   rw [← e2, zA1] at hnd2
   cases hq : pl[i]? with
   | none => rw [hq] at hnd2; cases hnd2
   | some nq =>
    rw [hq] at hnd2
    have hnd2 : Ev nq = nd := Option.some.inj hnd2
    rw [AU, AC (by omega), AV, hq]
    simp only [oS]
    have hok := (h.ok _ _ _ _ (show l[i]? = some (nd.1, nd.2.1, nd.2.2) from hnd)).1
    have hM : nq.fp = nd.1 := congrArg (fun n : JS => n.1) hnd2
    unfold EN
    simp only
    rw [show (Aa.mk p.fa p.fh p.fq p.fc) = p from rfl, show (Ac.mk nq.fp.fd nq.fp.fb nq.fp.fe) = nd.1 from hM, SV N p nd.1 hN h20 (MV hok), AE (by omega)]
    simp only [oS]
    cases hg : H6 p nd.1 <;> rfl)
  (fun n => by rw [AU, Ay (by omega)]) N 0 (zA9 _) (by omega)
 have e3 : AU N pl ((fun (x : Az) => EN N x p.fa p.fh p.fq p.fc)) (fun _ => some (-1)) N 0 = _ := this
 rw [e3, zC4, Nj]
 unfold PM
 cases hg : Lq p l with
 | none =>
  unfold Lq at hg
  rw [hg]; rfl
 | some k =>
  have hk := U3 hg
  unfold Lq at hg
  rw [hg]
  simp only [zE1, BT, oS]
  rw [Ay (by omega)]
  obtain ⟨w, hw⟩ := Bfs.get_ex (l := ws) (k := k) (by rw [h.inv.len]; exact hk)
  have e4 := Mm h N e2 (fun (v2 : (List Ad)) => (Bx N v2).bind fun v8 => some v8) N k (w := w) (acc := []) (by omega) hw (by simp; omega)
  unfold JY
  have hwl := RV h (k + 1) k (Nat.lt_succ_self k) hw
  rw [e4, zG5, Uj N h20 _ (by rw [List.length_reverse]; omega) (by rw [List.length_reverse]; omega), List.reverse_reverse]
  simp only [oS]
  rw [lD, hw]; rfl
def Zb (p : Aa) (m : Ac) (w : List Ad) : Prop := LC p m w = true ∧ Bfs.Dig MK 100 w ∧ ∀ u, LC p m u = true → Bfs.code MK 100 w ≤ Bfs.code MK 100 u
theorem UE {p : Aa} (hp : A4 p) : ∀ {w : List Ad} {m x : Ac}, Ld p m w = some x → Bfs.Dig MK 100 w ∧ ∀ s, s ∈ w → s ∈ EW p
 | [], _, _, _ => ⟨fun s hs => (by cases hs), fun s hs => (by cases hs)⟩
 | s :: w, m, x, h => by
  simp only [Ld] at h
  cases hs : JP p m s with
  | none => rw [hs] at h; cases h
  | some z =>
   rw [hs] at h
   obtain ⟨h1, h2⟩ := UE hp h
   have h3 := (IL (M2.1 (Qd hs)).1).1
   refine ⟨fun t ht => ?_, fun t ht => ?_⟩
   ·rcases zB6.1 ht with rfl | ht
    ·exact (O0 hp h3).2
    ·exact h1 t ht
   ·rcases zB6.1 ht with rfl | ht
    ·exact h3
    ·exact h2 t ht
theorem Va {p : Aa} (hp : A4 p) {m : Ac} {l : List JS} {ws : List (List Ad)} (h : ZY p m l ws) :
  ((PM p l ws).2 = 0 ∧ Zb p m (PM p l ws).1 ∧ (PM p l ws).1.length ≤ l.length) ∨ (PM p l ws = ([], 14) ∧ ∀ u, LC p m u = false) := by
 unfold PM
 cases hg : Lq p l with
 | none =>
  right
  refine ⟨rfl, fun u => ?_⟩
  cases hu : LC p m u
  ·rfl
  ·obtain ⟨x, h1, h2⟩ := Qf hu
   obtain ⟨k, f, s, w, g1, g2, g3⟩ := Q1 hp h h1
   rw [Vw hg g1] at h2; cases h2
 | some k =>
  left
  obtain ⟨⟨x, f, s, h1, h2⟩, h3⟩ := Qi hg
  have hk := U3 hg
  obtain ⟨w, hw⟩ := Bfs.get_ex (l := ws) (k := k) (by rw [h.inv.len]; exact hk)
  have hwe : ws.getD k [] = w := by rw [lD, hw]; rfl
  simp only [hwe]
  have hrun := YH hp h h1 hw
  refine ⟨trivial, ⟨?_, (UE hp hrun).1, ?_⟩, ?_⟩
  ·unfold LC; rw [hrun]; exact h2
  ·intro u hu
   obtain ⟨y, g1, g2⟩ := Qf hu
   obtain ⟨k', f', s', w', e1, e2, e3⟩ := Q1 hp h g1
   refine zG3 ?_ e3
   by_cases hkk : k' < k
   ·rw [h3 k' y f' s' hkk e1] at g2; cases g2
   ·rcases Nat.lt_or_eq_of_le (Nat.le_of_not_lt hkk) with h4 | h4
    ·exact Nat.le_of_lt (h.inv.inc _ _ _ _ hw e2 h4)
    ·subst h4; rw [hw] at e2; cases e2; exact zB1 _
  ·have := RV h (k + 1) k (Nat.lt_succ_self k) hw
   omega
def Tp (p : Aa) (m : Ac) (r : List Ad × Int) : Prop := (r.2 = 0 ∧ Zb p m r.1 ∧ r.1.length ≤ 120) ∨ (r = ([], 14) ∧ ∀ u, LC p m u = false)
def Lp (p : Aa) : Prop := Br p (Fg p) = false ∨ ∃ l, JL p (Fg p) 120 1000 = some l
def PE (p : Aa) (r : List Ad × Int) : Prop := (Br p (Fg p) = false ∧ r = ([], 13)) ∨ (Br p (Fg p) = true ∧ Tp p (Fg p) r)
end Go.Lift
