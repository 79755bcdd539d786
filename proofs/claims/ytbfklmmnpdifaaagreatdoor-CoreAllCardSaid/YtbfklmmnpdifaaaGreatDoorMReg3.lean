/- Lemmas for CoreAllCardSaid, which YtbfklmmnpdifaaaGreatDoorFinC6 proves. -/
import Derived.Test.YtbfklmmnpdifaaaGreatDoorDec
import Derived.KernelRfl
open Bool renaming and_eq_true → zI, and_eq_true_iff → uG, and_true → vX, false_and → vO, false_or → vI, not_false → yU, not_true → yA, or_eq_false_iff → uV, or_eq_true → xO, or_true → zA3, true_and → y8
open Int renaming eq_ofNat_of_zero_le → zJ, natCast_nonneg → vV, ofNat_inj → zA1, tmod → zX, toNat_natCast → zS
open List renaming all_eq_true → zF, any_eq_false → vM, any_eq_true → xF, append_assoc → yL, append_nil → xP, cons_append → uQ, drop_eq_nil_of_le → yO, drop_zero → zZ, eq_nil_of_length_eq_zero → yN, filter_append → xH, flatMap_append → vC, flatMap_eq_nil_iff → zA2, getD_cons_succ → uZ, getD_cons_zero → vP, getElem?_append_left → yH, getElem?_append_right → yG, getElem?_drop → xG, getElem?_eq_getElem → yJ, getElem?_eq_none → yV, getElem?_map → zD, getElem?_set → xB, getElem?_take_of_lt → yI, getElem_mem → xE, length → xK, length_append → zW, length_cons → yD, length_map → zL, length_range → uF, length_set → xY, length_singleton → zY, map_append → y7, map_cons → yF, mem_append → yC, mem_append_left → xA, mem_cons → zQ, mem_cons_of_mem → x8, mem_iff_getElem? → zT, mem_map → zU, mem_range → yX, mem_singleton → yS, nil_append → xN, pairwise_append → uN, pairwise_lt_range → vH, pairwise_map → vW, range → zO, range_succ → xX, replicate → zH, take_add_one → yT, take_length → uH
open Nat renaming add_assoc → xI, add_comm → vT, add_zero → xJ, eq_zero_or_pos → uJ, le_refl → zN, le_trans → xU, mul_le_mul_right → zG, sub_self → vF, succ_mul → yB, zero_add → zC, zero_le → zK
open Option renaming getD_some → yE, map_some → yQ
namespace Go.Lift
open IntKind renaming wrap → wI
open Option renaming bind_some → oS
open List renaming getElem?_eq_some_iff → lI
theorem AU {α : Type} (xs : List α) (i : Nat) : Bj xs (i : Int) = xs[i]? := by
 unfold Bj; simp
theorem CS {n : Int} (h0 : -9223372036854775808 ≤ n) (h1 : n ≤ 9223372036854775807) : wI .i64 n = n := by
 simp [wI, IntKind.signed, IntKind.bits]; omega
theorem AE {i : Nat} (h : i < 1000000) : wI .i64 ((i : Int) + 1) = ((i + 1 : Nat) : Int) := by
 rw [CS (by omega) (by omega)]; simp
@[simp] theorem AQ {α : Type} {a b : Option α} : AO true a b = a := rfl
@[simp] theorem Al {α : Type} {a b : Option α} : AO false a b = b := rfl
theorem AB {α : Type} {p : Prop} [Decidable p] {a b : Option α} (h : p) : AO (decide p) a b = a := by simp [h]
theorem Ay {α : Type} {p : Prop} [Decidable p] {a b : Option α} (h : ¬ p) : AO (decide p) a b = b := by simp [h]
def JD : List Int → List Int → Int
 | [], [] => 0
 | [], _ :: _ => -1
 | _ :: _, [] => 1
 | a :: as1, b :: bs => if a < b then -1 else if b < a then 1 else JD as1 bs
theorem Gp {α : Type} {xs : List α} {i : Nat} {x : α} (h : xs[i]? = some x) : xs.drop i = x :: xs.drop (i + 1) := by
 obtain ⟨hi, rfl⟩ := lI.1 h
 exact List.drop_eq_getElem_cons hi
theorem U8 (N : Nat) (a b : List Int) (hb : a.length < 1000000) : ∀ (n i : Nat), i ≤ a.length → i ≤ b.length → a.length - i < n →
  DG N a b (fun _ => AO (decide ((a.length : Int) < (b.length : Int))) (some (-1)) (AO (decide ((b.length : Int) < (a.length : Int))) (some 1) (some 0))) n (i : Int) = some (JD (a.drop i) (b.drop i))
 | 0, i, _, _, h => by omega
 | n + 1, i, hi, hj, h => by
  unfold DG
  simp only [Bd]
  by_cases h1 : i < a.length
  ·rw [AB (p := (i : Int) < (a.length : Int)) (by omega)]
   have ha : a[i]? = some a[i] := by simp [h1]
   rw [Gp ha]
   by_cases h2 : i < b.length
   ·have hbb : b[i]? = some b[i] := by simp [h2]
    rw [show decide ((i : Int) < (b.length : Int)) = true from decide_eq_true (by omega), AQ, AU, AU, ha, hbb, Gp hbb]
    simp only [oS, JD]
    rw [AE (by omega), U8 N a b hb n (i + 1) (by omega) (by omega) (by omega)]
    by_cases h3 : a[i] < b[i]
    ·simp [h3]
    ·by_cases h4 : b[i] < a[i]
     ·simp [h3, h4]
     ·simp [h3, h4]
   ·rw [show decide ((i : Int) < (b.length : Int)) = false from decide_eq_false (by omega), Al, Ay (by omega), AB (by omega), yO (by omega : b.length ≤ i)]
    simp [JD]
  ·rw [Ay (p := (i : Int) < (a.length : Int)) (by omega), Al, yO (by omega : a.length ≤ i)]
   by_cases h2 : a.length < b.length
   ·rw [AB (by omega)]
    have hbb : b[i]? = some b[i] := by simp [show i < b.length from by omega]
    rw [Gp hbb]; simp [JD]
   ·rw [Ay (by omega), Ay (by omega), yO (by omega : b.length ≤ i)]
    simp [JD]
theorem PE {N : Nat} {a b : List Int} (h : a.length < N) (hN : N ≤ 1000000) : DN N a b = some (JD a b) := by
 have := U8 N a b (by omega) N 0 (by omega) (by omega) (by omega)
 simpa [DN] using this
theorem QB : ∀ a : List Int, JD a a = 0
 | [] => rfl
 | a :: as1 => by simp [JD, QB as1]
theorem OZ : ∀ a b : List Int, JD a b = 0 → a = b
 | [], [], _ => rfl
 | [], _ :: _, h => by simp [JD] at h
 | _ :: _, [], h => by simp [JD] at h
 | a :: as1, b :: bs, h => by
  unfold JD at h
  split at h
  ·omega
  ·split at h
   ·omega
   ·rw [OZ as1 bs h, show a = b from by omega]
def Z7 : List Int → Int
 | [] => 0
 | x :: xs => if x = 0 then Z7 xs else x
theorem de (N : Nat) (a : List Int) (hb : a.length < 1000000) (hw : OX Mr a) : ∀ (n i : Nat), i ≤ a.length → a.length - i < n →
  C2 N a (fun v => some v) n (a.take i, (i : Int)) = some a
 | 0, i, _, h => by omega
 | n + 1, i, hi, h => by
  unfold C2
  by_cases h1 : i < a.length
  ·have ha : a[i]? = some a[i] := by simp [h1]
   rw [AB (by simpa using h1)]
   simp only
   rw [AU, ha]
   have hr : wI .i64 a[i] = a[i] := by
    have := hw a[i] (xE h1)
    unfold Mr at this
    have h2 : 0 ≤ a[i] ∧ a[i] ≤ 255 := by simpa [Lit.wf, IntKind.min, IntKind.max, IntKind.signed, IntKind.bits] using this
    exact CS (by omega) (by omega)
   simp only [oS, hr]
   have hlen : (a.take i).length + ([a[i]] : List Int).length ≤ C4 := by
    simp [C4]; omega
   rw [show DI ((a.take i).length + ([a[i]] : List Int).length ≤ C4) = some () from by unfold DI; rw [if_pos hlen]]
   simp only [oS]
   rw [AE (by omega), show a.take i ++ [a[i]] = a.take (i + 1) from by rw [yT, ha]; rfl]
   exact de N a hb hw n (i + 1) (by omega) (by omega)
  ·rw [Ay (by simpa using h1)]
   simp only
   rw [List.take_of_length_le (by omega)]
theorem Ou {N : Nat} {a : List Int} (h : a.length < N) (hN : N ≤ 1000000) (hw : OX Mr a) : DF N a = some a := by
 have := de N a (by omega) hw N 0 (by omega) (by omega)
 simpa [DF] using this
def fa (a : Ac) : Prop := a.fe.length ≤ 8 ∧ a.fc.length ≤ 8 ∧ a.ff.length ≤ 14
def UA (a b : Ac) : Int := Z7 [JD a.fe b.fe, JD a.fc b.fc, JD a.ff b.ff]
theorem QX (a : Ac) : UA a a = 0 := by unfold UA; simp [QB, Z7]
def CG {α R : Type} (f : Nat → α → Option R) : Nat → List α → Option R
 | _, [] => none
 | i, x :: xs => match f i x with
  | some r => some r
  | none => CG f (i + 1) xs
theorem FP {α R : Type} (f : Nat → α → Option R) (i : Nat) (x : α) (xs : List α) : CG f i (x :: xs) = match f i x with
  | some r => some r
  | none => CG f (i + 1) xs := rfl
def BT {R : Type} (a : Option R) (b : Option R) : Option R := match a with
 | some r => some r
 | none => b
theorem BO {α R : Type} (L : Nat → Int → Option R) (xs : List α) (j : Option R) (f : Nat → α → Option R)
  (hs : ∀ (n i : Nat) (x : α), xs[i]? = some x → L (n + 1) (i : Int) = BT (f i x) (L n ((i + 1 : Nat) : Int))) (he : ∀ n : Nat, L (n + 1) (xs.length : Int) = j) :
  ∀ n i : Nat, i ≤ xs.length → xs.length - i < n → L n (i : Int) = BT (CG f i (xs.drop i)) j
 | 0, i, _, h => by omega
 | n + 1, i, hi, h => by
  by_cases h1 : i < xs.length
  ·have hx : xs[i]? = some xs[i] := by simp [h1]
   rw [hs n i _ hx, Gp hx, BO L xs j f hs he n (i + 1) (by omega) (by omega)]
   rw [FP]
   cases f i xs[i] <;> rfl
  ·have : i = xs.length := by omega
   subst this
   rw [he n, yO (zN _)]
   rfl
theorem Ri (N : Nat) (k n : Int) : DD N k n = some (decide (0 ≤ k) && decide (k < n)) := by
 unfold DD
 simp only [Bd]
 by_cases h : 0 ≤ k
 ·rw [AB h]; simp [h]
 ·rw [Ay h]; simp [h]
theorem N2 (N : Nat) (t : An) : Ba N t = some (t.fg == 3 || t.fg == 4) := by
 unfold Ba
 simp only [Bd]
 cases h : t.fg == 3 <;> simp
def sq (l : List (List Bool)) (n m : Int) : Bool := decide ((l.length : Int) = n) && l.all fun r => decide ((r.length : Int) = m)
theorem P4 {α : Type} (p : α → Bool) {R : Type} (r : Nat → R) : ∀ (i : Nat) (xs : List α), (CG (fun i x => if p x then none else some (r i)) i xs).isNone = xs.all p
 | i, [] => rfl
 | i, x :: xs => by
  unfold CG
  cases h : p x <;> simp [h, P4 p r (i + 1) xs]
theorem Rn (N : Nat) (l : List (List Bool)) (n m : Int) (h : n < (N : Int)) (hN : N ≤ 1000000) : DX N l n m = some (sq l n m) := by
 unfold DX sq
 by_cases h1 : (l.length : Int) = n
 ·subst h1
  simp only [bne_self_eq_false, Al, decide_true, y8]
  have := BO (CC N l (l.length : Int) m (fun _ => some true)) l (some true) (fun _ r => if decide ((r.length : Int) = m) then none else some false)
   (fun n i x hx => by
    have hi := (lI.1 hx).1
    rw [CC, AB (by omega), AU, hx]
    simp only [oS]
    rw [AE (by omega)]
    by_cases h2 : (x.length : Int) = m
    ·simp [h2, BT]
    ·have : ((x.length : Int) != m) = true := by simpa using h2
     simp [h2, this, BT])
   (fun n => by rw [CC, Ay (by omega)]) N 0 (by omega) (by omega)
  simp only [Int.ofNat_zero, zZ] at this
  rw [this]
  have h3 := P4 (fun r : List Bool => decide ((r.length : Int) = m)) (fun _ => false) 0 l
  cases hsc : CG (fun (_ : Nat) (r : List Bool) => if decide ((r.length : Int) = m) = true then none else some false) 0 l with
  | none => rw [hsc] at h3; rw [← h3]; rfl
  | some b =>
   rw [hsc] at h3
   rw [← h3]
   have : ∀ (i : Nat) (xs : List (List Bool)) b, CG (fun (_ : Nat) (r : List Bool) => if decide ((r.length : Int) = m) = true then none else some false) i xs = some b → b = false := by
    intro i xs
    induction xs generalizing i with
    | nil => intro b hb; cases hb
    | cons x xs ih =>
     intro b hb
     unfold CG at hb
     split at hb
     ·rename_i r hr; cases hb; split at hr <;> simp at hr; exact hr
     ·exact ih _ b hb
   rw [this 0 l b hsc]; rfl
 ·have : ((l.length : Int) != n) = true := by simpa using h1
  simp [this, h1]
theorem Q5 (N : Nat) (l : List (List Bool)) (n m : Int) (h : n < (N : Int)) (hN : N ≤ 1000000) : FO N l n m = some (sq l n m) := by
 unfold FO sq
 simp only [Bd]
 by_cases h1 : (l.length : Int) = n
 ·subst h1
  simp only [beq_self_eq_true, AQ, decide_true, y8]
  have := BO (Bv N l (fun x => Et N x m) (fun _ => some (-1))) l (some (-1)) (fun i r => if decide ((r.length : Int) = m) then none else some (i : Int))
   (fun n i x hx => by
    have hi := (lI.1 hx).1
    rw [Bv, AB (by omega), AU, hx]
    simp only [oS, Et]
    rw [AE (by omega)]
    by_cases h2 : (x.length : Int) = m
    ·simp [h2, BT]
    ·have : ((x.length : Int) != m) = true := by simpa using h2
     simp [h2, this, BT])
   (fun n => by rw [Bv, Ay (by omega)]) N 0 (by omega) (by omega)
  simp only [Int.ofNat_zero, zZ] at this
  unfold Di DQ
  rw [this]
  have h3 := P4 (fun r : List Bool => decide ((r.length : Int) = m)) (fun i : Nat => (i : Int)) 0 l
  cases hsc : CG (fun (i : Nat) (r : List Bool) => if decide ((r.length : Int) = m) = true then none else some (i : Int)) 0 l with
  | none => rw [hsc] at h3; rw [← h3]; rfl
  | some b =>
   rw [hsc] at h3
   rw [← h3]
   have : ∀ (i : Nat) (xs : List (List Bool)) b, CG (fun (i : Nat) (r : List Bool) => if decide ((r.length : Int) = m) = true then none else some (i : Int)) i xs = some b → 0 ≤ b := by
    intro i xs
    induction xs generalizing i with
    | nil => intro b hb; cases hb
    | cons x xs ih =>
     intro b hb
     rw [FP] at hb
     split at hb
     ·rename_i r hr
      cases hb
      split at hr
      ·cases hr
      ·cases hr; omega
     ·exact ih _ b hb
   have := this 0 l b hsc
   simp [BT, this]
 ·have : ((l.length : Int) == n) = false := by simpa using h1
  simp [this, h1]
open List renaming mem_of_getElem? → lM
open List renaming getD_eq_getElem?_getD → lD
def J3 (l : List (List Bool)) : Option Int := CG (fun i row => if row.getD i false then none else some 1) 0 l
theorem TN {row : List Bool} {i : Nat} (h : i < row.length) : Bj row (i : Int) = some (row.getD i false) := by
 rw [AU, lD]; simp [h]
theorem Yc (N : Nat) (t : An) (h : t.fm.length < N) (hN : N ≤ 1000000) (hsq : ∀ row, row ∈ t.fm → row.length = t.fm.length) (j : Option Int) :
  Cc N t (fun _ => j) N 0 = BT (J3 t.fm) j := by
 have := BO (Cc N t (fun _ => j)) t.fm j (fun i row => if row.getD i false then none else some 1)
  (fun n i x hx => by
   have hi := (lI.1 hx).1
   have hl := hsq x (lM hx)
   rw [Cc, AB (by omega), AU, hx]
   simp only [oS]
   rw [TN (by omega), AE (by omega)]
   simp only [oS]
   cases x.getD i false <;> rfl)
  (fun n => by rw [Cc, Ay (by omega)]) N 0 (by omega) (by omega)
 simpa [J3] using this
theorem QJ (N : Nat) (t : An) (h : t.fm.length < N) (hN : N ≤ 1000000) (hsq : ∀ row, row ∈ t.fm → row.length = t.fm.length) (j : Option Int) :
  Dz N t (fun _ => j) N 0 = BT (J3 t.fm) j := by
 have := BO (Dz N t (fun _ => j)) t.fm j (fun i row => if row.getD i false then none else some 1)
  (fun n i x hx => by
   have hi := (lI.1 hx).1
   have hl := hsq x (lM hx)
   rw [Dz, AB (by omega), AU, hx]
   simp only [oS]
   rw [TN (by omega), AE (by omega)]
   simp only [oS]
   cases x.getD i false <;> rfl)
  (fun n => by rw [Dz, Ay (by omega)]) N 0 (by omega) (by omega)
 simpa [J3] using this
theorem OY {l : List (List Bool)} {n m : Int} (h : sq l n m = true) : (l.length : Int) = n ∧ ∀ row, row ∈ l → (row.length : Int) = m := by
 unfold sq at h
 simp only [zI, decide_eq_true_eq, zF] at h
 exact h
def D9 (p : Aa) (t : An) : Int :=
 if t.fg < 1 ∨ 4 < t.fg ∨ (t.ft = true ∧ (t.fg = 3 ∨ t.fg = 4)) then 1
 else if t.fh < 0 ∨ (p.fb.length : Int) ≤ t.fh ∨ t.fk < 0 ∨ (p.fb.length : Int) ≤ t.fk then 4
 else
  let f := p.fb.getD t.fh.toNat 0
  let g := p.fb.getD t.fk.toNat 0
  if sq t.fr f g = false then 6
  else if t.fg = 4 then (if sq t.fm f f = false then 6 else (J3 t.fm).getD 0)
  else if t.fm.length = 0 then 0 else 6
theorem El {α : Type} {xs : List α} {i : Int} {d : α} (h0 : 0 ≤ i) (h1 : i < (xs.length : Int)) : Bj xs i = some (xs.getD i.toNat d) := by
 obtain ⟨k, rfl⟩ := zJ h0
 rw [AU, lD, zS]
 simp [show k < xs.length from by omega]
theorem Xl {t : An} (A B : Option Int) (hk : ¬ (t.ft = true ∧ (t.fg = 3 ∨ t.fg = 4))) : AO t.ft (AO (t.fg == 3 || t.fg == 4) A B) B = B := by
 cases ha : t.ft
 ·rfl
 ·have : (t.fg == 3 || t.fg == 4) = false := by
   rw [uV]
   constructor
   ·simp only [beq_eq_false_iff_ne]; intro h; exact hk ⟨ha, .inl h⟩
   ·simp only [beq_eq_false_iff_ne]; intro h; exact hk ⟨ha, .inr h⟩
  rw [this]; rfl
theorem Kt {p : Aa} {i : Int} (hv : ∀ v, v ∈ p.fb → 1 ≤ v ∧ v ≤ 6) (h0 : 0 ≤ i) (h1 : i < (p.fb.length : Int)) : 1 ≤ p.fb.getD i.toNat 0 ∧ p.fb.getD i.toNat 0 ≤ 6 := by
 refine hv _ ?_
 rw [lD, yJ (by omega)]
 exact xE _
theorem VD (N : Nat) (p : Aa) (t : An) (hN : N ≤ 1000000) (h6 : 7 ≤ N) (hv : ∀ v, v ∈ p.fb → 1 ≤ v ∧ v ≤ 6) : E8 N p t = some (D9 p t) := by
 unfold E8 D9
 simp only [Bd, N2, oS]
 by_cases k1 : t.fg < 1
 ·simp [k1]
 by_cases k2 : 4 < t.fg
 ·simp [k1, k2]
 rw [Ay k1, Ay k2]
 by_cases hk : t.ft = true ∧ (t.fg = 3 ∨ t.fg = 4)
 ·obtain ⟨ha, k | k⟩ := hk <;> simp [ha, k]
 rw [Al, Xl _ _ hk, if_neg (fun h => h.elim k1 fun h => h.elim k2 hk)]
 by_cases f1 : t.fh < 0
 ·simp [f1]
 by_cases f2 : (p.fb.length : Int) ≤ t.fh
 ·simp [f1, f2]
 by_cases f3 : t.fk < 0
 ·simp [f1, f2, f3]
 by_cases f4 : (p.fb.length : Int) ≤ t.fk
 ·simp [f1, f2, f3, f4]
 rw [Ay f1, Ay f2, Ay f3, if_neg (fun h => h.elim f1 fun h => h.elim f2 fun h => h.elim f3 f4)]
 have hf := Kt hv (i := t.fh) (by omega) (by omega)
 rw [decide_eq_false f4, Al, El (d := 0) (by omega : 0 ≤ t.fh) (by omega), El (d := 0) (by omega : 0 ≤ t.fk) (by omega)]
 simp only [oS]
 generalize p.fb.getD t.fh.toNat 0 = f at *
 generalize p.fb.getD t.fk.toNat 0 = g at *
 rw [Rn N t.fr f g (by omega) hN, Rn N t.fm f f (by omega) hN]
 simp only [oS]
 cases hq : sq t.fr f g
 ·rfl
 simp only [yA, Al]
 by_cases k4 : t.fg = 4
 ·have : (t.fg != 4) = false := by simp [k4]
  rw [this, Al]
  simp only [k4, if_true]
  cases hr : sq t.fm f f
  ·rfl
  ·have h7 := OY hr
   simp only [yA, Al]
   rw [Yc N t (by omega) hN (fun row hm => by have := h7.2 row hm; omega)]
   cases J3 t.fm <;> simp [BT]
 ·have : (t.fg != 4) = true := by simpa using k4
  rw [this, AQ]
  simp only [k4, if_false]
  by_cases hr : t.fm.length = 0
  ·simp [hr]
  ·have : ((t.fm.length : Int) != 0) = true := bne_iff_ne.2 (by omega)
   rw [this]; simp [hr]
theorem Yd (N : Nat) (k : Int) (a : Bool) : HD N k a = some (k == 1 || (k == 2 || ((k == 3 || k == 4) && !a))) := by
 unfold HD
 simp only [Bd]
 cases h1 : k == 1 <;> cases h2 : k == 2 <;> cases h3 : k == 3 <;> cases h4 : k == 4 <;> cases a <;> rfl
theorem PY (N : Nat) (p : Aa) (t : An) (hN : N ≤ 1000000) (h6 : 7 ≤ N) (hv : ∀ v, v ∈ p.fb → 1 ≤ v ∧ v ≤ 6) : Ha N p t = some (D9 p t) := by
 unfold Ha D9
 simp only [Bd, Yd, Ri, oS]
 by_cases hb : t.fg < 1 ∨ 4 < t.fg ∨ (t.ft = true ∧ (t.fg = 3 ∨ t.fg = 4))
 ·have : (t.fg == 1 || (t.fg == 2 || ((t.fg == 3 || t.fg == 4) && !t.ft))) = false := by
   rcases hb with h | h | ⟨ha, h | h⟩
   ·rw [beq_eq_false_iff_ne.2 (by omega : t.fg ≠ 1), beq_eq_false_iff_ne.2 (by omega : t.fg ≠ 2), beq_eq_false_iff_ne.2 (by omega : t.fg ≠ 3), beq_eq_false_iff_ne.2 (by omega : t.fg ≠ 4)]; rfl
   ·rw [beq_eq_false_iff_ne.2 (by omega : t.fg ≠ 1), beq_eq_false_iff_ne.2 (by omega : t.fg ≠ 2), beq_eq_false_iff_ne.2 (by omega : t.fg ≠ 3), beq_eq_false_iff_ne.2 (by omega : t.fg ≠ 4)]; rfl
   ·simp [ha, h]
   ·simp [ha, h]
  rw [this, if_pos hb]; rfl
 ·have : (t.fg == 1 || (t.fg == 2 || ((t.fg == 3 || t.fg == 4) && !t.ft))) = true := by
   have hk : t.fg = 1 ∨ t.fg = 2 ∨ t.fg = 3 ∨ t.fg = 4 := by
    have h1 : ¬ t.fg < 1 := fun h => hb (.inl h)
    have h2 : ¬ 4 < t.fg := fun h => hb (.inr (.inl h))
    omega
   rcases hk with h | h | h | h
   ·simp [h]
   ·simp [h]
   ·cases ha : t.ft
    ·simp [h]
    ·exact (hb (.inr (.inr ⟨ha, .inl h⟩))).elim
   ·cases ha : t.ft
    ·simp [h]
    ·exact (hb (.inr (.inr ⟨ha, .inr h⟩))).elim
  rw [this, if_neg hb]
  simp only [yA, Al]
  by_cases f1 : t.fh < 0
  ·simp [f1, show ¬ (0 ≤ t.fh) from by omega]
  by_cases f2 : (p.fb.length : Int) ≤ t.fh
  ·simp [f2, show ¬ (t.fh < (p.fb.length : Int)) from by omega]
  by_cases f3 : t.fk < 0
  ·simp [f3, show 0 ≤ t.fh from by omega, show t.fh < (p.fb.length : Int) from by omega, show ¬ (0 ≤ t.fk) from by omega]
  by_cases f4 : (p.fb.length : Int) ≤ t.fk
  ·simp [f4, show 0 ≤ t.fh from by omega, show t.fh < (p.fb.length : Int) from by omega, show ¬ (t.fk < (p.fb.length : Int)) from by omega]
  rw [if_neg (fun h => h.elim f1 fun h => h.elim f2 fun h => h.elim f3 f4)]
  have hf := Kt hv (i := t.fh) (by omega) (by omega)
  have hg := Kt hv (i := t.fk) (by omega) (by omega)
  rw [decide_eq_true (by omega : 0 ≤ t.fh), decide_eq_true (by omega : t.fh < (p.fb.length : Int)), decide_eq_true (by omega : 0 ≤ t.fk), decide_eq_true (by omega : t.fk < (p.fb.length : Int)), El (d := 0) (by omega : 0 ≤ t.fh) (by omega), El (d := 0) (by omega : 0 ≤ t.fk) (by omega)]
  simp only [Bool.and_self, yA, Al, oS]
  generalize p.fb.getD t.fh.toNat 0 = f at *
  generalize p.fb.getD t.fk.toNat 0 = g at *
  rw [Q5 N t.fr f g (by omega) hN, Q5 N t.fm f f (by omega) hN]
  simp only [oS]
  cases hq : sq t.fr f g
  ·rfl
  simp only [yA, Al]
  by_cases k4 : t.fg = 4
  ·simp only [k4, beq_self_eq_true, AQ, if_true]
   cases hr : sq t.fm f f
   ·rfl
   ·have h7 := OY hr
    simp only [yA, Al]
    rw [QJ N t (by omega) hN (fun row hm => by have := h7.2 row hm; omega)]
    cases J3 t.fm <;> simp [BT]
  ·have : (t.fg == 4) = false := beq_eq_false_iff_ne.2 k4
   rw [this, Al]
   simp only [k4, if_false, yU, AQ]
   by_cases hr : t.fm.length = 0
   ·rw [QJ N t (by omega) hN (fun row hm => by rw [yN hr] at hm; cases hm), yN hr]
    simp [J3, CG, BT]
   ·rw [decide_eq_true (by omega : 0 < (t.fm.length : Int))]
    simp [hr]
def Ge (p : Aa) (i : Nat) (v : Int) : Option Int :=
 if v < 1 ∨ 6 < v ∨ p.fj.getD i 0 < 0 ∨ v ≤ p.fj.getD i 0 ∨ p.fo.getD i 0 < 0 ∨ v ≤ p.fo.getD i 0 then some 7 else none
def Mu (p : Aa) (_ : Nat) (t : An) : Option Int := if D9 p t = 0 then none else some (D9 p t)
def BR (p : Aa) : Int :=
 if 6 < p.fb.length ∨ 12 < p.fd.length then 3
 else if p.fj.length ≠ p.fb.length ∨ p.fo.length ≠ p.fb.length then 6
 else ((BT (CG (Ge p) 0 p.fb) (CG (Mu p) 0 p.fd)).getD 0)
theorem Ff {α R : Type} {f : Nat → α → Option R} : ∀ {i : Nat} {xs : List α}, CG f i xs = none → ∀ j x, xs[j]? = some x → f (i + j) x = none
 | _, [], _, j, x, hx => by simp at hx
 | i, y :: ys, h, j, x, hx => by
  rw [FP] at h
  split at h
  ·cases h
  ·rename_i h0
   cases j with
   | zero => simp at hx; subst hx; exact h0
   | succ j =>
    have := Ff h j x (by simpa using hx)
    rwa [show i + 1 + j = i + (j + 1) from by omega] at this
theorem P3 {p : Aa} (h : CG (Ge p) 0 p.fb = none) : ∀ v, v ∈ p.fb → 1 ≤ v ∧ v ≤ 6 := by
 intro v hv
 obtain ⟨i, hi⟩ := zT.1 hv
 have := Ff h i v hi
 unfold Ge at this
 split at this
 ·cases this
 ·rename_i hn
  constructor
  ·exact Int.not_lt.1 fun h => hn (.inl h)
  ·exact Int.not_lt.1 fun h => hn (.inr (.inl h))
theorem Dc {α : Type} {xs : List α} {i : Nat} {d : α} (h : i < xs.length) : Bj xs (i : Int) = some (xs.getD i d) := by
 rw [AU, lD]; simp [h]
theorem T8 (N : Nat) (p : Aa) (hN : N ≤ 1000000) (h1 : p.fb.length < N) (h2 : p.fj.length = p.fb.length) (h3 : p.fo.length = p.fb.length) (j : Option Int) :
  Bm N p (fun _ => j) N 0 = BT (CG (Ge p) 0 p.fb) j := by
 have := BO (Bm N p (fun _ => j)) p.fb j (Ge p)
  (fun n i x hx => by
   have hi := (lI.1 hx).1
   rw [Bm, AB (by omega), AU, hx]
   simp only [oS, Bd]
   rw [Dc (d := 0) (by omega), Dc (d := 0) (by omega), AE (by omega)]
   simp only [oS]
   unfold Ge
   generalize p.fj.getD i 0 = a
   generalize p.fo.getD i 0 = b
   by_cases k1 : x < 1 <;> by_cases k2 : 6 < x <;> by_cases k3 : a < 0 <;> by_cases k4 : x ≤ a <;> by_cases k5 : b < 0 <;> by_cases k6 : x ≤ b <;> simp [k1, k2, k3, k4, k5, k6, BT])
  (fun n => by rw [Bm, Ay (by omega)]) N 0 (by omega) (by omega)
 simpa using this
theorem Rv (N : Nat) (p : Aa) (hN : N ≤ 1000000) (h1 : p.fb.length < N) (h2 : p.fj.length = p.fb.length) (h3 : p.fo.length = p.fb.length) (j : Option Int) :
  Cb N p (fun _ => j) N 0 = BT (CG (Ge p) 0 p.fb) j := by
 have := BO (Cb N p (fun _ => j)) p.fb j (Ge p)
  (fun n i x hx => by
   have hi := (lI.1 hx).1
   rw [Cb, AB (by omega), AU, hx]
   simp only [oS, Bd, Ri]
   rw [Dc (d := 0) (by omega), Dc (d := 0) (by omega), AE (by omega)]
   simp only [oS]
   unfold Ge
   generalize p.fj.getD i 0 = a
   generalize p.fo.getD i 0 = b
   have e1 : decide (0 ≤ a) = !decide (a < 0) := by rw [← decide_not]; congr 1; simp
   have e2 : decide (a < x) = !decide (x ≤ a) := by rw [← decide_not]; congr 1; simp
   have e3 : decide (0 ≤ b) = !decide (b < 0) := by rw [← decide_not]; congr 1; simp
   have e4 : decide (b < x) = !decide (x ≤ b) := by rw [← decide_not]; congr 1; simp
   rw [e1, e2, e3, e4]
   by_cases k1 : x < 1 <;> by_cases k2 : 6 < x <;> by_cases k3 : a < 0 <;> by_cases k4 : x ≤ a <;> by_cases k5 : b < 0 <;> by_cases k6 : x ≤ b <;> simp [k1, k2, k3, k4, k5, k6, BT])
  (fun n => by rw [Cb, Ay (by omega)]) N 0 (by omega) (by omega)
 simpa using this
theorem Wr (N : Nat) (p : Aa) (hN : N ≤ 1000000) (h6 : 7 ≤ N) (h1 : p.fd.length < N) (hv : ∀ v, v ∈ p.fb → 1 ≤ v ∧ v ≤ 6) (j : Option Int) :
  Bh N p (fun _ => j) N 0 = BT (CG (Mu p) 0 p.fd) j := by
 have := BO (Bh N p (fun _ => j)) p.fd j (Mu p)
  (fun n i x hx => by
   have hi := (lI.1 hx).1
   rw [Bh, AB (by omega), AU, hx]
   simp only [oS]
   rw [VD N p x hN h6 hv, AE (by omega)]
   simp only [oS]
   unfold Mu
   by_cases k : D9 p x = 0
   ·simp [k, BT]
   ·rw [bne_iff_ne.2 k, if_neg k]; rfl)
  (fun n => by rw [Bh, Ay (by omega)]) N 0 (by omega) (by omega)
 simpa using this
theorem Ur (N : Nat) (p : Aa) (hN : N ≤ 1000000) (h6 : 7 ≤ N) (h1 : p.fd.length < N) (hv : ∀ v, v ∈ p.fb → 1 ≤ v ∧ v ≤ 6) (j : Option Int) :
  B0 N p (fun _ => j) N 0 = BT (CG (Mu p) 0 p.fd) j := by
 have := BO (B0 N p (fun _ => j)) p.fd j (Mu p)
  (fun n i x hx => by
   have hi := (lI.1 hx).1
   rw [B0, AB (by omega), AU, hx]
   simp only [oS]
   rw [PY N p x hN h6 hv, AE (by omega)]
   simp only [oS]
   unfold Mu
   by_cases k : D9 p x = 0
   ·simp [k, BT]
   ·rw [bne_iff_ne.2 k, if_neg k]; rfl)
  (fun n => by rw [B0, Ay (by omega)]) N 0 (by omega) (by omega)
 simpa using this
theorem JW (N : Nat) (p : Aa) (hN : N ≤ 1000000) (h : 20 ≤ N) : Br N p = some (BR p) := by
 unfold Br BR
 simp only [Bd]
 by_cases k1 : 6 < p.fb.length
 ·rw [AB (by omega)]; simp [k1]
 rw [Ay (by omega)]
 by_cases k2 : 12 < p.fd.length
 ·rw [decide_eq_true (by omega : (12 : Int) < (p.fd.length : Int))]; simp [k2]
 rw [decide_eq_false (by omega : ¬ (12 : Int) < (p.fd.length : Int)), Al, if_neg (by omega)]
 by_cases k3 : p.fj.length = p.fb.length
 ·by_cases k4 : p.fo.length = p.fb.length
  ·rw [k3, k4]
   simp only [bne_self_eq_false, Al, ne_eq, not_true_eq_false, or_self, if_false]
   rw [T8 N p hN (by omega) k3 k4]
   cases hs : CG (Ge p) 0 p.fb with
   | some r => rfl
   | none =>
    simp only [BT]
    rw [Wr N p hN (by omega) (by omega) (P3 hs)]
    cases CG (Mu p) 0 p.fd <;> rfl
  ·have : ((p.fo.length : Int) != (p.fb.length : Int)) = true := bne_iff_ne.2 (by omega)
   rw [this, k3]; simp [k4]
 ·have : ((p.fj.length : Int) != (p.fb.length : Int)) = true := bne_iff_ne.2 (by omega)
  rw [this]; simp [k3]
theorem Io (N : Nat) (p : Aa) (hN : N ≤ 1000000) (h : 20 ≤ N) : Cf N p = some (BR p) := by
 unfold Cf BR
 simp only [Bd]
 by_cases k1 : 6 < p.fb.length
 ·rw [AB (by omega)]; simp [k1]
 rw [Ay (by omega)]
 by_cases k2 : 12 < p.fd.length
 ·rw [decide_eq_true (by omega : (12 : Int) < (p.fd.length : Int))]; simp [k2]
 rw [decide_eq_false (by omega : ¬ (12 : Int) < (p.fd.length : Int)), Al, if_neg (by omega)]
 by_cases k3 : p.fj.length = p.fb.length
 ·by_cases k4 : p.fo.length = p.fb.length
  ·rw [k3, k4]
   simp only [bne_self_eq_false, Al, ne_eq, not_true_eq_false, or_self, if_false]
   rw [Rv N p hN (by omega) k3 k4]
   cases hs : CG (Ge p) 0 p.fb with
   | some r => rfl
   | none =>
    simp only [BT]
    rw [Ur N p hN (by omega) (by omega) (P3 hs)]
    cases CG (Mu p) 0 p.fd <;> rfl
  ·have : ((p.fo.length : Int) != (p.fb.length : Int)) = true := bne_iff_ne.2 (by omega)
   rw [this, k3]; simp [k4]
 ·have : ((p.fj.length : Int) != (p.fb.length : Int)) = true := bne_iff_ne.2 (by omega)
  rw [this]; simp [k3]
theorem JP {n : Int} (h : Mr n) : 0 ≤ n ∧ n ≤ 255 := by
 unfold Mr at h
 simpa [Lit.wf, IntKind.min, IntKind.max, IntKind.signed, IntKind.bits] using h
theorem Qe : ∀ k : Fin 256, Df .u8 0 (k.val : Int) = 0 := by decide +kernel
theorem Qa : ∀ k : Fin 256, Df .u8 (k.val : Int) 0 = (k.val : Int) := by decide +kernel
theorem Wd {n : Int} (h : Mr n) : Df .u8 0 n = 0 := by
 have := JP h
 obtain ⟨k, rfl⟩ := zJ this.1
 exact Qe ⟨k, by omega⟩
theorem WW {n : Int} (h : Mr n) : Df .u8 n 0 = n := by
 have := JP h
 obtain ⟨k, rfl⟩ := zJ this.1
 exact Qa ⟨k, by omega⟩
theorem DW {α R : Type} {f : Nat → α → Option R} : ∀ {i : Nat} {xs : List α} {r : R}, CG f i xs = some r → ∃ j x, xs[j]? = some x ∧ f (i + j) x = some r
 | _, [], _, h => by cases h
 | i, y :: ys, r, h => by
  rw [FP] at h
  split at h
  ·rename_i r' h0
   cases h
   exact ⟨0, y, rfl, h0⟩
  ·obtain ⟨j, x, h1, h2⟩ := DW h
   exact ⟨j + 1, x, by simpa using h1, by rwa [show i + (j + 1) = i + 1 + j from by omega]⟩
structure Bf (p : Aa) : Prop where
 nv : p.fb.length ≤ 6
 nt : p.fd.length ≤ 12
 now : p.fj.length = p.fb.length
 tgt : p.fo.length = p.fb.length
 ver : ∀ v, v ∈ p.fb → 1 ≤ v ∧ v ≤ 6
 tab : ∀ t, t ∈ p.fd → D9 p t = 0
theorem T6 (l : List (List Bool)) : (J3 l).getD 0 = 0 ∨ (J3 l).getD 0 = 1 := by
 cases h : J3 l with
 | none => exact .inl rfl
 | some r =>
  obtain ⟨j, x, _, h⟩ := DW h
  split at h
  ·cases h
  ·cases h; exact .inr rfl
theorem Rs (p : Aa) (t : An) : D9 p t = 0 ∨ D9 p t = 1 ∨ D9 p t = 4 ∨ D9 p t = 6 := by
 unfold D9
 split
 ·exact .inr (.inl rfl)
 split
 ·exact .inr (.inr (.inl rfl))
 simp only
 split
 ·exact .inr (.inr (.inr rfl))
 split
 ·split
  ·exact .inr (.inr (.inr rfl))
  ·rcases T6 t.fm with h | h
   ·exact .inl h
   ·exact .inr (.inl h)
 ·split
  ·exact .inl rfl
  ·exact .inr (.inr (.inr rfl))
theorem JH (p : Aa) : (BR p = 0 ∧ Bf p) ∨ (BR p = 1 ∨ BR p = 3 ∨ BR p = 4 ∨ BR p = 6 ∨ BR p = 7) := by
 unfold BR
 split
 ·simp
 rename_i k1
 split
 ·simp
 rename_i k2
 cases hs : CG (Ge p) 0 p.fb with
 | some r =>
  obtain ⟨j, x, _, h⟩ := DW hs
  unfold Ge at h
  split at h
  ·cases h; simp [BT]
  ·cases h
 | none =>
  cases ht : CG (Mu p) 0 p.fd with
  | some r =>
   obtain ⟨j, t, _, h⟩ := DW ht
   unfold Mu at h
   split at h
   ·cases h
   ·rename_i hne
    cases h
    simp only [BT, yE]
    right
    rcases Rs p t with h | h | h | h
    ·exact (hne h).elim
    ·exact .inl h
    ·exact .inr (.inr (.inl h))
    ·exact .inr (.inr (.inr (.inl h)))
  | none =>
   left
   refine ⟨rfl, by omega, by omega, by omega, by omega, P3 hs, fun t hm => ?_⟩
   obtain ⟨j, hj⟩ := zT.1 hm
   have := Ff ht j t hj
   unfold Mu at this
   split at this
   ·assumption
   ·cases this
def HI (m : Ac) (s : Nat) : Int :=
 if 0 ≤ m.fc.getD s 0 then PI .u8 (D1 .u8 1 (m.fe.getD s 0)) (D1 .u8 1 (m.fc.getD s 0)) else D1 .u8 1 (m.fe.getD s 0)
def MV (m : Ac) (i : Nat) (v : Int) : Option Int :=
 if m.fe.getD i 0 < 0 ∨ v ≤ m.fe.getD i 0 ∨ m.fc.getD i 0 < -1 ∨ v ≤ m.fc.getD i 0 then some 7
 else if m.fe.getD i 0 = m.fc.getD i 0 then some 1 else none
def B5 (t : An) : Bool := t.fg == 3 || t.fg == 4
def YI (p : Aa) (t : An) : Int := wI .u8 (D1 .u8 1 (p.fb.getD t.fh.toNat 0) - 1)
def Kh (p : Aa) (m : Ac) (i : Nat) (t : An) : Option Int :=
 if B5 t = true then (if Df .u8 (HI m t.fh.toNat) (m.ff.getD i 0) ≠ 0 ∨ Df .u8 (m.ff.getD i 0) (YI p t) ≠ 0 then some 1 else none)
 else if m.ff.getD i 0 ≠ 0 then some 1 else none
def Gi (p : Aa) (m : Ac) : Int :=
 if BR p ≠ 0 then BR p
 else if m.fe.length ≠ p.fb.length ∨ m.fc.length ≠ p.fb.length ∨ m.ff.length ≠ p.fd.length then 6
 else (BT (CG (MV m) 0 p.fb) (CG (Kh p m) 0 p.fd)).getD 0
theorem Ke {p : Aa} {t : An} (h : D9 p t = 0) : 0 ≤ t.fh ∧ t.fh < (p.fb.length : Int) ∧ 0 ≤ t.fk ∧ t.fk < (p.fb.length : Int) := by
 unfold D9 at h
 split at h
 ·cases h
 ·split at h
  ·cases h
  ·omega
theorem M0 (N : Nat) (m : Ac) (s : Int) (h0 : 0 ≤ s) (h1 : s < (m.fe.length : Int)) (h2 : s < (m.fc.length : Int)) (hb : 0 ≤ m.fe.getD s.toNat 0) : FB N m s = some (HI m s.toNat) := by
 unfold FB HI
 rw [El (d := 0) h0 h1, El (d := 0) h0 h2]
 simp only [oS, Bd]
 rw [show DI (0 ≤ m.fe.getD s.toNat 0) = some () from by unfold DI; rw [if_pos hb]]
 simp only [oS]
 by_cases h : 0 ≤ m.fc.getD s.toNat 0
 ·rw [AB h, if_pos h, show DI (0 ≤ m.fc.getD s.toNat 0) = some () from by unfold DI; rw [if_pos h]]; rfl
 ·rw [Ay h, if_neg h]
theorem KV (N : Nat) (m : Ac) (s : Int) (h0 : 0 ≤ s) (h1 : s < (m.fe.length : Int)) (h2 : s < (m.fc.length : Int)) (hb : 0 ≤ m.fe.getD s.toNat 0) : B7 N m s = some (HI m s.toNat) := by
 unfold B7 HI
 rw [El (d := 0) h0 h1, El (d := 0) h0 h2]
 simp only [oS, Bd]
 rw [show DI (0 ≤ m.fe.getD s.toNat 0) = some () from by unfold DI; rw [if_pos hb]]
 simp only [oS]
 by_cases h : 0 ≤ m.fc.getD s.toNat 0
 ·rw [AB h, if_pos h, show DI (0 ≤ m.fc.getD s.toNat 0) = some () from by unfold DI; rw [if_pos h]]; rfl
 ·rw [Ay h, if_neg h]
theorem R8 (N : Nat) (p : Aa) (m : Ac) (hN : N ≤ 1000000) (h1 : p.fb.length < N) (h2 : m.fe.length = p.fb.length) (h3 : m.fc.length = p.fb.length) (j : Option Int) :
  EA N p m (fun _ => j) N 0 = BT (CG (MV m) 0 p.fb) j := by
 have := BO (EA N p m (fun _ => j)) p.fb j (MV m)
  (fun n i x hx => by
   have hi := (lI.1 hx).1
   rw [EA, AB (by omega), AU, hx]
   simp only [oS, Bd]
   rw [Dc (d := 0) (by omega), Dc (d := 0) (by omega), AE (by omega)]
   simp only [oS]
   unfold MV
   generalize m.fe.getD i 0 = a
   generalize m.fc.getD i 0 = b
   by_cases k7 : a = b
   ·subst k7
    by_cases k3 : a < 0 <;> by_cases k4 : x ≤ a <;> by_cases k5 : a < -1 <;> simp [k3, k4, k5, BT]
   ·have k8 : (a == b) = false := beq_eq_false_iff_ne.2 k7
    by_cases k3 : a < 0 <;> by_cases k4 : x ≤ a <;> by_cases k5 : b < -1 <;> by_cases k6 : x ≤ b <;> simp [k3, k4, k5, k6, k7, k8, BT])
  (fun n => by rw [EA, Ay (by omega)]) N 0 (by omega) (by omega)
 simpa using this
theorem R6 (N : Nat) (p : Aa) (m : Ac) (hN : N ≤ 1000000) (h1 : p.fb.length < N) (h2 : m.fe.length = p.fb.length) (h3 : m.fc.length = p.fb.length) (j : Option Int) :
  Cm N p m (fun _ => j) N 0 = BT (CG (MV m) 0 p.fb) j := by
 have := BO (Cm N p m (fun _ => j)) p.fb j (MV m)
  (fun n i x hx => by
   have hi := (lI.1 hx).1
   rw [Cm, AB (by omega), show Bj p.fb (i : Int) = some x from by rw [AU, hx]]
   simp only [oS, Bd]
   rw [Dc (d := 0) (by omega), Dc (d := 0) (by omega), AE (by omega)]
   simp only [oS]
   unfold MV
   generalize m.fe.getD i 0 = a
   generalize m.fc.getD i 0 = b
   by_cases k7 : a = b
   ·subst k7
    by_cases k3 : a < 0 <;> by_cases k4 : x ≤ a <;> by_cases k5 : a < -1 <;> simp [k3, k4, k5, BT]
   ·have k8 : (a == b) = false := beq_eq_false_iff_ne.2 k7
    by_cases k3 : a < 0 <;> by_cases k4 : x ≤ a <;> by_cases k5 : b < -1 <;> by_cases k6 : x ≤ b <;> simp [k3, k4, k5, k6, k7, k8, BT])
  (fun n => by rw [Cm, Ay (by omega)]) N 0 (by omega) (by omega)
 simpa using this
structure MixServ (p : Aa) (m : Ac) : Prop where
 base : m.fe.length = p.fb.length
 next : m.fc.length = p.fb.length
 held : m.ff.length = p.fd.length
 b0 : ∀ i, i < p.fb.length → 0 ≤ m.fe.getD i 0 ∧ m.fe.getD i 0 < p.fb.getD i 0
 n0 : ∀ i, i < p.fb.length → -1 ≤ m.fc.getD i 0 ∧ m.fc.getD i 0 < p.fb.getD i 0
 ne : ∀ i, i < p.fb.length → m.fe.getD i 0 ≠ m.fc.getD i 0
theorem RD {p : Aa} {m : Ac} (h2 : m.fe.length = p.fb.length) (h3 : m.fc.length = p.fb.length) (h4 : m.ff.length = p.fd.length) (h : CG (MV m) 0 p.fb = none) : MixServ p m := by
 have key : ∀ i, i < p.fb.length → ¬ (m.fe.getD i 0 < 0 ∨ p.fb.getD i 0 ≤ m.fe.getD i 0 ∨ m.fc.getD i 0 < -1 ∨ p.fb.getD i 0 ≤ m.fc.getD i 0) ∧ ¬ m.fe.getD i 0 = m.fc.getD i 0 := by
  intro i hi
  have hx : p.fb[i]? = some (p.fb.getD i 0) := by rw [lD]; simp [hi]
  have := Ff h i _ hx
  rw [zC] at this
  unfold MV at this
  split at this
  ·cases this
  ·split at this
   ·cases this
   ·rename_i k1 k2; exact ⟨k1, k2⟩
 exact ⟨h2, h3, h4, fun i hi => by have := (key i hi).1; omega, fun i hi => by have := (key i hi).1; omega, fun i hi => (key i hi).2⟩
theorem TM {m : Ac} (hw : OX Mr m.ff) {i : Nat} (h : i < m.ff.length) : Mr (m.ff.getD i 0) := by
 refine hw _ ?_
 rw [lD, yJ h]
 exact xE _
theorem KA (N : Nat) (t : An) : F4 N t = some (B5 t) := by
 unfold F4 B5
 simp only [Bd]
 cases h : t.fg == 3 <;> simp
theorem HG (N : Nat) (t : An) : Ba N t = some (B5 t) := N2 N t
theorem Uv (N : Nat) (p : Aa) (m : Ac) (hN : N ≤ 1000000) (h1 : p.fd.length < N) (hp : Bf p) (hm : MixServ p m) (hw : OX Mr m.ff) (j : Option Int) :
  Eb N p m (fun _ => j) N 0 = BT (CG (Kh p m) 0 p.fd) j := by
 have := BO (Eb N p m (fun _ => j)) p.fd j (Kh p m)
  (fun n i x hx => by
   have hi := (lI.1 hx).1
   have hin := Ke (hp.tab x (lM hx))
   have hheld := TM hw (show i < m.ff.length from by rw [hm.held]; exact hi)
   have hv := Kt hp.ver hin.1 hin.2.1
   rw [Eb, AB (by omega), AU, hx]
   simp only [oS, Bd, KA]
   rw [M0 N m x.fh hin.1 (by rw [hm.base]; exact hin.2.1) (by rw [hm.next]; exact hin.2.1) (hm.b0 _ (by omega)).1, El (d := 0) hin.1 hin.2.1, Dc (d := 0) (show i < m.ff.length from by rw [hm.held]; exact hi), AE (by omega)]
   simp only [oS]
   rw [show DI (0 ≤ p.fb.getD x.fh.toNat 0) = some () from by unfold DI; rw [if_pos (by omega)]]
   simp only [oS]
   unfold Kh YI
   rw [Wd hheld, WW hheld]
   generalize Df .u8 (HI m x.fh.toNat) (m.ff.getD i 0) = A
   generalize Df .u8 (m.ff.getD i 0) (wI .u8 (D1 .u8 1 (p.fb.getD x.fh.toNat 0) - 1)) = B
   generalize m.ff.getD i 0 = H
   cases B5 x
   ·simp only [Al, bne_self_eq_false]
    by_cases k : H = 0
    ·simp [k, BT]
    ·have : (H != 0) = true := bne_iff_ne.2 k
     simp [k, this, BT]
   ·simp only [AQ]
    by_cases k : A = 0
    ·by_cases k2 : B = 0
     ·simp [k, k2, BT]
     ·have : (B != 0) = true := bne_iff_ne.2 k2
      simp [k, k2, this, BT]
    ·have : (A != 0) = true := bne_iff_ne.2 k
     simp [k, this, BT])
  (fun n => by rw [Eb, Ay (by omega)]) N 0 (by omega) (by omega)
 simpa using this
theorem T3 (N : Nat) (p : Aa) (m : Ac) (hN : N ≤ 1000000) (h1 : p.fd.length < N) (hp : Bf p) (hm : MixServ p m) (j : Option Int) :
  Ca N p m (fun _ => j) N 0 = BT (CG (Kh p m) 0 p.fd) j := by
 have := BO (Ca N p m (fun _ => j)) p.fd j (Kh p m)
  (fun n i x hx => by
   have hi := (lI.1 hx).1
   have hin := Ke (hp.tab x (lM hx))
   have hv := Kt hp.ver hin.1 hin.2.1
   rw [Ca, AB (by omega), AU, hx]
   simp only [oS, Bd, HG]
   rw [KV N m x.fh hin.1 (by rw [hm.base]; exact hin.2.1) (by rw [hm.next]; exact hin.2.1) (hm.b0 _ (by omega)).1, El (d := 0) hin.1 hin.2.1, Dc (d := 0) (show i < m.ff.length from by rw [hm.held]; exact hi), AE (by omega)]
   simp only [oS]
   rw [show DI (0 ≤ p.fb.getD x.fh.toNat 0) = some () from by unfold DI; rw [if_pos (by omega)]]
   simp only [oS]
   unfold Kh YI
   generalize Df .u8 (HI m x.fh.toNat) (m.ff.getD i 0) = A
   generalize Df .u8 (m.ff.getD i 0) (wI .u8 (D1 .u8 1 (p.fb.getD x.fh.toNat 0) - 1)) = B
   generalize m.ff.getD i 0 = H
   cases B5 x
   ·simp only [yU, AQ, Al]
    by_cases k : H = 0
    ·simp [k, BT]
    ·have : (H != 0) = true := bne_iff_ne.2 k
     simp [k, this, BT]
   ·simp only [yA, Al, AQ]
    by_cases k : A = 0
    ·by_cases k2 : B = 0
     ·simp [k, k2, BT]
     ·have : (B != 0) = true := bne_iff_ne.2 k2
      simp [k, k2, this, BT]
    ·have : (A != 0) = true := bne_iff_ne.2 k
     by_cases k2 : B = 0
     ·simp [k, k2, this, BT]
     ·have h5 : (B != 0) = true := bne_iff_ne.2 k2
      simp [k, h5, BT])
  (fun n => by rw [Ca, Ay (by omega)]) N 0 (by omega) (by omega)
 simpa using this
theorem JF (N : Nat) (p : Aa) (m : Ac) (hN : N ≤ 1000000) (h : 20 ≤ N) (hw : OX Mr m.ff) : FX N p m = some (Gi p m) := by
 unfold FX Gi
 rw [Io N p hN h]
 simp only [oS, Bd]
 by_cases k0 : BR p = 0
 ·have hp : Bf p := by
   rcases JH p with h | h
   ·exact h.2
   ·omega
  have hnv := hp.nv
  have hnt := hp.nt
  rw [k0]
  simp only [bne_self_eq_false, Al, ne_eq, not_true_eq_false, if_false]
  by_cases k1 : m.fe.length = p.fb.length
  ·by_cases k2 : m.fc.length = p.fb.length
   ·by_cases k3 : m.ff.length = p.fd.length
    ·rw [k1, k2, k3]
     simp only [bne_self_eq_false, Al, not_true_eq_false, or_self, if_false]
     rw [R8 N p m hN (by omega) k1 k2]
     cases hs : CG (MV m) 0 p.fb with
     | some r => rfl
     | none =>
      simp only [BT]
      rw [Uv N p m hN (by omega) hp (RD k1 k2 k3 hs) hw]
      cases CG (Kh p m) 0 p.fd <;> rfl
    ·have : ((m.ff.length : Int) != (p.fd.length : Int)) = true := bne_iff_ne.2 (by omega)
     rw [this, k1, k2]; simp [k3]
   ·have : ((m.fc.length : Int) != (p.fb.length : Int)) = true := bne_iff_ne.2 (by omega)
    rw [this, k1]; simp [k2]
  ·have : ((m.fe.length : Int) != (p.fb.length : Int)) = true := bne_iff_ne.2 (by omega)
   rw [this]; simp [k1]
 ·rw [bne_iff_ne.2 k0]; simp [k0]
theorem JB (N : Nat) (p : Aa) (m : Ac) (hN : N ≤ 1000000) (h : 20 ≤ N) : Dy N p m = some (Gi p m) := by
 unfold Dy Gi
 rw [JW N p hN h]
 simp only [oS, Bd]
 by_cases k0 : BR p = 0
 ·have hp : Bf p := by
   rcases JH p with h | h
   ·exact h.2
   ·omega
  have hnv := hp.nv
  have hnt := hp.nt
  rw [k0]
  simp only [bne_self_eq_false, Al, ne_eq, not_true_eq_false, if_false]
  by_cases k1 : m.fe.length = p.fb.length
  ·by_cases k2 : m.fc.length = p.fb.length
   ·by_cases k3 : m.ff.length = p.fd.length
    ·rw [k1, k2, k3]
     simp only [bne_self_eq_false, Al, not_true_eq_false, or_self, if_false]
     rw [R6 N p m hN (by omega) k1 k2]
     cases hs : CG (MV m) 0 p.fb with
     | some r => rfl
     | none =>
      simp only [BT]
      rw [T3 N p m hN (by omega) hp (RD k1 k2 k3 hs)]
      cases CG (Kh p m) 0 p.fd <;> rfl
    ·have : ((m.ff.length : Int) != (p.fd.length : Int)) = true := bne_iff_ne.2 (by omega)
     rw [this, k1, k2]; simp [k3]
   ·have : ((m.fc.length : Int) != (p.fb.length : Int)) = true := bne_iff_ne.2 (by omega)
    rw [this, k1]; simp [k2]
  ·have : ((m.fe.length : Int) != (p.fb.length : Int)) = true := bne_iff_ne.2 (by omega)
   rw [this]; simp [k1]
 ·rw [bne_iff_ne.2 k0]; simp [k0]
@[simp] theorem Bl {α β : Type} (k : α) (f : α → β) : Bd k f = f k := rfl
@[simp] theorem Xd {p : Prop} [Decidable p] (h : p) : DI p = some () := by unfold DI; rw [if_pos h]
theorem Au {β : Type} {p : Prop} [Decidable p] (h : p) (f : Unit → Option β) : (DI p).bind f = f () := by rw [Xd h]; rfl
def CH {α β : Type} (g : Nat → α → List β) : Nat → List α → List β
 | _, [] => []
 | i, x :: xs => g i x ++ CH g (i + 1) xs
def Jk {α A : Type} (f : Nat → α → A → A) : Nat → List α → A → A
 | _, [], a => a
 | i, x :: xs, a => Jk f (i + 1) xs (f i x a)
theorem Ns {α β : Type} (g : Nat → α → List β) : ∀ (i : Nat) (xs ys : List α), CH g i (xs ++ ys) = CH g i xs ++ CH g (i + xs.length) ys
 | i, [], ys => by simp [CH]
 | i, x :: xs, ys => by
  rw [uQ, CH, CH, Ns g (i + 1) xs ys, yL, yD, xI, vT 1]
theorem Hm {α β : Type} {g : Nat → α → List β} {y : β} : ∀ {i : Nat} {xs : List α}, y ∈ CH g i xs ↔ ∃ j x, xs[j]? = some x ∧ y ∈ g (i + j) x
 | _, [] => by simp [CH]
 | i, x :: xs => by
  rw [CH, yC, Hm]
  constructor
  ·rintro (h | ⟨j, z, hz, h⟩)
   ·exact ⟨0, x, rfl, h⟩
   ·exact ⟨j + 1, z, by simpa using hz, by rwa [show i + (j + 1) = i + 1 + j from by omega]⟩
  ·rintro ⟨j, z, hz, h⟩
   cases j with
   | zero => simp at hz; subst hz; exact .inl h
   | succ j => exact .inr ⟨j, z, by simpa using hz, by rwa [show i + 1 + j = i + (j + 1) from by omega]⟩
theorem Gj {α β : Type} {g : Nat → α → List β} {c : Nat} : ∀ {i : Nat} {xs : List α}, (∀ j x, xs[j]? = some x → (g (i + j) x).length ≤ c) → (CH g i xs).length ≤ c * xs.length
 | _, [], _ => by simp [CH]
 | i, x :: xs, h => by
  have h1 := h 0 x rfl
  have h2 := Gj (g := g) (c := c) (i := i + 1) (xs := xs) fun j y hy => by
   have := h (j + 1) y (by simpa using hy)
   rwa [show i + (j + 1) = i + 1 + j from by omega] at this
  rw [CH, zW, yD, Nat.mul_add]
  simp only [xJ] at h1
  omega
theorem H8 {α A S R : Type} (L : Nat → S → Option R) (mk : A → Int → S) (xs : List α) (j : A → Option R) (f : Nat → α → A → A) (I : Nat → A → Prop)
  (hs : ∀ (n i : Nat) (x : α) (a : A), xs[i]? = some x → I i a → L (n + 1) (mk a (i : Int)) = L n (mk (f i x a) ((i + 1 : Nat) : Int)) ∧ I (i + 1) (f i x a))
  (he : ∀ (n : Nat) (a : A), I xs.length a → L (n + 1) (mk a (xs.length : Int)) = j a) :
  ∀ (n i : Nat) (a : A), i ≤ xs.length → xs.length - i < n → I i a → L n (mk a (i : Int)) = j (Jk f i (xs.drop i) a) ∧ I xs.length (Jk f i (xs.drop i) a)
 | 0, i, _, _, h, _ => by omega
 | n + 1, i, a, hi, h, ha => by
  by_cases h1 : i < xs.length
  ·have hx : xs[i]? = some xs[i] := by simp [h1]
   obtain ⟨e1, e2⟩ := hs n i _ a hx ha
   rw [e1, Gp hx, Jk]
   exact H8 L mk xs j f I hs he n (i + 1) _ (by omega) (by omega) e2
  ·have : i = xs.length := by omega
   subst this
   rw [yO (zN _), Jk]
   exact ⟨he n a ha, ha⟩
theorem PW {α β : Type} (g : Nat → α → List β) : ∀ (i : Nat) (xs : List α) (acc : List β), Jk (fun i x a => a ++ g i x) i xs acc = acc ++ CH g i xs
 | _, [], acc => by simp [Jk, CH]
 | i, x :: xs, acc => by rw [Jk, PW g (i + 1) xs, CH, yL]
theorem FQ {α β S R : Type} (L : Nat → S → Option R) (mk : List β → Int → S) (xs : List α) (j : List β → Option R) (g : Nat → α → List β) (c B : Nat)
  (hg : ∀ i x, xs[i]? = some x → (g i x).length ≤ c)
  (hs : ∀ (n i : Nat) (x : α) (a : List β), xs[i]? = some x → a.length + (g i x).length ≤ B → L (n + 1) (mk a (i : Int)) = L n (mk (a ++ g i x) ((i + 1 : Nat) : Int)))
  (he : ∀ (n : Nat) (a : List β), L (n + 1) (mk a (xs.length : Int)) = j a) (n : Nat) (a : List β) (hn : xs.length < n) (ha : a.length + c * xs.length ≤ B) :
  L n (mk a 0) = j (a ++ CH g 0 xs) := by
 have := H8 L mk xs j (fun i x a => a ++ g i x) (fun i b => i ≤ xs.length ∧ b.length ≤ a.length + c * i)
  (fun n i x b hx hb => by
   have h1 := hg i x hx
   have hi := (lI.1 hx).1
   have h2 : c * (i + 1) ≤ c * xs.length := Nat.mul_le_mul_left c hi
   have h3 : c * (i + 1) = c * i + c := Nat.mul_succ c i
   refine ⟨hs n i x b hx (by have := hb.2; omega), hi, ?_⟩
   rw [zW]
   have := hb.2
   omega)
  (fun n b _ => he n b) n 0 a (zK _) (by omega) ⟨zK _, by omega⟩
 have h2 := this.1
 rw [zZ, PW] at h2
 exact h2
def Eg (s : Int) (v : Nat) : Bool := s.toNat.testBit v
def Jt (m : Ac) (s v : Nat) : Bool := decide (m.fe.getD s 0 = (v : Int)) || decide (m.fc.getD s 0 = (v : Int))
theorem Za : ∀ (s : Fin 256) (v : Fin 8), AK .u8 (AZ .u8 (s.val : Int) (v.val : Int)) 1 = if Eg (s.val : Int) v.val then 1 else 0 := by decide +kernel
theorem R7 {s : Int} {v : Nat} (h0 : 0 ≤ s) (h1 : s ≤ 255) (hv : v < 8) : AK .u8 (AZ .u8 s (v : Int)) 1 = if Eg s v then 1 else 0 := by
 obtain ⟨k, rfl⟩ := zJ h0
 exact Za ⟨k, by omega⟩ ⟨v, hv⟩
theorem TH {s : Int} {v : Nat} (h0 : 0 ≤ s) (h1 : s ≤ 255) (hv : v < 8) : (AK .u8 (AZ .u8 s (v : Int)) 1 == 0) = !Eg s v := by
 rw [R7 h0 h1 hv]; cases Eg s v <;> rfl
theorem Tu {s : Int} {v : Nat} (h0 : 0 ≤ s) (h1 : s ≤ 255) (hv : v < 8) : (AK .u8 (AZ .u8 s (v : Int)) 1 == 1) = Eg s v := by
 rw [R7 h0 h1 hv]; cases Eg s v <;> rfl
theorem KW {s : Int} {v : Nat} (h1 : s ≤ 255) (hv : 8 ≤ v) : Eg s v = false := by
 unfold Eg
 apply Nat.testBit_lt_two_pow
 have : (2 : Nat) ^ 8 ≤ 2 ^ v := Nat.pow_le_pow_right (by omega) hv
 omega
theorem KY : ∀ (b : Fin 8) (v : Fin 8), Eg (D1 .u8 1 (b.val : Int)) v.val = decide (b.val = v.val) ∧ 0 ≤ D1 .u8 1 (b.val : Int) ∧ D1 .u8 1 (b.val : Int) ≤ 255 := by decide +kernel
theorem Yr : ∀ (b n : Fin 8) (v : Fin 8), Eg (PI .u8 (D1 .u8 1 (b.val : Int)) (D1 .u8 1 (n.val : Int))) v.val = (decide (b.val = v.val) || decide (n.val = v.val))
  ∧ 0 ≤ PI .u8 (D1 .u8 1 (b.val : Int)) (D1 .u8 1 (n.val : Int)) ∧ PI .u8 (D1 .u8 1 (b.val : Int)) (D1 .u8 1 (n.val : Int)) ≤ 255 := by decide +kernel
theorem XB {m : Ac} {s : Nat} (hb0 : 0 ≤ m.fe.getD s 0) (hb1 : m.fe.getD s 0 < 8) (hn1 : m.fc.getD s 0 < 8) :
  (∀ v, Eg (HI m s) v = Jt m s v) ∧ 0 ≤ HI m s ∧ HI m s ≤ 255 := by
 unfold HI Jt
 obtain ⟨b, hb⟩ := zJ hb0
 rw [hb] at hb1 ⊢
 by_cases h : 0 ≤ m.fc.getD s 0
 ·obtain ⟨n, hn⟩ := zJ h
  rw [hn] at hn1 ⊢
  rw [if_pos (by omega)]
  have h1 := Yr ⟨b, by omega⟩ ⟨n, by omega⟩
  refine ⟨fun v => ?_, (h1 0).2⟩
  by_cases hv : v < 8
  ·rw [(h1 ⟨v, hv⟩).1]
   simp only [zA1]
  ·rw [KW (h1 0).2.2 (by omega)]
   simp; omega
 ·rw [if_neg h]
  have h1 := KY ⟨b, by omega⟩
  refine ⟨fun v => ?_, (h1 0).2⟩
  have h3 : decide (m.fc.getD s 0 = (v : Int)) = false := decide_eq_false (by omega)
  rw [h3, Bool.or_false]
  by_cases hv : v < 8
  ·rw [(h1 ⟨v, hv⟩).1]
   simp only [zA1]
  ·rw [KW (h1 0).2.2 (by omega)]
   simp; omega
theorem WQ {a : Nat} (h : a < 256) : (BitVec.ofInt 8 (a : Int)).toNat = a := by
 simp; omega
theorem PZ {a b : Int} (ha : 0 ≤ a ∧ a ≤ 255) (hb : 0 ≤ b ∧ b ≤ 255) : Df .u8 a b = 0 ↔ ∀ v, Eg a v = true → Eg b v = true := by
 obtain ⟨a, rfl⟩ := zJ ha.1
 obtain ⟨b, rfl⟩ := zJ hb.1
 have hA := WQ (a := a) (by omega)
 have hB := WQ (a := b) (by omega)
 unfold Df Eg
 simp only [IntKind.bits, zS]
 have hx : ∀ x : BitVec 8, wI .u8 (x.toNat : Int) = (x.toNat : Int) := by
  intro x
  have := x.isLt
  simp [wI, IntKind.signed, IntKind.bits]
  omega
 rw [hx]
 constructor
 ·intro h v hv
  have h0 : (BitVec.ofInt 8 (a : Int) &&& ~~~BitVec.ofInt 8 (b : Int)) = (BitVec.ofNat 8 0) := by
   apply BitVec.eq_of_toNat_eq
   simp only [BitVec.toNat_ofNat, Nat.zero_mod]
   exact zA1.1 h
  by_cases hv8 : v < 8
  ·have h1 : (BitVec.ofInt 8 (a : Int) &&& ~~~BitVec.ofInt 8 (b : Int)).getLsbD v = false := by rw [h0]; simp
   rw [BitVec.getLsbD_and, BitVec.getLsbD_not] at h1
   have e1 : (BitVec.ofInt 8 (a : Int)).getLsbD v = a.testBit v := by unfold BitVec.getLsbD; rw [hA]
   have e2 : (BitVec.ofInt 8 (b : Int)).getLsbD v = b.testBit v := by unfold BitVec.getLsbD; rw [hB]
   rw [e1, e2, hv] at h1
   simpa [hv8] using h1
  ·have := KW (s := (a : Int)) (v := v) (by omega) (by omega)
   unfold Eg at this
   rw [zS, hv] at this
   cases this
 ·intro h
  have h0 : (BitVec.ofInt 8 (a : Int) &&& ~~~BitVec.ofInt 8 (b : Int)) = (BitVec.ofNat 8 0) := by
   apply BitVec.eq_of_getLsbD_eq
   intro i hi
   rw [BitVec.getLsbD_and, BitVec.getLsbD_not]
   have e1 : (BitVec.ofInt 8 (a : Int)).getLsbD i = a.testBit i := by unfold BitVec.getLsbD; rw [hA]
   have e2 : (BitVec.ofInt 8 (b : Int)).getLsbD i = b.testBit i := by unfold BitVec.getLsbD; rw [hB]
   rw [e1, e2]
   have := h i
   cases h3 : a.testBit i
   ·simp
   ·rw [this h3]; simp
  have h2 : ∀ x : BitVec 8, x = (BitVec.ofNat 8 0) → (x.toNat : Int) = 0 := fun x hx => by rw [hx]; rfl
  exact h2 _ h0
theorem Ym : ∀ n : Fin 9, (∀ v : Fin 8, Eg (wI .u8 (D1 .u8 1 (n.val : Int) - 1)) v.val = decide (v.val < n.val)) ∧ 0 ≤ wI .u8 (D1 .u8 1 (n.val : Int) - 1) ∧ wI .u8 (D1 .u8 1 (n.val : Int) - 1) ≤ 255 := by decide +kernel
theorem YF {n : Int} (h0 : 0 ≤ n) (h1 : n ≤ 8) : (∀ v, Eg (wI .u8 (D1 .u8 1 n - 1)) v = decide ((v : Int) < n)) ∧ 0 ≤ wI .u8 (D1 .u8 1 n - 1) ∧ wI .u8 (D1 .u8 1 n - 1) ≤ 255 := by
 obtain ⟨n, rfl⟩ := zJ h0
 have h := Ym ⟨n, by omega⟩
 refine ⟨fun v => ?_, h.2⟩
 by_cases hv : v < 8
 ·rw [h.1 ⟨v, hv⟩]; simp
 ·rw [KW h.2.2 (by omega)]
  symm; apply decide_eq_false; omega
structure BZ (p : Aa) (m : Ac) : Prop extends MixServ p m where
 range : ∀ i, i < p.fd.length → 0 ≤ m.ff.getD i 0 ∧ m.ff.getD i 0 ≤ 255
 low : ∀ i t, p.fd[i]? = some t → B5 t = true → ∀ v, Jt m t.fh.toNat v = true → Eg (m.ff.getD i 0) v = true
 high : ∀ i t, p.fd[i]? = some t → B5 t = true → ∀ v, Eg (m.ff.getD i 0) v = true → (v : Int) < p.fb.getD t.fh.toNat 0
 none : ∀ i t, p.fd[i]? = some t → B5 t = false → m.ff.getD i 0 = 0
theorem Jd {p : Aa} (hp : Bf p) {i : Nat} (hi : i < p.fb.length) : 1 ≤ p.fb.getD i 0 ∧ p.fb.getD i 0 ≤ 6 := by
 have := Kt (i := (i : Int)) hp.ver (by omega) (by omega)
 simpa using this
theorem I5 {p : Aa} {m : Ac} (hp : Bf p) (hm : MixServ p m) {s : Nat} (hs : s < p.fb.length) :
  (∀ v, Eg (HI m s) v = Jt m s v) ∧ 0 ≤ HI m s ∧ HI m s ≤ 255 := by
 have h1 := hm.b0 s hs
 have h2 := hm.n0 s hs
 have h3 := Jd hp hs
 exact XB h1.1 (by omega) (by omega)
theorem SZ {p : Aa} {m : Ac} (hp : Bf p) (hm : MixServ p m) {i : Nat} {t : An} (ht : p.fd[i]? = some t) (hr : 0 ≤ m.ff.getD i 0 ∧ m.ff.getD i 0 ≤ 255) :
  Kh p m i t = none ↔ ((B5 t = true → (∀ v, Jt m t.fh.toNat v = true → Eg (m.ff.getD i 0) v = true) ∧ (∀ v, Eg (m.ff.getD i 0) v = true → (v : Int) < p.fb.getD t.fh.toNat 0)) ∧ (B5 t = false → m.ff.getD i 0 = 0)) := by
 have hin := Ke (hp.tab t (lM ht))
 have hrun := I5 hp hm (s := t.fh.toNat) (by omega)
 have hver := Jd hp (i := t.fh.toNat) (by omega)
 have hall := YF (n := p.fb.getD t.fh.toNat 0) (by omega) (by omega)
 unfold Kh YI
 have e1 := PZ hrun.2 hr
 have e2 := PZ hr hall.2
 cases hst : B5 t
 ·simp
 ·simp only [if_true, true_implies, Bool.true_eq_false, false_implies, and_true, ite_eq_right_iff, reduceCtorEq, imp_false, not_or, Decidable.not_not]
  rw [e1, e2]
  simp only [hrun.1, hall.1, decide_eq_true_eq]
theorem KI {p : Aa} {m : Ac} (hw : OX Mr m.ff) (h : Gi p m = 0) : Bf p ∧ BZ p m := by
 unfold Gi at h
 split at h
 ·rename_i k; exact (k h).elim
 ·rename_i k0
  have hp : Bf p := by
   rcases JH p with h | h
   ·exact h.2
   ·omega
  split at h
  ·cases h
  ·rename_i k1
   have b1 : m.fe.length = p.fb.length := Decidable.not_not.1 fun h => k1 (.inl h)
   have b2 : m.fc.length = p.fb.length := Decidable.not_not.1 fun h => k1 (.inr (.inl h))
   have b3 : m.ff.length = p.fd.length := Decidable.not_not.1 fun h => k1 (.inr (.inr h))
   cases hs : CG (MV m) 0 p.fb with
   | some r =>
    obtain ⟨j, x, _, he⟩ := DW hs
    rw [hs] at h
    unfold MV at he
    simp only [BT, yE] at h
    split at he
    ·cases he; cases h
    ·split at he
     ·cases he; cases h
     ·cases he
   | none =>
    have hm := RD b1 b2 b3 hs
    rw [hs] at h
    simp only [BT] at h
    cases ht : CG (Kh p m) 0 p.fd with
    | some r =>
     obtain ⟨j, x, _, he⟩ := DW ht
     rw [ht] at h
     simp only [yE] at h
     subst h
     unfold Kh at he
     split at he
     ·split at he <;> cases he
     ·split at he <;> cases he
    | none =>
     have hr : ∀ i, i < p.fd.length → 0 ≤ m.ff.getD i 0 ∧ m.ff.getD i 0 ≤ 255 := fun i hi => JP (TM hw (by omega))
     have key : ∀ i t, p.fd[i]? = some t → _ := fun i t hi => (SZ hp hm hi (hr i (lI.1 hi).1)).1 (by have := Ff ht i t hi; rwa [zC] at this)
     exact ⟨hp, hm, hr, fun i t hi hst => ((key i t hi).1 hst).1, fun i t hi hst => ((key i t hi).1 hst).2, fun i t hi hst => (key i t hi).2 hst⟩
theorem GC {α R : Type} {f : Nat → α → Option R} : ∀ {i : Nat} {xs : List α}, (∀ j x, xs[j]? = some x → f (i + j) x = none) → CG f i xs = none
 | _, [], _ => rfl
 | i, y :: ys, h => by
  rw [FP, show f i y = none from h 0 y rfl]
  exact GC fun j x hx => by
   have := h (j + 1) x (by simpa using hx)
   rwa [show i + (j + 1) = i + 1 + j from by omega] at this
theorem Rz {p : Aa} (hp : Bf p) (hr : ∀ i, i < p.fb.length → 0 ≤ p.fj.getD i 0 ∧ p.fj.getD i 0 < p.fb.getD i 0 ∧ 0 ≤ p.fo.getD i 0 ∧ p.fo.getD i 0 < p.fb.getD i 0) : BR p = 0 := by
 have := hp.nv
 have := hp.nt
 have := hp.now
 have := hp.tgt
 unfold BR
 rw [if_neg (by omega), if_neg (by omega)]
 have h1 : CG (Ge p) 0 p.fb = none := GC fun j x hx => by
  have hj := (lI.1 hx).1
  have h1 := hr j hj
  have h2 := Jd hp hj
  have e : p.fb.getD j 0 = x := by rw [lD, hx]; rfl
  rw [e] at h1 h2
  unfold Ge
  rw [zC, if_neg (by omega)]
 have h2 : CG (Mu p) 0 p.fd = none := GC fun j x hx => by
  unfold Mu
  rw [if_pos (hp.tab x (lM hx))]
 rw [h1, h2]; rfl
theorem Da {p : Aa} (h : BR p = 0) : Bf p ∧ ∀ i, i < p.fb.length → 0 ≤ p.fj.getD i 0 ∧ p.fj.getD i 0 < p.fb.getD i 0 ∧ 0 ≤ p.fo.getD i 0 ∧ p.fo.getD i 0 < p.fb.getD i 0 := by
 have hp : Bf p := by
  rcases JH p with h | h
  ·exact h.2
  ·omega
 refine ⟨hp, fun i hi => ?_⟩
 have h1 := hp.nv
 have h2 := hp.nt
 have h3 := hp.now
 have h4 := hp.tgt
 unfold BR at h
 rw [if_neg (by omega), if_neg (by omega)] at h
 cases hs : CG (Ge p) 0 p.fb with
 | some r =>
  obtain ⟨j, x, _, he⟩ := DW hs
  rw [hs] at h
  unfold Ge at he
  split at he
  ·cases he; cases h
  ·cases he
 | none =>
  have hx : p.fb[i]? = some (p.fb.getD i 0) := by rw [lD]; simp [hi]
  have := Ff hs i _ hx
  rw [zC] at this
  unfold Ge at this
  split at this
  ·cases this
  ·rename_i hn; omega
theorem IZ {p : Aa} {m : Ac} (hv : BR p = 0) (hm : BZ p m) : Gi p m = 0 := by
 obtain ⟨hp, _⟩ := Da hv
 unfold Gi
 rw [hv, if_neg (by simp), if_neg (by have := hm.base; have := hm.next; have := hm.held; omega)]
 have h1 : CG (MV m) 0 p.fb = none := GC fun j x hx => by
  have hj := (lI.1 hx).1
  have e : p.fb.getD j 0 = x := by rw [lD, hx]; rfl
  have h1 := hm.b0 j hj
  have h2 := hm.n0 j hj
  have h3 := hm.ne j hj
  rw [e] at h1 h2
  unfold MV
  rw [zC, if_neg (by omega), if_neg h3]
 have h2 : CG (Kh p m) 0 p.fd = none := GC fun j x hx => by
  have hj := (lI.1 hx).1
  rw [zC]
  exact (SZ hp hm.toMixServ hx (hm.range j hj)).2 ⟨fun hst => ⟨hm.low j x hx hst, hm.high j x hx hst⟩, fun hst => hm.none j x hx hst⟩
 rw [h1, h2]; rfl
def Pc {α : Type} (g : Nat → α → Bool) : Nat → List α → Bool
 | _, [] => false
 | i, x :: xs => g i x || Pc g (i + 1) xs
theorem MQ {α β : Type} (g : Nat → α → List β) (h : Nat → α → Bool) : ∀ (i : Nat) (xs : List α) (a : List β) (b : Bool),
  Jk (fun i x (s : List β × Bool) => (s.1 ++ g i x, s.2 || h i x)) i xs (a, b) = (a ++ CH g i xs, b || Pc h i xs)
 | _, [], a, b => by simp [Jk, CH, Pc]
 | i, x :: xs, a, b => by rw [Jk, MQ g h, CH, Pc, yL, Bool.or_assoc]
def gC (i u : Nat) (m : Ac) (t : An) (v : Nat) (ok : Bool) : List Ap :=
 if Jt m t.fk.toNat v && (!ok && !t.ft) then [⟨(i : Int), (u : Int), (v : Int)⟩] else []
def hC (m : Ac) (t : An) (v : Nat) (ok : Bool) : Bool := Jt m t.fk.toNat v && ok
def Li (i : Nat) (m : Ac) (t : An) (u : Nat) (row : List Bool) : List Ap :=
 CH (gC i u m t) 0 row ++ if t.ft && !Pc (hC m t) 0 row then [⟨(i : Int), (u : Int), -1⟩] else []
def VU (m : Ac) (i : Nat) (t : An) (u : Nat) : Bool := if B5 t then Eg (m.ff.getD i 0) u else Jt m t.fh.toNat u
def Le (m : Ac) (i : Nat) (t : An) : List Ap := CH (fun u row => if VU m i t u then Li i m t u row else []) 0 t.fr
def HV (p : Aa) (m : Ac) : List Ap := CH (Le m) 0 p.fd
structure OI (p : Aa) (t : An) : Prop where
 kind : 1 ≤ t.fg ∧ t.fg ≤ 4
 aware : t.ft = true → B5 t = false
 from0 : 0 ≤ t.fh ∧ t.fh < (p.fb.length : Int)
 to0 : 0 ≤ t.fk ∧ t.fk < (p.fb.length : Int)
 okL : (t.fr.length : Int) = p.fb.getD t.fh.toNat 0
 okR : ∀ row, row ∈ t.fr → (row.length : Int) = p.fb.getD t.fk.toNat 0
 reL : t.fg = 4 → (t.fm.length : Int) = p.fb.getD t.fh.toNat 0
 reR : ∀ row, row ∈ t.fm → (row.length : Int) = p.fb.getD t.fh.toNat 0
 reD : t.fg = 4 → J3 t.fm = none
 reN : t.fg ≠ 4 → t.fm = []
theorem LE {p : Aa} {t : An} (h : D9 p t = 0) : OI p t := by
 unfold D9 at h
 split at h
 ·cases h
 rename_i h1
 split at h
 ·cases h
 rename_i h2
 simp only at h
 split at h
 ·cases h
 rename_i h3
 have h3 : sq t.fr (p.fb.getD t.fh.toNat 0) (p.fb.getD t.fk.toNat 0) = true := by simpa using h3
 have h3 := OY h3
 have ha : t.ft = true → B5 t = false := by
  intro ha
  unfold B5
  rw [uV, beq_eq_false_iff_ne, beq_eq_false_iff_ne]
  exact ⟨fun hk => h1 (.inr (.inr ⟨ha, .inl hk⟩)), fun hk => h1 (.inr (.inr ⟨ha, .inr hk⟩))⟩
 split at h
 ·rename_i h4
  split at h
  ·cases h
  rename_i h5
  have h5 : sq t.fm (p.fb.getD t.fh.toNat 0) (p.fb.getD t.fh.toNat 0) = true := by simpa using h5
  have h5 := OY h5
  refine ⟨by omega, ha, by omega, by omega, h3.1, h3.2, fun _ => h5.1, h5.2, fun _ => ?_, fun h => (h h4).elim⟩
  cases hd : J3 t.fm with
  | none => rfl
  | some r =>
   obtain ⟨j, x, _, hx⟩ := DW hd
   rw [hd] at h
   split at hx
   ·cases hx
   ·cases hx; cases h
 ·rename_i h4
  split at h
  ·rename_i h5
   have h5 := yN h5
   refine ⟨by omega, ha, by omega, by omega, h3.1, h3.2, fun h => (h4 h).elim, fun row hr => ?_, fun h => (h4 h).elim, fun _ => h5⟩
   rw [h5] at hr; cases hr
  ·cases h
theorem Mg {R : Type} (b : Bool) (acc : List Ap) (x : Ap) (j : List Ap → Option R) (h : acc.length + 1 ≤ C4) :
  AO b ((DI (acc.length + ([x] : List Ap).length ≤ C4)).bind fun _ => j (acc ++ [x])) (j acc) = j (acc ++ if b then [x] else []) := by
 cases b
 ·simp
 ·rw [AQ, Au (by simpa using h)]; rfl
theorem Tw (N : Nat) (m : Ac) (t : An) (i u : Nat) (row : List Bool) (R : Int) (b1 b2 acc : List Ap) (j : List Ap × Bool → Option (List Ap))
  (hN : N ≤ 1000000) (h8 : 8 ≤ N) (hrow : row.length ≤ 6) (hacc : acc.length + 6 ≤ C4) (hR0 : 0 ≤ R) (hR1 : R ≤ 255) (hRb : ∀ v, Eg R v = Jt m t.fk.toNat v) :
  B9 N (b1, (i : Int)) t R (b2, (u : Int)) row j N (acc, false, 0) = j (acc ++ CH (gC i u m t) 0 row, Pc (hC m t) 0 row) := by
 have := H8 (A := List Ap × Bool) (B9 N (b1, (i : Int)) t R (b2, (u : Int)) row j) (fun a k => (a.1, a.2, k)) row (fun a => j a) (fun v ok s => (s.1 ++ gC i u m t v ok, s.2 || hC m t v ok))
  (fun v a => v ≤ row.length ∧ a.1.length ≤ acc.length + v)
  (fun n v ok a hx ha => by
   have hv := (lI.1 hx).1
   obtain ⟨c, f⟩ := a
   simp only at ha
   refine ⟨?_, by omega, ?_⟩
   ·rw [B9]
    simp only [Bl]
    rw [AB (by omega), AU, hx]
    simp only [oS]
    rw [Au (by omega), TH hR0 hR1 (by omega), hRb, AE (by omega), Mg _ _ _ (fun l => B9 N (b1, (i : Int)) t R (b2, (u : Int)) row j n (l, true, ((v + 1 : Nat) : Int))) (by omega)]
    unfold gC hC
    rw [Mg _ _ _ (fun l => B9 N (b1, (i : Int)) t R (b2, (u : Int)) row j n (l, ok, ((v + 1 : Nat) : Int))) (by omega)]
    cases Jt m t.fk.toNat v
    ·simp
    ·cases ok <;> cases f <;> cases t.ft <;> simp
   ·simp only [gC, zW]
    split <;> simp <;> omega)
  (fun n a _ => by
   rw [B9]
   simp only [Bl]
   rw [Ay (by omega)]) N 0 (acc, false) (by omega) (by omega) ⟨by omega, by simp⟩
 have h2 := this.1
 rw [zZ, MQ, vI] at h2
 exact h2
theorem NT {p : Aa} {t : An} (hp : Bf p) (ht : OI p t) : t.fr.length ≤ 6 ∧ ∀ row, row ∈ t.fr → row.length ≤ 6 := by
 have h1 := Kt hp.ver ht.from0.1 ht.from0.2
 have h2 := Kt hp.ver ht.to0.1 ht.to0.2
 have h3 := ht.okL
 exact ⟨by omega, fun row hr => by have := ht.okR row hr; omega⟩
theorem UE (i u : Nat) (m : Ac) (t : An) (v : Nat) (ok : Bool) : (gC i u m t v ok).length ≤ 1 := by
 unfold gC; split <;> simp
theorem Uw (i : Nat) (m : Ac) (t : An) (u : Nat) (row : List Bool) (h : row.length ≤ 6) : (Li i m t u row).length ≤ 7 := by
 unfold Li
 rw [zW]
 have := Gj (g := gC i u m t) (c := 1) (i := 0) (xs := row) (fun j x _ => UE _ _ _ _ _ _)
 split <;> simp <;> omega
theorem Ud (i : Nat) (m : Ac) (t : An) (u : Nat) (row : List Bool) (h : row.length ≤ 6) : (if VU m i t u = true then Li i m t u row else []).length ≤ 7 := by
 have := Uw i m t u row h
 split <;> simp <;> omega
theorem Ox {p : Aa} {t : An} (hp : Bf p) (ht : OI p t) (i : Nat) (m : Ac) : (Le m i t).length ≤ 42 := by
 have h1 := NT hp ht
 have := Gj (g := fun u row => if VU m i t u = true then Li i m t u row else []) (c := 7) (i := 0) (xs := t.fr) (fun j x hx => Ud i m t _ x (h1.2 x (lM hx)))
 unfold Le
 omega
theorem N1 (N : Nat) (p : Aa) (m : Ac) (t : An) (i : Nat) (W R : Int) (b1 acc : List Ap) (j : List Ap → Option (List Ap))
  (hN : N ≤ 1000000) (h8 : 8 ≤ N) (hp : Bf p) (ht : OI p t) (hacc : acc.length + 42 ≤ 10000) (hR0 : 0 ≤ R) (hR1 : R ≤ 255) (hRb : ∀ v, Eg R v = Jt m t.fk.toNat v) (hW0 : 0 ≤ W) (hW1 : W ≤ 255) (hWb : ∀ v, Eg W v = VU m i t v) :
  Cs N (b1, (i : Int)) t R W j N (acc, 0) = j (acc ++ Le m i t) := by
 have hl := NT hp ht
 exact FQ (Cs N (b1, (i : Int)) t R W j) (fun a k => (a, k)) t.fr j (fun u row => if VU m i t u then Li i m t u row else []) 7 10000
  (fun u row hx => Ud i m t u row (hl.2 row (lM hx)))
  (fun n u row a hx ha => by
   have hu := (lI.1 hx).1
   have hrow := hl.2 row (lM hx)
   rw [Cs]
   simp only [Bl]
   rw [AB (by omega), Au (by omega), TH hW0 hW1 (by omega), hWb, AU, hx]
   simp only [oS]
   rw [Tw N m t i u row R b1 a a _ hN h8 hrow (by unfold C4; omega) hR0 hR1 hRb, AE (by omega)]
   cases hw : VU m i t u
   ·simp
   ·simp only [yA, Al, if_true, Li]
    have h1 := Gj (g := gC i u m t) (c := 1) (i := 0) (xs := row) (fun j x _ => UE _ _ _ _ _ _)
    have := Mg (R := List Ap) (t.ft && !Pc (hC m t) 0 row) (a ++ CH (gC i u m t) 0 row) ⟨(i : Int), (u : Int), -1⟩ (fun l => Cs N (b1, (i : Int)) t R W j n (l, ((u + 1 : Nat) : Int))) (by rw [zW]; unfold C4; rw [hw, if_pos rfl] at ha; omega)
    rw [← yL, ← this]
    cases t.ft <;> cases Pc (hC m t) 0 row <;> rfl)
  (fun n a => by
   rw [Cs]
   simp only [Bl]
   rw [Ay (by omega)]) N acc (by omega) (by omega)
theorem Tp (N : Nat) (p : Aa) (m : Ac) (t : An) (i u : Nat) (row : List Bool) (b1 b2 acc : List Ap) (j : List Ap × Bool → Option (List Ap))
  (hN : N ≤ 1000000) (h8 : 8 ≤ N) (hp : Bf p) (hm : MixServ p m) (ht : OI p t) (hu : t.fr[u]? = some row) (hacc : acc.length + 6 ≤ C4) :
  Bt N p m (b1, (i : Int)) t (b2, (u : Int)) j N (acc, false, 0) = j (acc ++ CH (gC i u m t) 0 row, Pc (hC m t) 0 row) := by
 have hrow := (NT hp ht).2 row (lM hu)
 have hR := I5 hp hm (s := t.fk.toNat) (by have := ht.to0; omega)
 have hlen := ht.okR row (lM hu)
 have hto := ht.to0
 have := H8 (A := List Ap × Bool) (Bt N p m (b1, (i : Int)) t (b2, (u : Int)) j) (fun a k => (a.1, a.2, k)) row (fun a => j a) (fun v ok s => (s.1 ++ gC i u m t v ok, s.2 || hC m t v ok))
  (fun v a => v ≤ row.length ∧ a.1.length ≤ acc.length + v)
  (fun n v ok a hx ha => by
   have hv := (lI.1 hx).1
   obtain ⟨c, f⟩ := a
   simp only at ha
   refine ⟨?_, by omega, ?_⟩
   ·rw [Bt]
    simp only [Bl]
    rw [El (d := 0) hto.1 hto.2, KV N m t.fk hto.1 (by rw [hm.base]; exact hto.2) (by rw [hm.next]; exact hto.2) (hm.b0 _ (by omega)).1, AU, hu]
    simp only [oS]
    unfold CD
    rw [AB (by omega), AU, hx, Au (by omega), Tu hR.2.1 hR.2.2 (by omega), hR.1]
    simp only [oS]
    rw [AE (by omega), Mg _ _ _ (fun l => Bt N p m (b1, (i : Int)) t (b2, (u : Int)) j n (l, true, ((v + 1 : Nat) : Int))) (by omega)]
    unfold gC hC
    rw [Mg _ _ _ (fun l => Bt N p m (b1, (i : Int)) t (b2, (u : Int)) j n (l, ok, ((v + 1 : Nat) : Int))) (by omega)]
    cases Jt m t.fk.toNat v
    ·simp
    ·cases ok <;> cases f <;> cases t.ft <;> simp
   ·simp only [gC, zW]
    split <;> simp <;> omega)
  (fun n a _ => by
   rw [Bt]
   simp only [Bl]
   rw [El (d := 0) hto.1 hto.2]
   simp only [oS]
   rw [Ay (by omega)]) N 0 (acc, false) (by omega) (by omega) ⟨by omega, by simp⟩
 have h2 := this.1
 rw [zZ, MQ, vI] at h2
 exact h2
theorem NW (N : Nat) (p : Aa) (m : Ac) (t : An) (i : Nat) (W : Int) (b1 acc : List Ap) (j : List Ap → Option (List Ap))
  (hN : N ≤ 1000000) (h8 : 8 ≤ N) (hp : Bf p) (hm : MixServ p m) (ht : OI p t) (hacc : acc.length + 42 ≤ 10000) (hW0 : 0 ≤ W) (hW1 : W ≤ 255) (hWb : ∀ v, Eg W v = VU m i t v) :
  BM N p m (b1, (i : Int)) t W j N (acc, 0) = j (acc ++ Le m i t) := by
 have hl := NT hp ht
 have hfr := ht.from0
 have hok := ht.okL
 exact FQ (BM N p m (b1, (i : Int)) t W j) (fun a k => (a, k)) t.fr j (fun u row => if VU m i t u then Li i m t u row else []) 7 10000
  (fun u row hx => Ud i m t u row (hl.2 row (lM hx)))
  (fun n u row a hx ha => by
   have hu := (lI.1 hx).1
   have hrow := hl.2 row (lM hx)
   rw [BM]
   simp only [Bl]
   rw [El (d := 0) hfr.1 hfr.2]
   simp only [oS]
   unfold CD
   rw [AB (by omega), Au (by omega), Tu hW0 hW1 (by omega), hWb]
   simp only [oS]
   rw [Tp N p m t i u row b1 a a _ hN h8 hp hm ht hx (by unfold C4; omega), AE (by omega)]
   cases hw : VU m i t u
   ·simp
   ·simp only [yA, Al, if_true, Li]
    have h1 := Gj (g := gC i u m t) (c := 1) (i := 0) (xs := row) (fun j x _ => UE _ _ _ _ _ _)
    have := Mg (R := List Ap) (t.ft && !Pc (hC m t) 0 row) (a ++ CH (gC i u m t) 0 row) ⟨(i : Int), (u : Int), -1⟩ (fun l => BM N p m (b1, (i : Int)) t W j n (l, ((u + 1 : Nat) : Int))) (by rw [zW]; unfold C4; rw [hw, if_pos rfl] at ha; omega)
    rw [← yL, ← this]
    cases t.ft <;> cases Pc (hC m t) 0 row <;> rfl)
  (fun n a => by
   rw [BM]
   simp only [Bl]
   rw [El (d := 0) hfr.1 hfr.2]
   simp only [oS]
   rw [Ay (by omega)]) N acc (by omega) (by omega)
theorem N3 (N : Nat) (p : Aa) (m : Ac) (hN : N ≤ 1000000) (h20 : 20 ≤ N) (hp : Bf p) (hm : BZ p m) : Gr N p m = some (HV p m) := by
 unfold Gr
 have hnt := hp.nt
 rw [FQ (DM N p m _) (fun a k => (a, k)) p.fd some (Le m) 42 9000
  (fun i t hx => Ox hp (LE (hp.tab t (lM hx))) i m)
  (fun n i t a hx ha => by
   have hi := (lI.1 hx).1
   have ht := LE (hp.tab t (lM hx))
   have hto := ht.to0
   have hfr := ht.from0
   have hR := I5 hp hm.toMixServ (s := t.fk.toNat) (by omega)
   have hF := I5 hp hm.toMixServ (s := t.fh.toNat) (by omega)
   have hH := hm.range i hi
   rw [DM]
   simp only [Bl]
   rw [AB (by omega), AU, hx]
   simp only [oS, KA]
   rw [M0 N m t.fh hfr.1 (by rw [hm.base]; exact hfr.2) (by rw [hm.next]; exact hfr.2) (hm.b0 _ (by omega)).1, M0 N m t.fk hto.1 (by rw [hm.base]; exact hto.2) (by rw [hm.next]; exact hto.2) (hm.b0 _ (by omega)).1, Dc (d := 0) (by rw [hm.held]; exact hi), AE (by omega)]
   simp only [oS]
   cases hs : B5 t
   ·rw [Al, N1 N p m t i _ _ a a _ hN (by omega) hp ht (by omega) hR.2.1 hR.2.2 hR.1 hF.2.1 hF.2.2 (fun v => by unfold VU; rw [hs, hF.1]; rfl)]
   ·rw [AQ, N1 N p m t i _ _ a a _ hN (by omega) hp ht (by omega) hR.2.1 hR.2.2 hR.1 hH.1 hH.2 (fun v => by unfold VU; rw [hs]; rfl)])
  (fun n a => by
   rw [DM]
   simp only [Bl]
   rw [Ay (by omega)]) N [] (by omega) (by simp; omega)]
 rfl
theorem Ob (N : Nat) (p : Aa) (m : Ac) (hN : N ≤ 1000000) (h20 : 20 ≤ N) (hp : Bf p) (hm : BZ p m) : E0 N p m = some (HV p m) := by
 unfold E0
 have hnt := hp.nt
 rw [FQ (CR N p m _) (fun a k => (a, k)) p.fd some (Le m) 42 9000
  (fun i t hx => Ox hp (LE (hp.tab t (lM hx))) i m)
  (fun n i t a hx ha => by
   have hi := (lI.1 hx).1
   have ht := LE (hp.tab t (lM hx))
   have hto := ht.to0
   have hfr := ht.from0
   have hF := I5 hp hm.toMixServ (s := t.fh.toNat) (by omega)
   have hH := hm.range i hi
   rw [CR]
   simp only [Bl]
   rw [AB (by omega), AU, hx]
   simp only [oS, HG]
   rw [KV N m t.fh hfr.1 (by rw [hm.base]; exact hfr.2) (by rw [hm.next]; exact hfr.2) (hm.b0 _ (by omega)).1, Dc (d := 0) (by rw [hm.held]; exact hi), AE (by omega)]
   simp only [oS]
   cases hs : B5 t
   ·rw [Al, NW N p m t i _ a a _ hN (by omega) hp hm.toMixServ ht (by omega) hF.2.1 hF.2.2 (fun v => by unfold VU; rw [hs, hF.1]; rfl)]
   ·rw [AQ, NW N p m t i _ a a _ hN (by omega) hp hm.toMixServ ht (by omega) hH.1 hH.2 (fun v => by unfold VU; rw [hs]; rfl)])
  (fun n a => by
   rw [CR]
   simp only [Bl]
   rw [Ay (by omega)]) N [] (by omega) (by simp; omega)]
 rfl
theorem FF {A S R : Type} (L : Nat → S → Option R) (mk : A → Int → S) (len : Nat) (j : A → Option R) (I : Nat → A → Prop)
  (hs : ∀ (n i : Nat) (a : A), i < len → I i a → ∃ a', L (n + 1) (mk a (i : Int)) = L n (mk a' ((i + 1 : Nat) : Int)) ∧ I (i + 1) a')
  (he : ∀ (n : Nat) (a : A), I len a → L (n + 1) (mk a (len : Int)) = j a) :
  ∀ (n i : Nat) (a : A), i ≤ len → len - i < n → I i a → ∃ a', L n (mk a (i : Int)) = j a' ∧ I len a'
 | 0, i, _, _, h, _ => by omega
 | n + 1, i, a, hi, h, ha => by
  by_cases h1 : i < len
  ·obtain ⟨a', e1, e2⟩ := hs n i a h1 ha
   rw [e1]
   exact FF L mk len j I hs he n (i + 1) _ (by omega) (by omega) e2
  ·have : i = len := by omega
   subst this
   exact ⟨a, he n a ha, ha⟩
theorem Km {α : Type} {xs ys : List α} {i : Nat} {d : α} (h : i < xs.length) : (xs ++ ys).getD i d = xs.getD i d := by
 rw [lD, lD, yH h]
theorem Kl {α : Type} {xs : List α} {y : α} {i : Nat} {d : α} (h : i = xs.length) : (xs ++ [y]).getD i d = y := by
 subst h; rw [lD, yG (zN _)]; simp
theorem Pg {α : Type} {P : Nat → α → Prop} {xs : List α} {y : α} {d : α} {n : Nat} (hn : xs.length = n) (h : ∀ k, k < n → P k (xs.getD k d)) (hy : P n y) : ∀ k, k < n + 1 → P k ((xs ++ [y]).getD k d) := by
 intro k hk
 by_cases h1 : k < n
 ·rw [Km (by omega)]; exact h k h1
 ·have : k = n := by omega
  subst this
  rw [Kl hn.symm]; exact hy
theorem Vi {l : List Int} (hw : OX Mr l) (i : Nat) : 0 ≤ l.getD i 0 ∧ l.getD i 0 ≤ 255 := by
 by_cases h : i < l.length
 ·have : l.getD i 0 ∈ l := by rw [lD, yJ h]; exact xE _
  exact JP (hw _ this)
 ·rw [lD, yV (by omega)]
  exact ⟨by decide, by decide⟩
theorem QZ (N : Nat) {l : List Int} (hw : OX Mr l) (i : Nat) : Ex N l (i : Int) = some (l.getD i 0) := by
 unfold Ex
 have h2 := Vi hw i
 by_cases h : i < l.length
 ·rw [AB (by omega), Dc (d := 0) h]
  simp only [oS]
  rw [CS (by omega) (by omega)]
 ·rw [Ay (by omega), lD, yV (by omega)]; rfl
theorem IE {a n : Int} (ha : 0 ≤ a) (hn : 0 < n) : 0 ≤ zX a n ∧ zX a n < n := ⟨Int.tmod_nonneg n ha, Int.tmod_lt_of_pos a hn⟩
theorem Zr {l : List (List Bool)} {n m : Int} (h1 : (l.length : Int) = n) (h2 : ∀ row, row ∈ l → (row.length : Int) = m) : sq l n m = true := by
 unfold sq
 simp only [zI, decide_eq_true_eq, zF]
 exact ⟨h1, h2⟩
theorem Z1 {p : Aa} {t : An} (h : OI p t) : D9 p t = 0 := by
 have hk := h.kind
 have hf := h.from0
 have ht := h.to0
 unfold D9
 rw [if_neg, if_neg (by omega)]
 ·simp only [Zr h.okL h.okR]
  rw [if_neg (by simp)]
  by_cases h4 : t.fg = 4
  ·rw [if_pos h4, Zr (h.reL h4) h.reR, if_neg (by simp), h.reD h4]; rfl
  ·rw [if_neg h4, h.reN h4]; rfl
 ·rintro (h1 | h1 | ⟨h1, h2⟩)
  ·omega
  ·omega
  ·have := h.aware h1
   unfold B5 at this
   rw [uV, beq_eq_false_iff_ne, beq_eq_false_iff_ne] at this
   omega
theorem XV (N : Nat) (m bad : Int) (diag : Bool) (i : Nat) (acc : List (List Bool)) {_R : Type} (j : List Bool → Option (List (List Bool))) (hN : N ≤ 1000000) (h20 : 20 ≤ N) (hm : 0 ≤ m ∧ m ≤ 6) (hi : i < 6) :
  ∃ row, Cv N m bad diag (acc, (i : Int)) j N ([], 0) = j row ∧ (row.length : Int) = m ∧ (diag = true → (i : Int) < m → row.getD i false = true) := by
 obtain ⟨M, rfl⟩ := zJ hm.1
 obtain ⟨row, e, h1, h2⟩ := FF (A := List Bool) (Cv N (M : Int) bad diag (acc, (i : Int)) j) (fun a k => (a, k)) M j
  (fun k a => a.length = k ∧ ∀ q, q < k → diag = true → q = i → a.getD q false = true)
  (fun n k a hk ha => by
   refine ⟨a ++ [(diag && decide (i = k)) || (zX (AZ .u16 bad ((3 * i + k : Nat) : Int)) 2 == 0)], ?_, by simp [ha.1], Pg (P := fun q y => diag = true → q = i → y = true) ha.1 ha.2 (fun h1 h2 => by simp [h1, h2])⟩
   rw [Cv]
   simp only [Bl]
   rw [AB (by omega), AE (by omega), CS (n := 3 * (i : Int)) (by omega) (by omega), CS (n := 3 * (i : Int) + (k : Int)) (by omega) (by omega)]
   have l1 : ∀ y : Bool, a.length + ([y] : List Bool).length ≤ C4 := by intro y; rw [ha.1]; unfold C4; simp; omega
   simp only [Au (l1 _), Au (show (0 : Int) ≤ 3 * (i : Int) + (k : Int) by omega)]
   have e1 : ((3 * i + k : Nat) : Int) = 3 * (i : Int) + (k : Int) := by omega
   rw [e1]
   have e2 : (((i : Nat) : Int) == ((k : Nat) : Int)) = decide (i = k) := by
    by_cases h : i = k
    ·simp [h]
    ·rw [decide_eq_false h]; exact beq_eq_false_iff_ne.2 (by omega)
   rw [e2]
   cases diag <;> cases decide (i = k) <;> rfl)
  (fun n a _ => by
   rw [Cv]
   simp only [Bl]
   rw [Ay (by omega)]) N 0 [] (zK _) (by omega) ⟨rfl, fun q hq => by omega⟩
 exact ⟨row, e, by omega, fun hd hlt => h2 i (by omega) hd rfl⟩
theorem UW (N : Nat) (n m bad : Int) (diag : Bool) (hN : N ≤ 1000000) (h20 : 20 ≤ N) (hn : 0 ≤ n ∧ n ≤ 6) (hm : 0 ≤ m ∧ m ≤ 6) :
  ∃ l, Ew N n m bad diag = some l ∧ (l.length : Int) = n ∧ (∀ row, row ∈ l → (row.length : Int) = m) ∧ (diag = true → n = m → J3 l = none) := by
 obtain ⟨M, rfl⟩ := zJ hn.1
 unfold Ew
 obtain ⟨l, e, h1, h2⟩ := FF (A := List (List Bool)) (Ct N (M : Int) m bad diag (fun v => some v)) (fun a k => (a, k)) M some
  (fun k a => a.length = k ∧ ∀ q, q < k → (((a.getD q []).length : Nat) : Int) = m ∧ (diag = true → (q : Int) < m → (a.getD q []).getD q false = true))
  (fun n k a hk ha => by
   obtain ⟨row, e, h1, h2⟩ := XV (_R := Unit) N m bad diag k a (fun (v5 : List Bool) =>
    (DI (a.length + (([v5] : List (List Bool))).length ≤ C4)).bind fun _ =>
    Ct N (M : Int) m bad diag (fun v => some v) n (a ++ (([v5] : List (List Bool))), (wI .i64 ((k : Int) + 1)))) hN h20 hm (by omega)
   refine ⟨a ++ [row], ?_, by simp [ha.1], Pg (P := fun q y => ((y.length : Nat) : Int) = m ∧ (diag = true → (q : Int) < m → y.getD q false = true)) ha.1 ha.2 ⟨h1, h2⟩⟩
   rw [Ct]
   simp only
   rw [AB (by omega), e, Au (by rw [ha.1]; unfold C4; simp; omega), AE (by omega)])
  (fun n a _ => by
   rw [Ct]
   simp only
   rw [Ay (by omega)]) N 0 [] (zK _) (by omega) ⟨rfl, fun q hq => by omega⟩
 have key : ∀ q row, l[q]? = some row → l.getD q [] = row := fun q row hq => by rw [lD, hq]; rfl
 refine ⟨l, e, by omega, fun row hr => ?_, fun hd hnm => ?_⟩
 ·obtain ⟨q, hq⟩ := zT.1 hr
  have := (h2 q (by have := (lI.1 hq).1; omega)).1
  rwa [key q row hq] at this
 ·unfold J3
  refine GC fun q row hq => ?_
  have hlt := (lI.1 hq).1
  have := (h2 q (by omega)).2 hd (by omega)
  rw [key q row hq] at this
  rw [zC, this]; rfl
structure Zl (p : Aa) : Prop where
 valid : BR p = 0
 nv : p.fb.length ≤ 3
 nt : p.fd.length ≤ 4
 v3 : ∀ v, v ∈ p.fb → v ≤ 3
theorem V0 {p q : Aa} (h : p.fb = q.fb) (t : An) : D9 p t = D9 q t := by
 unfold D9; rw [h]
theorem dX (N : Nat) (d : BJ) (hN : N ≤ 1000000) (h20 : 20 ≤ N) (hw : FT d) : ∃ p ok, FW N d = some (p, ok) ∧ (ok = true → Zl p) := by
 obtain ⟨w1, w2, w3, w4, _⟩ := hw
 unfold FW
 simp only [Bl]
 by_cases k1 : 3 < d.fb.length
 ·rw [AB (by omega)]; exact ⟨_, false, rfl, fun h => by cases h⟩
 by_cases k2 : 4 < d.fw.length
 ·rw [Ay (by omega), decide_eq_true (by omega : (4 : Int) < (d.fw.length : Int))]; exact ⟨_, false, rfl, fun h => by cases h⟩
 rw [Ay (by omega), decide_eq_false (by omega : ¬ (4 : Int) < (d.fw.length : Int)), Al]
 obtain ⟨⟨vs, ns, ts⟩, e, h1, h2, h3, h4⟩ := FF (A := List Int × List Int × List Int) (C1 N d fun v5 => BE N d v5 (fun v16 => some (Aa.mk v5.1 v5.2.1 v5.2.2 v16, true)) N ([], 0)) (fun a k => (a.1, a.2.1, a.2.2, k)) d.fb.length
  (fun v5 => BE N d v5 (fun v16 => some (Aa.mk v5.1 v5.2.1 v5.2.2 v16, true)) N ([], 0))
  (fun i a => a.1.length = i ∧ a.2.1.length = i ∧ a.2.2.length = i ∧ (∀ k, k < i → (1 ≤ a.1.getD k 0 ∧ a.1.getD k 0 ≤ 3) ∧ (0 ≤ a.2.1.getD k 0 ∧ a.2.1.getD k 0 < a.1.getD k 0) ∧ (0 ≤ a.2.2.getD k 0 ∧ a.2.2.getD k 0 < a.1.getD k 0)))
  (fun n i a hi ha => by
   obtain ⟨vs, ns, ts⟩ := a
   obtain ⟨h1, h2, h3, h4⟩ := ha
   simp only at h1 h2 h3 h4
   have hv := Vi w1 i
   have hb := Vi w2 i
   have hk := Vi w3 i
   have hm := IE (n := 3) hv.1 (by omega)
   obtain ⟨v, hvd⟩ : ∃ v, v = 1 + zX (d.fb.getD i 0) 3 := ⟨_, rfl⟩
   have m1 := IE (n := v) hb.1 (by omega)
   have m2 := IE (n := v) hk.1 (by omega)
   refine ⟨(vs ++ [v], ns ++ [zX (d.fj.getD i 0) v], ts ++ [zX (d.fo.getD i 0) v]), ?_, by simp [h1], by simp [h2], by simp [h3], ?_⟩
   ·rw [C1]
    simp only
    rw [AB (by omega), Dc (d := 0) hi, QZ N w2, QZ N w3]
    simp only [oS]
    rw [CS (n := zX _ _) (by omega) (by omega), CS (n := 1 + _) (by omega) (by omega), ← hvd, AE (by omega)]
    have l1 : ∀ y : Int, vs.length + ([y] : List Int).length ≤ C4 := by intro y; rw [h1]; unfold C4; simp; omega
    have l2 : ∀ y : Int, ns.length + ([y] : List Int).length ≤ C4 := by intro y; rw [h2]; unfold C4; simp; omega
    have l3 : ∀ y : Int, ts.length + ([y] : List Int).length ≤ C4 := by intro y; rw [h3]; unfold C4; simp; omega
    simp only [Au (l1 _), Au (l2 _), Au (l3 _), Au (show v ≠ 0 by omega)]
   ·intro k hk
    simp only
    by_cases hki : k < i
    ·rw [Km (by omega), Km (by omega), Km (by omega)]; exact h4 k hki
    ·have : k = i := by omega
     subst this
     rw [Kl h1.symm, Kl h2.symm, Kl h3.symm]
     omega)
  (fun n a _ => by
   rw [C1]
   simp only
   rw [Ay (by omega)]) N 0 ([], [], []) (zK _) (by omega) ⟨rfl, rfl, rfl, fun k hk => by omega⟩
 simp only at h1 h2 h3 h4
 have e' : C1 N d (fun v5 => BE N d v5 (fun v16 => some (Aa.mk v5.1 v5.2.1 v5.2.2 v16, true)) N ([], 0)) N ([], [], [], 0) = _ := e
 rw [e']
 have hvs : ∀ v, v ∈ vs → 1 ≤ v ∧ v ≤ 3 := by
  intro v hv
  obtain ⟨q, hq⟩ := zT.1 hv
  have := (h4 q (by have := (lI.1 hq).1; omega)).1
  rwa [lD, hq] at this
 have fin : ∀ OM : List An, OM.length ≤ 4 → (∀ t, t ∈ OM → D9 ⟨vs, ns, ts, []⟩ t = 0) → Zl ⟨vs, ns, ts, OM⟩ := by
  intro OM ht h
  have hp : Bf ⟨vs, ns, ts, OM⟩ := ⟨show vs.length ≤ 6 by omega, show OM.length ≤ 12 by omega, show ns.length = vs.length by omega, show ts.length = vs.length by omega, fun v hv => by have := hvs v hv; omega, fun t ht => by rw [← h t ht]; exact V0 rfl t⟩
  exact ⟨Rz hp fun i hi => by have := h4 i (by have : i < vs.length := hi; omega); simp only; omega, show vs.length ≤ 3 by omega, ht, fun v hv => (hvs v hv).2⟩
 by_cases k3 : vs.length = 0
 ·refine ⟨_, true, ?_, fun _ => fin [] (by simp) (fun t ht => by cases ht)⟩
  obtain ⟨M, rfl⟩ : ∃ M, N = M + 1 := ⟨N - 1, by omega⟩
  rw [BE]
  simp only [Bl]
  rw [k3]
  by_cases k4 : (0 : Int) < (d.fw.length : Int)
  ·rw [AB k4]; rfl
  ·rw [Ay k4]; rfl
 obtain ⟨OM, e2, g1, g2⟩ := FF (A := List An) (BE N d (vs, ns, ts) (fun v16 => some (Aa.mk vs ns ts v16, true))) (fun a k => (a, k)) d.fw.length (fun v16 => some (Aa.mk vs ns ts v16, true))
  (fun i a => a.length = i ∧ ∀ t, t ∈ a → D9 ⟨vs, ns, ts, []⟩ t = 0)
  (fun n i a hi ha => by
   have hx : d.fw[i]? = some d.fw[i] := by simp [hi]
   generalize d.fw[i] = l at hx
   obtain ⟨u1, u2, u3, _, u5, u6, _⟩ := w4 l (lM hx)
   have u1 := JP u1
   have u2 := JP u2
   have u3 := JP u3
   have mk := IE (n := 4) u1.1 (by omega)
   have hL : (0 : Int) < (vs.length : Int) := by omega
   have mf := IE (n := (vs.length : Int)) u2.1 hL
   have mt := IE (n := (vs.length : Int)) u3.1 hL
   rw [BE]
   simp only [Bl]
   rw [AB (by omega), decide_eq_true hL, AQ, AU, hx]
   simp only [oS]
   rw [Au (by omega), Au (by omega), CS (n := l.fh) (by omega) (by omega), CS (n := l.fk) (by omega) (by omega), CS (n := zX l.fg 4) (by omega) (by omega), CS (n := 1 + _) (by omega) (by omega), AE (by omega)]
   simp only [N2, oS]
   rw [El (d := 0) mf.1 mf.2, El (d := 0) mt.1 mt.2]
   simp only [oS]
   have hA : ∀ q : Int, 0 ≤ q → q < (vs.length : Int) → 1 ≤ vs.getD q.toNat 0 ∧ vs.getD q.toNat 0 ≤ 3 := fun q h0 h1 => (h4 q.toNat (by omega)).1
   have hf := hA _ mf.1 mf.2
   have ht := hA _ mt.1 mt.2
   obtain ⟨A, eA, a1, a2, _⟩ := UW N (vs.getD (zX l.fh (vs.length : Int)).toNat 0) (vs.getD (zX l.fk (vs.length : Int)).toNat 0) l.fy false hN h20 (by omega) (by omega)
   obtain ⟨B, eB, b1, b2, b3⟩ := UW N (vs.getD (zX l.fh (vs.length : Int)).toNat 0) (vs.getD (zX l.fh (vs.length : Int)).toNat 0) l.fA true hN h20 (by omega) (by omega)
   rw [eA, eB]
   simp only [oS]
   have l1 : ∀ y : An, a.length + ([y] : List An).length ≤ C4 := by intro y; rw [ha.1]; unfold C4; simp; omega
   simp only [Au (l1 _)]
   obtain ⟨kd, hkd⟩ : ∃ kd, kd = 1 + zX l.fg 4 := ⟨_, rfl⟩
   rw [← hkd]
   have fin2 : ∀ (aw : Bool) (re : List (List Bool)), (aw = true → (kd == 3 || kd == 4) = false) → ((kd = 4 → re = B) ∧ (kd ≠ 4 → re = [])) →
     D9 ⟨vs, ns, ts, []⟩ (An.mk kd (zX l.fh (vs.length : Int)) (zX l.fk (vs.length : Int)) aw A re) = 0 := by
    intro aw re haw hre
    refine Z1 ⟨show 1 ≤ kd ∧ kd ≤ 4 by omega, haw, mf, mt, a1, a2, fun h => by rw [hre.1 h]; exact b1, fun row hr => ?_, fun h => by rw [hre.1 h]; exact b3 rfl rfl, fun h => hre.2 h⟩
    by_cases h4 : kd = 4
    ·simp only at hr; rw [hre.1 h4] at hr; exact b2 row hr
    ·simp only at hr; rw [hre.2 h4] at hr; cases hr
   have app : ∀ t, D9 ⟨vs, ns, ts, []⟩ t = 0 → (a ++ [t]).length = i + 1 ∧ ∀ t', t' ∈ a ++ [t] → D9 ⟨vs, ns, ts, []⟩ t' = 0 := by
    intro t ht
    refine ⟨by simp [ha.1], fun t' ht' => ?_⟩
    rcases yC.1 ht' with h | h
    ·exact ha.2 t' h
    ·rw [yS.1 h]; exact ht
   by_cases h4 : kd = 4
   ·have e4 : (kd == 4) = true := beq_iff_eq.2 h4
    have hre : (kd = 4 → B = B) ∧ (kd ≠ 4 → B = []) := ⟨fun _ => rfl, fun h => (h h4).elim⟩
    rw [e4]
    simp only [AQ, zA3, yA]
    cases l.ft
    ·exact ⟨_, rfl, app _ (fin2 false B (fun h => by cases h) hre)⟩
    ·exact ⟨_, rfl, app _ (fin2 false B (fun h => by cases h) hre)⟩
   ·have e4 : (kd == 4) = false := beq_eq_false_iff_ne.2 h4
    have hre : (kd = 4 → ([] : List (List Bool)) = B) ∧ (kd ≠ 4 → ([] : List (List Bool)) = []) := ⟨fun h => (h4 h).elim, fun _ => rfl⟩
    rw [e4]
    simp only [Al, Bool.or_false]
    cases l.ft
    ·exact ⟨_, rfl, app _ (fin2 false [] (fun h => by cases h) hre)⟩
    ·cases e3 : kd == 3
     ·exact ⟨_, rfl, app _ (fin2 true [] (fun _ => by rw [e3, e4]; rfl) hre)⟩
     ·exact ⟨_, rfl, app _ (fin2 false [] (fun h => by cases h) hre)⟩)
  (fun n a _ => by
   rw [BE]
   simp only [Bl]
   rw [Ay (by omega), Al]) N 0 [] (zK _) (by omega) ⟨rfl, fun t ht => by cases ht⟩
 exact ⟨_, true, e2, fun _ => fin OM (by omega) g2⟩
def Js : List Int → Nat → Nat
 | [], _ => 0
 | _, 0 => 0
 | n :: ns, q + 1 => (if 0 ≤ n then 1 else 0) + Js ns q
theorem JU (l : List Int) : Js l 0 = 0 := by cases l <;> rfl
theorem Iq : ∀ (l : List Int) (q : Nat), q < l.length → Js l (q + 1) = Js l q + if 0 ≤ l.getD q 0 then 1 else 0
 | [], q, h => by simp at h
 | n :: ns, 0, _ => by simp [Js, JU]
 | n :: ns, q + 1, h => by
  rw [Js, Iq ns q (by simpa using h), Js, uZ, xI]
theorem Pw (l : List Int) {a b : Nat} (h : a ≤ b) (hb : b ≤ l.length) : Js l a ≤ Js l b := by
 induction b with
 | zero => rw [Nat.le_zero.1 h]; exact zN _
 | succ b ih =>
  by_cases h1 : a = b + 1
  ·rw [h1]; exact zN _
  ·have := ih (by omega) (by omega)
   rw [Iq l b (by omega)]; omega
theorem L3 (l : List Int) : ∀ q, q ≤ l.length → Js l q ≤ q
 | 0, _ => by rw [JU]; exact zN _
 | q + 1, h => by
  have := L3 l q (by omega)
  rw [Iq l q h]
  split <;> omega
def Oh (l : List Int) (k q : Nat) : Int := if 0 ≤ l.getD q 0 ∧ k.testBit (Js l q) = true then -1 else l.getD q 0
def X2 (l : List Int) (k : Nat) : List Int := (zO l.length).map (Oh l k)
def ag (m : Ac) (k : Nat) : Ac := ⟨m.fe, X2 m.fc k, m.ff⟩
def G5 (m : Ac) : List Ac := (zO (2 ^ Js m.fc m.fc.length)).map (ag m)
theorem NL (l : List Int) (k : Nat) : (X2 l k).length = l.length := by simp [X2]
theorem Ro (l : List Int) (k q : Nat) (h : q < l.length) : (X2 l k).getD q 0 = Oh l k q := by
 unfold X2; rw [lD, zD, List.getElem?_range h]; rfl
theorem F9 {l1 l2 : List Int} (h1 : l1.length = l2.length) (h : ∀ q, q < l1.length → l1.getD q 0 = l2.getD q 0) : l1 = l2 := by
 apply List.ext_getElem h1
 intro q h2 h3
 have := h q h2
 rw [lD, lD, yJ h2, yJ h3] at this
 exact this
theorem Vs : ∀ (k : Fin 64) (b : Fin 7), AK .i64 (AZ .i64 (k.val : Int) (b.val : Int)) 1 = (if k.val.testBit b.val then 1 else 0) ∧ zX (AZ .i64 (k.val : Int) (b.val : Int)) 2 = (if k.val.testBit b.val then 1 else 0) := by decide +kernel
theorem Yf : ∀ n : Fin 7, D1 .i64 1 (n.val : Int) = ((2 ^ n.val : Nat) : Int) := by decide +kernel
structure Qm (m x : Ac) : Prop where
 base : x.fe = m.fe
 held : x.ff = m.ff
 len : x.fc.length = m.fc.length
 next : ∀ q, q < m.fc.length → x.fc.getD q 0 = m.fc.getD q 0 ∨ (0 ≤ m.fc.getD q 0 ∧ x.fc.getD q 0 = -1)
theorem Qm.refl (m : Ac) : Qm m m := ⟨rfl, rfl, rfl, fun _ _ => .inl rfl⟩
theorem Qm.trans {a b c : Ac} (h1 : Qm a b) (h2 : Qm b c) : Qm a c :=
 ⟨h2.base.trans h1.base, h2.held.trans h1.held, h2.len.trans h1.len, fun q hq => by
  have e1 := h1.next q hq
  have e2 := h2.next q (by rw [h1.len]; exact hq)
  omega⟩
theorem X0 (m : Ac) (k : Nat) : Qm m (ag m k) :=
 ⟨rfl, rfl, NL _ _, fun q hq => by
  show (X2 m.fc k).getD q 0 = _ ∨ _ ∧ (X2 m.fc k).getD q 0 = _
  rw [Ro _ _ _ hq]; unfold Oh
  split
  ·rename_i h; exact .inr ⟨h.1, rfl⟩
  ·exact .inl rfl⟩
theorem U4 : ∀ (l x : List Int), x.length = l.length → (∀ q, q < l.length → x.getD q 0 = l.getD q 0 ∨ (0 ≤ l.getD q 0 ∧ x.getD q 0 = -1)) → ∃ k, k < 2 ^ Js l l.length ∧ ∀ q, q < l.length → x.getD q 0 = Oh l k q
 | [], x, h, _ => ⟨0, by simp [Js], fun q hq => by simp at hq⟩
 | n :: ns, [], h, _ => by simp at h
 | n :: ns, y :: ys, h, hq => by
  obtain ⟨k, hk, hk2⟩ := U4 ns ys (by simpa using h) (fun q hq' => by have := hq (q + 1) (by simpa using hq'); simpa using this)
  have h0 := hq 0 (by simp)
  simp only [vP] at h0
  by_cases hn : 0 ≤ n
  ·refine ⟨2 * k + if y = n then 0 else 1, ?_, ?_⟩
   ·rw [yD, Js, if_pos hn, Nat.pow_add]
    split <;> omega
   ·intro q hq'
    cases q with
    | zero =>
     simp only [vP, Oh, JU]
     by_cases hy : y = n
     ·simp [hy]
     ·rw [if_neg hy, if_pos ⟨hn, by simp⟩]; omega
    | succ q =>
     have := hk2 q (by simpa using hq')
     simp only [uZ, Oh, Js, if_pos hn] at this ⊢
     rw [this, vT 1, Nat.testBit_succ]
     have : (2 * k + if y = n then 0 else 1) / 2 = k := by split <;> omega
     rw [this]
  ·refine ⟨k, ?_, ?_⟩
   ·rw [yD, Js, if_neg hn, zC]; exact hk
   ·intro q hq'
    cases q with
    | zero =>
     simp only [vP, Oh, JU]
     rw [if_neg (fun h => hn h.1)]
     omega
    | succ q =>
     have := hk2 q (by simpa using hq')
     simp only [uZ, Oh, Js, if_neg hn, zC] at this ⊢
     exact this
theorem Pk {m x : Ac} : x ∈ G5 m ↔ Qm m x := by
 unfold G5
 rw [zU]
 constructor
 ·rintro ⟨k, _, rfl⟩; exact X0 m k
 ·intro h
  obtain ⟨k, hk, hq⟩ := U4 m.fc x.fc h.len h.next
  refine ⟨k, yX.2 hk, ?_⟩
  have : X2 m.fc k = x.fc := F9 (by rw [NL, h.len]) fun q hq' => by
   rw [NL] at hq'
   rw [Ro _ _ _ hq', hq q hq']
  unfold ag
  rw [this, ← h.base, ← h.held]
theorem Z8 {m x : Ac} (h : Qm m x) {s : Nat} (hs : s < m.fc.length) {v : Nat} (hv : Jt x s v = true) : Jt m s v = true := by
 unfold Jt at hv ⊢
 rw [h.base] at hv
 have := h.next s hs
 simp only [xO, decide_eq_true_eq] at hv ⊢
 omega
theorem ZA {p : Aa} {m x : Ac} (hp : Bf p) (hm : BZ p m) (h : Qm m x) : BZ p x := by
 refine ⟨⟨by rw [h.base]; exact hm.base, by rw [h.len]; exact hm.next, by rw [h.held]; exact hm.held, fun i hi => by rw [h.base]; exact hm.b0 i hi, fun i hi => ?_, fun i hi => ?_⟩, fun i hi => by rw [h.held]; exact hm.range i hi, fun i t ht hs v hv => ?_, fun i t ht hs v hv => ?_, fun i t ht hs => by rw [h.held]; exact hm.none i t ht hs⟩
 ·have h1 := hm.n0 i hi
  have h2 := h.next i (by rw [hm.next]; exact hi)
  have h3 := Jd hp hi
  omega
 ·have h1 := hm.ne i hi
  have h2 := h.next i (by rw [hm.next]; exact hi)
  have h3 := hm.b0 i hi
  rw [h.base]
  omega
 ·have hin := (LE (hp.tab t (lM ht))).from0
  rw [h.held]
  exact hm.low i t ht hs v (Z8 h (by rw [hm.next]; omega) hv)
 ·rw [h.held] at hv
  exact hm.high i t ht hs v hv
theorem KN (N : Nat) (l : List Int) (h : l.length ≤ C4) : BW N l = some l := by
 unfold BW
 rw [Au (by simpa using h)]; rfl
theorem Q6 (N : Nat) (l : List Int) (h : l.length ≤ C4) : B3 N l = some l := by
 unfold B3
 rw [Au (by simpa using h)]; rfl
theorem J6 {l : List Int} {i q : Nat} {y : Int} (hi : i < l.length) : (l.set i y).getD q 0 = if q = i then y else l.getD q 0 := by
 rw [lD, lD, xB]
 by_cases h : i = q
 ·subst h; simp [hi]
 ·rw [if_neg h, if_neg (fun e => h e.symm)]
theorem Zb {l : List Int} {a b : Nat} (ha : a < l.length) (hb : b < l.length) (h1 : 0 ≤ l.getD a 0) (h2 : 0 ≤ l.getD b 0) (h : Js l a = Js l b) : a = b := by
 rcases Nat.lt_trichotomy a b with h3 | h3 | h3
 ·have := Pw l (a := a + 1) (b := b) h3 (by omega)
  rw [Iq l a ha, if_pos h1] at this; omega
 ·exact h3
 ·have := Pw l (a := b + 1) (b := a) h3 (by omega)
  rw [Iq l b hb, if_pos h2] at this; omega
structure WF (l : List Int) (o : List Int) : Prop where
 len : o.length = Js l l.length
 at_ : ∀ b, b < o.length → ∃ i : Nat, o.getD b 0 = (i : Int) ∧ i < l.length ∧ 0 ≤ l.getD i 0 ∧ Js l i = b
theorem Tm (N : Nat) (l o : List Int) (k : Nat) (acc : List Ac) (hN : N ≤ 1000000) (h20 : 20 ≤ N) (hl : l.length ≤ 6) (ho : WF l o) (hk : k < 64) (j : List Int → Option (List Ac × Int)) :
  Dl N o (acc, (k : Int)) j N (l, 0) = j (X2 l k) := by
 have hol := L3 l l.length (zN _)
 have hoL := ho.len
 obtain ⟨x, e, h1, h2⟩ := FF (A := List Int) (Dl N o (acc, (k : Int)) j) (fun a k => (a, k)) o.length j
  (fun b a => a.length = l.length ∧ ∀ q, q < l.length → a.getD q 0 = if 0 ≤ l.getD q 0 ∧ Js l q < b ∧ k.testBit (Js l q) = true then -1 else l.getD q 0)
  (fun n b a hb ha => by
   obtain ⟨i, hi1, hi2, hi3, hi4⟩ := ho.at_ b hb
   have hbit := Vs ⟨k, hk⟩ ⟨b, by omega⟩
   rw [Dl]
   simp only [Bl]
   rw [AB (by omega), Dc (d := 0) hb]
   simp only [oS]
   rw [Au (by omega), hi1, hbit.1, Dc (d := 0) (show i < a.length by rw [ha.1]; exact hi2), AE (by omega)]
   simp only [oS, zS]
   cases hkb : k.testBit b
   ·refine ⟨a, rfl, ha.1, fun q hq => ?_⟩
    rw [ha.2 q hq]
    by_cases hqb : Js l q = b
    ·rw [hqb, hkb]; simp
    ·by_cases h3 : Js l q < b
     ·have : Js l q < b + 1 := by omega
      simp [h3, this]
     ·have : ¬ Js l q < b + 1 := by omega
      simp [h3, this]
   ·refine ⟨a.set i (-1), rfl, by simp [ha.1], fun q hq => ?_⟩
    rw [J6 (by rw [ha.1]; exact hi2), ha.2 q hq]
    by_cases hqi : q = i
    ·subst hqi
     rw [if_pos rfl, if_pos ⟨hi3, by omega, by rw [hi4]; exact hkb⟩]
    ·rw [if_neg hqi]
     by_cases h0 : 0 ≤ l.getD q 0
     ·have hne : Js l q ≠ b := fun h => hqi (Zb hq hi2 h0 hi3 (by omega))
      by_cases h3 : Js l q < b
      ·have : Js l q < b + 1 := by omega
       simp [h3, this]
      ·have : ¬ Js l q < b + 1 := by omega
       simp [h3, this]
     ·rw [if_neg (fun h => h0 h.1), if_neg (fun h => h0 h.1)])
  (fun n a _ => by
   rw [Dl]
   simp only [Bl]
   rw [Ay (by omega)]) N 0 l (zK _) (by omega) ⟨rfl, fun q hq => by simp⟩
 have e' : Dl N o (acc, (k : Int)) j N (l, 0) = j x := e
 rw [e']
 congr 1
 refine F9 (by rw [NL, h1]) fun q hq => ?_
 rw [h1] at hq
 rw [h2 q hq, Ro _ _ _ hq, Oh]
 by_cases h0 : 0 ≤ l.getD q 0
 ·have h3 := Pw l (a := q + 1) (b := l.length) hq (zN _)
  rw [Iq l q hq, if_pos h0] at h3
  have : Js l q < o.length := by omega
  simp [this]
 ·rw [if_neg (fun h => h0 h.1), if_neg (fun h => h0 h.1)]
theorem TE (N : Nat) (m : Ac) (k : Nat) (acc : List Ac) (hN : N ≤ 1000000) (h20 : 20 ≤ N) (hl : m.fc.length ≤ 6) (hk : k < 64) (j : List Int → Option (List Ac)) :
  B6 N m (acc, (k : Int)) j N (m.fc, 0, 0) = j (X2 m.fc k) := by
 obtain ⟨⟨x, pl⟩, e, h1, h2, h3⟩ := FF (A := List Int × Nat) (B6 N m (acc, (k : Int)) j) (fun a k => (a.1, (a.2 : Int), k)) m.fc.length (fun a => j a.1)
  (fun i a => a.2 = Js m.fc i ∧ a.1.length = m.fc.length ∧ ∀ q, q < m.fc.length → a.1.getD q 0 = if q < i then Oh m.fc k q else m.fc.getD q 0)
  (fun n i a hi ha => by
   obtain ⟨a, pl⟩ := a
   obtain ⟨a1, a2, a3⟩ := ha
   simp only at a1 a2 a3
   have hple := L3 m.fc i (by omega)
   have hbit := Vs ⟨k, hk⟩ ⟨pl, by omega⟩
   have hs := Iq m.fc i hi
   rw [B6]
   simp only [Bl]
   rw [AB (by omega), Dc (d := 0) hi]
   simp only [oS]
   rw [AE (by omega)]
   by_cases h0 : m.fc.getD i 0 < 0
   ·rw [AB h0]
    refine ⟨(a, pl), rfl, by simp only; rw [hs, if_neg (by omega), a1]; rfl, a2, fun q hq => ?_⟩
    simp only
    rw [a3 q hq]
    by_cases hqi : q = i
    ·subst hqi
     rw [if_neg (by omega), if_pos (by omega), Oh, if_neg (by omega)]
    ·by_cases h4 : q < i
     ·rw [if_pos h4, if_pos (by omega)]
     ·rw [if_neg h4, if_neg (by omega)]
   ·rw [Ay h0, Au (by omega), Dc (d := 0) (show i < a.length by omega), hbit.2, AE (by omega)]
    simp only [oS, zS]
    cases hkb : k.testBit pl
    ·refine ⟨(a, pl + 1), rfl, by simp only; rw [hs, if_pos (by omega), a1], a2, fun q hq => ?_⟩
     simp only
     rw [a3 q hq]
     by_cases hqi : q = i
     ·subst hqi
      rw [if_neg (by omega), if_pos (by omega), Oh, ← a1, hkb]; simp
     ·by_cases h4 : q < i
      ·rw [if_pos h4, if_pos (by omega)]
      ·rw [if_neg h4, if_neg (by omega)]
    ·refine ⟨(a.set i (-1), pl + 1), rfl, by simp only; rw [hs, if_pos (by omega), a1], by simp [a2], fun q hq => ?_⟩
     simp only
     rw [J6 (by omega), a3 q hq]
     by_cases hqi : q = i
     ·subst hqi
      rw [if_pos rfl, if_pos (by omega), Oh, ← a1, if_pos ⟨by omega, hkb⟩]
     ·rw [if_neg hqi]
      by_cases h4 : q < i
      ·rw [if_pos h4, if_pos (by omega)]
      ·rw [if_neg h4, if_neg (by omega)])
  (fun n a _ => by
   rw [B6]
   simp only [Bl]
   rw [Ay (by omega)]) N 0 (m.fc, 0) (zK _) (by omega) ⟨(JU _).symm, rfl, fun q hq => by simp⟩
 have e' : B6 N m (acc, (k : Int)) j N (m.fc, 0, 0) = j x := e
 rw [e']
 congr 1
 simp only at h2 h3
 refine F9 (by rw [NL, h2]) fun q hq => ?_
 rw [h2] at hq
 rw [h3 q hq, if_pos hq, Ro _ _ _ hq]
theorem XU (N : Nat) (m : Ac) (hN : N ≤ 1000000) (h20 : 20 ≤ N) (hl : m.fc.length ≤ 6) (j : List Int → Option (List Ac × Int)) :
  ∃ o, Ed N m j N ([], 0) = j o ∧ WF m.fc o := by
 obtain ⟨o, e, h1, h2⟩ := FF (A := List Int) (Ed N m j) (fun a k => (a, k)) m.fc.length j
  (fun i o => o.length = Js m.fc i ∧ ∀ b, b < o.length → ∃ q : Nat, o.getD b 0 = (q : Int) ∧ q < m.fc.length ∧ 0 ≤ m.fc.getD q 0 ∧ Js m.fc q = b)
  (fun n i o hi ho => by
   have hple := L3 m.fc i (by omega)
   have hs := Iq m.fc i hi
   rw [Ed]
   simp only [Bl]
   rw [AB (by omega), Dc (d := 0) hi]
   simp only [oS]
   rw [AE (by omega)]
   by_cases h0 : 0 ≤ m.fc.getD i 0
   ·rw [AB h0, Au (by rw [ho.1]; unfold C4; simp; omega)]
    refine ⟨o ++ [(i : Int)], rfl, by rw [hs, if_pos h0, ← ho.1]; simp, ?_⟩
    rw [zW]
    exact Pg (P := fun b y => ∃ q : Nat, y = (q : Int) ∧ q < m.fc.length ∧ 0 ≤ m.fc.getD q 0 ∧ Js m.fc q = b) rfl ho.2 ⟨i, rfl, hi, h0, ho.1.symm⟩
   ·rw [Ay h0]
    exact ⟨o, rfl, by rw [hs, if_neg h0, ho.1]; rfl, ho.2⟩)
  (fun n a _ => by
   rw [Ed]
   simp only [Bl]
   rw [Ay (by omega)]) N 0 [] (zK _) (by omega) ⟨(JU _).symm, fun b hb => by simp at hb⟩
 exact ⟨o, e, h1, h2⟩
theorem MM {n : Nat} (h : n ≤ 6) : 2 ^ n ≤ 64 := Nat.pow_le_pow_right (n := 2) (by omega) h
theorem OW {n : Nat} (h : n ≤ 6) : D1 .i64 1 (n : Int) = ((2 ^ n : Nat) : Int) := Yf ⟨n, by omega⟩
theorem LM {β : Type} (f : Nat → β) (n : Nat) : (zO (n + 1)).map f = (zO n).map f ++ [f n] := by
 rw [xX, y7]; rfl
theorem Qd (N : Nat) (p : Aa) (m : Ac) (hN : N ≤ 1000000) (h20 : 100 ≤ N) (hw : OX Mr m.ff) (hv : Gi p m = 0) : HC N p m = some (G5 m, 0) := by
 obtain ⟨hp, hm⟩ := KI hw hv
 have hnv := hp.nv
 have hnt := hp.nt
 have hl : m.fc.length ≤ 6 := by rw [hm.next]; omega
 unfold HC
 rw [JF N p m hN (by omega) hw, hv]
 simp only [oS, bne_self_eq_false, Al]
 obtain ⟨o, e, ho⟩ := XU N m hN (by omega) hl (fun (v4 : (List Int)) =>
   (DI (0 ≤ (v4.length : Int))).bind fun _ =>
   Dj N m v4 (fun (v12 : (List Ac)) =>
    some (v12, 0)) N (([] : List Ac), 0))
 rw [e, Au (by omega)]
 have hoL := ho.len
 have hol := L3 m.fc m.fc.length (zN _)
 have hpow := MM (show Js m.fc m.fc.length ≤ 6 by omega)
 obtain ⟨a, e2, h1⟩ := FF (A := List Ac) (Dj N m o fun v12 => some (v12, 0)) (fun a k => (a, k)) (2 ^ Js m.fc m.fc.length) (fun v12 => some (v12, 0))
  (fun i a => a = (zO i).map (ag m))
  (fun n i a hi ha => by
   refine ⟨a ++ [ag m i], ?_, by rw [LM, ha]⟩
   have hal : a.length = i := by rw [ha]; simp
   rw [Dj]
   rw [hoL, OW (n := Js m.fc m.fc.length) (by omega), AB (by omega), KN N m.fe (by have := hm.base; unfold C4; omega), KN N m.fc (by unfold C4; omega), Q6 N m.ff (by have := hm.held; unfold C4; omega)]
   simp only [oS]
   rw [Tm N m.fc o i a hN (by omega) hl ho (by omega), Au (by rw [hal]; unfold C4; simp; omega), AE (by omega)]
   rfl)
  (fun n a _ => by
   rw [Dj]
   rw [hoL, OW (n := Js m.fc m.fc.length) (by omega), Ay (by simp)]) N 0 [] (zK _) (by omega) rfl
 have e2' : Dj N m o (fun v12 => some (v12, 0)) N ([], 0) = some (a, 0) := e2
 rw [e2', h1]; rfl
theorem Ub (N : Nat) (m : Ac) (h1 : m.fe.length ≤ C4) (h2 : m.fc.length ≤ C4) (h3 : m.ff.length ≤ C4) : EK N m = some m := by
 unfold EK
 rw [Au (by simpa using h1), Au (by simpa using h2), Au (by simpa using h3)]; rfl
theorem TZ (N : Nat) (m : Ac) (hN : N ≤ 1000000) (h20 : 100 ≤ N) (h1 : m.fe.length ≤ 100) (hl : m.fc.length ≤ 6) (h3 : m.ff.length ≤ 100) : EP N m = some (G5 m) := by
 unfold EP
 obtain ⟨c, e, hc⟩ := FF (A := Nat) (CI N m (fun (v2 : Int) =>
  BF N m v2 (fun (v8 : (List Ac)) => some v8) N (([] : List Ac), 0))) (fun a k => ((a : Int), k)) m.fc.length (fun a => BF N m (a : Int) (fun (v8 : (List Ac)) => some v8) N (([] : List Ac), 0))
  (fun i a => a = Js m.fc i)
  (fun n i a hi ha => by
   have hple := L3 m.fc i (by omega)
   have hs := Iq m.fc i hi
   rw [CI]
   simp only [Bl]
   rw [AB (by omega), Dc (d := 0) hi]
   simp only [oS]
   rw [AE (by omega), AE (by omega)]
   by_cases h0 : 0 ≤ m.fc.getD i 0
   ·rw [AB h0]
    exact ⟨a + 1, rfl, by rw [hs, if_pos h0, ha]⟩
   ·rw [Ay h0]
    exact ⟨a, rfl, by rw [hs, if_neg h0, ha]; rfl⟩)
  (fun n a _ => by
   rw [CI]
   simp only [Bl]
   rw [Ay (by omega)]) N 0 0 (zK _) (by omega) (JU _).symm
 have e' : CI N m (fun (v2 : Int) => BF N m v2 (fun (v8 : (List Ac)) => some v8) N (([] : List Ac), 0)) N (0, 0) = _ := e
 rw [e', hc]
 have hol := L3 m.fc m.fc.length (zN _)
 have hpow := MM (show Js m.fc m.fc.length ≤ 6 by omega)
 obtain ⟨a, e2, h1⟩ := FF (A := List Ac) (BF N m (Js m.fc m.fc.length : Int) fun v8 => some v8) (fun a k => (a, k)) (2 ^ Js m.fc m.fc.length) some
  (fun i a => a = (zO i).map (ag m))
  (fun n i a hi ha => by
   refine ⟨a ++ [ag m i], ?_, by rw [LM, ha]⟩
   have hal : a.length = i := by rw [ha]; simp
   rw [BF]
   rw [Au (by omega), OW (n := Js m.fc m.fc.length) (by omega), AB (by omega), Ub N m (by unfold C4; omega) (by unfold C4; omega) (by unfold C4; omega)]
   simp only [oS]
   rw [TE N m i a hN (by omega) hl (by omega), Au (by rw [hal]; unfold C4; simp; omega), AE (by omega)]
   rfl)
  (fun n a _ => by
   rw [BF]
   rw [Au (by omega), OW (n := Js m.fc m.fc.length) (by omega), Ay (by simp)]) N 0 [] (zK _) (by omega) rfl
 have e2' : BF N m (Js m.fc m.fc.length : Int) (fun v8 => some v8) N ([], 0) = some a := e2
 rw [e2', h1]; rfl
theorem Uq (N : Nat) (p : Aa) (m : Ac) (hN : N ≤ 1000000) (h20 : 100 ≤ N) (hp : Bf p) (hm : BZ p m) : EP N m = some (G5 m) := by
 have := hp.nv
 have := hp.nt
 exact TZ N m hN h20 (by rw [hm.base]; omega) (by rw [hm.next]; omega) (by rw [hm.held]; omega)
theorem MJ {p : Aa} {m : Ac} (hm : BZ p m) : OX Mr m.ff := by
 intro x hx
 obtain ⟨q, hq⟩ := zT.1 hx
 have h1 := (lI.1 hq).1
 have := hm.range q (by rw [← hm.held]; exact h1)
 rw [lD, hq] at this
 unfold Mr
 simp only [yE] at this
 simp [Lit.wf, IntKind.min, IntKind.max, IntKind.signed, IntKind.bits]
 omega
def M1 (p : Aa) (x : Ac) : Option (Ac × Ap) := match HV p x with
 | [] => none
 | c :: _ => some (x, c)
def Pz (p : Aa) (m : Ac) : Option (Ac × Ap) := CG (fun _ x => M1 p x) 0 (G5 m)
def Is : Ac := ⟨[], [], []⟩
def Xb : Ap := ⟨0, 0, 0⟩
def Uu (p : Aa) (m : Ac) : Ac × Ap × Int := match Pz p m with
 | some (x, c) => (x, c, 0)
 | none => (Is, Xb, 15)
def BC (p : Aa) (m : Ac) : Bool := (Pz p m).isNone
theorem O4 {m : Ac} (hl : m.fc.length ≤ 6) : (G5 m).length ≤ 64 := by
 unfold G5
 have hol := L3 m.fc m.fc.length (zN _)
 have hpow := MM (show Js m.fc m.fc.length ≤ 6 by omega)
 simpa using hpow
theorem LJ {α R R' : Type} (f : Nat → α → Option R) (g : R → R') : ∀ (i : Nat) (xs : List α), CG (fun i x => (f i x).map g) i xs = (CG f i xs).map g
 | _, [] => rfl
 | i, x :: xs => by
  rw [FP, FP]
  cases f i x
  ·exact LJ f g (i + 1) xs
  ·rfl
theorem RC (N : Nat) (p : Aa) (m : Ac) (hN : N ≤ 1000000) (h20 : 100 ≤ N) (hw : OX Mr m.ff) (hv : Gi p m = 0) : Iw N p m = some (Uu p m) := by
 obtain ⟨hp, hm⟩ := KI hw hv
 have hnv := hp.nv
 unfold Iw
 rw [Qd N p m hN h20 hw hv]
 simp only [oS, bne_self_eq_false, Al]
 have hal := O4 (m := m) (by rw [hm.next]; omega)
 have := BO (Fk N p (G5 m, 0) fun _ => some (Is, Xb, 15)) (G5 m) (some (Is, Xb, 15)) (fun _ x => (M1 p x).map fun y => (y.1, y.2, 0))
  (fun n i x hx => by
   have hi := (lI.1 hx).1
   have hx2 := ZA hp hm (Pk.1 (lM hx))
   rw [Fk, AB (by simp only; omega)]
   simp only [AU, hx, oS]
   rw [N3 N p x hN (by omega) hp hx2, AE (by omega)]
   simp only [oS, M1]
   cases HV p x with
   | nil => rfl
   | cons c cs => rw [AB (by simp only [yD]; omega)]; rfl)
  (fun n => by rw [Fk, Ay (by simp)]) N 0 (zK _) (by omega)
 rw [zZ, LJ] at this
 exact this.trans (by
  unfold Uu Pz
  cases CG (fun _ x => M1 p x) 0 (G5 m) <;> rfl)
theorem KB (N : Nat) (p : Aa) (m : Ac) (hN : N ≤ 1000000) (h20 : 100 ≤ N) (hw : OX Mr m.ff) (hv : Gi p m = 0) : GW N p m = some (BC p m, 0) := by
 unfold GW
 rw [RC N p m hN h20 hw hv]
 unfold BC Uu
 cases Pz p m <;> rfl
theorem TQ (N : Nat) (p : Aa) (m : Ac) (hN : N ≤ 1000000) (h20 : 100 ≤ N) (hp : Bf p) (hm : BZ p m) : EF N p m = some (HV p m).isEmpty := by
 unfold EF
 rw [Ob N p m hN (by omega) hp hm]
 simp only [oS]
 cases HV p m with
 | nil => rfl
 | cons c cs =>
  rw [beq_eq_false_iff_ne.2 (by simp only [yD]; omega)]; rfl
theorem IS (N : Nat) (p : Aa) (m : Ac) (hN : N ≤ 1000000) (h20 : 100 ≤ N) (hp : Bf p) (hm : BZ p m) : CP N p m = some (BC p m) := by
 have hnv := hp.nv
 unfold CP
 rw [Uq N p m hN h20 hp hm]
 simp only [oS]
 have hal := O4 (m := m) (by rw [hm.next]; omega)
 have := BO (Cd N p (G5 m) fun _ => some true) (G5 m) (some true) (fun _ x => (M1 p x).map fun _ => false)
  (fun n i x hx => by
   have hi := (lI.1 hx).1
   have hx2 := ZA hp hm (Pk.1 (lM hx))
   rw [Cd, AB (by omega)]
   simp only [AU, hx, oS]
   rw [TQ N p x hN h20 hp hx2, AE (by omega)]
   simp only [oS, M1]
   cases HV p x with
   | nil => rfl
   | cons c cs => rfl)
  (fun n => by rw [Cd, Ay (by simp)]) N 0 (zK _) (by omega)
 rw [zZ, LJ] at this
 refine Eq.trans this ?_
 unfold BC Pz
 cases CG (fun _ x => M1 p x) 0 (G5 m) <;> rfl
theorem S7 {N : Nat} {a b : Ac} (hN : N ≤ 1000000) (h1 : a.fe.length < N) (h2 : a.fc.length < N) (h3 : a.ff.length < N) (h4 : b.ff.length < N) (wa : OX Mr a.ff) (wb : OX Mr b.ff) : Er N a b = some (UA a b) := by
 unfold Er
 rw [PE h1 hN, PE h2 hN, Ou h3 hN wa, Ou h4 hN wb]
 simp only [oS]
 rw [PE h3 hN]
 unfold UA Z7
 by_cases h1 : JD a.fe b.fe = 0
 ·simp only [h1, Z7]
  by_cases h2 : JD a.fc b.fc = 0
  ·simp only [h2]
   by_cases h3 : JD a.ff b.ff = 0 <;> simp [h3]
  ·have : (JD a.fc b.fc != 0) = true := by simpa using h2
   simp [h2, this]
 ·have : (JD a.fe b.fe != 0) = true := by simpa using h1
  simp [h1, this]
theorem R9 (N : Nat) (a b : List Int) (hN : N ≤ 1000000) (h : a.length < N) : A6 N a b = some (a == b) := by
 unfold A6
 by_cases hl : a.length = b.length
 ·rw [hl, bne_self_eq_false, Al]
  have := BO (Be N a b fun _ => some true) a (some true) (fun i x => if x = b.getD i 0 then none else some false)
   (fun n i x hx => by
    have hi := (lI.1 hx).1
    rw [Be, AB (by omega), AU, hx, Dc (d := 0) (by omega)]
    simp only [oS]
    rw [AE (by omega)]
    by_cases h : x = b.getD i 0
    ·rw [if_pos h, h, bne_self_eq_false]; rfl
    ·rw [if_neg h, bne_iff_ne.2 h]; rfl)
   (fun n => by rw [Be, Ay (by simp)]) N 0 (zK _) (by omega)
  refine this.trans ?_
  rw [zZ]
  cases hs : CG (fun i x => if x = b.getD i 0 then none else some false) 0 a with
  | none =>
   have : a = b := F9 hl fun q hq => by
    have hx : a[q]? = some (a.getD q 0) := by rw [lD]; simp [hq]
    have := Ff hs q _ hx
    rw [zC] at this
    split at this
    ·assumption
    ·cases this
   rw [this, beq_self_eq_true]; rfl
  | some r =>
   obtain ⟨j, x, hx, hf⟩ := DW hs
   rw [zC] at hf
   split at hf
   ·cases hf
   ·rename_i hne
    cases hf
    have : (a == b) = false := beq_eq_false_iff_ne.2 fun e => hne (by rw [← e, lD, hx]; rfl)
    rw [this]; rfl
 ·have h1 : ((a.length : Int) != (b.length : Int)) = true := bne_iff_ne.2 (by omega)
  have h2 : (a == b) = false := beq_eq_false_iff_ne.2 fun e => hl (by rw [e])
  rw [h1, h2]; rfl
theorem Se (N : Nat) (a : List Int) (f : Int → Option Bool) (g : Int → Bool) (hN : N ≤ 1000000) (h : a.length < N) (hf : ∀ x, x ∈ a → f x = some (g x)) : CO N a f = some (a.any g) := by
 unfold CO Ek
 have := BO (Bq N a f fun _ => some (-1)) a (some (-1)) (fun i x => if g x then some (i : Int) else none)
  (fun n i x hx => by
   have hi := (lI.1 hx).1
   rw [Bq, AB (by omega), AU, hx]
   simp only [oS]
   rw [hf x (lM hx), AE (by omega)]
   simp only [oS]
   cases g x <;> rfl)
  (fun n => by rw [Bq, Ay (by simp)]) N 0 (zK _) (by omega)
 have e : Bq N a f (fun _ => some (-1)) N 0 = _ := this
 rw [e, zZ]
 cases hs : CG (fun i x => if g x then some (i : Int) else none) 0 a with
 | none =>
  have : a.any g = false := by
   rw [vM]
   intro x hx
   obtain ⟨j, hj⟩ := zT.1 hx
   have := Ff hs j x hj
   intro hg
   rw [hg] at this; cases this
  rw [this]; rfl
 | some r =>
  obtain ⟨j, x, hx, hf⟩ := DW hs
  split at hf
  ·rename_i hg
   cases hf
   have : a.any g = true := xF.2 ⟨x, lM hx, hg⟩
   rw [this]
   simp only [BT, oS]
   rw [decide_eq_true (by omega)]
  ·cases hf
def Ip (p : Aa) (m : Ac) : Bool := Gi p m == 0 && (m.fe == p.fo && m.fc.all (fun n => decide (n < 0)))
theorem Tq (N : Nat) (p : Aa) (m : Ac) (hN : N ≤ 1000000) (h20 : 100 ≤ N) (hw : OX Mr m.ff) : I8 N p m = some (Ip p m) := by
 unfold I8 Ip
 rw [JF N p m hN (by omega) hw]
 simp only [Bl, oS]
 by_cases hv : Gi p m = 0
 ·obtain ⟨hp, hm⟩ := KI hw hv
  have := hp.nv
  rw [hv, R9 N _ _ hN (by rw [hm.base]; omega), Se N m.fc (fun x => HF N x) (fun n => decide (0 ≤ n)) hN (by rw [hm.next]; omega) (fun x _ => rfl)]
  simp only [oS, beq_self_eq_true, AQ, y8]
  have : m.fc.all (fun n => decide (n < 0)) = !m.fc.any (fun n => decide (0 ≤ n)) := by
   rw [List.not_any_eq_all_not]
   congr 1; funext n
   by_cases h : 0 ≤ n
   ·rw [decide_eq_true h, decide_eq_false (by omega)]; rfl
   ·rw [decide_eq_false h, decide_eq_true (by omega)]; rfl
  rw [this]
  cases m.fe == p.fo <;> simp
 ·rw [beq_eq_false_iff_ne.2 hv]; rfl
theorem SS (N : Nat) (p : Aa) (m : Ac) (hN : N ≤ 1000000) (h20 : 100 ≤ N) (hw : OX Mr m.ff) : Fl N p m = some (Ip p m) := by
 unfold Fl Ip
 rw [JB N p m hN (by omega)]
 simp only [oS]
 by_cases hv : Gi p m = 0
 ·obtain ⟨hp, hm⟩ := KI hw hv
  have h1 := hp.nv
  have h2 := hp.tgt
  have h3 := hm.base
  have h4 := hm.next
  rw [hv]
  simp only [bne_self_eq_false, Al, beq_self_eq_true, y8]
  have := BO (Db N p m fun _ => some true) m.fe (some true) (fun i x => if 0 ≤ m.fc.getD i 0 ∨ x ≠ p.fo.getD i 0 then some false else none)
   (fun n i x hx => by
    have hi := (lI.1 hx).1
    rw [Db, AB (by omega)]
    simp only [Bl]
    rw [show Bj m.fe (i : Int) = some x from by rw [AU, hx], Dc (d := 0) (by omega), Dc (d := 0) (by omega)]
    simp only [oS]
    rw [AE (by omega)]
    by_cases k1 : 0 ≤ m.fc.getD i 0
    ·rw [AB k1, if_pos (.inl k1)]; rfl
    ·rw [Ay k1]
     by_cases k2 : x = p.fo.getD i 0
     ·rw [if_neg (fun h => h.elim k1 (fun h => h k2)), k2, bne_self_eq_false]; rfl
     ·rw [if_pos (.inr k2), bne_iff_ne.2 k2]; rfl)
   (fun n => by rw [Db, Ay (by simp)]) N 0 (zK _) (by omega)
  refine this.trans ?_
  rw [zZ]
  cases hs : CG (fun i x => if 0 ≤ m.fc.getD i 0 ∨ x ≠ p.fo.getD i 0 then some false else none) 0 m.fe with
  | none =>
   have key : ∀ q, q < m.fe.length → m.fe.getD q 0 = p.fo.getD q 0 ∧ ¬ 0 ≤ m.fc.getD q 0 := by
    intro q hq
    have hx : m.fe[q]? = some (m.fe.getD q 0) := by rw [lD]; simp [hq]
    have := Ff hs q _ hx
    rw [zC] at this
    split at this
    ·cases this
    ·rename_i h; exact ⟨Decidable.not_not.1 fun h' => h (.inr h'), fun h' => h (.inl h')⟩
   have e1 : m.fe = p.fo := F9 (by omega) fun q hq => (key q hq).1
   have e2 : m.fc.all (fun n => decide (n < 0)) = true := by
    rw [zF]
    intro n hn
    obtain ⟨q, hq⟩ := zT.1 hn
    have hl := (lI.1 hq).1
    have := (key q (by omega)).2
    rw [lD, hq] at this
    simp only [yE] at this
    simp only [decide_eq_true_eq]
    omega
   rw [e2, e1]; simp [BT]
  | some r =>
   obtain ⟨j, x, hx, hf⟩ := DW hs
   rw [zC] at hf
   have hj := (lI.1 hx).1
   split at hf
   ·rename_i h
    cases hf
    have : (m.fe == p.fo && m.fc.all (fun n => decide (n < 0))) = false := by
     rw [Bool.and_eq_false_iff]
     rcases h with h | h
     ·right
      rw [List.all_eq_false]
      refine ⟨m.fc.getD j 0, ?_, ?_⟩
      ·rw [lD, yJ (by omega)]; exact xE _
      ·simp only [decide_eq_true_eq]; omega
     ·left
      exact beq_eq_false_iff_ne.2 fun e => h (by rw [← e, lD, hx]; rfl)
    rw [this]; rfl
   ·cases hf
 ·rw [bne_iff_ne.2 hv, beq_eq_false_iff_ne.2 hv]; rfl
open Go
structure ba (x y : An) : Prop where
 k : y.fg = x.fg
 f : y.fh = x.fh
 t : y.fk = x.fk
 a : y.ft = x.ft
 r : y.fm = x.fm
 l : y.fr.length = x.fr.length
 o : ∀ (u : Nat) (row : List Bool), x.fr[u]? = some row → ∃ row', y.fr[u]? = some row' ∧ row'.length = row.length ∧ ∀ v : Nat, row[v]? = some true → row'[v]? = some true
theorem ba.st {x y : An} (h : ba x y) : B5 y = B5 x := by unfold B5; rw [h.k]
structure aY (p : Aa) (m x : Ac) : Prop where
 base : m.fe = x.fe
 next : m.fc = x.fc
 held : ∀ i, i < p.fd.length → ∀ v, Eg (m.ff.getD i 0) v = true → Eg (x.ff.getD i 0) v = true
theorem aY.refl (p : Aa) (m : Ac) : aY p m m := ⟨rfl, rfl, fun _ _ _ h => h⟩
theorem aY.trans {p : Aa} {a b c : Ac} (h : aY p a b) (g : aY p b c) : aY p a c := ⟨h.base.trans g.base, h.next.trans g.next, fun i hi v hv => g.held i hi v (h.held i hi v hv)⟩
structure Ut (xs ys : List An) : Prop where
 l : ys.length = xs.length
 o : ∀ (i : Nat) (x : An), xs[i]? = some x → ∃ y, ys[i]? = some y ∧ ba x y
theorem ba.refl (x : An) : ba x x := ⟨rfl, rfl, rfl, rfl, rfl, rfl, fun _ row h => ⟨row, h, rfl, fun _ h => h⟩⟩
theorem Ut.refl (xs : List An) : Ut xs xs := ⟨rfl, fun _ x h => ⟨x, h, ba.refl x⟩⟩
theorem Ut.set {xs ys : List An} (h : Ut xs ys) {i u v : Nat} {y : An} {row : List Bool} {b b0 : Bool} (hy : ys[i]? = some y) (hu : y.fr[u]? = some row) (hv : row[v]? = some b0) (hb : b0 = true → b = true) :
  Ut xs (ys.set i ⟨y.fg, y.fh, y.fk, y.ft, y.fr.set u (row.set v b), y.fm⟩) := by
 refine ⟨by rw [xY]; exact h.l, fun k x hx => ?_⟩
 obtain ⟨z, hz, ht⟩ := h.o k x hx
 by_cases e : i = k
 ·subst e
  rw [hy] at hz; cases hz
  have hi := (lI.1 hy).1
  refine ⟨⟨y.fg, y.fh, y.fk, y.ft, y.fr.set u (row.set v b), y.fm⟩, by rw [xB, if_pos rfl, if_pos hi], ⟨ht.k, ht.f, ht.t, ht.a, ht.r, by show (y.fr.set u (row.set v b)).length = _; rw [xY]; exact ht.l, fun w r hw => ?_⟩⟩
  obtain ⟨r', e1, e2, e3⟩ := ht.o w r hw
  by_cases eu : u = w
  ·subst eu
   rw [hu] at e1; cases e1
   have hul := (lI.1 hu).1
   refine ⟨row.set v b, by show (y.fr.set u (row.set v b))[u]? = _; rw [xB, if_pos rfl, if_pos hul], by rw [xY]; exact e2, fun q hq => ?_⟩
   have h1 := e3 q hq
   rw [xB]
   by_cases ev : v = q
   ·subst ev
    rw [hv] at h1; cases h1
    rw [if_pos rfl, if_pos (lI.1 hv).1, hb rfl]
   ·rw [if_neg ev]; exact h1
  ·exact ⟨r', by show (y.fr.set u (row.set v b))[w]? = _; rw [xB, if_neg eu]; exact e1, e2, e3⟩
 ·exact ⟨z, by rw [xB, if_neg e]; exact hz, ht⟩
theorem Ut.row {xs ys : List An} (h : Ut xs ys) {i u : Nat} {x : An} {row : List Bool} (hx : xs[i]? = some x) (hu : x.fr[u]? = some row) : ∃ y r, ys[i]? = some y ∧ y.fr[u]? = some r ∧ r.length = row.length := by
 obtain ⟨y, hy, ht⟩ := h.o i x hx
 obtain ⟨r, e1, e2, _⟩ := ht.o u row hu
 exact ⟨y, r, hy, e1, e2⟩
theorem Te {α : Type} : ∀ (i : Nat) (xs : List α), CH (fun _ x => [x]) i xs = xs
 | _, [] => rfl
 | i, x :: xs => by rw [CH, Te (i + 1) xs]; rfl
def Gv (p : Aa) (t : An) : Int := if B5 t = true then D1 .u8 1 (p.fj.getD t.fh.toNat 0) else 0
def FN (p : Aa) : Ac := ⟨p.fj, zH p.fj.length (-1), p.fd.map (Gv p)⟩
theorem VY (N : Nat) (h : 100 ≤ N) (n : Nat) (hn : n ≤ 6) : EY N [(-1)] (n : Int) = some (zH n (-1)) := by
 obtain ⟨k, rfl⟩ : ∃ k, N = k + 100 := ⟨N - 100, by omega⟩
 have : n = 0 ∨ n = 1 ∨ n = 2 ∨ n = 3 ∨ n = 4 ∨ n = 5 ∨ n = 6 := by omega
 rcases this with rfl | rfl | rfl | rfl | rfl | rfl | rfl
 all_goals (show _ = _; kernel_rfl)
theorem TC (T : List Int) (i : Nat) (hi : i < T.length) : (T.take i ++ zH (T.length - i) 0).set i (T.getD i 0) = T.take (i + 1) ++ zH (T.length - (i + 1)) 0 := by
 have hl : (T.take i).length = i := by simp; omega
 rw [List.set_append_right _ _ (by omega), hl, vF, show T.length - i = (T.length - (i + 1)) + 1 from by omega, List.replicate_succ, List.set_cons_zero, yT, yL]
 have : T[i]? = some (T.getD i 0) := by rw [lD]; simp [hi]
 rw [this]; rfl
theorem VC (T : List Int) (i : Nat) (hi : i < T.length) (h0 : T.getD i 0 = 0) : T.take i ++ zH (T.length - i) 0 = T.take (i + 1) ++ zH (T.length - (i + 1)) 0 := by
 rw [← TC T i hi, h0, List.set_append_right _ _ (by rw [List.length_take]; omega)]
 congr 1
 have hl : (T.take i).length = i := by simp; omega
 rw [hl, vF, show T.length - i = (T.length - (i + 1)) + 1 from by omega, List.replicate_succ, List.set_cons_zero]
theorem Ua {p : Aa} (hv : BR p = 0) {t : An} (ht : t ∈ p.fd) : 0 ≤ t.fh ∧ t.fh.toNat < p.fj.length ∧ 0 ≤ p.fj.getD t.fh.toNat 0 ∧ p.fj.getD t.fh.toNat 0 < 6 ∧ p.fj.getD t.fh.toNat 0 < p.fb.getD t.fh.toNat 0 ∧ t.fh.toNat < p.fb.length := by
 obtain ⟨hp, hr⟩ := Da hv
 have h1 := Ke (hp.tab t ht)
 have h2 := hr t.fh.toNat (by omega)
 have h3 := Jd hp (i := t.fh.toNat) (by omega)
 have := hp.now
 refine ⟨h1.1, by omega, h2.1, by omega, h2.2.1, by omega⟩
theorem KG {p : Aa} {i : Nat} {t : An} (ht : p.fd[i]? = some t) : (p.fd.map (Gv p)).getD i 0 = Gv p t := by
 rw [lD, zD, ht]; rfl
theorem R2 (N : Nat) (p : Aa) (hN : N ≤ 1000000) (h20 : 100 ≤ N) : Ij N p = some (if BR p = 0 then FN p else ⟨[], [], []⟩, BR p) := by
 unfold Ij
 rw [Io N p hN (by omega)]
 simp only [oS]
 by_cases hv : BR p = 0
 ·rw [if_pos hv, hv]
  obtain ⟨hp, _⟩ := Da hv
  have hnv := hp.nv
  have hnt := hp.nt
  have hnow := hp.now
  rw [bne_self_eq_false, Al, KN N _ (by simp only [C4]; omega)]
  simp only [oS]
  rw [VY N h20 _ (by omega)]
  simp only [oS]
  rw [Au (by simp only [C4]; omega)]
  obtain ⟨a', e, ha⟩ := FF (EC N p fun v7 => some (Ac.mk p.fj (zH p.fj.length (-1)) v7, 0)) (fun a i => (a, i)) p.fd.length (fun v7 => some (Ac.mk p.fj (zH p.fj.length (-1)) v7, 0))
   (fun i a => a = (p.fd.map (Gv p)).take i ++ zH ((p.fd.map (Gv p)).length - i) 0)
   (fun n i a hi ha => by
    have hx : p.fd[i]? = some p.fd[i] := by simp [hi]
    have hm : p.fd[i] ∈ p.fd := xE hi
    obtain ⟨n1, n2, n3, n4, _⟩ := Ua hv hm
    rw [EC, AB (by simp only; omega)]
    simp only [Bl, AU, hx, oS, KA, AE (show i < 1000000 by omega)]
    have hal : i < (p.fd.map (Gv p)).length := by simpa using hi
    cases hs : B5 p.fd[i]
    ·rw [Al]
     refine ⟨a, rfl, ?_⟩
     rw [ha]
     exact VC _ _ hal (by rw [KG hx]; unfold Gv; rw [hs]; rfl)
    ·rw [AQ]
     have e1 : Bj p.fj p.fd[i].fh = some (p.fj.getD p.fd[i].fh.toNat 0) := by
      obtain ⟨q, hq⟩ := zJ n1
      rw [hq]; exact Dc (by rw [hq] at n2; simpa using n2)
     rw [e1]
     simp only [oS]
     rw [Au n3]
     have hl : i < a.length := by rw [ha]; simp; omega
     have e2 : a[i]? = some a[i] := by simp [hl]
     rw [e2]
     simp only [oS]
     refine ⟨_, rfl, ?_⟩
     rw [← TC _ _ hal, KG hx, ha]
     unfold Gv; rw [hs]; rfl)
   (fun n a ha => by rw [EC, Ay (by simp)]) N 0 (zH p.fd.length 0) (zK _) (by omega) (by simp)
  have e' : EC N p (fun v7 => some (Ac.mk p.fj (zH p.fj.length (-1)) v7, 0)) N (zH ((p.fd.length : Int)).toNat (0 : Int), 0) = _ := e
  rw [e', ha]
  have e5 : (p.fd.map (Gv p)).take p.fd.length = p.fd.map (Gv p) := List.take_of_length_le (by simp)
  simp [FN, e5]
 ·rw [if_neg hv, bne_iff_ne.2 hv, AQ]
theorem NN (N : Nat) (p : Aa) (hN : N ≤ 1000000) (h20 : 100 ≤ N) : Ee N p = some (if BR p = 0 then FN p else ⟨[], [], []⟩, BR p) := by
 unfold Ee
 rw [JW N p hN (by omega)]
 simp only [oS]
 by_cases hv : BR p = 0
 ·rw [if_pos hv, hv]
  obtain ⟨hp, _⟩ := Da hv
  have hnv := hp.nv
  have hnt := hp.nt
  have hnow := hp.now
  rw [bne_self_eq_false, Al]
  obtain ⟨a', e, ha⟩ := FF (Cj N p fun v4 => Bp N p (fun v10 => some (Ac.mk v4.1 v4.2 v10, 0)) N (([] : List Int), 0)) (fun a i => (a.1, a.2, i)) p.fb.length (fun v4 => Bp N p (fun v10 => some (Ac.mk v4.1 v4.2 v10, 0)) N (([] : List Int), 0))
   (fun i a => a = (p.fj.take i, zH i (-1)))
   (fun n i a hi ha => by
    subst ha
    rw [Cj, AB (by simp only; omega)]
    have hx : p.fj[i]? = some p.fj[i] := by simp [show i < p.fj.length from by omega]
    simp only [AU, hx, oS, AE (show i < 1000000 by omega)]
    rw [Au (by simp [C4]; omega), Au (by simp [C4]; omega)]
    refine ⟨(p.fj.take i ++ [p.fj[i]], zH i (-1) ++ [-1]), rfl, ?_⟩
    rw [yT, hx, List.replicate_succ']; rfl)
   (fun n a ha => by rw [Cj, Ay (by simp)]) N 0 ([], []) (zK _) (by omega) rfl
  have e' : Cj N p (fun v4 => Bp N p (fun v10 => some (Ac.mk v4.1 v4.2 v10, 0)) N (([] : List Int), 0)) N (([] : List Int), ([] : List Int), 0) = _ := e
  rw [e', ha]
  simp only
  obtain ⟨b', e2, hb⟩ := FF (Bp N p fun v10 => some (Ac.mk (p.fj.take p.fb.length) (zH p.fb.length (-1)) v10, 0)) (fun a i => (a, i)) p.fd.length (fun v10 => some (Ac.mk (p.fj.take p.fb.length) (zH p.fb.length (-1)) v10, 0))
   (fun i a => a = (p.fd.map (Gv p)).take i)
   (fun n i a hi ha => by
    subst ha
    have hx : p.fd[i]? = some p.fd[i] := by simp [hi]
    have hm : p.fd[i] ∈ p.fd := xE hi
    obtain ⟨n1, n2, n3, n4, _⟩ := Ua hv hm
    rw [Bp, AB (by simp only; omega)]
    simp only [Bl, AU, hx, oS, HG, AE (show i < 1000000 by omega)]
    have hT : (p.fd.map (Gv p))[i]? = some (Gv p p.fd[i]) := by rw [zD, hx]; rfl
    have hlen : ((p.fd.map (Gv p)).take i).length + 1 ≤ C4 := by simp [C4]; omega
    cases hs : B5 p.fd[i]
    ·rw [Al, Au (by simpa using hlen)]
     refine ⟨_, rfl, ?_⟩
     rw [yT, hT]
     unfold Gv; rw [hs]; rfl
    ·rw [AQ]
     have e1 : Bj p.fj p.fd[i].fh = some (p.fj.getD p.fd[i].fh.toNat 0) := by
      obtain ⟨q, hq⟩ := zJ n1
      rw [hq]; exact Dc (by rw [hq] at n2; simpa using n2)
     rw [e1]
     simp only [oS]
     rw [Au n3, Au (by simpa using hlen)]
     refine ⟨_, rfl, ?_⟩
     rw [yT, hT]
     unfold Gv; rw [hs]; rfl)
   (fun n a ha => by rw [Bp, Ay (by simp)]) N 0 [] (zK _) (by omega) rfl
  have e3 : Bp N p (fun v10 => some (Ac.mk (p.fj.take p.fb.length) (zH p.fb.length (-1)) v10, 0)) N (([] : List Int), 0) = _ := e2
  rw [e3, hb]
  simp only [FN, ← hnow, uH]
  rw [show p.fd.length = (p.fd.map (Gv p)).length from by simp, uH]
 ·rw [if_neg hv, bne_iff_ne.2 hv, AQ]
theorem Pv {p : Aa} (hv : BR p = 0) : BZ p (FN p) := by
 obtain ⟨hp, hr⟩ := Da hv
 have hnow := hp.now
 have hnx : ∀ i, i < p.fb.length → (zH p.fj.length (-1 : Int)).getD i 0 = -1 := fun i hi => by
  rw [lD, List.getElem?_replicate, if_pos (by omega)]; rfl
 have hone : ∀ (i : Nat) (t : An), p.fd[i]? = some t → ∃ b : Nat, b < 6 ∧ p.fj.getD t.fh.toNat 0 = (b : Int) ∧ (b : Int) < p.fb.getD t.fh.toNat 0 ∧ t.fh.toNat < p.fb.length := fun i t ht => by
  obtain ⟨n1, n2, n3, n4, n5, n6⟩ := Ua hv (lM ht)
  obtain ⟨b, hb⟩ := zJ n3
  exact ⟨b, by omega, hb, by omega, n6⟩
 have hbit : ∀ b : Nat, b < 8 → ∀ v, Eg (D1 .u8 1 (b : Int)) v = decide (b = v) := fun b hb v => by
  by_cases h : v < 8
  ·exact (KY ⟨b, hb⟩ ⟨v, h⟩).1
  ·rw [KW (KY ⟨b, hb⟩ ⟨0, by omega⟩).2.2 (by omega)]
   symm; apply decide_eq_false; omega
 refine { base := hnow, next := by simp [FN, hnow], held := by simp [FN], b0 := fun i hi => ⟨(hr i hi).1, (hr i hi).2.1⟩, n0 := fun i hi => ?_, ne := fun i hi => ?_, range := fun i hi => ?_, low := fun i t ht hs v hv' => ?_, high := fun i t ht hs v hb => ?_, none := fun i t ht hs => ?_ }
 ·show -1 ≤ (zH p.fj.length (-1 : Int)).getD i 0 ∧ (zH p.fj.length (-1 : Int)).getD i 0 < _
  rw [hnx i hi]
  have := Jd hp hi
  omega
 ·show p.fj.getD i 0 ≠ (zH p.fj.length (-1 : Int)).getD i 0
  rw [hnx i hi]
  have := hr i hi
  omega
 ·have hx : p.fd[i]? = some p.fd[i] := by simp [hi]
  show 0 ≤ (p.fd.map (Gv p)).getD i 0 ∧ (p.fd.map (Gv p)).getD i 0 ≤ 255
  rw [KG hx]
  unfold Gv
  split
  ·obtain ⟨b, h1, h2, _⟩ := hone i _ hx
   rw [h2]
   exact (KY ⟨b, by omega⟩ ⟨0, by omega⟩).2
  ·omega
 ·show Eg ((p.fd.map (Gv p)).getD i 0) v = true
  obtain ⟨b, h1, h2, h3, h4⟩ := hone i t ht
  rw [KG ht]
  unfold Gv
  rw [if_pos hs, h2, hbit b (by omega)]
  unfold Jt at hv'
  have h5 : (FN p).fe.getD t.fh.toNat 0 = (b : Int) := h2
  have h6 : (FN p).fc.getD t.fh.toNat 0 = -1 := hnx _ h4
  rw [h5, h6, xO, decide_eq_true_iff, decide_eq_true_iff] at hv'
  apply decide_eq_true; omega
 ·have hb : Eg ((p.fd.map (Gv p)).getD i 0) v = true := hb
  obtain ⟨b, h1, h2, h3, h4⟩ := hone i t ht
  rw [KG ht] at hb
  unfold Gv at hb
  rw [if_pos hs, h2, hbit b (by omega), decide_eq_true_iff] at hb
  omega
 ·show (p.fd.map (Gv p)).getD i 0 = 0
  rw [KG ht]; unfold Gv; rw [hs]; rfl
theorem OA (x : BitVec 8) : wI .u8 (x.toNat : Int) = (x.toNat : Int) := by
 have := x.isLt
 simp [wI, IntKind.signed, IntKind.bits]
 omega
theorem Sq (x : BitVec 8) : 0 ≤ (x.toNat : Int) ∧ (x.toNat : Int) ≤ 255 := by
 have := x.isLt
 omega
theorem XC (x : BitVec 8) (v : Nat) : Eg (x.toNat : Int) v = x.getLsbD v := by
 unfold Eg; rw [zS]; rfl
theorem R3 {a : Int} (ha : 0 ≤ a ∧ a ≤ 255) (v : Nat) : (BitVec.ofInt 8 a).getLsbD v = Eg a v := by
 obtain ⟨a, rfl⟩ := zJ ha.1
 unfold BitVec.getLsbD Eg
 rw [WQ (by omega), zS]
theorem UG {a b : Int} (ha : 0 ≤ a ∧ a ≤ 255) (hb : 0 ≤ b ∧ b ≤ 255) : (∀ v, Eg (Df .u8 a b) v = (Eg a v && !Eg b v)) ∧ 0 ≤ Df .u8 a b ∧ Df .u8 a b ≤ 255 := by
 have e : Df .u8 a b = ((BitVec.ofInt 8 a &&& ~~~BitVec.ofInt 8 b).toNat : Int) := OA (BitVec.ofInt 8 a &&& ~~~BitVec.ofInt 8 b)
 rw [e]
 refine ⟨fun v => ?_, Sq _⟩
 rw [XC, BitVec.getLsbD_and, BitVec.getLsbD_not, R3 ha, R3 hb]
 by_cases h : v < 8
 ·simp [h]
 ·rw [KW ha.2 (by omega)]; simp
theorem T0 {a b : Int} (ha : 0 ≤ a ∧ a ≤ 255) (hb : 0 ≤ b ∧ b ≤ 255) : (∀ v, Eg (PI .u8 a b) v = (Eg a v || Eg b v)) ∧ 0 ≤ PI .u8 a b ∧ PI .u8 a b ≤ 255 := by
 have e : PI .u8 a b = ((BitVec.ofInt 8 a ||| BitVec.ofInt 8 b).toNat : Int) := OA (BitVec.ofInt 8 a ||| BitVec.ofInt 8 b)
 rw [e]
 refine ⟨fun v => ?_, Sq _⟩
 rw [XC, BitVec.getLsbD_or, R3 ha, R3 hb]
theorem Yz {b : Nat} (hb : b < 8) : (∀ v, Eg (D1 .u8 1 (b : Int)) v = decide (b = v)) ∧ 0 ≤ D1 .u8 1 (b : Int) ∧ D1 .u8 1 (b : Int) ≤ 255 := by
 refine ⟨fun v => ?_, (KY ⟨b, hb⟩ ⟨0, by omega⟩).2⟩
 by_cases h : v < 8
 ·exact (KY ⟨b, hb⟩ ⟨v, h⟩).1
 ·rw [KW (KY ⟨b, hb⟩ ⟨0, by omega⟩).2.2 (by omega)]
  symm; apply decide_eq_false; omega
theorem Wu (N : Nat) {s : Int} {v : Nat} (hs : 0 ≤ s ∧ s ≤ 255) (hv : v < 8) : CD N s (v : Int) = some (Eg s v) := by
 unfold CD
 rw [Au (by omega), R7 hs.1 hs.2 hv]
 cases Eg s v <;> rfl
def Zt (v : Nat) : Nat := ((zO 8).find? fun u => v.testBit u).getD 8
def bo (v : Nat) : Nat := ((zO 8).filter fun u => v.testBit u).length
theorem ZW : ∀ v : Fin 256, Dm 0 (v.val : Int) = some (Zt v.val : Int) := by decide +kernel
theorem dg (N : Nat) {v : Nat} (h : v < 256) : Dm N (v : Int) = some (Zt v : Int) := ZW ⟨v, h⟩
theorem YS : ∀ v : Fin 256, v.val ≠ 0 → Zt v.val < 8 ∧ Eg (v.val : Int) (Zt v.val) = true ∧ 0 ≤ AK .u8 (v.val : Int) (wI .u8 ((v.val : Int) - 1)) ∧ AK .u8 (v.val : Int) (wI .u8 ((v.val : Int) - 1)) ≤ 255 ∧
  bo (AK .u8 (v.val : Int) (wI .u8 ((v.val : Int) - 1))).toNat + 1 = bo v.val ∧
  ∀ u : Fin 8, Eg (AK .u8 (v.val : Int) (wI .u8 ((v.val : Int) - 1))) u.val = (Eg (v.val : Int) u.val && decide (u.val ≠ Zt v.val)) := by decide +kernel
theorem bV (v : Nat) : bo v ≤ 8 := by
 have := List.length_filter_le (fun u => v.testBit u) (zO 8)
 simpa [bo] using this
theorem TL (N : Nat) (t : An) (b : Int) (rw_ : Nat → Bool) : ∀ (k n v : Nat), bo v ≤ k → k < n → v < 256 →
  (∀ u, u < 8 → Eg (v : Int) u = true → ∃ row, Bj t.fm (u : Int) = some row ∧ Bj row b = some (rw_ u)) →
  DY N t b (fun _ => some true) n (v : Int) = some ((zO 8).all fun u => !Eg (v : Int) u || rw_ u)
 | k, 0, v, _, h, _, _ => by omega
 | k, n + 1, v, hk, hn, hv, hr => by
  rw [DY]
  by_cases h0 : v = 0
  ·subst h0
   have : (((0 : Nat) : Int) != 0) = false := rfl
   rw [this, Al]
   congr 1
  ·have h1 : ((v : Int) != 0) = true := bne_iff_ne.2 (by omega)
   obtain ⟨l1, l2, l3, l4, l5, l6⟩ := YS ⟨v, hv⟩ h0
   simp only at l1 l2 l3 l4 l5 l6
   obtain ⟨row, e1, e2⟩ := hr _ l1 l2
   rw [h1, AQ, dg N hv]
   simp only [oS, e1, e2]
   obtain ⟨w, hw⟩ := zJ l3
   rw [hw] at l4 l5 l6 ⊢
   rw [zS] at l5
   cases hq : rw_ (Zt v)
   ·rw [yU, AQ]
    congr 1
    symm
    rw [List.all_eq_false]
    exact ⟨Zt v, by simpa using l1, by rw [l2, hq]; simp⟩
   ·rw [yA, Al]
    match k, hk with
    | 0, hk => exfalso; omega
    | k + 1, hk =>
    rw [TL N t b rw_ k n w (by omega) (by omega) (by omega) (fun u hu hb => hr u hu (by have := l6 ⟨u, hu⟩; simp only at this; rw [hb] at this; simpa using (uG.1 this.symm).1))]
    congr 1
    rw [Bool.eq_iff_iff, zF, zF]
    refine ⟨fun h u hu => ?_, fun h u hu => ?_⟩
    ·have hu8 : u < 8 := by simpa using hu
     have h3 := h u hu
     have h4 := l6 ⟨u, hu8⟩
     simp only at h4
     rw [h4] at h3
     by_cases e : u = Zt v
     ·rw [e, hq]; simp
     ·simpa [e] using h3
    ·have hu8 : u < 8 := by simpa using hu
     have h3 := h u hu
     have h4 := l6 ⟨u, hu8⟩
     simp only at h4
     rw [h4]
     cases hb : Eg (v : Int) u
     ·simp
     ·rw [hb] at h3; simp at h3; simp [h3]
theorem SW (N : Nat) (m : Ac) (s : Int) (h0 : 0 ≤ s) (h1 : s < (m.fe.length : Int)) (h2 : s < (m.fc.length : Int)) (hb : 0 ≤ m.fe.getD s.toNat 0) : GS N m s = some (HI m s.toNat) := by
 unfold GS HI
 rw [El (d := 0) h0 h1, El (d := 0) h0 h2]
 simp only [oS, Bd]
 rw [show DI (0 ≤ m.fe.getD s.toNat 0) = some () from by unfold DI; rw [if_pos hb]]
 simp only [oS]
 by_cases h : 0 ≤ m.fc.getD s.toNat 0
 ·rw [AB h, if_pos h, show DI (0 ≤ m.fc.getD s.toNat 0) = some () from by unfold DI; rw [if_pos h]]; rfl
 ·rw [Ay h, if_neg h]
theorem L4 (N : Nat) (t : An) : Gm N t = some (B5 t) := by
 unfold Gm B5
 simp only [Bd]
 cases h : t.fg == 3 <;> simp
def G9 (s : Ad) : Bool := decide (1 ≤ s.fg ∧ s.fg ≤ 4 ∧ 0 ≤ s.fi ∧ 0 ≤ s.fp) && (s.fg == 1 || s.fp == 0)
def Gd (p : Aa) (s : Ad) : Bool :=
 if s.fg = 3 then decide (s.fi < (p.fd.length : Int)) else decide (s.fi < (p.fb.length : Int)) && (s.fg != 1 || decide (s.fp < p.fb.getD s.fi.toNat 0))
theorem Qk (N : Nat) (s : Ad) : HJ N s = some (G9 s) := by
 unfold HJ G9 XS
 simp only [Bd]
 by_cases h1 : (if s.fp < s.fi then s.fp else s.fi) < 0
 ·rw [AB h1, AQ, decide_eq_false (by split at h1 <;> omega)]; rfl
 ·rw [Ay h1]
  by_cases h2 : s.fg < 1
  ·rw [AB h2, AQ, decide_eq_false (by omega)]; rfl
  ·rw [Ay h2]
   by_cases h3 : 4 < s.fg
   ·rw [decide_eq_true h3, AQ, decide_eq_false (by omega)]; rfl
   ·rw [decide_eq_false h3, Al, decide_eq_true (by split at h1 <;> omega), y8]
    cases h4 : s.fg == 1 <;> simp
theorem RA (N : Nat) (s : Ad) : Fe N s = some (G9 s) := by
 unfold Fe G9
 simp only [Bd]
 by_cases h1 : 1 ≤ s.fg
 ·rw [AB h1]
  by_cases h2 : s.fg ≤ 4
  ·rw [AB h2]
   by_cases h3 : 0 ≤ s.fi
   ·rw [AB h3]
    by_cases h4 : 0 ≤ s.fp
    ·rw [AB h4, decide_eq_true (by omega), y8]
     cases h5 : s.fg == 1 <;> simp
    ·rw [Ay h4, decide_eq_false (by omega)]; rfl
   ·rw [Ay h3, decide_eq_false (by omega)]; rfl
  ·rw [Ay h2, decide_eq_false (by omega)]; rfl
 ·rw [Ay h1, decide_eq_false (by omega)]; rfl
theorem O7 (N : Nat) (p : Aa) (s : Ad) (hv : G9 s = true) : Hf N p s = some (Gd p s) := by
 have h0 : 0 ≤ s.fi := by
  unfold G9 at hv
  rw [zI, decide_eq_true_iff] at hv
  exact hv.1.2.2.1
 unfold Hf Gd
 simp only [Bd]
 by_cases h1 : s.fg = 3
 ·rw [if_pos h1, beq_iff_eq.2 h1, AQ]
 ·rw [if_neg h1, beq_eq_false_iff_ne.2 h1, Al]
  by_cases h2 : s.fi < (p.fb.length : Int)
  ·rw [AB h2, decide_eq_true h2, y8]
   cases h3 : s.fg != 1
   ·rw [Al, El (d := 0) h0 h2, vI]; rfl
   ·rw [AQ]; rfl
  ·rw [Ay h2, decide_eq_false h2]; rfl
def Va (s : Ad) (t : An) : Bool := t.fh == s.fi && B5 t
def V6 (s : Ad) (i : Nat) (t : An) (a : List Int) : List Int := if Va s t = true then a.set i (PI .u8 (a.getD i 0) (D1 .u8 1 s.fp)) else a
def JX (p : Aa) (s : Ad) (held : List Int) : List Int := Jk (V6 s) 0 p.fd held
theorem OO {_R : Type} (N : Nat) (p : Aa) (s : Ad) (held : List Int) (hv : 0 ≤ s.fp) (hl : held.length = p.fd.length) (h12 : p.fd.length < N) (hN : N ≤ 1000000) (j : List Int → Option (Bool × List Int × List Int)) :
  Ec N p s j N (held, 0) = j (JX p s held) ∧ (JX p s held).length = p.fd.length := by
 have := H8 (Ec N p s j) (fun a i => (a, i)) p.fd j (V6 s) (fun i a => a.length = p.fd.length)
  (fun n i x a hx ha => by
   have hi := (lI.1 hx).1
   rw [Ec, AB (by simp only; omega)]
   simp only [Bl, AU, hx, oS, L4, AE (show i < 1000000 by omega)]
   have e2 : a[i]? = some (a.getD i 0) := by rw [lD]; simp [show i < a.length from by omega]
   unfold V6 Va
   cases h1 : x.fh == s.fi
   ·rw [Al, Al, vO, if_neg (by simp)]; exact ⟨rfl, ha⟩
   ·rw [AQ, y8]
    cases h2 : B5 x
    ·rw [Al, if_neg (by simp)]; exact ⟨rfl, ha⟩
    ·rw [AQ, e2, if_pos rfl]
     simp only [oS]
     rw [Au hv]
     exact ⟨rfl, by simpa using ha⟩)
  (fun n a ha => by rw [Ec, Ay (by simp)]) N 0 held (zK _) (by omega) hl
 rw [zZ] at this
 exact this
theorem PT (N : Nat) (p : Aa) (s : Ad) (held : List Int) (hv : 0 ≤ s.fp) (hl : held.length = p.fd.length) (h12 : p.fd.length < N) (hN : N ≤ 1000000) (j : List Int → Option (Ac × Bool)) :
  B8 N p s j N (held, 0) = j (JX p s held) := by
 have := H8 (B8 N p s j) (fun a i => (a, i)) p.fd j (V6 s) (fun i a => a.length = p.fd.length)
  (fun n i x a hx ha => by
   have hi := (lI.1 hx).1
   rw [B8, AB (by simp only; omega)]
   simp only [Bl, AU, hx, oS, HG, AE (show i < 1000000 by omega)]
   have e2 : a[i]? = some (a.getD i 0) := by rw [lD]; simp [show i < a.length from by omega]
   unfold V6 Va
   cases h1 : x.fh == s.fi
   ·rw [Al, Al, vO, if_neg (by simp)]; exact ⟨rfl, ha⟩
   ·rw [AQ, y8]
    cases h2 : B5 x
    ·rw [Al, if_neg (by simp)]; exact ⟨rfl, ha⟩
    ·rw [AQ, e2, if_pos rfl]
     simp only [oS]
     rw [Au hv]
     exact ⟨rfl, by simpa using ha⟩)
  (fun n a ha => by rw [B8, Ay (by simp)]) N 0 held (zK _) (by omega) hl
 rw [zZ] at this
 exact this.1
def MC (m : Ac) (t : An) (u : Nat) : Bool := (t.fm.getD u []).getD (m.fe.getD t.fh.toNat 0).toNat false
def Pt (m : Ac) (i : Nat) (t : An) (u : Nat) : Bool := Eg (m.ff.getD i 0) u && !Jt m t.fh.toNat u
def I9 (_p : Aa) (m : Ac) (i : Nat) (t : An) : Bool := t.fg == 4 && (zO 8).any fun u => Pt m i t u && !MC m t u
def Gk (p : Aa) (m : Ac) (s : Ad) : Option Ac :=
 let i := s.fi.toNat
 if s.fg = 1 then (if 0 ≤ m.fc.getD i 0 ∨ m.fe.getD i 0 = s.fp then none else some ⟨m.fe, m.fc.set i s.fp, JX p s m.ff⟩)
 else if s.fg = 3 then match p.fd[i]? with
  | none => none
  | some t => if B5 t = false ∨ m.ff.getD i 0 = HI m t.fh.toNat ∨ I9 p m i t = true then none else some ⟨m.fe, m.fc, m.ff.set i (HI m t.fh.toNat)⟩
 else if m.fc.getD i 0 < 0 then none
 else some ⟨if s.fg = 2 then m.fe.set i (m.fc.getD i 0) else m.fe, m.fc.set i (-1), m.ff⟩
def A7 (p : Aa) (m : Ac) (s : Ad) : Ac × Int :=
 if G9 s = false then (Is, 1) else if Gd p s = false then (Is, 4) else match Gk p m s with
  | none => (Is, 11)
  | some x => (x, 0)
end Go.Lift
namespace Go.Lift
open Option renaming bind_some → oS
open List renaming mem_of_getElem? → lM
open List renaming getElem?_eq_some_iff → lI
open List renaming getD_eq_getElem?_getD → lD
open Go
section clear
variable {p : Aa} {m : Ac} {i : Nat} {t : An}
theorem WS (hp : Bf p) (hm : BZ p m) (ht : p.fd[i]? = some t) (hs : B5 t = true) {u : Nat} (h : Eg (m.ff.getD i 0) u = true) : (u : Int) < p.fb.getD t.fh.toNat 0 ∧ u < 6 ∧ t.fh.toNat < p.fb.length := by
 have h1 := hm.high i t ht hs u h
 have hin := Ke (hp.tab t (lM ht))
 have h2 := Jd hp (i := t.fh.toNat) (by omega)
 exact ⟨h1, by omega, by omega⟩
theorem Wk (hp : Bf p) (hm : BZ p m) (ht : p.fd[i]? = some t) (hs : B5 t = true) (h4 : t.fg = 4) {u : Nat} (h : Eg (m.ff.getD i 0) u = true) :
  Bj t.fm (u : Int) = some (t.fm.getD u []) ∧ Bj (t.fm.getD u []) (m.fe.getD t.fh.toNat 0) = some (MC m t u) := by
 have hT := LE (hp.tab t (lM ht))
 obtain ⟨h1, h2, h3⟩ := WS hp hm ht hs h
 have hl := hT.reL h4
 have e : t.fm[u]? = some (t.fm.getD u []) := by rw [lD]; simp [show u < t.fm.length from by omega]
 have hr := hT.reR _ (lM e)
 have hb := hm.b0 t.fh.toNat h3
 refine ⟨by rw [AU, e], ?_⟩
 unfold MC
 obtain ⟨b, hb'⟩ := zJ hb.1
 rw [hb'] at hb ⊢
 rw [zS]
 exact Dc (by omega)
theorem Qn (N : Nat) (hN : N ≤ 1000000) (h20 : 100 ≤ N) (hp : Bf p) (hm : BZ p m) (ht : p.fd[i]? = some t) :
  HB N p m (i : Int) = some (if B5 t = false ∨ m.ff.getD i 0 = HI m t.fh.toNat ∨ I9 p m i t = true then (false, m.ff) else (true, m.ff.set i (HI m t.fh.toNat))) := by
 have hi := (lI.1 ht).1
 have hin := Ke (hp.tab t (lM ht))
 have hb := hm.base
 have hnx := hm.next
 have hh := hm.held
 have hr := I5 hp hm.toMixServ (s := t.fh.toNat) (by omega)
 have hrg := hm.range i hi
 have eh : Bj m.ff (i : Int) = some (m.ff.getD i 0) := Dc (by omega)
 unfold HB
 simp only [Bl, AU, ht, oS, L4]
 have eh' : m.ff[i]? = some (m.ff.getD i 0) := by rw [← AU, eh]
 cases hs : B5 t
 ·rw [yU, AQ, if_pos (.inl rfl)]
 ·rw [yA, Al, SW N m _ hin.1 (by omega) (by omega) (hm.b0 _ (by omega)).1]
  simp only [oS, eh']
  by_cases h1 : m.ff.getD i 0 = HI m t.fh.toNat
  ·rw [beq_iff_eq.2 h1, AQ, AQ, if_pos (.inr (.inl h1))]
  ·rw [beq_eq_false_iff_ne.2 h1, Al]
   by_cases h4 : t.fg = 4
   ·rw [beq_iff_eq.2 h4, AQ, El (d := 0) hin.1 (by omega)]
    simp only [oS]
    obtain ⟨a1, a2, a3⟩ := UG hrg hr.2
    obtain ⟨w, hw⟩ := zJ a2
    unfold GH
    rw [hw] at a1 a3 ⊢
    rw [TL N t _ (MC m t) 8 N w (bV _) (by omega) (by omega) (fun u hu hbu => by
     have := a1 u; rw [hbu] at this
     exact ⟨_, Wk hp hm ht hs h4 (uG.1 this.symm).1⟩)]
    simp only [oS]
    have e : (!(zO 8).all fun u => !Eg (w : Int) u || MC m t u) = I9 p m i t := by
     unfold I9
     rw [beq_iff_eq.2 h4, y8, List.not_all_eq_any_not]
     congr 1
     funext u
     rw [a1 u, hr.1 u]
     unfold Pt
     cases Eg (m.ff.getD i 0) u <;> cases Jt m t.fh.toNat u <;> cases MC m t u <;> rfl
    rw [e]
    cases hst : I9 p m i t
    ·rw [Al, if_neg (by rintro (h | h | h); cases h; exact h1 h; cases h)]; rfl
    ·rw [AQ, if_pos (.inr (.inr rfl))]
   ·have e : I9 p m i t = false := by unfold I9; rw [beq_eq_false_iff_ne.2 h4]; rfl
    rw [beq_eq_false_iff_ne.2 h4, Al, Al, e, if_neg (by rintro (h | h | h); cases h; exact h1 h; cases h)]; rfl
theorem O8 (N : Nat) (hN : N ≤ 1000000) (h20 : 100 ≤ N) (hp : Bf p) (hm : BZ p m) (ht : p.fd[i]? = some t) (hs : B5 t = true) (s : Ad) (hsi : s.fi = (i : Int)) (j : Option (Ac × Bool)) :
  BL N p m s t (HI m t.fh.toNat) (fun _ => j) N 0 = if I9 p m i t = true then some (Is, false) else j := by
 have hi := (lI.1 ht).1
 have hin := Ke (hp.tab t (lM ht))
 have hb := hm.base
 have hh := hm.held
 have hr := I5 hp hm.toMixServ (s := t.fh.toNat) (by omega)
 have hrg := hm.range i hi
 have hver := Jd hp (i := t.fh.toNat) (by omega)
 obtain ⟨nv, hnv⟩ := zJ (show 0 ≤ p.fb.getD t.fh.toNat 0 by omega)
 have eh' : m.ff[i]? = some (m.ff.getD i 0) := by rw [lD]; simp [show i < m.ff.length from by omega]
 have := BO (BL N p m s t (HI m t.fh.toNat) fun _ => j) (zO nv) j (fun u _ => if (Pt m i t u && (t.fg == 4 && !MC m t u)) = true then some (Is, false) else none)
  (fun n u x hx => by
   have hu : u < nv := by
    have := (lI.1 hx).1
    simpa using this
   rw [BL, El (d := 0) hin.1 (by omega), hnv]
   simp only [oS]
   rw [AB (by omega)]
   simp only [Bl, hsi, AU, eh', oS]
   rw [Wu N hrg (by omega), AE (by omega)]
   simp only [oS]
   cases h1 : Eg (m.ff.getD i 0) u
   ·have e : Pt m i t u = false := by unfold Pt; rw [h1]; rfl
    rw [Al, Al, Al, e]; rfl
   ·rw [AQ, Wu N hr.2 (by omega), hr.1 u]
    simp only [oS]
    have e : Pt m i t u = !Jt m t.fh.toNat u := by unfold Pt; rw [h1]; rfl
    rw [← e]
    cases h2 : Pt m i t u
    ·rw [Al, Al]; rfl
    ·rw [AQ]
     by_cases h4 : t.fg = 4
     ·obtain ⟨e1, e2⟩ := Wk hp hm ht hs h4 h1
      rw [AU] at e1
      rw [beq_iff_eq.2 h4, AQ, e1, El (d := 0) hin.1 (by omega)]
      simp only [oS]
      rw [e2]
      simp only [oS]
      cases MC m t u <;> rfl
     ·rw [beq_eq_false_iff_ne.2 h4, Al, Al]; rfl)
  (fun n => by
   rw [BL, El (d := 0) hin.1 (by omega), hnv]
   simp only [oS, uF]
   rw [Ay (by omega)]) N 0 (zK _) (by simp; omega)
 have e0 : BL N p m s t (HI m t.fh.toNat) (fun _ => j) N 0 = _ := this
 rw [e0, zZ]
 by_cases hst : I9 p m i t = true
 ·rw [if_pos hst]
  unfold I9 at hst
  rw [zI, xF] at hst
  obtain ⟨h4, u, hu, h5⟩ := hst
  rw [zI] at h5
  have h6 : Eg (m.ff.getD i 0) u = true := by have := h5.1; unfold Pt at this; exact (uG.1 this).1
  have h7 := WS hp hm ht hs h6
  cases hsc : CG (fun u (_ : Nat) => if (Pt m i t u && (t.fg == 4 && !MC m t u)) = true then some (Is, false) else none) 0 (zO nv) with
  | some r =>
   obtain ⟨q, x, hx, hf⟩ := DW hsc
   split at hf
   ·cases hf; rfl
   ·cases hf
  | none =>
   exfalso
   have hx : (zO nv)[u]? = some u := List.getElem?_range (by omega)
   have := Ff hsc u u hx
   rw [zC, h5.1, h4, h5.2] at this
   cases this
 ·rw [if_neg hst]
  have : CG (fun u (_ : Nat) => if (Pt m i t u && (t.fg == 4 && !MC m t u)) = true then some (Is, false) else none) 0 (zO nv) = none := GC fun q x hx => by
   rw [zC]
   split
   ·rename_i h5
    exfalso; apply hst
    rw [zI, zI] at h5
    unfold I9
    rw [h5.2.1, y8, xF]
    have hq : q < nv := by
     have := (lI.1 hx).1
     simpa using this
    exact ⟨q, yX.2 (by omega), by rw [h5.1, h5.2.2]; rfl⟩
   ·rfl
  rw [this]; rfl
end clear
end Go.Lift
namespace Go.Lift
open Option renaming bind_some → oS
open List renaming mem_of_getElem? → lM
open Go
theorem IJ {s : Ad} (h : G9 s = true) : 1 ≤ s.fg ∧ s.fg ≤ 4 ∧ 0 ≤ s.fi ∧ 0 ≤ s.fp ∧ (s.fg ≠ 1 → s.fp = 0) := by
 unfold G9 at h
 rw [zI, decide_eq_true_iff, xO, beq_iff_eq, beq_iff_eq] at h
 exact ⟨h.1.1, h.1.2.1, h.1.2.2.1, h.1.2.2.2, fun hk => h.2.elim (fun e => (hk e).elim) id⟩
theorem JJ {p : Aa} {s : Ad} (h : Gd p s = true) : (s.fg = 3 → s.fi < (p.fd.length : Int)) ∧ (s.fg ≠ 3 → s.fi < (p.fb.length : Int)) ∧ (s.fg = 1 → s.fp < p.fb.getD s.fi.toNat 0) := by
 unfold Gd at h
 split at h
 ·rename_i hk
  rw [decide_eq_true_iff] at h
  exact ⟨fun _ => h, fun hn => (hn hk).elim, fun h1 => by omega⟩
 ·rename_i hk
  rw [zI, decide_eq_true_iff, xO, decide_eq_true_iff, bne_iff_ne] at h
  exact ⟨fun h3 => (hk h3).elim, fun _ => h.1, fun h1 => h.2.elim (fun hn => (hn h1).elim) id⟩
theorem VI (N : Nat) {p : Aa} {m : Ac} (hp : Bf p) (hm : BZ p m) : Hg N m = some m := by
 have hnv := hp.nv
 have hnt := hp.nt
 have h1 := hm.base
 have h2 := hm.next
 have h3 := hm.held
 unfold Hg
 rw [KN N _ (by simp only [C4]; omega), KN N _ (by simp only [C4]; omega), Q6 N _ (by simp only [C4]; omega)]
 rfl
theorem Mz (N : Nat) (hN : N ≤ 1000000) (h20 : 100 ≤ N) {p : Aa} {m : Ac} (hp : Bf p) (hm : BZ p m) {s : Ad} (hv : G9 s = true) (hx : Gd p s = true) :
  ∃ o, F6 N p m s = some (o, (Gk p m s).isSome) ∧ ∀ x, Gk p m s = some x → o = x := by
 obtain ⟨k1, k4, i0, v0, vk⟩ := IJ hv
 obtain ⟨x3, xn, x1⟩ := JJ hx
 have hnv := hp.nv
 have hnt := hp.nt
 have hb := hm.base
 have hn := hm.next
 have hh := hm.held
 obtain ⟨i, hi⟩ := zJ i0
 unfold F6 Gk
 rw [VI N hp hm]
 simp only [oS, Bl]
 by_cases hk1 : s.fg = 1
 ·have hi1 : (i : Int) < p.fb.length := by have := xn (by omega); omega
  rw [beq_iff_eq.2 hk1, AQ, if_pos hk1]
  unfold IP
  simp only [Bl, hi, zS]
  rw [Dc (d := 0) (show i < m.fc.length by omega)]
  simp only [oS]
  by_cases c1 : 0 ≤ m.fc.getD i 0
  ·rw [AB c1, AQ, if_pos (.inl c1)]
   exact ⟨_, rfl, fun x hx => by cases hx⟩
  ·rw [Ay c1, Dc (d := 0) (show i < m.fe.length by omega)]
   simp only [oS]
   by_cases c2 : m.fe.getD i 0 = s.fp
   ·rw [beq_iff_eq.2 c2, AQ, if_pos (.inr c2)]
    exact ⟨_, rfl, fun x hx => by cases hx⟩
   ·rw [beq_eq_false_iff_ne.2 c2, Al, (OO (_R := Unit) N p s m.ff v0 hh (by omega) hN _).1, if_neg (by rintro (h | h); exact c1 h; exact c2 h)]
    exact ⟨_, rfl, fun x hx => by cases hx; rfl⟩
 ·rw [beq_eq_false_iff_ne.2 hk1, Al, if_neg hk1]
  by_cases hk3 : s.fg = 3
  ·have hi3 : i < p.fd.length := by have := x3 hk3; omega
   have ht : p.fd[i]? = some p.fd[i] := by simp [hi3]
   rw [beq_iff_eq.2 hk3, AQ, if_pos hk3, hi, Qn N hN h20 hp hm ht]
   simp only [oS, zS, ht]
   split
   ·exact ⟨_, rfl, fun x hx => by cases hx⟩
   ·exact ⟨_, rfl, fun x hx => by cases hx; rfl⟩
  ·have hi1 : (i : Int) < p.fb.length := by have := xn hk3; omega
   rw [beq_eq_false_iff_ne.2 hk3, Al, if_neg hk3, hi, Dc (d := 0) (show i < m.fc.length by omega)]
   simp only [oS, zS]
   by_cases c1 : m.fc.getD i 0 < 0
   ·rw [AB c1, if_pos c1]
    exact ⟨_, rfl, fun x hx => by cases hx⟩
   ·rw [Ay c1, if_neg c1]
    by_cases hk2 : s.fg = 2
    ·rw [beq_iff_eq.2 hk2, AQ, Dc (d := 0) (show i < m.fe.length by omega), if_pos hk2]
     exact ⟨_, rfl, fun x hx => by cases hx; rfl⟩
    ·rw [beq_eq_false_iff_ne.2 hk2, Al, if_neg hk2]
     exact ⟨_, rfl, fun x hx => by cases hx; rfl⟩
theorem Qo (N : Nat) (hN : N ≤ 1000000) (h20 : 100 ≤ N) {p : Aa} {m : Ac} (hp : Bf p) (hm : BZ p m) (s : Ad) : HE N p m s = some (A7 p m s) := by
 unfold HE A7
 rw [Qk]
 simp only [oS]
 cases hv : G9 s
 ·rw [yU, AQ, if_pos rfl]; rfl
 ·rw [yA, Al, if_neg (by simp), O7 N p s hv]
  simp only [oS]
  cases hx : Gd p s
  ·rw [yU, AQ, if_pos rfl]; rfl
  ·rw [yA, Al, if_neg (by simp)]
   obtain ⟨o, e, ho⟩ := Mz N hN h20 hp hm hv hx
   rw [e]
   simp only [oS]
   cases ha : Gk p m s with
   | none => rfl
   | some x => rw [ho x ha]; rfl
theorem NB (N : Nat) (hN : N ≤ 1000000) (h20 : 100 ≤ N) {p : Aa} {m : Ac} (hp : Bf p) (hm : BZ p m) {s : Ad} (hv : G9 s = true) (hx : Gd p s = true) :
  CY N p m s = some (match Gk p m s with | none => (Is, false) | some x => (x, true)) := by
 obtain ⟨k1, k4, i0, v0, vk⟩ := IJ hv
 obtain ⟨x3, xn, x1⟩ := JJ hx
 have hnv := hp.nv
 have hnt := hp.nt
 have hb := hm.base
 have hn := hm.next
 have hh := hm.held
 obtain ⟨i, hi⟩ := zJ i0
 unfold CY Gk
 rw [Au (by simp [C4]; omega), Au (by simp [C4]; omega), Au (by simp [C4]; omega)]
 simp only [Bl, xN]
 by_cases hk1 : s.fg = 1
 ·have hi1 : (i : Int) < p.fb.length := by have := xn (by omega); omega
  rw [beq_iff_eq.2 hk1, AQ, if_pos hk1]
  simp only [hi, zS]
  rw [Dc (d := 0) (show i < m.fc.length by omega)]
  simp only [oS]
  by_cases c1 : 0 ≤ m.fc.getD i 0
  ·rw [AB c1, AQ, if_pos (.inl c1)]; rfl
  ·rw [Ay c1, Dc (d := 0) (show i < m.fe.length by omega)]
   simp only [oS]
   by_cases c2 : m.fe.getD i 0 = s.fp
   ·rw [beq_iff_eq.2 c2.symm, AQ, if_pos (.inr c2)]; rfl
   ·rw [beq_eq_false_iff_ne.2 (fun h => c2 h.symm), Al, PT N p s m.ff v0 hh (by omega) hN _, if_neg (by rintro (h | h); exact c1 h; exact c2 h)]
 ·rw [beq_eq_false_iff_ne.2 hk1, Al, if_neg hk1]
  by_cases hk3 : s.fg = 3
  ·have hi3 : i < p.fd.length := by have := x3 hk3; omega
   have ht : p.fd[i]? = some p.fd[i] := by simp [hi3]
   have hin := Ke (hp.tab _ (lM ht))
   have eh' : Bj m.ff (i : Int) = some (m.ff.getD i 0) := Dc (by omega)
   rw [beq_eq_false_iff_ne.2 (show s.fg ≠ 2 by omega), Al, beq_iff_eq.2 hk3, AQ, if_pos hk3, hi, AU, ht]
   simp only [oS, HG, zS, ht]
   cases hs : B5 p.fd[i]
   ·rw [yU, AQ, if_pos (.inl rfl)]; rfl
   ·rw [yA, Al, KV N m _ hin.1 (by omega) (by omega) (hm.b0 _ (by omega)).1, eh']
    simp only [oS]
    by_cases h1 : m.ff.getD i 0 = HI m (p.fd[i]).fh.toNat
    ·rw [beq_iff_eq.2 h1, AQ, if_pos (.inr (.inl h1))]; rfl
    ·rw [beq_eq_false_iff_ne.2 h1, Al]
     rw [O8 N hN h20 hp hm ht hs s hi]
     cases hst : I9 p m i p.fd[i]
     ·rw [if_neg (by simp), if_neg (by rintro (h | h | h); cases h; exact h1 h; cases h)]
     ·rw [if_pos rfl, if_pos (.inr (.inr rfl))]
  ·have hi1 : (i : Int) < p.fb.length := by have := xn hk3; omega
   rw [if_neg hk3, hi, Dc (d := 0) (show i < m.fc.length by omega)]
   simp only [oS, zS]
   by_cases hk2 : s.fg = 2
   ·rw [beq_iff_eq.2 hk2, AQ, if_pos hk2]
    by_cases c1 : m.fc.getD i 0 < 0
    ·rw [AB c1, if_pos c1]; rfl
    ·rw [Ay c1, if_neg c1, Dc (d := 0) (show i < m.fe.length by omega)]; rfl
   ·rw [beq_eq_false_iff_ne.2 hk2, Al, beq_eq_false_iff_ne.2 hk3, Al, if_neg hk2]
    by_cases c1 : m.fc.getD i 0 < 0
    ·rw [AB c1, if_pos c1]; rfl
    ·rw [Ay c1, if_neg c1]
end Go.Lift
namespace Go.Lift
open Option renaming bind_some → oS
open List renaming mem_of_getElem? → lM
open List renaming getElem?_eq_some_iff → lI
open Go
theorem TS (s : Ad) : ∀ (xs : List An) (i : Nat) (a : List Int), i + xs.length ≤ a.length → (Jk (V6 s) i xs a).length = a.length ∧ ∀ q, (Jk (V6 s) i xs a).getD q 0 = match (if i ≤ q then xs[q - i]? else none) with
  | some t => if Va s t = true then PI .u8 (a.getD q 0) (D1 .u8 1 s.fp) else a.getD q 0
  | none => a.getD q 0
 | [], i, a, _ => by
  refine ⟨rfl, fun q => ?_⟩
  split
  ·rename_i h; split at h
   ·simp at h
   ·cases h
  ·rfl
 | x :: xs, i, a, hl => by
  have hl' : i + (xs.length + 1) ≤ a.length := by simpa using hl
  have ha : (V6 s i x a).length = a.length := by unfold V6; split <;> simp
  obtain ⟨ih1, ih2⟩ := TS s xs (i + 1) (V6 s i x a) (by omega)
  refine ⟨by rw [Jk, ih1, ha], fun q => ?_⟩
  rw [Jk, ih2 q]
  have hu : (V6 s i x a).getD q 0 = if q = i ∧ Va s x = true then PI .u8 (a.getD q 0) (D1 .u8 1 s.fp) else a.getD q 0 := by
   unfold V6
   by_cases hc : Va s x = true
   ·rw [if_pos hc, J6 (by omega)]
    by_cases hq : q = i
    ·subst hq; rw [if_pos rfl, if_pos ⟨rfl, hc⟩]
    ·rw [if_neg hq, if_neg (fun h => hq h.1)]
   ·rw [if_neg hc, if_neg (fun h => hc h.2)]
  by_cases h1 : i + 1 ≤ q
  ·rw [if_pos h1, if_pos (show i ≤ q by omega), hu, if_neg (by omega)]
   rw [show (x :: xs)[q - i]? = xs[q - (i + 1)]? from by rw [show q - i = (q - (i + 1)) + 1 from by omega, List.getElem?_cons_succ]]
  ·rw [if_neg h1]
   by_cases h2 : q = i
   ·subst h2
    rw [if_pos (zN _), vF, hu]
    simp
   ·rw [if_neg (show ¬ i ≤ q by omega), hu, if_neg (by omega)]
theorem VQ {p : Aa} {s : Ad} {held : List Int} (hl : held.length = p.fd.length) : (JX p s held).length = p.fd.length ∧ ∀ q t, p.fd[q]? = some t → (JX p s held).getD q 0 = if Va s t = true then PI .u8 (held.getD q 0) (D1 .u8 1 s.fp) else held.getD q 0 := by
 obtain ⟨h1, h2⟩ := TS s p.fd 0 held (by omega)
 refine ⟨h1.trans hl, fun q t ht => ?_⟩
 have := h2 q
 rw [if_pos (zK _), Nat.sub_zero, ht] at this
 exact this
theorem PK {m : Ac} {s v : Nat} : Jt m s v = true ↔ m.fe.getD s 0 = (v : Int) ∨ m.fc.getD s 0 = (v : Int) := by
 unfold Jt; rw [xO, decide_eq_true_iff, decide_eq_true_iff]
theorem WM {p : Aa} {m x : Ac} (hp : Bf p) (hm : BZ p m) {s : Ad} (hv : G9 s = true) (hx : Gd p s = true) (h : Gk p m s = some x) : BZ p x := by
 obtain ⟨k1, k4, i0, v0, vk⟩ := IJ hv
 obtain ⟨x3, xn, x1⟩ := JJ hx
 obtain ⟨i, hi⟩ := zJ i0
 have hb := hm.base
 have hn := hm.next
 have hh := hm.held
 unfold Gk at h
 simp only [hi, zS] at h
 rw [hi, zS] at x1
 split at h
 ·rename_i hk1
  have hi1 : i < p.fb.length := by have := xn (by omega); omega
  have hx1 := x1 hk1
  have hvi := Jd hp hi1
  split at h
  ·cases h
  rename_i hc
  cases h
  obtain ⟨u1, u2⟩ := VQ (s := s) hh
  obtain ⟨b, hbv⟩ := zJ v0
  have hob := Yz (b := b) (by omega)
  have hN : ∀ q, (m.fc.set i s.fp).getD q 0 = if q = i then s.fp else m.fc.getD q 0 := fun q => J6 (by omega)
  refine { base := hb, next := by simpa using hn, held := u1, b0 := hm.b0, n0 := fun q hq => ?_, ne := fun q hq => ?_, range := fun q hq => ?_, low := fun q t ht hs v hr => ?_, high := fun q t ht hs v hbit => ?_, none := fun q t ht hs => ?_ }
  ·show -1 ≤ (m.fc.set i s.fp).getD q 0 ∧ (m.fc.set i s.fp).getD q 0 < _
   rw [hN q]
   split
   ·rename_i e; subst e; omega
   ·exact hm.n0 q hq
  ·show m.fe.getD q 0 ≠ (m.fc.set i s.fp).getD q 0
   rw [hN q]
   split
   ·rename_i e; subst e; exact fun h => hc (.inr h)
   ·exact hm.ne q hq
  ·have ht : p.fd[q]? = some p.fd[q] := by simp [hq]
   show 0 ≤ (JX p s m.ff).getD q 0 ∧ (JX p s m.ff).getD q 0 ≤ 255
   rw [u2 q _ ht, hbv]
   split
   ·exact (T0 (hm.range q hq) hob.2).2
   ·exact hm.range q hq
  ·have hq := (lI.1 ht).1
   show Eg ((JX p s m.ff).getD q 0) v = true
   have hin := Ke (hp.tab t (lM ht))
   rw [PK] at hr
   have hr : m.fe.getD t.fh.toNat 0 = (v : Int) ∨ (m.fc.set i s.fp).getD t.fh.toNat 0 = (v : Int) := hr
   rw [hN] at hr
   rw [u2 q t ht, hbv]
   have hlow := hm.low q t ht hs v
   rw [PK] at hlow
   by_cases hf : t.fh.toNat = i
   ·have hup : Va s t = true := by unfold Va; rw [hs, vX, beq_iff_eq, hi]; omega
    rw [if_pos hup, (T0 (hm.range q hq) hob.2).1, hob.1 v, xO, decide_eq_true_iff]
    rw [if_pos hf] at hr
    rcases hr with h | h
    ·exact .inl (hlow (.inl h))
    ·right; omega
   ·rw [if_neg hf] at hr
    have hup : Va s t = false := by unfold Va; rw [hs, vX, beq_eq_false_iff_ne, hi]; omega
    rw [hup, if_neg (by simp)]
    exact hlow hr
  ·have hq := (lI.1 ht).1
   have hbit : Eg ((JX p s m.ff).getD q 0) v = true := hbit
   have hin := Ke (hp.tab t (lM ht))
   rw [u2 q t ht, hbv] at hbit
   split at hbit
   ·rename_i hup
    rw [(T0 (hm.range q hq) hob.2).1, hob.1 v, xO, decide_eq_true_iff] at hbit
    rcases hbit with h | h
    ·exact hm.high q t ht hs v h
    ·unfold Va at hup
     rw [hs, vX, beq_iff_eq, hi] at hup
     rw [hup, zS]; omega
   ·exact hm.high q t ht hs v hbit
  ·show (JX p s m.ff).getD q 0 = 0
   have hup : Va s t = false := by unfold Va; rw [hs, Bool.and_false]
   rw [u2 q t ht, hup, if_neg (by simp)]
   exact hm.none q t ht hs
 ·rename_i hk1
  split at h
  ·rename_i hk3
   have hi3 : i < p.fd.length := by have := x3 hk3; omega
   have ht0 : p.fd[i]? = some p.fd[i] := by simp [hi3]
   rw [ht0] at h
   simp only at h
   split at h
   ·cases h
   rename_i hc
   cases h
   have hin0 := Ke (hp.tab _ (lM ht0))
   have hr0 := I5 hp hm.toMixServ (s := (p.fd[i]).fh.toNat) (by omega)
   have hs0 : B5 p.fd[i] = true := by
    cases hs : B5 p.fd[i]
    ·exact (hc (.inl hs)).elim
    ·rfl
   have hH : ∀ q, (m.ff.set i (HI m (p.fd[i]).fh.toNat)).getD q 0 = if q = i then HI m (p.fd[i]).fh.toNat else m.ff.getD q 0 := fun q => J6 (by omega)
   refine { base := hb, next := hn, held := by simpa using hh, b0 := hm.b0, n0 := hm.n0, ne := hm.ne, range := fun q hq => ?_, low := fun q t ht hs v hr => ?_, high := fun q t ht hs v hbit => ?_, none := fun q t ht hs => ?_ }
   ·show 0 ≤ (m.ff.set i (HI m (p.fd[i]).fh.toNat)).getD q 0 ∧ (m.ff.set i (HI m (p.fd[i]).fh.toNat)).getD q 0 ≤ 255
    rw [hH q]
    split
    ·exact hr0.2
    ·exact hm.range q hq
   ·show Eg ((m.ff.set i (HI m (p.fd[i]).fh.toNat)).getD q 0) v = true
    have hr : Jt m t.fh.toNat v = true := hr
    rw [hH q]
    split
    ·rename_i e; subst e
     rw [ht0] at ht; cases ht
     rw [hr0.1]; exact hr
    ·exact hm.low q t ht hs v hr
   ·have hbit : Eg ((m.ff.set i (HI m (p.fd[i]).fh.toNat)).getD q 0) v = true := hbit
    rw [hH q] at hbit
    split at hbit
    ·rename_i e; subst e
     rw [ht0] at ht; cases ht
     rw [hr0.1] at hbit
     exact hm.high q _ ht0 hs0 v (hm.low q _ ht0 hs0 v hbit)
    ·exact hm.high q t ht hs v hbit
   ·show (m.ff.set i (HI m (p.fd[i]).fh.toNat)).getD q 0 = 0
    rw [hH q, if_neg (fun e => by subst e; rw [ht0] at ht; cases ht; rw [hs0] at hs; cases hs)]
    exact hm.none q t ht hs
  ·rename_i hk3
   have hi1 : i < p.fb.length := by have := xn hk3; omega
   have hvi := Jd hp hi1
   split at h
   ·cases h
   rename_i hc
   cases h
   have hN : ∀ q, (m.fc.set i (-1)).getD q 0 = if q = i then -1 else m.fc.getD q 0 := fun q => J6 (by omega)
   have hB : ∀ q, (if s.fg = 2 then m.fe.set i (m.fc.getD i 0) else m.fe).getD q 0 = if s.fg = 2 ∧ q = i then m.fc.getD i 0 else m.fe.getD q 0 := fun q => by
    by_cases hk2 : s.fg = 2
    ·rw [if_pos hk2, J6 (by omega)]
     by_cases e : q = i
     ·rw [if_pos e, if_pos ⟨hk2, e⟩]
     ·rw [if_neg e, if_neg (fun h => e h.2)]
    ·rw [if_neg hk2, if_neg (fun h => hk2 h.1)]
   have hrun : ∀ q v, Jt ⟨if s.fg = 2 then m.fe.set i (m.fc.getD i 0) else m.fe, m.fc.set i (-1), m.ff⟩ q v = true → Jt m q v = true := fun q v hr => by
    rw [PK] at hr ⊢
    simp only [hN q, hB q] at hr
    by_cases e : q = i
    ·subst e
     rw [if_pos rfl] at hr
     by_cases hk2 : s.fg = 2
     ·rw [if_pos ⟨hk2, rfl⟩] at hr; omega
     ·rw [if_neg (fun h => hk2 h.1)] at hr; omega
    ·rw [if_neg e, if_neg (fun h => e h.2)] at hr; exact hr
   refine { base := by simp only; split <;> simp [hb], next := by simpa using hn, held := hh, b0 := fun q hq => ?_, n0 := fun q hq => ?_, ne := fun q hq => ?_, range := hm.range, low := fun q t ht hs v hr => hm.low q t ht hs v (hrun _ _ hr), high := hm.high, none := hm.none }
   ·simp only [hB q]
    split
    ·rename_i e; obtain ⟨_, e⟩ := e; subst e
     have := hm.n0 q hq
     omega
    ·exact hm.b0 q hq
   ·simp only [hN q]
    split
    ·rename_i e; subst e; omega
    ·exact hm.n0 q hq
   ·simp only [hB q, hN q]
    have h1 := hm.b0 q hq
    by_cases e : q = i
    ·rw [if_pos e]
     split
     ·rename_i e2; obtain ⟨_, e2⟩ := e2; subst e2; omega
     ·omega
    ·rw [if_neg e, if_neg (fun h => e h.2)]; exact hm.ne q hq
theorem RT (N : Nat) (hN : N ≤ 1000000) (h20 : 100 ≤ N) {p : Aa} {m : Ac} (hw : OX Mr m.ff) (s : Ad) : E9 N p m s = some (if Gi p m = 0 then A7 p m s else (Is, Gi p m)) := by
 unfold E9 A7
 rw [JB N p m hN (by omega)]
 simp only [oS, Bl]
 by_cases hval : Gi p m = 0
 ·obtain ⟨hp, hm⟩ := KI hw hval
  rw [if_pos hval, hval, bne_self_eq_false, Al, RA]
  simp only [oS]
  cases hv : G9 s
  ·rw [yU, AQ, if_pos rfl]; rfl
  ·rw [yA, Al, if_neg (by simp)]
   obtain ⟨k1, k4, i0, v0, vk⟩ := IJ hv
   have key : ∀ b : Bool, Gd p s = b → (if b = false then (Is, (4 : Int)) else match Gk p m s with | none => (Is, 11) | some x => (x, 0)) = (if b = false then (Is, (4 : Int)) else match Gk p m s with | none => (Is, 11) | some x => (x, 0)) := fun _ _ => rfl
   have tail : Gd p s = true → ((CY N p m s).bind fun v15 => AO (!v15.2) (some (Ac.mk [] [] [], (11 : Int))) (some (v15.1, 0))) = some (match Gk p m s with | none => (Is, 11) | some x => (x, 0)) := fun hx => by
    rw [NB N hN h20 hp hm hv hx]
    cases Gk p m s <;> rfl
   have zz : (Ac.mk [] [] [], (4 : Int)) = (Is, 4) := rfl
   by_cases hk3 : s.fg = 3
   ·rw [beq_iff_eq.2 hk3, AQ, show (s.fg != 3) = false from by rw [hk3]; rfl]
    have hX : Gd p s = decide (s.fi < (p.fd.length : Int)) := by unfold Gd; rw [if_pos hk3]
    by_cases c : (p.fd.length : Int) ≤ s.fi
    ·rw [AB c, AQ, hX, decide_eq_false (by omega), if_pos rfl]; rfl
    ·have hx : Gd p s = true := by rw [hX, decide_eq_true (by omega)]
     rw [Ay c, Al, Al, beq_eq_false_iff_ne.2 (show s.fg ≠ 1 by omega), Al, Al, hx, if_neg (by simp)]
     exact tail hx
   ·rw [beq_eq_false_iff_ne.2 hk3, Al, bne_iff_ne.2 hk3, AQ]
    have hX : Gd p s = (decide (s.fi < (p.fb.length : Int)) && (s.fg != 1 || decide (s.fp < p.fb.getD s.fi.toNat 0))) := by unfold Gd; rw [if_neg hk3]
    by_cases c : (p.fb.length : Int) ≤ s.fi
    ·rw [decide_eq_true c, AQ, hX, decide_eq_false (show ¬ s.fi < (p.fb.length : Int) by omega), vO, if_pos rfl]; rfl
    ·rw [decide_eq_false c, Al]
     by_cases hk1 : s.fg = 1
     ·rw [beq_iff_eq.2 hk1, AQ, El (d := 0) i0 (by omega)]
      simp only [oS]
      by_cases c2 : p.fb.getD s.fi.toNat 0 ≤ s.fp
      ·rw [decide_eq_true c2, AQ, hX, decide_eq_false (show ¬ s.fp < p.fb.getD s.fi.toNat 0 by omega), show (s.fg != 1) = false from by rw [hk1]; rfl, vI, Bool.and_false, if_pos rfl]; rfl
      ·have hx : Gd p s = true := by rw [hX, decide_eq_true (by omega), decide_eq_true (by omega), zA3]; rfl
       rw [decide_eq_false c2, Al, hx, if_neg (by simp)]
       exact tail hx
     ·have hx : Gd p s = true := by rw [hX, decide_eq_true (by omega), bne_iff_ne.2 hk1]; rfl
      rw [beq_eq_false_iff_ne.2 hk1, Al, Al, hx, if_neg (by simp)]
      exact tail hx
 ·rw [if_neg hval, bne_iff_ne.2 hval, AQ]; rfl
theorem P8 (N : Nat) (hN : N ≤ 1000000) (h20 : 100 ≤ N) {p : Aa} {m : Ac} (hw : OX Mr m.ff) (s : Ad) : HN N p m s = some (if Gi p m = 0 then A7 p m s else (Is, Gi p m)) := by
 unfold HN
 rw [JF N p m hN (by omega) hw]
 simp only [oS]
 by_cases hval : Gi p m = 0
 ·obtain ⟨hp, hm⟩ := KI hw hval
  rw [if_pos hval, hval, bne_self_eq_false, Al, Qo N hN h20 hp hm s]; rfl
 ·rw [if_neg hval, bne_iff_ne.2 hval, AQ]; rfl
theorem Mc {p : Aa} {m : Ac} (hp : Bf p) (hm : BZ p m) {s : Ad} (h : (A7 p m s).2 = 0) : BZ p (A7 p m s).1 := by
 unfold A7 at h ⊢
 split at h
 ·cases h
 rename_i h1
 rw [if_neg h1]
 split at h
 ·cases h
 rename_i h2
 rw [if_neg h2]
 cases ha : Gk p m s with
 | none => rw [ha] at h; cases h
 | some x => exact WM hp hm (by simpa using h1) (by simpa using h2) ha
end Go.Lift
namespace Go.Lift
open Go
section
variable {N : Nat} {p : Aa} {l : List Ad}
end
end Go.Lift
namespace Go.Lift
open Go
def NY (p : Aa) (m : Ac) (s : Ad) : Option Ac := if (A7 p m s).2 = 0 ∧ s.fg ≠ 4 ∧ BC p (A7 p m s).1 = true then some (A7 p m s).1 else none
def PQ (p : Aa) : Ac → List Ad → Option Ac
 | m, [] => some m
 | m, s :: l => (NY p m s).bind fun x => PQ p x l
def NF (p : Aa) (m : Ac) (l : List Ad) : Bool := match PQ p m l with
 | some x => Ip p x
 | none => false
theorem VH {p : Aa} {m x : Ac} {s : Ad} : NY p m s = some x ↔ G9 s = true ∧ Gd p s = true ∧ Gk p m s = some x ∧ s.fg ≠ 4 ∧ BC p x = true := by
 unfold NY A7
 cases h1 : G9 s
 ·simp
 cases h2 : Gd p s
 ·simp
 cases h3 : Gk p m s with
 | none => simp
 | some y =>
  simp only [Bool.true_eq_false, if_false, true_and, Option.some.injEq]
  constructor
  ·intro h
   split at h
   ·rename_i hc; cases h; exact ⟨rfl, hc.1, hc.2⟩
   ·cases h
  ·rintro ⟨rfl, h4, h5⟩
   rw [if_pos ⟨h4, h5⟩]
theorem QH {p : Aa} {m : Ac} {l : List Ad} (h : NF p m l = true) : ∃ x, PQ p m l = some x ∧ Ip p x = true := by
 unfold NF at h
 cases hr : PQ p m l with
 | none => rw [hr] at h; cases h
 | some x => rw [hr] at h; exact ⟨x, rfl, h⟩
end Go.Lift
namespace Go.Lift
open IntKind renaming wrap → wI
open Option renaming bind_some → oS
open List renaming getElem?_eq_some_iff → lI
open List renaming getD_eq_getElem?_getD → lD
open Go
def G6 (m : Ac) (i : Nat) (b : Int) : List Int := [wI .u8 b, wI .u8 (wI .i64 (m.fc.getD i 0 + 1))]
def L1 (m : Ac) : List Int := CH (G6 m) 0 m.fe ++ m.ff
theorem Wl (N : Nat) (hN : N ≤ 1000000) (h20 : 100 ≤ N) {p : Aa} {m : Ac} (hp : Bf p) (hm : BZ p m) : H7 N m = some (CL (L1 m)) := by
 have hnv := hp.nv
 have hnt := hp.nt
 have hb := hm.base
 have hn := hm.next
 have hh := hm.held
 unfold H7
 have e1 : wI .i64 (2 * (m.fe.length : Int)) = 2 * (m.fe.length : Int) := CS (by omega) (by omega)
 rw [e1, CS (n := 2 * (m.fe.length : Int) + (m.ff.length : Int)) (by omega) (by omega), Au ⟨Int.le_refl 0, by omega, by simp only [C4]; omega⟩]
 have l1 := FQ (E2 N m fun v3 => DZ N m (fun v9 => some (CL v9)) N (v3, 0)) (fun a i => (a, i)) m.fe (fun v3 => DZ N m (fun v9 => some (CL v9)) N (v3, 0)) (G6 m) 2 100
  (fun i x hx => by simp [G6])
  (fun n i x a hx hl => by
   have hi := (lI.1 hx).1
   rw [E2, AB (by simp only; omega)]
   simp only [AU, hx, oS, AE (show i < 1000000 by omega)]
   have e2 : m.fc[i]? = some (m.fc.getD i 0) := by rw [lD]; simp [show i < m.fc.length by omega]
   rw [e2]
   simp only [oS]
   rw [Au (by simp [C4]; simp [G6] at hl; omega)]
   rfl)
  (fun n a => by rw [E2, Ay (by simp)]) N [] (by omega) (by simp; omega)
 have l1' : E2 N m (fun v3 => DZ N m (fun v9 => some (CL v9)) N (v3, 0)) N (zH (0 : Int).toNat (0 : Int), 0) = _ := l1
 rw [l1', xN]
 have hfl : (CH (G6 m) 0 m.fe).length ≤ 2 * m.fe.length := Gj fun j x hx => by simp [G6]
 have l2 := FQ (DZ N m fun v9 => some (CL v9)) (fun a i => (a, i)) m.ff (fun v9 => some (CL v9)) (fun _ x => [x]) 1 100
  (fun i x hx => by simp)
  (fun n i x a hx hl => by
   have hi := (lI.1 hx).1
   rw [DZ, AB (by simp only; omega)]
   simp only [AU, hx, oS, AE (show i < 1000000 by omega)]
   rw [Au (by simp [C4]; simp at hl; omega)])
  (fun n a => by rw [DZ, Ay (by simp)]) N (CH (G6 m) 0 m.fe) (by omega) (by omega)
 have e3 : ∀ (i : Nat) (l : List Int), CH (fun _ (x : Int) => [x]) i l = l := by
  intro i l
  induction l generalizing i with
  | nil => rfl
  | cons x l ih => rw [CH, ih]; rfl
 refine l2.trans ?_
 rw [e3]; rfl
theorem UC (xs : List Int) : ∀ b : ByteArray, (xs.foldl (fun s n => s.push (UInt8.ofNat n.toNat)) b).data.toList = b.data.toList ++ xs.map fun n => UInt8.ofNat n.toNat := by
 induction xs with
 | nil => intro b; simp
 | cons x xs ih => intro b; rw [List.foldl_cons, ih]; simp [ByteArray.push]
theorem M9 (xs : List Int) : (CL xs).data.toList = xs.map fun n => UInt8.ofNat n.toNat := by
 unfold CL
 rw [UC]; rfl
theorem ao {a b : Int} (ha : 0 ≤ a ∧ a ≤ 255) (hb : 0 ≤ b ∧ b ≤ 255) (h : UInt8.ofNat a.toNat = UInt8.ofNat b.toNat) : a = b := by
 have := congrArg UInt8.toNat h
 simp at this
 omega
theorem O5 : ∀ {xs ys : List Int}, (∀ x, x ∈ xs → 0 ≤ x ∧ x ≤ 255) → (∀ x, x ∈ ys → 0 ≤ x ∧ x ≤ 255) → (xs.map fun n => UInt8.ofNat n.toNat) = (ys.map fun n => UInt8.ofNat n.toNat) → xs = ys
 | [], [], _, _, _ => rfl
 | [], _ :: _, _, _, h => by cases h
 | _ :: _, [], _, _, h => by cases h
 | x :: xs, y :: ys, hx, hy, h => by
  rw [yF, yF, List.cons.injEq] at h
  rw [ao (hx x (by simp)) (hy y (by simp)) h.1, O5 (fun z hz => hx z (x8 _ hz)) (fun z hz => hy z (x8 _ hz)) h.2]
theorem SN {xs ys : List Int} (hx : ∀ x, x ∈ xs → 0 ≤ x ∧ x ≤ 255) (hy : ∀ x, x ∈ ys → 0 ≤ x ∧ x ≤ 255) (h : (CL xs == CL ys) = true) : xs = ys := by
 rw [Kw, beq_iff_eq] at h
 have h := congrArg Array.toList h
 rw [M9, M9] at h
 exact O5 hx hy h
theorem RQ (xs : List Int) : (CL xs == CL xs) = true := by rw [Kw]; simp
theorem Rd {α β : Type} {g h : Nat → α → List β} {c : Nat} : ∀ {i : Nat} {xs ys : List α}, xs.length = ys.length → (∀ i x, (g i x).length = c) → (∀ i x, (h i x).length = c) → CH g i xs = CH h i ys → ∀ j x y, xs[j]? = some x → ys[j]? = some y → g (i + j) x = h (i + j) y
 | i, [], ys, _, _, _, _, j, x, y, hx, _ => by simp at hx
 | i, x :: xs, [], hl, _, _, _, _, _, _, _, _ => by simp at hl
 | i, x :: xs, y :: ys, hl, hg, hh, e, j, x', y', hx, hy => by
  rw [CH, CH] at e
  have e1 := List.append_inj e ((hg i x).trans (hh i y).symm)
  cases j with
  | zero => simp at hx hy; subst hx; subst hy; exact e1.1
  | succ j =>
   have := Rd (i := i + 1) (by simpa using hl) hg hh e1.2 j x' y' (by simpa using hx) (by simpa using hy)
   rwa [show i + 1 + j = i + (j + 1) from by omega] at this
theorem QI {p : Aa} {m : Ac} (_hp : Bf p) (hm : BZ p m) : ∀ x, x ∈ L1 m → 0 ≤ x ∧ x ≤ 255 := by
 intro x hx
 unfold L1 at hx
 rcases yC.1 hx with h | h
 ·obtain ⟨j, b, hb, hk⟩ := Hm.1 h
  have hw : ∀ n : Int, 0 ≤ wI .u8 n ∧ wI .u8 n ≤ 255 := fun n => by
   simp [wI, IntKind.signed, IntKind.bits]; omega
  unfold G6 at hk
  rcases zQ.1 hk with e | e
  ·subst e; exact hw _
  ·rcases zQ.1 e with e | e
   ·subst e; exact hw _
   ·cases e
 ·obtain ⟨j, hj⟩ := zT.1 h
  have hl := (lI.1 hj).1
  have := hm.range j (by rw [← hm.held]; exact hl)
  rw [lD, hj] at this
  exact this
theorem IQ {n : Int} (h : 0 ≤ n ∧ n ≤ 255) : wI .u8 n = n := by
 simp [wI, IntKind.signed, IntKind.bits]; omega
theorem YG {p : Aa} {m x : Ac} (hp : Bf p) (hm : BZ p m) (hx : BZ p x) (h : (CL (L1 m) == CL (L1 x)) = true) : m = x := by
 have e := SN (QI hp hm) (QI hp hx) h
 unfold L1 at e
 have hbl : m.fe.length = x.fe.length := hm.base.trans hx.base.symm
 have hfl : ∀ y : Ac, (CH (G6 y) 0 y.fe).length = 2 * y.fe.length := fun y => by
  have : ∀ (i : Nat) (l : List Int), (CH (G6 y) i l).length = 2 * l.length := by
   intro i l
   induction l generalizing i with
   | nil => rfl
   | cons b l ih => rw [CH, zW, ih, yD]; simp [G6]; omega
  exact this 0 _
 obtain ⟨e1, e2⟩ := List.append_inj e (by rw [hfl, hfl, hbl])
 have key : ∀ j, j < p.fb.length → m.fe.getD j 0 = x.fe.getD j 0 ∧ m.fc.getD j 0 = x.fc.getD j 0 := fun j hj => by
  have h1 : m.fe[j]? = some (m.fe.getD j 0) := by rw [lD]; simp [hm.base, hj]
  have h2 : x.fe[j]? = some (x.fe.getD j 0) := by rw [lD]; simp [hx.base, hj]
  have h3 := Rd (c := 2) hbl (fun _ _ => by simp [G6]) (fun _ _ => by simp [G6]) e1 j _ _ h1 h2
  rw [zC] at h3
  have v := Jd hp hj
  have b1 := hm.b0 j hj
  have b2 := hx.b0 j hj
  have n1 := hm.n0 j hj
  have n2 := hx.n0 j hj
  unfold G6 at h3
  rw [CS (n := m.fc.getD j 0 + 1) (by omega) (by omega), CS (n := x.fc.getD j 0 + 1) (by omega) (by omega), IQ (n := m.fe.getD j 0) (by omega), IQ (n := x.fe.getD j 0) (by omega), IQ (n := m.fc.getD j 0 + 1) (by omega), IQ (n := x.fc.getD j 0 + 1) (by omega), List.cons.injEq, List.cons.injEq] at h3
  exact ⟨h3.1, by omega⟩
 have hB : m.fe = x.fe := F9 hbl fun q hq => (key q (by rw [← hm.base]; exact hq)).1
 have hN : m.fc = x.fc := F9 (hm.next.trans hx.next.symm) fun q hq => (key q (by rw [← hm.next]; exact hq)).2
 cases m; cases x
 simp only at hB hN e2
 rw [hB, hN, e2]
end Go.Lift
namespace Go.Lift
open Option renaming bind_some → oS
open List renaming mem_of_getElem? → lM
open List renaming getElem?_eq_some_iff → lI
open Go
def Kg (i : Nat) (n : Int) : List Ad := (zO n.toNat).map fun v => ⟨1, (i : Int), ((v : Nat) : Int), ⟩
def E5 (p : Aa) : List Ad := CH Kg 0 p.fb ++ ((zO p.fb.length).map fun i => (⟨2, ((i : Nat) : Int), 0⟩ : Ad)) ++ ((zO p.fd.length).map fun i => (⟨3, ((i : Nat) : Int), 0⟩ : Ad))
def Gg (p : Aa) (m : Ac) : List Ad := (E5 p).filter fun s => (A7 p m s).2 == 0
theorem Vl {p : Aa} (hp : Bf p) : (E5 p).length ≤ 54 := by
 have h1 : (CH Kg 0 p.fb).length ≤ 6 * p.fb.length := Gj fun j x hx => by
  have := hp.ver x (lM hx)
  simp [Kg]; omega
 have := hp.nv
 have := hp.nt
 unfold E5
 simp only [zW, zL, uF]
 omega
theorem Sv (N : Nat) (hN : N ≤ 1000000) (h20 : 100 ≤ N) {p : Aa} (hp : Bf p) : I0 N p = some (E5 p) := by
 have hnv := hp.nv
 have hnt := hp.nt
 unfold I0
 have l1 := FQ (Dx N p fun v2 => Cz N p (fun v10 => Bx N p (fun v14 => some v14) N (v10, 0)) N (v2, 0)) (fun a i => (a, i)) p.fb (fun v2 => Cz N p (fun v10 => Bx N p (fun v14 => some v14) N (v10, 0)) N (v2, 0)) Kg 6 100
  (fun i x hx => by have := hp.ver x (lM hx); simp [Kg]; omega)
  (fun n i x a hx hl => by
   have hi := (lI.1 hx).1
   have hx6 := hp.ver x (lM hx)
   obtain ⟨k, hk⟩ := zJ (show 0 ≤ x by omega)
   rw [Dx, AB (by simp only; omega)]
   simp only [AU, hx, oS, AE (show i < 1000000 by omega)]
   subst hk
   obtain ⟨a', e, ha⟩ := FF (Fa N (a, (i : Int)) (k : Int) fun v6 => Dx N p (fun v2 => Cz N p (fun v10 => Bx N p (fun v14 => some v14) N (v10, 0)) N (v2, 0)) n (v6, ((i + 1 : Nat) : Int))) (fun b v => (b, v)) k (fun v6 => Dx N p (fun v2 => Cz N p (fun v10 => Bx N p (fun v14 => some v14) N (v10, 0)) N (v2, 0)) n (v6, ((i + 1 : Nat) : Int)))
    (fun v b => b = a ++ (zO v).map fun v => (⟨1, (i : Int), ((v : Nat) : Int)⟩ : Ad))
    (fun n v b hv hb => by
     subst hb
     rw [Fa, AB (by simp only; omega), Au (by simp [C4]; simp [Kg] at hl; omega), AE (by omega)]
     exact ⟨_, rfl, by rw [xX, y7, yL]; rfl⟩)
    (fun n b hb => by rw [Fa, Ay (by simp)]) N 0 a (zK _) (by omega) (by simp)
   have e' : Fa N (a, (i : Int)) (k : Int) (fun v6 => Dx N p (fun v2 => Cz N p (fun v10 => Bx N p (fun v14 => some v14) N (v10, 0)) N (v2, 0)) n (v6, ((i + 1 : Nat) : Int))) N (a, 0) = _ := e
   rw [e', ha]; rfl)
  (fun n a => by rw [Dx, Ay (by simp)]) N [] (by omega) (by simp; omega)
 have l1' : Dx N p (fun v2 => Cz N p (fun v10 => Bx N p (fun v14 => some v14) N (v10, 0)) N (v2, 0)) N (([] : List Ad), 0) = _ := l1
 rw [l1', xN]
 have hA : (CH Kg 0 p.fb).length ≤ 6 * p.fb.length := Gj fun j x hx => by
  have := hp.ver x (lM hx)
  simp [Kg]; omega
 generalize hAe : CH Kg 0 p.fb = A at hA
 obtain ⟨b', e2, hb⟩ := FF (Cz N p fun v10 => Bx N p (fun v14 => some v14) N (v10, 0)) (fun b v => (b, v)) p.fb.length (fun v10 => Bx N p (fun v14 => some v14) N (v10, 0))
  (fun v b => b = A ++ (zO v).map fun i => (⟨2, ((i : Nat) : Int), 0⟩ : Ad))
  (fun n v b hv hb => by
   subst hb
   rw [Cz, AB (by simp only; omega), Au (by simp [C4]; omega), AE (by omega)]
   exact ⟨_, rfl, by rw [xX, y7, yL]; rfl⟩)
  (fun n b hb => by rw [Cz, Ay (by simp)]) N 0 A (zK _) (by omega) (by simp)
 have e2' : Cz N p (fun v10 => Bx N p (fun v14 => some v14) N (v10, 0)) N (A, 0) = _ := e2
 rw [e2', hb]
 generalize hBe : A ++ (zO p.fb.length).map (fun i => (⟨2, ((i : Nat) : Int), 0⟩ : Ad)) = B
 have hB : B.length ≤ 50 := by rw [← hBe]; simp; omega
 obtain ⟨c', e3, hc⟩ := FF (Bx N p fun v14 => some v14) (fun b v => (b, v)) p.fd.length (fun v14 => some v14)
  (fun v b => b = B ++ (zO v).map fun i => (⟨3, ((i : Nat) : Int), 0⟩ : Ad))
  (fun n v b hv hb => by
   subst hb
   rw [Bx, AB (by simp only; omega), Au (by simp [C4]; omega), AE (by omega)]
   exact ⟨_, rfl, by rw [xX, y7, yL]; rfl⟩)
  (fun n b hb => by rw [Bx, Ay (by simp)]) N 0 B (zK _) (by omega) (by simp)
 have e3' : Bx N p (fun v14 => some v14) N (B, 0) = _ := e3
 rw [e3', hc, ← hBe, ← hAe]; rfl
end Go.Lift
namespace Go.Lift
open Option renaming bind_some → oS
open List renaming mem_of_getElem? → lM
open List renaming getElem?_eq_some_iff → lI
open List renaming getD_eq_getElem?_getD → lD
open Go
theorem Om {p : Aa} (hp : Bf p) {s : Ad} (h : s ∈ E5 p) : G9 s = true ∧ Gd p s = true := by
 have hnv := hp.nv
 unfold E5 at h
 rcases yC.1 h with h | h
 ·rcases yC.1 h with h | h
  ·obtain ⟨j, x, hx, hk⟩ := Hm.1 h
   rw [zC] at hk
   unfold Kg at hk
   obtain ⟨v, hv, rfl⟩ := zU.1 hk
   have hx6 := hp.ver x (lM hx)
   have hv := yX.1 hv
   have hj := (lI.1 hx).1
   refine ⟨by unfold G9; simp, ?_⟩
   unfold Gd
   have e : p.fb.getD j 0 = x := by rw [lD, hx]; rfl
   simp only
   rw [if_neg (by omega), decide_eq_true (by omega), zS, e, decide_eq_true (by omega), zA3]; rfl
  ·obtain ⟨v, hv, rfl⟩ := zU.1 h
   have hv := yX.1 hv
   refine ⟨by unfold G9; simp, ?_⟩
   unfold Gd
   simp only
   rw [if_neg (by omega), decide_eq_true (by omega)]; rfl
 ·obtain ⟨v, hv, rfl⟩ := zU.1 h
  have hv := yX.1 hv
  refine ⟨by unfold G9; simp, ?_⟩
  unfold Gd
  simp only
  rw [if_pos trivial, decide_eq_true (by omega)]
theorem Xm {p : Aa} {m : Ac} {s : Ad} (hv : G9 s = true) (hx : Gd p s = true) : ((A7 p m s).2 == 0) = (Gk p m s).isSome := by
 unfold A7
 rw [hv, hx, if_neg (by simp), if_neg (by simp)]
 cases Gk p m s <;> rfl
theorem TB (N : Nat) (hN : N ≤ 1000000) (h20 : 100 ≤ N) {p : Aa} {m : Ac} (hp : Bf p) (hm : BZ p m) {s : Ad} (h : s ∈ E5 p) :
  DO N s p.fb p.fj p.fo p.fd m.fe m.fc m.ff = some (!((A7 p m s).2 == 0)) := by
 obtain ⟨hv, hx⟩ := Om hp h
 unfold DO
 obtain ⟨o, e, _⟩ := Mz N hN h20 hp hm hv hx
 have e' : F6 N ⟨p.fb, p.fj, p.fo, p.fd⟩ ⟨m.fe, m.fc, m.ff⟩ s = some (o, (Gk p m s).isSome) := e
 rw [e', Xm hv hx]; rfl
theorem Uh (N : Nat) (hN : N ≤ 1000000) (a : List Ad) (f : Ad → Option Bool) (g : Ad → Bool) (h : a.length < N) (hf : ∀ x, x ∈ a → f x = some (g x)) :
  BU N a f = some ((CG (fun i x => if g x = true then some (i : Int) else none) 0 a).getD (-1)) := by
 unfold BU
 have := BO (A4 N a f fun _ => some (-1)) a (some (-1)) (fun i x => if g x = true then some (i : Int) else none)
  (fun n i x hx => by
   have hi := (lI.1 hx).1
   rw [A4, AB (by omega), AU, hx]
   simp only [oS]
   rw [hf x (lM hx), AE (by omega)]
   simp only [oS]
   cases g x <;> rfl)
  (fun n => by rw [A4, Ay (by simp)]) N 0 (zK _) (by omega)
 refine this.trans ?_
 rw [zZ]
 cases CG (fun i x => if g x = true then some (i : Int) else none) 0 a <;> rfl
theorem Qf {α : Type} {l : List α} {i : Nat} {v : α} (h : i < l.length) : (l.set i v).take (i + 1) = l.take i ++ [v] := by
 rw [yT, List.take_set_of_le (zN i)]
 congr 1
 simp [h]
theorem Sw (N : Nat) (hN : N ≤ 1000000) (a : List Ad) (f : Ad → Option Bool) (g : Ad → Bool) (h : a.length < N) (h9 : a.length ≤ 1000) (hf : ∀ x, x ∈ a → f x = some (g x)) :
  ∃ X n, BQ N a f = some (n, X) ∧ n ≤ X.length ∧ X.take n = a.filter fun x => !g x := by
 unfold BQ
 rw [Uh N hN a f g h hf]
 simp only [oS]
 cases hs : CG (fun i x => if g x = true then some (i : Int) else none) 0 a with
 | none =>
  refine ⟨a, a.length, rfl, zN _, ?_⟩
  rw [uH]
  symm
  rw [List.filter_eq_self]
  intro x hx
  obtain ⟨j, hj⟩ := zT.1 hx
  have := Ff hs j x hj
  cases hg : g x
  ·rfl
  ·rw [hg] at this; cases this
 | some r =>
  obtain ⟨j, x, hx, hr⟩ := DW hs
  rw [zC] at hr
  split at hr
  ·rename_i hg
   cases hr
   have hj := (lI.1 hx).1
   have e0 : ((some (j : Int)).getD (-1) == (-1 : Int)) = false := beq_eq_false_iff_ne.2 (by simp only [yE]; omega)
   rw [e0, Al]
   simp only [yE]
   rw [AE (by omega)]
   -- what lies before the first that goes is kept
   have hpre : (a.take (j + 1)).filter (fun x => !g x) = a.take j := by
    rw [yT, hx, xH]
    have h1 : (a.take j).filter (fun x => !g x) = a.take j := by
     rw [List.filter_eq_self]
     intro y hy
     obtain ⟨q, hq⟩ := zT.1 hy
     have hql := (lI.1 hq).1
     simp at hql
     rw [yI (by omega)] at hq
     cases hgy : g y
     ·rfl
     ·exfalso
      have : ∀ (xs : List Ad) (i j q : Nat) (y : Ad), CG (fun i x => if g x = true then some (i : Int) else none) i xs = some ((i + j : Nat) : Int) → q < j → xs[q]? = some y → g y = true → False := by
       intro xs
       induction xs with
       | nil => intro i j q y _ _ hq; simp at hq
       | cons z zs ih =>
        intro i j q y hs hqj hq hgy
        rw [FP] at hs
        cases hz : g z
        ·rw [hz] at hs
         cases q with
         | zero => simp at hq; subst hq; rw [hz] at hgy; cases hgy
         | succ q =>
          cases j with
          | zero => omega
          | succ j => exact ih (i + 1) j q y (by rw [show i + 1 + j = i + (j + 1) from by omega]; exact hs) (by omega) (by simpa using hq) hgy
        ·rw [hz] at hs
         have hs : (some (i : Int)) = some ((i + j : Nat) : Int) := hs
         have := Option.some.inj hs
         omega
      exact this a 0 j q y (by rw [zC]; exact hs) (by omega) hq hgy
    rw [h1]
    simp [hg]
   obtain ⟨b, e, hb⟩ := FF (AY N f fun v4 => (DI ((0 : Int) ≤ v4.2 ∧ (v4.2).toNat ≤ v4.1.length ∧ v4.1.length ≤ v4.1.length)).bind fun _ =>
     (DI ((0 : Int) ≤ v4.2 ∧ 0 ≤ (v4.2).toNat ∧ (v4.2).toNat ≤ (JC v4.1 ((v4.2).toNat) (zH ((v4.1.length - (v4.2).toNat)) ((Ad.mk 0 0 0)))).length)).bind fun _ =>
     some ((v4.2).toNat, JC v4.1 ((v4.2).toNat) (zH ((v4.1.length - (v4.2).toNat)) ((Ad.mk 0 0 0)))))
    (fun (b : List Ad × Nat) i => (b.1, ((b.2 : Nat) : Int), i)) a.length (fun b => (DI ((0 : Int) ≤ ((b.2 : Nat) : Int) ∧ (((b.2 : Nat) : Int)).toNat ≤ b.1.length ∧ b.1.length ≤ b.1.length)).bind fun _ =>
     (DI ((0 : Int) ≤ ((b.2 : Nat) : Int) ∧ 0 ≤ (((b.2 : Nat) : Int)).toNat ∧ (((b.2 : Nat) : Int)).toNat ≤ (JC b.1 ((((b.2 : Nat) : Int)).toNat) (zH ((b.1.length - (((b.2 : Nat) : Int)).toNat)) ((Ad.mk 0 0 0)))).length)).bind fun _ =>
     some ((((b.2 : Nat) : Int)).toNat, JC b.1 ((((b.2 : Nat) : Int)).toNat) (zH ((b.1.length - (((b.2 : Nat) : Int)).toNat)) ((Ad.mk 0 0 0)))))
    (fun i b => b.1.length = a.length ∧ b.2 ≤ i ∧ b.1.drop i = a.drop i ∧ b.1.take b.2 = (a.take i).filter fun x => !g x)
    (fun n i b hi hb => by
     obtain ⟨b1, b2, b3, b4⟩ := hb
     rw [AY, AB (by simp only; omega)]
     have hai : a[i]? = some a[i] := by simp [hi]
     have hbi : b.1[i]? = some a[i] := by
      have := congrArg (fun l => l[0]?) b3
      simp only [xG, xJ] at this
      rw [this, hai]
     simp only [Bl, AU, hbi, oS]
     rw [hf a[i] (xE hi), AE (i := i) (by omega)]
     simp only [oS]
     have hnext : b.1.drop (i + 1) = a.drop (i + 1) := by
      have := congrArg (List.drop 1) b3
      rwa [List.drop_drop, List.drop_drop] at this
     cases hgi : g a[i]
     ·rw [yU, AQ]
      have hbj : b.1[b.2]? = some b.1[b.2] := by simp [show b.2 < b.1.length from by omega]
      rw [hbj, AE (i := b.2) (by omega)]
      refine ⟨(b.1.set b.2 a[i], b.2 + 1), rfl, by simpa using b1, by simp only; omega, ?_, ?_⟩
      ·simp only
       rw [List.drop_set_of_lt (by omega), hnext]
      ·simp only
       rw [Qf (by omega), b4, yT, hai, xH]
       simp [hgi]
     ·rw [yA, Al]
      refine ⟨b, rfl, b1, by omega, hnext, ?_⟩
      rw [b4, yT, hai, xH]
      simp [hgi])
    (fun n b hb => by rw [AY, Ay (by simp [hb.1])]) N (j + 1) (a, j) (by omega) (by omega) ⟨rfl, by simp only; omega, rfl, hpre.symm⟩
   obtain ⟨b1, b2, b3, b4⟩ := hb
   have e' : AY N f (fun v4 => (DI ((0 : Int) ≤ v4.2 ∧ (v4.2).toNat ≤ v4.1.length ∧ v4.1.length ≤ v4.1.length)).bind fun _ =>
     (DI ((0 : Int) ≤ v4.2 ∧ 0 ≤ (v4.2).toNat ∧ (v4.2).toNat ≤ (JC v4.1 ((v4.2).toNat) (zH ((v4.1.length - (v4.2).toNat)) ((Ad.mk 0 0 0)))).length)).bind fun _ =>
     some ((v4.2).toNat, JC v4.1 ((v4.2).toNat) (zH ((v4.1.length - (v4.2).toNat)) ((Ad.mk 0 0 0))))) N (a, (j : Int), ((j + 1 : Nat) : Int)) = _ := e
   rw [e']
   have hsl : (JC b.1 b.2 (zH (b.1.length - b.2) (Ad.mk 0 0 0))).length = b.1.length := J0 (by rw [List.length_replicate]; omega)
   simp only [zS]
   rw [Au ⟨by omega, by omega, zN _⟩, Au ⟨by omega, by omega, by rw [hsl]; omega⟩]
   refine ⟨_, _, rfl, by rw [hsl]; omega, ?_⟩
   unfold JC
   rw [yL, List.take_append_of_le_length (by simp; omega), List.take_take, Nat.min_self, b4, uH]
  ·cases hr
theorem TY (N : Nat) (hN : N ≤ 1000000) (h20 : 100 ≤ N) {p : Aa} {m : Ac} (hv : BR p = 0) (hm : BZ p m) : GR N p m = some (Gg p m, 0) := by
 obtain ⟨hp, _⟩ := Da hv
 unfold GR
 rw [JF N p m hN (by omega) (MJ hm), IZ hv hm]
 simp only [oS, bne_self_eq_false, Al]
 rw [Sv N hN h20 hp]
 simp only [oS]
 have hl := Vl hp
 obtain ⟨X, n, e, h1, h2⟩ := Sw N hN (E5 p) (fun x => DO N x p.fb p.fj p.fo p.fd m.fe m.fc m.ff) (fun s => !((A7 p m s).2 == 0)) (by omega) (by omega) (fun x hx => TB N hN h20 hp hm hx)
 rw [e]
 simp only [oS]
 rw [Au h1, h2]
 unfold Gg
 simp
theorem I7 {β : Type} (g : Nat → List β) : ∀ n : Nat, CH (fun i (_ : Nat) => g i) 0 (zO n) = (zO n).flatMap g
 | 0 => rfl
 | n + 1 => by rw [xX, Ns, I7 g n, vC]; simp [CH]
def X3 (p : Aa) (m : Ac) (s : Ad) : Bool := (A7 p m s).2 == 0
def gS (p : Aa) (m : Ac) (k : Int) (i v : Nat) : List Ad := if X3 p m ⟨k, (i : Int), (v : Int)⟩ = true then [⟨k, (i : Int), (v : Int)⟩] else []
def bS (p : Aa) (m : Ac) (k : Int) (i : Nat) : List Ad := (zO 6).flatMap (gS p m k i)
def Uz (p : Aa) : Nat := max p.fb.length p.fd.length
def kS (p : Aa) (m : Ac) (k : Int) : List Ad := (zO (Uz p)).flatMap (bS p m k)
theorem LG {β : Type} (f : Nat → β) (q : β → Bool) : ∀ n : Nat, ((zO n).flatMap fun v => if q (f v) = true then [f v] else []) = ((zO n).map f).filter q
 | 0 => rfl
 | n + 1 => by
  rw [xX, vC, LG f q n, y7, xH]
  cases h : q (f n) <;> simp [h]
theorem LZ {β : Type} (g : Nat → List β) (a : Nat) (h : ∀ v, a ≤ v → g v = []) : ∀ n, a ≤ n → (zO n).flatMap g = (zO a).flatMap g
 | 0, hn => by rw [Nat.le_zero.1 hn]
 | n + 1, hn => by
  by_cases h1 : a = n + 1
  ·rw [h1]
  ·rw [xX, vC, LZ g a h n (by omega)]
   simp [h n (by omega)]
theorem WR (p : Aa) (m : Ac) (k : Int) (i v : Nat) : (gS p m k i v).length ≤ 1 := by unfold gS; split <;> simp
theorem Xo (p : Aa) (m : Ac) (k : Int) (i : Nat) : (bS p m k i).length ≤ 6 := by
 unfold bS
 rw [← I7]
 have := Gj (g := fun i' (_ : Nat) => gS p m k i i') (c := 1) (i := 0) (xs := zO 6) fun j x _ => WR p m k i _
 simpa using this
theorem Z4 {p : Aa} (hp : Bf p) (m : Ac) (k : Int) : (kS p m k).length ≤ 72 := by
 have h1 := hp.nv
 have h2 := hp.nt
 unfold kS
 rw [← I7]
 have := Gj (g := fun i' (_ : Nat) => bS p m k i') (c := 6) (i := 0) (xs := zO (Uz p)) fun j x _ => Xo p m k _
 simp only [uF] at this
 have h3 : Uz p ≤ 12 := by unfold Uz; omega
 omega
theorem aP {p : Aa} {m : Ac} {s : Ad} (h : X3 p m s = true) : G9 s = true ∧ Gd p s = true := by
 unfold X3 A7 at h
 split at h
 ·cases h
 ·rename_i h1
  split at h
  ·cases h
  ·rename_i h2
   exact ⟨by simpa using h1, by simpa using h2⟩
theorem NK {p : Aa} {m : Ac} {k : Int} {i v : Nat} (h : X3 p m ⟨k, (i : Int), (v : Int)⟩ = true) : (k = 3 → i < p.fd.length) ∧ (k ≠ 3 → i < p.fb.length) ∧ (k = 1 → (v : Int) < p.fb.getD i 0) ∧ (k ≠ 1 → v = 0) := by
 obtain ⟨h1, h2⟩ := aP h
 obtain ⟨a1, a2, a3, a4, a5⟩ := IJ h1
 obtain ⟨b1, b2, b3⟩ := JJ h2
 simp only [zS] at *
 exact ⟨fun e => by have := b1 e; omega, fun e => by have := b2 e; omega, b3, fun e => by have := a5 e; omega⟩
theorem WI {p : Aa} (hp : Bf p) (m : Ac) : kS p m 1 ++ kS p m 2 ++ kS p m 3 = Gg p m := by
 have hnv := hp.nv
 have hnt := hp.nt
 unfold Gg E5
 rw [xH, xH]
 have e1 : kS p m 1 = (CH Kg 0 p.fb).filter fun s => (A7 p m s).2 == 0 := by
  unfold kS
  rw [LZ (bS p m 1) p.fb.length (fun i hi => by
   unfold bS
   rw [zA2]
   intro v _
   unfold gS
   rw [if_neg]
   intro h
   have := (NK h).2.1 (by decide)
   omega) (Uz p) (by unfold Uz; omega)]
  have e : ∀ (xs : List Int) (i : Nat), (∀ j x, xs[j]? = some x → 1 ≤ x ∧ x ≤ 6 ∧ p.fb.getD (i + j) 0 = x) → ((zO xs.length).flatMap fun j => bS p m 1 (i + j)) = (CH Kg i xs).filter fun s => (A7 p m s).2 == 0 := by
   intro xs
   induction xs with
   | nil => intro i _; rfl
   | cons x xs ih =>
    intro i hx
    rw [yD, List.range_succ_eq_map, List.flatMap_cons, List.flatMap_map, CH, xH]
    have ih' := ih (i + 1) (fun j y hy => by
     have := hx (j + 1) y (by simpa using hy)
     rw [show i + 1 + j = i + (j + 1) from by omega]; exact this)
    have hx0 := hx 0 x rfl
    rw [xJ] at hx0
    congr 1
    ·rw [xJ]
     unfold bS Kg
     rw [LZ (gS p m 1 i) x.toNat (fun v hv => by
      unfold gS
      rw [if_neg]
      intro h
      have := (NK h).2.2.1 rfl
      rw [hx0.2.2] at this
      omega) 6 (by omega)]
     exact LG (fun v => (⟨1, (i : Int), ((v : Nat) : Int)⟩ : Ad)) (X3 p m) x.toNat
    ·rw [← ih']
     congr 1
     funext j
     rw [show i + (j + 1) = i + 1 + j from by omega]
  have := e p.fb 0 (fun j x hx => by
   have h1 := hp.ver x (lM hx)
   refine ⟨h1.1, h1.2, ?_⟩
   rw [zC, lD, hx]; rfl)
  simp only [zC] at this
  exact this
 have e23 : ∀ (k : Int) (n : Nat), k ≠ 1 → n ≤ Uz p → (∀ i v, X3 p m ⟨k, ((i : Nat) : Int), ((v : Nat) : Int)⟩ = true → i < n) → kS p m k = (((zO n).map fun i => (⟨k, ((i : Nat) : Int), 0⟩ : Ad)).filter fun s => (A7 p m s).2 == 0) := by
  intro k n hk hn hi
  unfold kS
  rw [LZ (bS p m k) n (fun i hi' => by
   unfold bS
   rw [zA2]
   intro v _
   unfold gS
   rw [if_neg]
   intro h
   have := hi i v h
   omega) (Uz p) hn]
  show _ = List.filter (X3 p m) _
  rw [← LG (fun i => (⟨k, ((i : Nat) : Int), 0⟩ : Ad)) (X3 p m) n]
  congr 1
  funext i
  unfold bS
  rw [LZ (gS p m k i) 1 (fun v hv => by
   unfold gS
   rw [if_neg]
   intro h
   have := (NK h).2.2.2 hk
   omega) 6 (by omega)]
  simp [gS]
 rw [e1, e23 2 p.fb.length (by decide) (by unfold Uz; omega) (fun i v h => (NK h).2.1 (by decide)), e23 3 p.fd.length (by decide) (by unfold Uz; omega) (fun i v h => (NK h).1 rfl)]
theorem Ti (a b : Nat) : V2 (a : Int) (b : Int) = ((max a b : Nat) : Int) := by
 unfold V2
 omega
theorem RF (N : Nat) (hN : N ≤ 1000000) (h20 : 100 ≤ N) {p : Aa} {m : Ac} (hv : BR p = 0) (hm : BZ p m) : E1 N p m = some (Gg p m) := by
 obtain ⟨hp, _⟩ := Da hv
 have hnv := hp.nv
 have hnt := hp.nt
 have hmx : Uz p ≤ 12 := by unfold Uz; omega
 unfold E1
 have hmix := IZ hv hm
 -- one number
 have inn : ∀ (k : Int) (c0 a : List Ad) (i : Nat) (d0 : List Ad) (j : List Ad → Option (List Ad)), a.length ≤ 1000 →
   Ck N p m (c0, k) (d0, (i : Int)) j N (a, 0) = j (a ++ bS p m k i) := by
  intro k c0 a i d0 j ha
  have := FQ (Ck N p m (c0, k) (d0, (i : Int)) j) (fun a i => (a, i)) (zO 6) j (fun v _ => gS p m k i v) 1 2000
   (fun v x _ => WR _ _ _ _ _)
   (fun n v x a hx hl => by
    have hi := (lI.1 hx).1
    simp only [uF] at hi
    rw [Ck, AB (by simp only; omega)]
    simp only [Bl]
    rw [RT N hN h20 (MJ hm), if_pos hmix]
    simp only [oS, AE (show v < 1000000 by omega)]
    unfold gS X3
    cases hq : (A7 p m ⟨k, (i : Int), (v : Int)⟩).2 == 0
    ·rw [Al, if_neg (by simp), xP]
    ·rw [AQ, if_pos rfl, Au (by simp [C4]; unfold gS X3 at hl; rw [hq] at hl; simp at hl; omega)])
   (fun n a => by rw [Ck, Ay (by simp)]) N a (by simp; omega) (by simp; omega)
  rw [I7] at this
  exact this
 have mid : ∀ (k : Int) (c0 a : List Ad) (j : List Ad → Option (List Ad)), a.length ≤ 500 →
   Ci N p m (c0, k) j N (a, 0) = j (a ++ kS p m k) := by
  intro k c0 a j ha
  have := FQ (Ci N p m (c0, k) j) (fun a i => (a, i)) (zO (Uz p)) j (fun i _ => bS p m k i) 6 900
   (fun v x _ => Xo _ _ _ _)
   (fun n i x a hx hl => by
    have hi := (lI.1 hx).1
    simp only [uF] at hi
    rw [Ci, AB (by simp only; rw [Ti]; unfold Uz at hi; omega)]
    rw [inn k c0 a i a _ (by omega)]
    simp only [AE (show i < 1000000 by omega)])
   (fun n a => by rw [Ci, Ay (by simp [Ti, Uz])]) N a (by simp; omega) (by simp; omega)
  rw [I7] at this
  exact this
 have hk := Z4 hp m
 have go : ∀ (k : Int) (n : Nat) (a : List Ad), k ≤ 3 → 1 ≤ k → a.length ≤ 300 → BA N p m (fun v2 => some v2) (n + 1) (a, k) = BA N p m (fun v2 => some v2) n (a ++ kS p m k, k + 1) := by
  intro k n a h1 h2 ha
  rw [BA, AB h1]
  rw [mid k a a _ (by omega), CS (by omega) (by omega)]
 obtain ⟨N', hN'⟩ : ∃ q, N = q + 4 := ⟨N - 4, by omega⟩
 have e0 : BA N p m (fun v2 => some v2) N ([], 1) = BA N p m (fun v2 => some v2) (N' + 4) ([], 1) := by rw [hN']
 rw [e0, go 1 (N' + 3) [] (by decide) (by decide) (by simp), xN]
 rw [show (1 : Int) + 1 = 2 from rfl, go 2 (N' + 2) _ (by decide) (by decide) (by have := hk 1; omega)]
 rw [show (2 : Int) + 1 = 3 from rfl, go 3 (N' + 1) _ (by decide) (by decide) (by have h1 := hk 1; have h2 := hk 2; rw [zW]; omega)]
 rw [BA, Ay (by simp), WI hp]
end Go.Lift
namespace Go.Lift
open List renaming mem_of_getElem? → lM
open List renaming getElem?_eq_some_iff → lI
namespace Bfs
section
variable {α σ : Type}
def code (rk : σ → Nat) (K : Nat) (w : List σ) : Nat := w.foldl (fun c s => c * K + rk s) 0
theorem JK (rk : σ → Nat) (K : Nat) (w : List σ) (s : σ) : code rk K (w ++ [s]) = code rk K w * K + rk s := by
 simp [code]
theorem TT (rk : σ → Nat) (K : Nat) : code rk K ([] : List σ) = 0 := rfl
def Dig (rk : σ → Nat) (K : Nat) (w : List σ) : Prop := ∀ s, s ∈ w → 1 ≤ rk s ∧ rk s ≤ K
theorem Dig.snoc {rk : σ → Nat} {K : Nat} {w : List σ} {s : σ} (h : Dig rk K w) (hs : 1 ≤ rk s ∧ rk s ≤ K) : Dig rk K (w ++ [s]) := by
 intro x hx; rcases yC.1 hx with h1 | h1
 ·exact h x h1
 ·rw [yS.1 h1]; exact hs
theorem UX {c d K a b : Nat} (h : c < d) (_ : 1 ≤ b) (ha : a ≤ K) : c * K + a < d * K + b := by
 have : c * K + K ≤ d * K := by rw [← yB]; exact zG K h
 omega
theorem Yx {c d K a : Nat} (h : c ≤ d) : c * K + a ≤ d * K + a := Nat.add_le_add_right (zG K h) a
theorem list_snoc {β : Type} (l : List β) : l = [] ∨ ∃ u s, l = u ++ [s] := by
 cases h : l.reverse with
 | nil => exact .inl (List.reverse_eq_nil_iff.1 h)
 | cons s r => exact .inr ⟨r.reverse, s, by rw [← List.reverse_cons, ← h, List.reverse_reverse]⟩
abbrev Nd (α σ : Type) := α × Int × σ
def put [DecidableEq α] (i : Nat) (l : List (Nd α σ)) (q : σ × α) : List (Nd α σ) := if (l.any fun n => decide (n.1 = q.2)) = true then l else l ++ [(q.2, (i : Int), q.1)]
def inner [DecidableEq α] (most i : Nat) : List (σ × α) → List (Nd α σ) → Option (List (Nd α σ))
 | [], l => some l
 | q :: qs, l => if most < (put i l q).length then none else inner most i qs (put i l q)
def go [DecidableEq α] (nxt : α → List (σ × α)) (most : Nat) : Nat → Nat → List (Nd α σ) → Option (List (Nd α σ))
 | 0, _, _ => none
 | n + 1, i, l => match l[i]? with
  | none => some l
  | some nd => (inner most i (nxt nd.1) l).bind fun l' => go nxt most n (i + 1) l'
structure Inv (nxt : α → List (σ × α)) (rk : σ → Nat) (K : Nat) (root : α) (i : Nat) (done : List (σ × α)) (l : List (Nd α σ)) (ws : List (List σ)) : Prop where
 len : ws.length = l.length
 root : ∃ s, l[0]? = some (root, -1, s)
 root' : ws[0]? = some []
 par : ∀ (k : Nat) x f s, 0 < k → l[k]? = some (x, f, s) → ∃ (j : Nat) (y : α) (g : Int) (t : σ) (w : List σ), f = (j : Int) ∧ j < k ∧ l[j]? = some (y, g, t) ∧ (s, x) ∈ nxt y ∧ ws[j]? = some w ∧ ws[k]? = some (w ++ [s]) ∧ (j < i ∨ (j = i ∧ (s, x) ∈ done))
 nodup : ∀ (a b : Nat) x f s g t, l[a]? = some (x, f, s) → l[b]? = some (x, g, t) → a = b
 inc : ∀ (a b : Nat) u w, ws[a]? = some u → ws[b]? = some w → a < b → code rk K u < code rk K w
 dig : ∀ (k : Nat) w, ws[k]? = some w → Dig rk K w
 closed : ∀ (j : Nat) x f s w, l[j]? = some (x, f, s) → ws[j]? = some w → ∀ q, (j < i ∧ q ∈ nxt x) ∨ (j = i ∧ q ∈ done) → ∃ (k : Nat) (f' : Int) (s' : σ) (w' : List σ), l[k]? = some (q.2, f', s') ∧ ws[k]? = some w' ∧ code rk K w' ≤ code rk K (w ++ [q.1])
theorem get_app {β : Type} {l : List β} {y x : β} {k : Nat} (h : (l ++ [y])[k]? = some x) : l[k]? = some x ∨ (k = l.length ∧ x = y) := by
 rcases Nat.lt_trichotomy k l.length with h1 | h1 | h1
 ·rw [yH h1] at h; exact .inl h
 ·subst h1; simp at h; exact .inr ⟨rfl, h.symm⟩
 ·rw [yV (by simp; omega)] at h; cases h
theorem get_app_of {β : Type} {l : List β} {y x : β} {k : Nat} (h : l[k]? = some x) : (l ++ [y])[k]? = some x := by
 rw [yH ((lI.1 h).1)]; exact h
theorem get_app_new {β : Type} {l : List β} {y : β} : (l ++ [y])[l.length]? = some y := by simp
theorem lt_get {β : Type} {l : List β} {k : Nat} {x : β} (h : l[k]? = some x) : k < l.length := (lI.1 h).1
theorem get_ex {β : Type} {l : List β} {k : Nat} (h : k < l.length) : ∃ x, l[k]? = some x := ⟨l[k], yJ h⟩
theorem Y3 [DecidableEq α] {nxt : α → List (σ × α)} {rk : σ → Nat} {K : Nat} {root : α} {i : Nat} {done : List (σ × α)} {l : List (Nd α σ)} {ws : List (List σ)} {x : α} {f : Int} {s : σ} {q : σ × α}
  (hI : Inv nxt rk K root i done l ws) (hx : l[i]? = some (x, f, s)) (hq : q ∈ nxt x) (hd : ∀ r, r ∈ done → rk r.1 < rk q.1) (hr : 1 ≤ rk q.1 ∧ rk q.1 ≤ K) :
  ∃ ws', Inv nxt rk K root i (done ++ [q]) (put i l q) ws' ∧ (∀ (k : Nat) w, ws[k]? = some w → ws'[k]? = some w) ∧ (∀ (k : Nat) n, l[k]? = some n → (put i l q)[k]? = some n) := by
 obtain ⟨w0, hw0⟩ := get_ex (l := ws) (k := i) (by rw [hI.len]; exact lt_get hx)
 unfold put
 by_cases hin : (l.any fun n => decide (n.1 = q.2)) = true
 ·rw [if_pos hin]
  refine ⟨ws, ⟨hI.len, hI.root, hI.root', ?_, hI.nodup, hI.inc, hI.dig, ?_⟩, fun _ _ h => h, fun _ _ h => h⟩
  ·intro k y g t hk hy
   obtain ⟨j, y', g', t', w, h1, h2, h3, h4, h5, h6, h7⟩ := hI.par k y g t hk hy
   exact ⟨j, y', g', t', w, h1, h2, h3, h4, h5, h6, h7.imp id fun h => ⟨h.1, xA _ h.2⟩⟩
  ·intro j y g t w hy hw r hr'
   by_cases hold : (j < i ∧ r ∈ nxt y) ∨ (j = i ∧ r ∈ done)
   ·exact hI.closed j y g t w hy hw r hold
   ·have hjr : j = i ∧ r = q := by
     rcases hr' with h | ⟨h1, h2⟩
     ·exact absurd (.inl h) hold
     ·rcases yC.1 h2 with h3 | h3
      ·exact absurd (.inr ⟨h1, h3⟩) hold
      ·exact ⟨h1, yS.1 h3⟩
    obtain ⟨rfl, rfl⟩ := hjr
    rw [hw0] at hw; cases hw
    obtain ⟨n, hn1, hn2⟩ := xF.1 hin
    obtain ⟨k, hk⟩ := zT.1 hn1
    obtain ⟨nx, nf, ns⟩ := n
    have hn2 : nx = r.2 := of_decide_eq_true hn2
    subst hn2
    obtain ⟨wk, hwk⟩ := get_ex (l := ws) (k := k) (by rw [hI.len]; exact lt_get hk)
    refine ⟨k, nf, ns, wk, hk, hwk, ?_⟩
    rw [JK]
    rcases uJ k with rfl | hk0
    ·rw [hI.root'] at hwk; cases hwk; rw [TT]; omega
    ·obtain ⟨j', y', g', t', w, h1, h2, h3, h4, h5, h6, h7⟩ := hI.par k _ _ _ hk0 hk
     rw [h6] at hwk; cases hwk
     rw [JK]
     have hdg : 1 ≤ rk ns ∧ rk ns ≤ K := hI.dig k _ h6 ns (by simp)
     rcases h7 with h7 | ⟨h7, h8⟩
     ·exact Nat.le_of_lt (UX (hI.inc _ _ _ _ h5 hw0 h7) hr.1 hdg.2)
     ·subst h7; rw [hw0] at h5; cases h5
      have := hd _ h8
      simp only at this; omega
 ·rw [if_neg hin]
  have hnew : ∀ (k : Nat) y g t, l[k]? = some (y, g, t) → y ≠ q.2 := fun k y g t hy e => hin (xF.2 ⟨_, lM hy, decide_eq_true e⟩)
  have hbig : ∀ (k : Nat) u, ws[k]? = some u → code rk K u < code rk K (w0 ++ [q.1]) := by
   intro k u hu
   rw [JK]
   obtain ⟨⟨nx, nf, ns⟩, hk⟩ := get_ex (l := l) (k := k) (by rw [← hI.len]; exact lt_get hu)
   rcases uJ k with rfl | hk0
   ·rw [hI.root'] at hu; cases hu; rw [TT]; omega
   ·obtain ⟨j', y', g', t', w, h1, h2, h3, h4, h5, h6, h7⟩ := hI.par k _ _ _ hk0 hk
    rw [h6] at hu; cases hu
    rw [JK]
    have hdg : 1 ≤ rk ns ∧ rk ns ≤ K := hI.dig k _ h6 ns (by simp)
    rcases h7 with h7 | ⟨h7, h8⟩
    ·exact UX (hI.inc _ _ _ _ h5 hw0 h7) hr.1 hdg.2
    ·subst h7; rw [hw0] at h5; cases h5
     have := hd _ h8
     simp only at this; omega
  refine ⟨ws ++ [w0 ++ [q.1]], ⟨by simp [hI.len], ?_, get_app_of hI.root', ?_, ?_, ?_, ?_, ?_⟩, fun _ _ h => get_app_of h, fun _ _ h => get_app_of h⟩
  ·obtain ⟨s0, hs0⟩ := hI.root; exact ⟨s0, get_app_of hs0⟩
  ·intro k y g t hk hy
   rcases get_app hy with hy | ⟨hk1, hy⟩
   ·obtain ⟨j, y', g', t', w, h1, h2, h3, h4, h5, h6, h7⟩ := hI.par k y g t hk hy
    exact ⟨j, y', g', t', w, h1, h2, get_app_of h3, h4, get_app_of h5, get_app_of h6, h7.imp id fun h => ⟨h.1, xA _ h.2⟩⟩
   ·cases hy
    refine ⟨i, x, f, s, w0, rfl, by rw [hk1]; exact lt_get hx, get_app_of hx, hq, get_app_of hw0, by rw [hk1, ← hI.len]; exact get_app_new, .inr ⟨rfl, by simp⟩⟩
  ·intro a b y g t g' t' ha hb
   rcases get_app ha with ha | ⟨ha1, ha⟩ <;> rcases get_app hb with hb | ⟨hb1, hb⟩
   ·exact hI.nodup a b y g t g' t' ha hb
   ·cases hb; exact absurd rfl (hnew _ _ _ _ ha)
   ·cases ha; exact absurd rfl (hnew _ _ _ _ hb)
   ·omega
  ·intro a b u w ha hb hab
   rcases get_app ha with ha | ⟨ha1, ha⟩ <;> rcases get_app hb with hb | ⟨hb1, hb⟩
   ·exact hI.inc a b u w ha hb hab
   ·rw [hb]; exact hbig _ _ ha
   ·have := lt_get hb; omega
   ·omega
  ·intro k w hw
   rcases get_app hw with hw | ⟨hw1, hw⟩
   ·exact hI.dig k w hw
   ·rw [hw]; exact (hI.dig _ _ hw0).snoc hr
  ·intro j y g t w hy hw r hr'
   rcases get_app hy with hy1 | ⟨hy1, hy2⟩
   ·have hw1 : ws[j]? = some w := by
     rcases get_app hw with h | ⟨h, _⟩
     ·exact h
     ·have := lt_get hy1; rw [← hI.len] at this; omega
    by_cases hold : (j < i ∧ r ∈ nxt y) ∨ (j = i ∧ r ∈ done)
    ·obtain ⟨k, f', s', w', h1, h2, h3⟩ := hI.closed j y g t w hy1 hw1 r hold
     exact ⟨k, f', s', w', get_app_of h1, get_app_of h2, h3⟩
    ·have hjr : j = i ∧ r = q := by
      rcases hr' with h | ⟨h1, h2⟩
      ·exact absurd (.inl h) hold
      ·rcases yC.1 h2 with h3 | h3
       ·exact absurd (.inr ⟨h1, h3⟩) hold
       ·exact ⟨h1, yS.1 h3⟩
     obtain ⟨rfl, rfl⟩ := hjr
     rw [hw0] at hw1; cases hw1
     exact ⟨l.length, _, _, _, get_app_new, by rw [← hI.len]; exact get_app_new, zN _⟩
   ·have := lt_get hx
    rcases hr' with h | h <;> omega
theorem Rb [DecidableEq α] {nxt : α → List (σ × α)} {rk : σ → Nat} {K : Nat} {root : α} {i most : Nat} {x : α} {f : Int} {s : σ} (hP : (nxt x).Pairwise fun a b => rk a.1 < rk b.1) (hD : ∀ q, q ∈ nxt x → 1 ≤ rk q.1 ∧ rk q.1 ≤ K) :
  ∀ (qs done : List (σ × α)) (l l' : List (Nd α σ)) (ws : List (List σ)), done ++ qs = nxt x → Inv nxt rk K root i done l ws → l[i]? = some (x, f, s) → inner most i qs l = some l' →
   ∃ ws', Inv nxt rk K root i (nxt x) l' ws' ∧ (∀ (k : Nat) w, ws[k]? = some w → ws'[k]? = some w) ∧ (∀ (k : Nat) n, l[k]? = some n → l'[k]? = some n)
 | [], done, l, l', ws, he, hI, hx, h => by
  cases h; rw [xP] at he; subst he; exact ⟨ws, hI, fun _ _ h => h, fun _ _ h => h⟩
 | q :: qs, done, l, l', ws, he, hI, hx, h => by
  have hqm : q ∈ nxt x := by rw [← he]; simp
  have hlt : ∀ r, r ∈ done → rk r.1 < rk q.1 := fun r hr => by
   rw [← he] at hP
   exact (uN.1 hP).2.2 r hr q (by simp)
  obtain ⟨ws1, h1, h2, h3⟩ := Y3 hI hx hqm hlt (hD q hqm)
  simp only [inner] at h
  split at h
  ·cases h
  ·obtain ⟨ws2, g1, g2, g3⟩ := Rb hP hD qs (done ++ [q]) _ l' ws1 (by rw [yL]; exact he) h1 (h3 _ _ hx) h
   exact ⟨ws2, g1, fun k w hw => g2 k w (h2 k w hw), fun k n hn => g3 k n (h3 k n hn)⟩
theorem Wp {nxt : α → List (σ × α)} {rk : σ → Nat} {K : Nat} {root : α} {i : Nat} {x : α} {f : Int} {s : σ} {l : List (Nd α σ)} {ws : List (List σ)} (h : Inv nxt rk K root i (nxt x) l ws) (hx : l[i]? = some (x, f, s)) : Inv nxt rk K root (i + 1) [] l ws := by
 refine ⟨h.len, h.root, h.root', ?_, h.nodup, h.inc, h.dig, ?_⟩
 ·intro k y g t hk hy
  obtain ⟨j, y', g', t', w, h1, h2, h3, h4, h5, h6, h7⟩ := h.par k y g t hk hy
  exact ⟨j, y', g', t', w, h1, h2, h3, h4, h5, h6, .inl (by rcases h7 with h7 | h7 <;> omega)⟩
 ·intro j y g t w hy hw r hr
  rcases hr with ⟨h1, h2⟩ | ⟨_, h2⟩
  ·refine h.closed j y g t w hy hw r ?_
   by_cases hj : j < i
   ·exact .inl ⟨hj, h2⟩
   ·have : j = i := by omega
    subst this; rw [hx] at hy; cases hy; exact .inr ⟨rfl, h2⟩
  ·cases h2
theorem inv_go [DecidableEq α] {nxt : α → List (σ × α)} {rk : σ → Nat} {K : Nat} {root : α} {most : Nat} (P : α → Prop) (hP : ∀ x, P x → (nxt x).Pairwise fun a b => rk a.1 < rk b.1) (hD : ∀ x, P x → ∀ q, q ∈ nxt x → (1 ≤ rk q.1 ∧ rk q.1 ≤ K) ∧ P q.2) (hroot : P root) :
  ∀ (n i : Nat) (l l' : List (Nd α σ)) (ws : List (List σ)), i ≤ l.length → Inv nxt rk K root i [] l ws → (∀ (k : Nat) x f s, l[k]? = some (x, f, s) → P x) → go nxt most n i l = some l' → ∃ ws', Inv nxt rk K root l'.length [] l' ws' ∧ (∀ (k : Nat) x f s, l'[k]? = some (x, f, s) → P x)
 | 0, i, l, l', ws, _, _, _, h => by cases h
 | n + 1, i, l, l', ws, hi, hI, hA, h => by
  simp only [go] at h
  split at h
  ·rename_i hn
   cases h
   have : i = l.length := by
    have := List.getElem?_eq_none_iff.1 hn; omega
   subst this
   exact ⟨ws, hI, hA⟩
  ·rename_i nd hn
   obtain ⟨x, f, s⟩ := nd
   cases hin : inner most i (nxt x) l with
   | none => rw [hin] at h; cases h
   | some l1 =>
    rw [hin] at h
    have hx := hA _ _ _ _ hn
    obtain ⟨ws1, h1, h2, h3⟩ := Rb (hP x hx) (fun q hq => (hD x hx q hq).1) (nxt x) [] l l1 ws rfl hI hn hin
    have hA1 : ∀ (k : Nat) y g t, l1[k]? = some (y, g, t) → P y := fun k y g t hy => by
     rcases uJ k with rfl | hk
     ·obtain ⟨s0, hs0⟩ := h1.root; rw [hs0] at hy; cases hy; exact hroot
     ·obtain ⟨j, y', g', t', w, e1, e2, e3, e4, e5, e6, e7⟩ := h1.par k y g t hk hy
      have hj : P y' := by
       have hjl : j < l.length := by rcases e7 with h | h <;> have := lt_get hn <;> omega
       obtain ⟨⟨z, zf, zs⟩, hz⟩ := get_ex hjl
       have := h3 _ _ hz
       rw [e3] at this; cases this
       exact hA _ _ _ _ hz
      exact (hD y' hj _ e4).2
    exact inv_go P hP hD hroot n (i + 1) l1 l' ws1 (by have := lt_get (h3 _ _ hn); omega) (Wp h1 (h3 _ _ hn)) hA1 h
theorem inv_start {nxt : α → List (σ × α)} {rk : σ → Nat} {K : Nat} {root : α} {s : σ} : Inv nxt rk K root 0 [] [(root, -1, s)] [[]] := by
 refine ⟨rfl, ⟨s, rfl⟩, rfl, ?_, ?_, ?_, ?_, ?_⟩
 ·intro k x f s hk h; rw [yV (by simp; omega)] at h; cases h
 ·intro a b x f s g t ha hb; have := lt_get ha; have := lt_get hb; simp at *; omega
 ·intro a b u w ha hb hab; have := lt_get hb; simp at this; omega
 ·intro k w hw
  have := lt_get hw; simp at this; subst this; simp at hw; subst hw
  intro s hs; cases hs
 ·intro j x f s w _ _ q h
  rcases h with h | h
  ·omega
  ·cases h.2
def run (nxt : α → List (σ × α)) (x : α) : List σ → α → Prop
 | [], y => y = x
 | s :: w, y => ∃ z, (s, z) ∈ nxt x ∧ run nxt z w y
theorem GF {nxt : α → List (σ × α)} : ∀ {u w : List σ} {x y : α}, run nxt x (u ++ w) y ↔ ∃ z, run nxt x u z ∧ run nxt z w y
 | [], w, x, y => by simp [run]
 | s :: u, w, x, y => by
  simp only [uQ, run]
  constructor
  ·rintro ⟨z, h1, h2⟩
   obtain ⟨z', h3, h4⟩ := GF.1 h2
   exact ⟨z', ⟨z, h1, h3⟩, h4⟩
  ·rintro ⟨z', ⟨z, h1, h3⟩, h4⟩
   exact ⟨z, h1, GF.2 ⟨z', h3, h4⟩⟩
theorem way_run {nxt : α → List (σ × α)} {rk : σ → Nat} {K : Nat} {root : α} {i : Nat} {l : List (Nd α σ)} {ws : List (List σ)} (h : Inv nxt rk K root i [] l ws) : ∀ (n k : Nat) {x : α} {f : Int} {s : σ} {w : List σ}, k < n → l[k]? = some (x, f, s) → ws[k]? = some w → run nxt root w x
 | 0, k, _, _, _, _, hk, _, _ => by omega
 | n + 1, k, x, f, s, w, hk, hx, hw => by
  rcases uJ k with rfl | hk0
  ·obtain ⟨s0, hs0⟩ := h.root; rw [hs0] at hx; cases hx
   rw [h.root'] at hw; cases hw; rfl
  ·obtain ⟨j, y', g', t', w', e1, e2, e3, e4, e5, e6, e7⟩ := h.par k _ _ _ hk0 hx
   rw [e6] at hw; cases hw
   exact GF.2 ⟨y', way_run h n j (by omega) e3 e5, x, e4, rfl⟩
theorem reach_node {nxt : α → List (σ × α)} {rk : σ → Nat} {K : Nat} {root : α} {l : List (Nd α σ)} {ws : List (List σ)} (h : Inv nxt rk K root l.length [] l ws) : ∀ (n : Nat) {w : List σ} {y : α}, w.length = n → run nxt root w y → ∃ (k : Nat) (f : Int) (s : σ) (u : List σ), l[k]? = some (y, f, s) ∧ ws[k]? = some u ∧ code rk K u ≤ code rk K w
 | 0, w, y, hn, hr => by
  rw [List.length_eq_zero_iff.1 hn] at hr ⊢
  simp only [run] at hr; subst hr
  obtain ⟨s, hs⟩ := h.root
  exact ⟨0, _, _, _, hs, h.root', zN _⟩
 | n + 1, w, y, hn, hr => by
  rcases list_snoc w with rfl | ⟨w', s, rfl⟩
  ·simp at hn
  obtain ⟨z, h1, h2⟩ := GF.1 hr
  simp only [run] at h2
  obtain ⟨z', h2, rfl⟩ := h2
  simp only [zW, zY] at hn
  obtain ⟨k, f, t, u, g1, g2, g3⟩ := reach_node h n (by omega) h1
  obtain ⟨k', f', s', u', e1, e2, e3⟩ := h.closed k z f t u g1 g2 (s, y) (.inl ⟨lt_get g1, h2⟩)
  refine ⟨k', f', s', u', e1, e2, xU e3 ?_⟩
  rw [JK, JK]
  exact Yx g3
theorem Pd [DecidableEq α] {most more i : Nat} (hm : most ≤ more) : ∀ (qs : List (σ × α)) (l l' : List (Nd α σ)), inner most i qs l = some l' → inner more i qs l = some l'
 | [], l, l', h => h
 | q :: qs, l, l', h => by
  simp only [inner] at h ⊢
  split at h
  ·cases h
  ·rw [if_neg (by omega)]; exact Pd hm qs _ _ h
theorem go_more [DecidableEq α] {nxt : α → List (σ × α)} {most more : Nat} (hm : most ≤ more) : ∀ (n m i : Nat) (l l' : List (Nd α σ)), n ≤ m → go nxt most n i l = some l' → go nxt more m i l = some l'
 | 0, m, i, l, l', _, h => by cases h
 | n + 1, m, i, l, l', hnm, h => by
  obtain ⟨m, rfl⟩ : ∃ k, m = k + 1 := ⟨m - 1, by omega⟩
  simp only [go] at h ⊢
  cases hl : l[i]? with
  | none => rw [hl] at h; exact h
  | some nd =>
   rw [hl] at h
   simp only at h ⊢
   cases hin : inner most i (nxt nd.1) l with
   | none => rw [hin] at h; cases h
   | some l1 =>
    rw [hin] at h
    rw [Pd hm _ _ _ hin]
    exact go_more hm n m (i + 1) l1 l' (by omega) h
theorem inner_len [DecidableEq α] {most i : Nat} : ∀ (qs : List (σ × α)) (l l' : List (Nd α σ)), l.length ≤ most → inner most i qs l = some l' → l'.length ≤ most
 | [], l, l', h0, h => by cases h; exact h0
 | q :: qs, l, l', h0, h => by
  simp only [inner] at h
  split at h
  ·cases h
  ·exact inner_len qs _ _ (by omega) h
theorem go_len [DecidableEq α] {nxt : α → List (σ × α)} {most : Nat} : ∀ (n i : Nat) (l l' : List (Nd α σ)), l.length ≤ most → go nxt most n i l = some l' → l'.length ≤ most
 | 0, i, l, l', _, h => by cases h
 | n + 1, i, l, l', h0, h => by
  simp only [go] at h
  split at h
  ·cases h; exact h0
  ·rename_i nd hn
   cases hin : inner most i (nxt nd.1) l with
   | none => rw [hin] at h; cases h
   | some l1 => rw [hin] at h; exact go_len n (i + 1) l1 l' (inner_len _ _ _ h0 hin) h
end
end Bfs
end Go.Lift
namespace Go.Lift
open IntKind renaming wrap → wI
open Option renaming bind_some → oS
open List renaming mem_of_getElem? → lM
open List renaming getElem?_eq_some_iff → lI
open List renaming getD_eq_getElem?_getD → lD
open Go
theorem TU : ∀ {l : List Int}, Z7 l = 0 → ∀ x, x ∈ l → x = 0
 | [], _, x, hx => by cases hx
 | y :: ys, h, x, hx => by
  unfold Z7 at h
  split at h
  ·rename_i hy
   rcases zQ.1 hx with rfl | hx
   ·exact hy
   ·exact TU h x hx
  ·rename_i hy; exact absurd h hy
theorem Qz {a b : Ac} (h : UA a b = 0) : a = b := by
 have := TU h
 have h1 := OZ _ _ (this (JD a.fe b.fe) (by simp))
 have h2 := OZ _ _ (this (JD a.fc b.fc) (by simp))
 have h3 := OZ _ _ (this (JD a.ff b.ff) (by simp))
 cases a; cases b; simp only at h1 h2 h3; subst h1; subst h2; subst h3; rfl
instance dK : DecidableEq Ac := fun a b => if h : UA a b = 0 then isTrue (Qz h) else isFalse (fun e => h (by rw [e]; exact QX b))
theorem WB (a b : Ac) : (UA a b == 0) = decide (a = b) := by
 by_cases h : a = b
 ·rw [decide_eq_true h, h, QX]; rfl
 ·rw [decide_eq_false h]
  exact beq_eq_false_iff_ne.2 fun e => h (Qz e)
def Q0 (p : Aa) (m : Ac) (ss : List Ad) : List (Ad × Ac) := ss.filterMap fun s => if BC p (A7 p m s).1 = true then some (s, (A7 p m s).1) else none
def Jc (p : Aa) (m : Ac) : List (Ad × Ac) := Q0 p m (Gg p m)
def M6 (s : Ad) : Nat := if s.fg = 1 then 1 + 8 * s.fi.toNat + s.fp.toNat else if s.fg = 2 then 60 + s.fi.toNat else 70 + s.fi.toNat
theorem IV {p : Aa} {m : Ac} {s : Ad} (h : s ∈ Gg p m) : s ∈ E5 p ∧ (A7 p m s).2 = 0 := by
 unfold Gg at h
 have := List.mem_filter.1 h
 exact ⟨this.1, by simpa using this.2⟩
theorem UN {p : Aa} {m : Ac} {ss : List Ad} {q : Ad × Ac} : q ∈ Q0 p m ss ↔ q.1 ∈ ss ∧ q.2 = (A7 p m q.1).1 ∧ BC p q.2 = true := by
 unfold Q0
 rw [List.mem_filterMap]
 constructor
 ·rintro ⟨s, h1, h2⟩
  split at h2
  ·rename_i h3; cases h2; exact ⟨h1, rfl, h3⟩
  ·cases h2
 ·rintro ⟨h1, h2, h3⟩
  refine ⟨q.1, h1, ?_⟩
  rw [← h2, if_pos h3]
theorem Nj {p : Aa} {m : Ac} {q : Ad × Ac} : q ∈ Jc p m ↔ q.1 ∈ Gg p m ∧ q.2 = (A7 p m q.1).1 ∧ BC p q.2 = true := UN
theorem UK {p : Aa} {m : Ac} (hp : Bf p) (hm : BZ p m) {q : Ad × Ac} (h : q ∈ Jc p m) : BZ p q.2 ∧ BC p q.2 = true := by
 obtain ⟨h1, h2, h3⟩ := Nj.1 h
 exact ⟨by rw [h2]; exact Mc hp hm (IV h1).2, h3⟩
theorem PF {p : Aa} (hp : Bf p) {s : Ad} (h : s ∈ E5 p) : s.fg ≤ 3 ∧ 1 ≤ M6 s ∧ M6 s ≤ 100 := by
 obtain ⟨h1, h2⟩ := Om hp h
 obtain ⟨a1, a2, a3, a4, a5⟩ := IJ h1
 obtain ⟨b1, b2, b3⟩ := JJ h2
 have hnv := hp.nv
 have hnt := hp.nt
 have hk : s.fg ≤ 3 := by
  unfold E5 at h
  rcases yC.1 h with h | h
  ·rcases yC.1 h with h | h
   ·obtain ⟨j, x, hx, hk⟩ := Hm.1 h
    unfold Kg at hk
    obtain ⟨v, hv, rfl⟩ := zU.1 hk
    exact (by decide : (1 : Int) ≤ 3)
   ·obtain ⟨v, hv, rfl⟩ := zU.1 h
    exact (by decide : (2 : Int) ≤ 3)
  ·obtain ⟨v, hv, rfl⟩ := zU.1 h
   exact (by decide : (3 : Int) ≤ 3)
 refine ⟨hk, ?_⟩
 unfold M6
 by_cases h1 : s.fg = 1
 ·rw [if_pos h1]
  have := b2 (by omega)
  have h3 := b3 h1
  have h4 := (Jd hp (i := s.fi.toNat) (by omega)).2
  omega
 ·rw [if_neg h1]
  by_cases h2 : s.fg = 2
  ·rw [if_pos h2]
   have := b2 (by omega)
   omega
  ·rw [if_neg h2]
   have := b1 (by omega)
   omega
theorem Yk (i : Nat) (n : Int) : (Kg i n).Pairwise fun a b => M6 a < M6 b := by
 unfold Kg
 rw [vW]
 refine List.Pairwise.imp ?_ vH
 intro a b h
 simp [M6]; omega
theorem Yv {p : Aa} (hp : Bf p) : (E5 p).Pairwise fun a b => M6 a < M6 b := by
 have hnv := hp.nv
 have hnt := hp.nt
 have e1 : ∀ (xs : List Int) (i : Nat), (∀ x, x ∈ xs → x ≤ 6) → (CH Kg i xs).Pairwise fun a b => M6 a < M6 b := by
  intro xs
  induction xs with
  | nil => intro i _; exact List.Pairwise.nil
  | cons x xs ih =>
   intro i hx
   rw [CH, uN]
   refine ⟨Yk i x, ih (i + 1) fun y hy => hx y (x8 _ hy), ?_⟩
   intro a ha b hb
   unfold Kg at ha
   obtain ⟨v, hv, rfl⟩ := zU.1 ha
   obtain ⟨j, y, hy, hb⟩ := Hm.1 hb
   unfold Kg at hb
   obtain ⟨w, hw, rfl⟩ := zU.1 hb
   have := hx x (by simp)
   have := yX.1 hv
   simp [M6]; omega
 unfold E5
 rw [uN, uN]
 refine ⟨⟨e1 _ 0 fun x hx => (hp.ver x hx).2, ?_, ?_⟩, ?_, ?_⟩
 ·rw [vW]
  refine List.Pairwise.imp ?_ vH
  intro a b h
  simp [M6]; omega
 ·intro a ha b hb
  obtain ⟨w, hw, rfl⟩ := zU.1 hb
  obtain ⟨j, y, hy, ha⟩ := Hm.1 ha
  unfold Kg at ha
  obtain ⟨v, hv, rfl⟩ := zU.1 ha
  have := yX.1 hv
  have := (hp.ver y (lM hy)).2
  have := (lI.1 hy).1
  simp [M6]; omega
 ·rw [vW]
  refine List.Pairwise.imp ?_ vH
  intro a b h
  simp [M6]; omega
 ·intro a ha b hb
  obtain ⟨w, hw, rfl⟩ := zU.1 hb
  have hw := yX.1 hw
  rcases yC.1 ha with ha | ha
  ·obtain ⟨j, y, hy, ha⟩ := Hm.1 ha
   unfold Kg at ha
   obtain ⟨v, hv, rfl⟩ := zU.1 ha
   have := yX.1 hv
   have := (hp.ver y (lM hy)).2
   have := (lI.1 hy).1
   simp [M6]; omega
  ·obtain ⟨v, hv, rfl⟩ := zU.1 ha
   have := yX.1 hv
   simp [M6]; omega
theorem ZP {p : Aa} {m : Ac} {ss : List Ad} (h : ss.Pairwise fun a b => M6 a < M6 b) : (Q0 p m ss).Pairwise fun a b => M6 a.1 < M6 b.1 := by
 unfold Q0
 rw [List.pairwise_filterMap]
 refine List.Pairwise.imp ?_ h
 intro a b hab x hx y hy
 split at hx
 ·cases hx
  split at hy
  ·cases hy; exact hab
  ·cases hy
 ·cases hx
theorem aT {p : Aa} (hp : Bf p) (m : Ac) : (Jc p m).Pairwise fun a b => M6 a.1 < M6 b.1 := ZP ((Yv hp).filter _)
theorem Zi {p : Aa} {s : Ad} (hv : G9 s = true) (hx : Gd p s = true) (hk : s.fg ≠ 4) : s ∈ E5 p := by
 obtain ⟨a1, a2, a3, a4, a5⟩ := IJ hv
 obtain ⟨b1, b2, b3⟩ := JJ hx
 obtain ⟨k, i, v⟩ := s
 simp only at *
 unfold E5
 obtain ⟨i, rfl⟩ := zJ a3
 by_cases h1 : k = 1
 ·subst h1
  have h2 := b2 (by decide)
  have h3 := b3 rfl
  obtain ⟨v, rfl⟩ := zJ a4
  refine xA _ (xA _ (Hm.2 ⟨i, p.fb.getD i 0, ?_, ?_⟩))
  ·rw [lD]
   have hi : i < p.fb.length := by omega
   simp [hi]
  ·unfold Kg
   refine zU.2 ⟨v, yX.2 ?_, by simp⟩
   simp only [zS] at h3
   omega
 ·have hv0 := a5 h1
  subst hv0
  by_cases h2 : k = 2
  ·subst h2
   have := b2 (by decide)
   exact xA _ (List.mem_append_right _ (zU.2 ⟨i, yX.2 (by omega), rfl⟩))
  ·have h3 : k = 3 := by omega
   subst h3
   have := b1 rfl
   exact List.mem_append_right _ (zU.2 ⟨i, yX.2 (by omega), rfl⟩)
theorem QR {p : Aa} {m x : Ac} {s : Ad} : NY p m s = some x → (s, x) ∈ Jc p m := by
 intro h
 obtain ⟨h1, h2, h3, h4, h5⟩ := VH.1 h
 unfold NY at h
 split at h
 ·rename_i h6
  cases h
  refine Nj.2 ⟨?_, rfl, h6.2.2⟩
  unfold Gg
  exact List.mem_filter.2 ⟨Zi h1 h2 h4, by simpa using h6.1⟩
 ·cases h
theorem VA {p : Aa} (hp : Bf p) {m x : Ac} {s : Ad} (h : (s, x) ∈ Jc p m) : NY p m s = some x := by
 obtain ⟨h1, h2, h3⟩ := Nj.1 h
 have h1 : s ∈ Gg p m := h1
 obtain ⟨h4, h5⟩ := IV h1
 have := (PF hp h4).1
 have h2 : x = (A7 p m s).1 := h2
 have h3 : BC p x = true := h3
 unfold NY
 rw [if_pos ⟨h5, by omega, by rw [← h2]; exact h3⟩, h2]
theorem NX {p : Aa} (hp : Bf p) : ∀ {w : List Ad} {m x : Ac}, PQ p m w = some x ↔ Bfs.run (Jc p) m w x
 | [], m, x => by simp only [PQ, Bfs.run, Option.some.injEq]; exact eq_comm
 | s :: w, m, x => by
  simp only [PQ, Bfs.run]
  constructor
  ·intro h
   cases hs : NY p m s with
   | none => rw [hs] at h; cases h
   | some z => rw [hs] at h; exact ⟨z, QR hs, (NX hp).1 h⟩
  ·rintro ⟨z, h1, h2⟩
   rw [VA hp h1]
   exact (NX hp).2 h2
abbrev JA := Bfs.Nd Ac Ad
def Jv (n : JA) : AD := ⟨n.1, n.2.1, n.2.2⟩
def NG : Ad := ⟨0, 0, 0⟩
theorem XI {N : Nat} {p : Aa} {a b : Ac} (hN : N ≤ 1000000) (h20 : 100 ≤ N) (hp : Bf p) (ha : BZ p a) (hb : BZ p b) : Fd N a b = some (decide (a = b)) := by
 have hnv := hp.nv
 have hnt := hp.nt
 unfold Fd
 rw [S7 hN (by rw [ha.base]; omega) (by rw [ha.next]; omega) (by rw [ha.held]; omega) (by rw [hb.held]; omega) (MJ ha) (MJ hb)]
 simp only [oS]
 rw [WB]
theorem Tv {N : Nat} (hN : N ≤ 1000000) (h20 : 100 ≤ N) {p : Aa} (hp : Bf p) {x : Ac} (hx : BZ p x) {l : List JA} (hl : l.length < N) (hA : ∀ n, n ∈ l → BZ p n.1) :
  ∃ r, Ev N (l.map Jv) x = some r ∧ decide (r < 0) = !(l.any fun n => decide (n.1 = x)) := by
 unfold Ev
 have := BO (Cw N (l.map Jv) x fun _ => some (-1)) l (some (-1)) (fun i n => if n.1 = x then some (i : Int) else none)
  (fun n i nd hnd => by
   have hi := (lI.1 hnd).1
   rw [Cw, AB (by rw [zL]; omega), AU, zD, hnd]
   simp only [yQ, oS, Jv]
   have e := XI hN h20 hp (hA nd (lM hnd)) hx
   rw [show (Ac.mk nd.1.fe nd.1.fc nd.1.ff) = nd.1 from rfl, e, AE (by omega)]
   simp only [oS]
   by_cases h : nd.1 = x
   ·rw [decide_eq_true h, if_pos h]; rfl
   ·rw [decide_eq_false h, if_neg h]; rfl)
  (fun n => by rw [Cw, Ay (by simp)]) N 0 (zK _) (by omega)
 have e' : Cw N (l.map Jv) x (fun _ => some (-1)) N 0 = _ := this
 rw [e', zZ]
 cases hs : CG (fun i (n : JA) => if n.1 = x then some (i : Int) else none) 0 l with
 | none =>
  refine ⟨_, rfl, ?_⟩
  have : (l.any fun n => decide (n.1 = x)) = false := by
   rw [vM]
   intro n hn
   obtain ⟨j, hj⟩ := zT.1 hn
   have := Ff hs j n hj
   split at this
   ·cases this
   ·rename_i h; simpa using h
  rw [this]; rfl
 | some r =>
  refine ⟨_, rfl, ?_⟩
  obtain ⟨j, n, hj, hr⟩ := DW hs
  split at hr
  ·rename_i h
   cases hr
   have : (l.any fun n => decide (n.1 = x)) = true := xF.2 ⟨n, lM hj, decide_eq_true h⟩
   rw [this]
   exact decide_eq_false (by omega)
  ·cases hr
theorem SC {i : Nat} {l : List JA} {q : Ad × Ac} {k : Nat} {n : JA} (h : l[k]? = some n) : (Bfs.put i l q)[k]? = some n := by
 unfold Bfs.put
 split
 ·exact h
 ·exact Bfs.get_app_of h
theorem Vh {i : Nat} {l : List JA} {q : Ad × Ac} {n : JA} (h : n ∈ Bfs.put i l q) : n ∈ l ∨ n.1 = q.2 := by
 unfold Bfs.put at h
 split at h
 ·exact .inl h
 ·rcases yC.1 h with h | h
  ·exact .inl h
  ·rw [yS.1 h]; exact .inr rfl
theorem SA {p : Aa} {m : Ac} {s : Ad} {ss : List Ad} : Q0 p m (s :: ss) = if BC p (A7 p m s).1 = true then (s, (A7 p m s).1) :: Q0 p m ss else Q0 p m ss := by
 unfold Q0
 rw [List.filterMap_cons]
 split <;> rename_i h
 ·split at h
  ·cases h
  ·rename_i h2; rw [if_neg h2]
 ·split at h
  ·rename_i h2; cases h; rw [if_pos h2]
  ·cases h
theorem KU {p : Aa} {most i : Nat} : ∀ {qs : List (Ad × Ac)} {l l' : List JA}, Bfs.inner most i qs l = some l' → (∀ q, q ∈ qs → BZ p q.2 ∧ BC p q.2 = true) → (∀ n, n ∈ l → BZ p n.1 ∧ BC p n.1 = true) → (∀ n, n ∈ l' → BZ p n.1 ∧ BC p n.1 = true) ∧ (∀ (k : Nat) n, l[k]? = some n → l'[k]? = some n)
 | [], l, l', h, _, hA => by cases h; exact ⟨hA, fun _ _ h => h⟩
 | q :: qs, l, l', h, hq, hA => by
  simp only [Bfs.inner] at h
  split at h
  ·cases h
  ·obtain ⟨h1, h2⟩ := KU h (fun q hq' => hq q (x8 _ hq')) (fun n hn => by
    rcases Vh hn with h | h
    ·exact hA n h
    ·rw [h]; exact hq q (by simp))
   exact ⟨h1, fun k n hn => h2 k n (SC hn)⟩
theorem RL (N : Nat) (hN : N ≤ 1000000) (h20 : 100 ≤ N) {p : Aa} {m : Ac} (hp : Bf p) (hm : BZ p m) {s : Ad} (hs : s ∈ Gg p m) : ∃ b, CY N p m s = some ((A7 p m s).1, b) := by
 obtain ⟨h1, h2⟩ := IV hs
 obtain ⟨h3, h4⟩ := Om hp h1
 rw [NB N hN h20 hp hm h3 h4]
 unfold A7 at h2 ⊢
 rw [h3, h4, if_neg (by simp), if_neg (by simp)] at h2 ⊢
 cases h : Gk p m s with
 | none => rw [h] at h2; cases h2
 | some x => exact ⟨true, rfl⟩
theorem K8 {N : Nat} (hN : N ≤ 1000000) (h20 : 100 ≤ N) {p : Aa} (hp : Bf p) {m : Ac} (hm : BZ p m) {f : Int} {t : Ad} {most i : Nat} (hmo : most ≤ 20000) {v1 : List AD × Int} (hv1 : v1.2 = (i : Int)) (ss : List Ad) (hss : ∀ s, s ∈ ss → s ∈ Gg p m) (hsl : ss.length ≤ 1000) (j : List AD → Option (List AD × Bool)) :
  ∀ (n k : Nat) (l : List JA), k ≤ ss.length → ss.length - k < n → l[i]? = some (m, f, t) → (∀ n, n ∈ l → BZ p n.1 ∧ BC p n.1 = true) → l.length ≤ most → (l.length < N ∧ most < N ∨ ∃ l', Bfs.inner most i (Q0 p m (ss.drop k)) l = some l' ∧ l'.length < N) →
   BV N p (most : Int) v1 ss j n (l.map Jv, (k : Int)) = match Bfs.inner most i (Q0 p m (ss.drop k)) l with
    | none => some ([], false)
    | some l' => j (l'.map Jv)
 | 0, k, l, _, h, _, _, _, _ => by omega
 | n + 1, k, l, hk, h, hi, hA, hlm, hfu => by
  by_cases h1 : k < ss.length
  ·have hs : ss[k]? = some ss[k] := by simp [h1]
   have hsm := hss _ (lM hs)
   have hl1 : l.length < N := by
    rcases hfu with h | ⟨l', h, h2⟩
    ·exact h.1
    ·have hk := (KU (p := p) h (fun q hq => by
      obtain ⟨g1, g2, g3⟩ := UN.1 hq
      exact ⟨by rw [g2]; exact Mc hp hm (IV (hss _ (List.mem_of_mem_drop g1))).2, g3⟩) hA).2
     by_cases h0 : l.length = 0
     ·omega
     ·have := hk (l.length - 1) l[l.length - 1] (by simp)
      have := (lI.1 this).1
      omega
   rw [BV, AB (by simp only; omega)]
   simp only [Bl, hv1, AU, zD, hi, hs, yQ, oS, Jv]
   obtain ⟨b, ea⟩ := RL N hN h20 hp hm hsm
   rw [show (Ac.mk m.fe m.fc m.ff) = m from rfl, ea]
   simp only [oS]
   have hxo := Mc hp hm (IV hsm).2
   rw [IS N p _ hN h20 hp hxo]
   simp only [oS]
   rw [Gp hs, SA] at hfu ⊢
   cases hr : BC p (A7 p m ss[k]).1
   ·rw [hr] at hfu
    rw [Al, Al, if_neg (by simp), Ay (by rw [zL]; omega), AE (by omega)]
    rw [if_neg (by simp)] at hfu
    exact K8 hN h20 hp hm hmo hv1 ss hss hsl j n (k + 1) l (by omega) (by omega) hi hA hlm hfu
   ·rw [hr] at hfu
    rw [AQ, if_pos rfl]
    rw [if_pos rfl] at hfu
    obtain ⟨r, er, hr2⟩ := Tv hN h20 hp hxo hl1 (fun n hn => (hA n hn).1)
    have er' : Ev N (l.map fun n => AD.mk n.1 n.2.1 n.2.2) (A7 p m ss[k]).1 = some r := er
    have em : (l.map fun n : JA => AD.mk n.1 n.2.1 n.2.2) = l.map Jv := rfl
    rw [← em, er']
    simp only [oS]
    rw [hr2]
    have hput : Bfs.put i l (ss[k], (A7 p m ss[k]).1) = if (l.any fun n => decide (n.1 = (A7 p m ss[k]).1)) = true then l else l ++ [((A7 p m ss[k]).1, (i : Int), ss[k])] := rfl
    simp only [Bfs.inner] at hfu ⊢
    have hA2 : ∀ n, n ∈ Bfs.put i l (ss[k], (A7 p m ss[k]).1) → BZ p n.1 ∧ BC p n.1 = true := fun n hn => by
     rcases Vh hn with h | h
     ·exact hA n h
     ·rw [h]; exact ⟨hxo, hr⟩
    have hi2 : (Bfs.put i l (ss[k], (A7 p m ss[k]).1))[i]? = some (m, f, t) := SC hi
    have main : (AO (decide ((most : Int) < (((Bfs.put i l (ss[k], (A7 p m ss[k]).1)).map Jv).length : Int))) (some (([] : List AD), false)) (BV N p (most : Int) v1 ss j n ((Bfs.put i l (ss[k], (A7 p m ss[k]).1)).map Jv, (wI .i64 ((k : Int) + 1))))) =
      match (if most < (Bfs.put i l (ss[k], (A7 p m ss[k]).1)).length then none else Bfs.inner most i (Q0 p m (ss.drop (k + 1))) (Bfs.put i l (ss[k], (A7 p m ss[k]).1))) with
      | none => some ([], false)
      | some l' => j (l'.map Jv) := by
     by_cases hb : most < (Bfs.put i l (ss[k], (A7 p m ss[k]).1)).length
     ·rw [if_pos hb, AB (by rw [zL]; omega)]
     ·rw [if_neg hb] at hfu
      rw [if_neg hb, Ay (by rw [zL]; omega), AE (by omega)]
      exact K8 hN h20 hp hm hmo hv1 ss hss hsl j n (k + 1) _ (by omega) (by omega) hi2 hA2 (by omega) (hfu.imp (fun h => ⟨by omega, h.2⟩) id)
    cases hin : (l.any fun n => decide (n.1 = (A7 p m ss[k]).1))
    ·rw [hin] at hput
     rw [yU, AQ, Au (by simp [C4]; omega)]
     rw [if_neg (by simp)] at hput
     rw [hput, y7] at main
     rw [hput]
     exact main
    ·rw [hin] at hput
     rw [yA, Al]
     rw [if_pos rfl] at hput
     rw [hput] at main
     rw [hput]
     exact main
  ·have : k = ss.length := by omega
   subst this
   rw [BV, Ay (by simp), yO (zN _)]
   rfl
theorem UY {p : Aa} {m : Ac} (hm : BZ p m) (hr : BC p m = true) : ∀ n, n ∈ ([(m, -1, NG)] : List JA) → BZ p n.1 ∧ BC p n.1 = true := fun n hn => by
 rw [yS.1 hn]; exact ⟨hm, hr⟩
theorem QM {p : Aa} (hp : Bf p) (m : Ac) : (Gg p m).length ≤ 54 := xU (List.length_filter_le _ _) (Vl hp)
theorem LF {N : Nat} (hN : N ≤ 1000000) (h20 : 100 ≤ N) {p : Aa} (hv : BR p = 0) {most : Nat} (hmo : most ≤ 20000) (j : List AD → Option (List AD × Bool)) :
  ∀ (n i : Nat) (l : List JA), i ≤ l.length → (∀ n, n ∈ l → BZ p n.1 ∧ BC p n.1 = true) → l.length ≤ most → (most < N ∧ most < n + i ∨ ∃ l', Bfs.go (Jc p) most n i l = some l' ∧ l'.length < N) →
   BX N p (most : Int) j n (l.map Jv, (i : Int)) = match Bfs.go (Jc p) most n i l with
    | none => some ([], false)
    | some l' => j (l'.map Jv)
 | 0, i, l, hi, _, hlm, hfu => by
  rcases hfu with h | ⟨l', h, _⟩
  ·omega
  ·cases h
 | n + 1, i, l, hi, hA, hlm, hfu => by
  obtain ⟨hp, _⟩ := Da hv
  simp only [Bfs.go] at hfu ⊢
  rw [BX]
  by_cases h1 : i < l.length
  ·obtain ⟨⟨m, f, t⟩, hx⟩ := Bfs.get_ex h1
   have hm := (hA _ (lM hx)).1
   rw [hx] at hfu ⊢
   simp only at hfu ⊢
   rw [AB (by rw [zL]; omega)]
   simp only [AU, zD, hx, yQ, oS, Jv]
   rw [show (Ac.mk m.fe m.fc m.ff) = m from rfl, RF N hN h20 hv hm]
   simp only [oS]
   have hgo : Q0 p m ((Gg p m).drop 0) = Jc p m := rfl
   have hsl := QM hp m
   have e := K8 hN h20 hp hm hmo (v1 := (l.map Jv, (i : Int))) rfl (Gg p m) (fun s hs => hs) (by omega) (fun (v7 : (List AD)) =>
    BX N p (most : Int) j n (v7, (wI .i64 ((i : Int) + 1)))) N 0 l (zK _) (by omega) hx hA hlm (by
     rcases hfu with ⟨g1, g2⟩ | ⟨l', h, hl'⟩
     ·exact .inl ⟨by omega, g1⟩
     ·right
      rw [hgo]
      cases hin : Bfs.inner most i (Jc p m) l with
      | none => rw [hin] at h; cases h
      | some l1 =>
       rw [hin] at h
       refine ⟨l1, rfl, ?_⟩
       have : l1.length ≤ l'.length := by
        have : ∀ (n i : Nat) (l l' : List JA), Bfs.go (Jc p) most n i l = some l' → l.length ≤ l'.length := by
         intro n
         induction n with
         | zero => intro i l l' h; cases h
         | succ n ih =>
          intro i l l' h
          simp only [Bfs.go] at h
          split at h
          ·cases h; exact zN _
          ·rename_i nd _
           cases hin : Bfs.inner most i (Jc p nd.1) l with
           | none => rw [hin] at h; cases h
           | some l1 =>
            rw [hin] at h
            refine xU ?_ (ih _ _ _ h)
            have : ∀ (qs : List (Ad × Ac)) (l l1 : List JA), Bfs.inner most i qs l = some l1 → l.length ≤ l1.length := by
             intro qs
             induction qs with
             | nil => intro l l1 h; cases h; exact zN _
             | cons q qs ih =>
              intro l l1 h
              simp only [Bfs.inner] at h
              split at h
              ·cases h
              ·refine xU ?_ (ih _ _ h)
               unfold Bfs.put; split
               ·exact zN _
               ·simp
            exact this _ _ _ hin
        exact this _ _ _ _ h
       omega)
   have e' : BV N p (most : Int) (l.map Jv, (i : Int)) (Gg p m) (fun (v7 : (List AD)) => BX N p (most : Int) j n (v7, (wI .i64 ((i : Int) + 1)))) N (l.map Jv, 0) = _ := e
   rw [e', hgo]
   cases hin : Bfs.inner most i (Jc p m) l with
   | none => rfl
   | some l1 =>
    rw [hin] at hfu
    obtain ⟨k1, k2⟩ := KU hin (fun q hq => UK hp hm hq) hA
    have := (lI.1 (k2 _ _ hx)).1
    simp only [oS] at hfu ⊢
    rw [AE (by omega)]
    exact LF hN h20 hv hmo j n (i + 1) l1 (by omega) k1 (Bfs.inner_len _ _ _ hlm hin) (hfu.imp (fun h => ⟨h.1, by omega⟩) id)
  ·have hi' : i = l.length := by omega
   subst hi'
   rw [yV (zN _)]
   rw [Ay (by simp)]
def IL (p : Aa) (m : Ac) (most n : Nat) : Option (List JA) := Bfs.go (Jc p) most n 0 [(m, -1, NG)]
theorem Nz {N : Nat} (hN : N ≤ 1000000) (h20 : 100 ≤ N) {p : Aa} (hv : BR p = 0) {m : Ac} (hm : BZ p m) (hr : BC p m = true) {most : Nat} (hmo : most ≤ 20000) (h1 : 1 ≤ most) (hfu : most < N ∨ ∃ l', IL p m most N = some l' ∧ l'.length < N) :
  CZ N p m (most : Int) = some (match IL p m most N with
   | none => ([], false)
   | some l' => (l'.map Jv, true)) := by
 unfold CZ
 have e := LF hN h20 hv hmo (fun (v2 : (List AD)) => some (v2, true)) N 0 [(m, -1, NG)] (zK _) (UY hm hr) h1 (hfu.imp (fun h => ⟨h, by omega⟩) id)
 have e' : BX N p (most : Int) (fun (v2 : (List AD)) => some (v2, true)) N (([(AD.mk m ((-1)) ((Ad.mk 0 0 0)))] : List AD), 0) = _ := e
 rw [e']
 unfold IL
 cases Bfs.go (Jc p) most N 0 [(m, -1, NG)] <;> rfl
structure Y4 (p : Aa) (m : Ac) (l : List JA) (ws : List (List Ad)) : Prop where
 inv : Bfs.Inv (Jc p) M6 100 m l.length [] l ws
 ok : ∀ (k : Nat) x f s, l[k]? = some (x, f, s) → BZ p x ∧ BC p x = true
theorem Um {p : Aa} (hp : Bf p) {m : Ac} (hm : BZ p m) (hr : BC p m = true) {most n : Nat} {l : List JA} (h : IL p m most n = some l) : ∃ ws, Y4 p m l ws := by
 obtain ⟨ws, h1, h2⟩ := Bfs.inv_go (rk := M6) (K := 100) (fun x => BZ p x ∧ BC p x = true) (fun x _ => aT hp x) (fun x hx q hq => by
  refine ⟨?_, UK hp hx.1 hq⟩
  exact (PF hp (IV (Nj.1 hq).1).1).2) ⟨hm, hr⟩ n 0 [(m, -1, NG)] l [[]] (zK _) Bfs.inv_start (fun k x f s hk => by
   have := Bfs.lt_get hk
   simp at this; subst this
   cases hk; exact ⟨hm, hr⟩) h
 exact ⟨ws, h1, h2⟩
theorem YH {p : Aa} (hp : Bf p) {m : Ac} {l : List JA} {ws : List (List Ad)} (h : Y4 p m l ws) {k : Nat} {x : Ac} {f : Int} {s : Ad} {w : List Ad} (hx : l[k]? = some (x, f, s)) (hw : ws[k]? = some w) : PQ p m w = some x :=
 (NX hp).2 (Bfs.way_run h.inv (k + 1) k (Nat.lt_succ_self k) hx hw)
theorem Q2 {p : Aa} (hp : Bf p) {m x : Ac} {l : List JA} {ws : List (List Ad)} (h : Y4 p m l ws) {w : List Ad} (hw : PQ p m w = some x) : ∃ (k : Nat) (f : Int) (s : Ad) (u : List Ad), l[k]? = some (x, f, s) ∧ ws[k]? = some u ∧ Bfs.code M6 100 u ≤ Bfs.code M6 100 w :=
 Bfs.reach_node h.inv w.length rfl ((NX hp).1 hw)
theorem RV {p : Aa} {m : Ac} {l : List JA} {ws : List (List Ad)} (h : Y4 p m l ws) : ∀ (n k : Nat) {w : List Ad}, k < n → ws[k]? = some w → w.length ≤ k
 | 0, k, _, hk, _ => by omega
 | n + 1, k, w, hk, hw => by
  obtain ⟨⟨x, f, s⟩, hx⟩ := Bfs.get_ex (l := l) (k := k) (by rw [← h.inv.len]; exact Bfs.lt_get hw)
  rcases uJ k with rfl | hk0
  ·rw [h.inv.root'] at hw; cases hw; exact zN _
  ·obtain ⟨j, y', g', t', w', e1, e2, e3, e4, e5, e6, e7⟩ := h.inv.par k _ _ _ hk0 hx
   rw [e6] at hw; cases hw
   have := RV h n j (by omega) e5
   simp; omega
theorem NO {p : Aa} {m : Ac} {l : List JA} {ws : List (List Ad)} (h : Y4 p m l ws) (N : Nat) (j : List Ad → Option (List Ad)) : ∀ (n k : Nat) {w acc : List Ad}, k < n → ws[k]? = some w → acc.length + k ≤ 20000 →
  DU N (l.map Jv) j n ((k : Int), acc) = j (w ++ acc)
 | 0, k, _, _, hk, _, _ => by omega
 | n + 1, k, w, acc, hk, hw, ha => by
  obtain ⟨⟨x, f, s⟩, hx⟩ := Bfs.get_ex (l := l) (k := k) (by rw [← h.inv.len]; exact Bfs.lt_get hw)
  rw [DU]
  simp only [AU, zD, hx, yQ, oS, Jv]
  rcases uJ k with rfl | hk0
  ·obtain ⟨s0, hs0⟩ := h.inv.root; rw [hs0] at hx; cases hx
   rw [h.inv.root'] at hw; cases hw
   rw [Ay (by decide)]; rfl
  ·obtain ⟨i, y', g', t', w', e1, e2, e3, e4, e5, e6, e7⟩ := h.inv.par k _ _ _ hk0 hx
   rw [e6] at hw; cases hw
   subst e1
   rw [AB (vV i), Au (by simp [C4]; omega)]
   have := NO h N j n i (w := w') (acc := [Ad.mk s.fg s.fi s.fp] ++ acc) (by omega) e5 (by simp; omega)
   rw [this, yL]
def K9 (p : Aa) (l : List JA) : Option Nat := CG (fun i (n : JA) => if Ip p n.1 = true then some i else none) 0 l
theorem Q4 {p : Aa} {l : List JA} {k : Nat} (h : K9 p l = some k) : (∃ x f s, l[k]? = some (x, f, s) ∧ Ip p x = true) ∧ ∀ j x f s, j < k → l[j]? = some (x, f, s) → Ip p x = false := by
 have : ∀ (xs : List JA) (i k : Nat), CG (fun i (n : JA) => if Ip p n.1 = true then some i else none) i xs = some (i + k) → (∃ x f s, xs[k]? = some (x, f, s) ∧ Ip p x = true) ∧ ∀ j x f s, j < k → xs[j]? = some (x, f, s) → Ip p x = false := by
  intro xs
  induction xs with
  | nil => intro i k h; cases h
  | cons n xs ih =>
   intro i k h
   rw [FP] at h
   cases hg : Ip p n.1
   ·rw [hg] at h
    simp only [Bool.false_eq_true, if_false] at h
    cases k with
    | zero =>
     exfalso
     obtain ⟨j, x, _, hj⟩ := DW h
     split at hj
     ·have := Option.some.inj hj; omega
     ·cases hj
    | succ k =>
     obtain ⟨⟨x, f, s, h1, h2⟩, h3⟩ := ih (i + 1) k (by rw [show i + 1 + k = i + (k + 1) from by omega]; exact h)
     refine ⟨⟨x, f, s, by simpa using h1, h2⟩, ?_⟩
     intro j x f s hj hx
     cases j with
     | zero => simp at hx; subst hx; exact hg
     | succ j => exact h3 j x f s (by omega) (by simpa using hx)
   ·rw [hg] at h
    simp only [if_true, Option.some.injEq] at h
    have : k = 0 := by omega
    subst this
    exact ⟨⟨n.1, n.2.1, n.2.2, rfl, hg⟩, fun j _ _ _ hj => by omega⟩
 exact this l 0 k (by rw [zC]; exact h)
theorem Vy {p : Aa} {l : List JA} (h : K9 p l = none) {k : Nat} {x : Ac} {f : Int} {s : Ad} (hx : l[k]? = some (x, f, s)) : Ip p x = false := by
 have := Ff h k _ hx
 split at this
 ·cases this
 ·rename_i h; simpa using h
def MD (p : Aa) (l : List JA) (ws : List (List Ad)) : List Ad × Int := match K9 p l with
 | none => ([], 14)
 | some k => (ws.getD k [], 0)
theorem SG {N : Nat} (hN : N ≤ 1000000) (h20 : 100 ≤ N) {p : Aa} (hv : BR p = 0) {m : Ac} (hm : BZ p m) (hr : BC p m = true) {l : List JA} (hs : IL p m 20000 N = some l) (hl : l.length < N) {ws : List (List Ad)} (h : Y4 p m l ws) :
  Ey N p m = some (MD p l ws) := by
 obtain ⟨hp, _⟩ := Da hv
 have hl2 : l.length ≤ 20000 := Bfs.go_len _ _ _ _ (by simp) hs
 unfold Ey
 rw [JB N p m hN (by omega), IZ hv hm]
 simp only [oS, bne_self_eq_false, Al]
 rw [IS N p m hN h20 hp hm, hr]
 simp only [oS, yA, Al]
 have e := Nz hN h20 hv hm hr (most := 20000) (by omega) (by omega) (.inr ⟨l, hs, hl⟩)
 rw [hs] at e
 have e' : CZ N p m 20000 = some (l.map Jv, true) := e
 rw [e']
 simp only [oS, yA, Al]
 have := BO (Cr N p (l.map Jv, true) fun _ => some (([] : List Ad), 14)) l (some ([], 14)) (fun i n => (if Ip p n.1 = true then some i else none).map fun k => (ws.getD k [], 0))
  (fun n i nd hnd => by
   have hi := (lI.1 hnd).1
   rw [Cr, AB (by simp only [zL]; omega)]
   simp only [AU, zD, hnd, yQ, oS, Jv]
   have hok := (h.ok _ _ _ _ (show l[i]? = some (nd.1, nd.2.1, nd.2.2) from hnd)).1
   rw [show (Ac.mk nd.1.fe nd.1.fc nd.1.ff) = nd.1 from rfl, SS N p nd.1 hN h20 (MJ hok), AE (by omega)]
   simp only [oS]
   cases hg : Ip p nd.1
   ·rfl
   ·rw [AQ, if_pos rfl]
    obtain ⟨w, hw⟩ := Bfs.get_ex (l := ws) (k := i) (by rw [h.inv.len]; exact hi)
    have e2 := NO h N (fun v2 => some v2) N i (w := w) (acc := []) (by omega) hw (by simp; omega)
    unfold Gy
    rw [e2, xP]
    simp only [oS, yQ, BT]
    rw [lD, hw]; rfl)
  (fun n => by rw [Cr, Ay (by simp)]) N 0 (zK _) (by omega)
 have e3 : Cr N p (l.map Jv, true) (fun _ => some (([] : List Ad), 14)) N 0 = _ := this
 rw [e3, zZ, LJ]
 unfold MD K9
 cases CG (fun i (n : JA) => if Ip p n.1 = true then some i else none) 0 l <;> rfl
def EH (n : AF) : JA := (n.fq, n.fh, n.fu)
def JT (x : Ac) : List (Ac × Int) → Option Int
 | [] => none
 | e :: r => if x = e.1 then some e.2 else JT x r
def Mw (q : List (Ac × Int)) : List (ByteArray × Int) := q.map fun e => (CL (L1 e.1), e.2)
theorem Yt {p : Aa} (hp : Bf p) {x y : Ac} (hx : BZ p x) (hy : BZ p y) : (CL (L1 x) == CL (L1 y)) = decide (x = y) := by
 by_cases h : x = y
 ·rw [decide_eq_true h, h, RQ]
 ·rw [decide_eq_false h]
  cases hb : CL (L1 x) == CL (L1 y)
  ·rfl
  ·exact absurd (YG hp hx hy hb) h
theorem PN {p : Aa} (hp : Bf p) {x : Ac} (hx : BZ p x) : ∀ {q : List (Ac × Int)}, (∀ e, e ∈ q → BZ p e.1) → IG (CL (L1 x)) (Mw q) = JT x q
 | [], _ => rfl
 | e :: q, h => by
  have ih := PN hp hx (q := q) fun e he => h e (x8 _ he)
  show (if (CL (L1 x) == CL (L1 e.1)) = true then some e.2 else IG (CL (L1 x)) (Mw q)) = if x = e.1 then some e.2 else JT x q
  rw [Yt hp hx (h e (by simp)), ih]
  by_cases h : x = e.1
  ·rw [decide_eq_true h, if_pos rfl, if_pos h]
  ·rw [decide_eq_false h, if_neg (by simp), if_neg h]
theorem LW (x y : Ac) (r : Int) : ∀ q : List (Ac × Int), JT x (q ++ [(y, r)]) = match JT x q with
  | some v => some v
  | none => if x = y then some r else none
 | [] => rfl
 | e :: q => by
  simp only [uQ, JT]
  by_cases h : x = e.1
  ·rw [if_pos h, if_pos h]
  ·rw [if_neg h, if_neg h, LW x y r q]
theorem W1 (q : List (Ac × Int)) (x : Ac) (r : Int) : Mw (q ++ [(x, r)]) = Mw q ++ [(CL (L1 x), r)] := by simp [Mw]
structure OU (p : Aa) (q : List (Ac × Int)) (l : List JA) : Prop where
 ok : ∀ e, e ∈ q → BZ p e.1
 none : ∀ x, BZ p x → JT x q = none → ∀ n, n ∈ l → n.1 ≠ x
 some : ∀ x r, BZ p x → JT x q = some r → (r = -1 ∧ BC p x = false) ∨ ∃ (j : Nat) (f : Int) (s : Ad), r = (j : Int) ∧ l[j]? = some (x, f, s)
structure MO (p : Aa) (i : Nat) (done : List (Ad × Ac)) (pl : List AF) : Prop where
 to : ∀ (b : Nat) nd, pl[b]? = some nd → ∀ r, r ∈ nd.fc → ∃ s y, ((b < i ∧ (s, y) ∈ Jc p nd.fq) ∨ (b = i ∧ (s, y) ∈ done)) ∧ ∃ (a : Nat) (f : Int) (t : Ad), r = (a : Int) ∧ (pl.map EH)[a]? = some (y, f, t)
 of : ∀ (b : Nat) nd, pl[b]? = some nd → ∀ s y, ((b < i ∧ (s, y) ∈ Jc p nd.fq) ∨ (b = i ∧ (s, y) ∈ done)) → ∃ (a : Nat) (f : Int) (t : Ad), ((a : Nat) : Int) ∈ nd.fc ∧ (pl.map EH)[a]? = some (y, f, t)
def Mo (pl : List AF) (i : Nat) (nd : AF) (r : Int) : List AF := if 0 ≤ r then pl.set i ⟨nd.fq, nd.fh, nd.fu, nd.fc ++ [r]⟩ else pl
theorem Np {pl : List AF} {i : Nat} {nd : AF} {r : Int} (h : pl[i]? = some nd) : (Mo pl i nd r).map EH = pl.map EH := by
 unfold Mo
 split
 ·apply List.ext_getElem?
  intro k
  rw [zD, zD, xB]
  by_cases hk : i = k
  ·subst hk
   rw [if_pos rfl, if_pos (Bfs.lt_get h), h]; rfl
  ·rw [if_neg hk]
 ·rfl
theorem Mh {pl : List AF} {i : Nat} {nd : AF} {r : Int} (h : pl[i]? = some nd) {b : Nat} {nb : AF} (hb : (Mo pl i nd r)[b]? = some nb) : (b ≠ i ∧ pl[b]? = some nb) ∨ (b = i ∧ nb.fq = nd.fq ∧ nb.fh = nd.fh ∧ nb.fu = nd.fu ∧ nb.fc = if 0 ≤ r then nd.fc ++ [r] else nd.fc) := by
 unfold Mo at hb
 split at hb
 ·rename_i hr
  rw [xB] at hb
  by_cases hk : i = b
  ·subst hk
   rw [if_pos rfl, if_pos (Bfs.lt_get h)] at hb
   cases hb
   exact .inr ⟨rfl, rfl, rfl, rfl, by rw [if_pos hr]⟩
  ·rw [if_neg hk] at hb
   exact .inl ⟨fun e => hk e.symm, hb⟩
 ·rename_i hr
  by_cases hk : b = i
  ·subst hk; rw [h] at hb; cases hb
   exact .inr ⟨rfl, rfl, rfl, rfl, by rw [if_neg hr]⟩
  ·exact .inl ⟨hk, hb⟩
theorem SX {p : Aa} {i : Nat} {done : List (Ad × Ac)} {pl pl2 : List AF} {nd : AF} {s : Ad} {x : Ac} {a : Nat} {f : Int} {t : Ad} (h : MO p i done pl)
  (hkeep : ∀ (b : Nat) nb, pl2[b]? = some nb → pl[b]? = some nb ∨ (i < b ∧ nb.fc = [])) (hk2 : ∀ (b : Nat) n, (pl.map EH)[b]? = some n → (pl2.map EH)[b]? = some n) (hi : pl2[i]? = some nd) (ha : (pl2.map EH)[a]? = some (x, f, t)) : MO p i (done ++ [(s, x)]) (Mo pl2 i nd (a : Int)) := by
 constructor
 ·intro b nb hb r hr
  rw [Np hi]
  rcases Mh hi hb with ⟨h1, h2⟩ | ⟨h1, h2, h3, h4, h5⟩
  ·rcases hkeep b nb h2 with h3 | ⟨h3, h4⟩
   ·obtain ⟨s', y, g1, a', f', t', g2, g3⟩ := h.to b nb h3 r hr
    refine ⟨s', y, ?_, a', f', t', g2, hk2 _ _ g3⟩
    rcases g1 with g1 | g1
    ·exact .inl g1
    ·exact absurd g1.1 h1
   ·rw [h4] at hr; cases hr
  ·subst h1
   rw [h5, if_pos (vV a)] at hr
   rcases yC.1 hr with hr | hr
   ·rcases hkeep b nd hi with h6 | ⟨h6, _⟩
    ·obtain ⟨s', y, g1, a', f', t', g2, g3⟩ := h.to b nd h6 r hr
     refine ⟨s', y, ?_, a', f', t', g2, hk2 _ _ g3⟩
     rcases g1 with g1 | g1
     ·exact .inl ⟨g1.1, by rw [h2]; exact g1.2⟩
     ·exact .inr ⟨rfl, xA _ g1.2⟩
    ·omega
   ·rw [yS.1 hr]
    exact ⟨s, x, .inr ⟨rfl, by simp⟩, a, f, t, rfl, ha⟩
 ·intro b nb hb s' y hs
  rw [Np hi]
  rcases Mh hi hb with ⟨h1, h2⟩ | ⟨h1, h2, h3, h4, h5⟩
  ·rcases hkeep b nb h2 with h3 | ⟨h3, h4⟩
   ·obtain ⟨a', f', t', g2, g3⟩ := h.of b nb h3 s' y (by
     rcases hs with hs | hs
     ·exact .inl hs
     ·exact absurd hs.1 h1)
    exact ⟨a', f', t', g2, hk2 _ _ g3⟩
   ·rcases hs with hs | hs <;> omega
  ·subst h1
   rw [h5, if_pos (vV a)]
   rcases hkeep b nd hi with h6 | ⟨h6, _⟩
   ·rcases hs with hs | ⟨_, hs⟩
    ·omega
    ·rcases yC.1 hs with hs | hs
     ·obtain ⟨a', f', t', g2, g3⟩ := h.of b nd h6 s' y (.inr ⟨rfl, hs⟩)
      exact ⟨a', f', t', xA _ g2, hk2 _ _ g3⟩
     ·cases yS.1 hs
      exact ⟨a, f, t, by simp, ha⟩
   ·omega
theorem HK {N : Nat} (hN : N ≤ 1000000) (h20 : 100 ≤ N) {p : Aa} (hv : BR p = 0) {m : Ac} (hm : BZ p m) {most i : Nat} (hmo : most ≤ 20000) {v2 : List AF × List (ByteArray × Int) × Int} (hv2 : v2.2.2 = (i : Int)) (ss : List Ad) (e0 : Int) (hss : ∀ s, s ∈ ss → s ∈ Gg p m) (hsl : ss.length ≤ 1000) (j : List AF × List (ByteArray × Int) → Option (List AF × Int)) :
  ∀ (n k : Nat) (pl : List AF) (q : List (Ac × Int)) (l' : List JA), k ≤ ss.length → ss.length - k < n → (∃ nd, pl[i]? = some nd ∧ nd.fq = m) → (∀ n, n ∈ pl.map EH → BZ p n.1 ∧ BC p n.1 = true) → pl.length ≤ most → OU p q (pl.map EH) → MO p i (Q0 p m (ss.take k)) pl →
   (∃ nd, pl[i]? = some nd ∧ nd.fc.length ≤ k) → Bfs.inner most i (Q0 p m (ss.drop k)) (pl.map EH) = some l' →
   ∃ pl' q', Cy N p v2 (ss, e0) j n (pl, Mw q, (k : Int)) = j (pl', Mw q') ∧ pl'.map EH = l' ∧ OU p q' l' ∧ MO p i (Q0 p m ss) pl' ∧ (∀ (b : Nat) nb, pl'[b]? = some nb → b ≠ i → pl[b]? = some nb ∨ nb.fc = [])
 | 0, k, pl, q, l', _, h, _, _, _, _, _, _, _ => by omega
 | n + 1, k, pl, q, l', hk, h, hi, hA, hlm, hpl, hnx, hfl, hin => by
  obtain ⟨hp, _⟩ := Da hv
  obtain ⟨nd, hnd, hndm⟩ := hi
  obtain ⟨nd', hnd', hfl⟩ := hfl
  rw [hnd] at hnd'; cases hnd'
  by_cases h1 : k < ss.length
  ·have hs : ss[k]? = some ss[k] := by simp [h1]
   have hsm := hss _ (lM hs)
   have hstep := (IV hsm).2
   have hxo := Mc hp hm hstep
   have hil := Bfs.lt_get hnd
   rw [Cy, AB (by simp only; omega)]
   simp only [Bl, hv2, AU, hnd, hs, oS]
   rw [show (Ac.mk nd.fq.fe nd.fq.fc nd.fq.ff) = m from hndm, P8 N hN h20 (MJ hm), if_pos (IZ hv hm)]
   simp only [oS]
   rw [hstep, bne_self_eq_false, Al, Wl N hN h20 hp hxo]
   simp only [oS]
   rw [PN hp hxo hpl.ok]
   have htk : ss.take (k + 1) = ss.take k ++ [ss[k]] := by rw [yT, hs]; rfl
   have hgo : Q0 p m (ss.take (k + 1)) = if BC p (A7 p m ss[k]).1 = true then Q0 p m (ss.take k) ++ [(ss[k], (A7 p m ss[k]).1)] else Q0 p m (ss.take k) := by
    rw [htk]; unfold Q0; rw [List.filterMap_append]
    cases hr : BC p (A7 p m ss[k]).1 <;> simp [hr]
   rw [Gp hs, SA] at hin
   -- what follows when the node's number is known
   have tail : ∀ (pl2 : List AF) (q2 : List (Ac × Int)) (r : Int) (nd2 : AF), pl2[i]? = some nd2 → nd2.fq = m → nd2.fc.length ≤ k → pl2.length ≤ most →
     AO (decide (0 ≤ r)) ((Bj pl2 (i : Int)).bind fun v26 => (DI (v26.fc.length + (([r] : List Int)).length ≤ C4)).bind fun _ => (Bj pl2 (i : Int)).bind fun v28 =>
      AO (decide ((20000 : Int) < ((pl2.set ((i : Int)).toNat (AF.mk (Ac.mk v28.fq.fe v28.fq.fc v28.fq.ff) v28.fh (Ad.mk v28.fu.fg v28.fu.fi v28.fu.fp) (v26.fc ++ ([r] : List Int)))).length : Int))) (some (([] : List AF), 3))
       (Cy N p v2 (ss, e0) j n (pl2.set ((i : Int)).toNat (AF.mk (Ac.mk v28.fq.fe v28.fq.fc v28.fq.ff) v28.fh (Ad.mk v28.fu.fg v28.fu.fi v28.fu.fp) (v26.fc ++ ([r] : List Int))), Mw q2, (wI .i64 ((k : Int) + 1)))))
      (AO (decide ((20000 : Int) < (pl2.length : Int))) (some (([] : List AF), 3)) (Cy N p v2 (ss, e0) j n (pl2, Mw q2, (wI .i64 ((k : Int) + 1))))) =
     Cy N p v2 (ss, e0) j n (Mo pl2 i nd2 r, Mw q2, ((k + 1 : Nat) : Int)) := by
    intro pl2 q2 r nd2 h2 h3 h4 h5
    by_cases hr : 0 ≤ r
    ·rw [AB hr]
     simp only [AU, h2, oS, zS]
     rw [Au (by simp [C4]; omega), Ay (by rw [xY]; omega), AE (by omega)]
     unfold Mo; rw [if_pos hr]
    ·rw [Ay hr, Ay (by omega), AE (by omega)]
     unfold Mo; rw [if_neg hr]
   cases hlq : JT (A7 p m ss[k]).1 q with
   | some r =>
    simp only [Option.isSome_some, yA, Al, yE]
    have ht := tail pl q r nd hnd hndm hfl hlm
    simp only [AU, hnd, oS] at ht
    rw [show (Ac.mk nd.fq.fe nd.fq.fc nd.fq.ff) = m from hndm] at ht
    rw [ht]
    rcases hpl.some _ _ hxo hlq with ⟨hr, hnr⟩ | ⟨a, f, t, hr, ha⟩
    ·subst hr
     rw [hnr, if_neg (by simp)] at hin
     rw [hnr, if_neg (by simp)] at hgo
     have hadd : Mo pl i nd (-1) = pl := by unfold Mo; rw [if_neg (by decide)]
     rw [hadd]
     exact HK hN h20 hv hm hmo hv2 ss e0 hss hsl j n (k + 1) pl q l' (by omega) (by omega) ⟨nd, hnd, hndm⟩ hA hlm hpl (by rw [hgo]; exact hnx) ⟨nd, hnd, by omega⟩ hin
    ·subst hr
     have hrob : BC p (A7 p m ss[k]).1 = true := (hA _ (lM ha)).2
     rw [hrob, if_pos rfl] at hin hgo
     have hput : Bfs.put i (pl.map EH) (ss[k], (A7 p m ss[k]).1) = pl.map EH := by
      unfold Bfs.put
      rw [if_pos]
      exact xF.2 ⟨_, lM ha, decide_eq_true rfl⟩
     simp only [Bfs.inner] at hin
     rw [hput, if_neg (by rw [zL]; omega)] at hin
     have hpr := Np (r := (a : Int)) hnd
     have hnx2 := SX (s := ss[k]) hnx (pl2 := pl) (fun b nb hb => .inl hb) (fun b n hb => hb) hnd ha
     obtain ⟨nd3, hnd3⟩ := Bfs.get_ex (l := Mo pl i nd (a : Int)) (k := i) (by
      have := congrArg xK hpr; simp only [zL] at this; omega)
     obtain ⟨g1, g2⟩ | ⟨_, g2, g3, g4, g5⟩ := Mh hnd hnd3
     ·exact absurd rfl g1
     obtain ⟨pl', q', r1, r2, r3, r4, r5⟩ := HK hN h20 hv hm hmo hv2 ss e0 hss hsl j n (k + 1) (Mo pl i nd (a : Int)) q l' (by omega) (by omega) ⟨nd3, hnd3, by rw [g2]; exact hndm⟩ (by rw [hpr]; exact hA) (by have := congrArg xK hpr; simp only [zL] at this; omega)  (by rw [hpr]; exact hpl) (by rw [hgo]; exact hnx2) ⟨nd3, hnd3, by rw [g5]; split <;> (try simp only [zW, zY]) <;> omega⟩ (by rw [hpr]; exact hin)
     refine ⟨pl', q', r1, r2, r3, r4, ?_⟩
     intro b nb hb hbi
     rcases r5 b nb hb hbi with h2 | h2
     ·rcases Mh hnd h2 with ⟨_, h3⟩ | ⟨h3, _⟩
      ·exact .inl h3
      ·exact absurd h3 hbi
     ·exact .inr h2
   | none =>
    simp only [Option.isSome_none, yU, AQ]
    rw [KB N p _ hN h20 (MJ hxo) (IZ hv hxo)]
    simp only [oS, bne_self_eq_false, Al]
    have hms : ∀ r, Ly (CL (L1 (A7 p m ss[k]).1)) r (Mw q) = Mw (q ++ [((A7 p m ss[k]).1, r)]) := fun r => by
     rw [W1]; exact Mj _ _ (by rw [PN hp hxo hpl.ok, hlq])
    have hok2 : ∀ r e, e ∈ q ++ [((A7 p m ss[k]).1, r)] → BZ p e.1 := fun r e he => by
     rcases yC.1 he with he | he
     ·exact hpl.ok e he
     ·rw [yS.1 he]; exact hxo
    cases hrob : BC p (A7 p m ss[k]).1
    ·rw [yU, AQ]
     rw [hrob, if_neg (by simp)] at hin hgo
     rw [hms]
     have ht := tail pl (q ++ [((A7 p m ss[k]).1, -1)]) (-1) nd hnd hndm hfl hlm
     simp only [AU, hnd, oS] at ht
     rw [show (Ac.mk nd.fq.fe nd.fq.fc nd.fq.ff) = m from hndm] at ht
     rw [ht]
     have hadd : Mo pl i nd (-1) = pl := by unfold Mo; rw [if_neg (by decide)]
     rw [hadd]
     refine HK hN h20 hv hm hmo hv2 ss e0 hss hsl j n (k + 1) pl _ l' (by omega) (by omega) ⟨nd, hnd, hndm⟩ hA hlm ⟨hok2 (-1), ?_, ?_⟩ (by rw [hgo]; exact hnx) ⟨nd, hnd, by omega⟩ hin
     ·intro x hx hq
      rw [LW] at hq
      cases hq2 : JT x q with
      | none => exact hpl.none x hx hq2
      | some v => rw [hq2] at hq; cases hq
     ·intro x r hx hq
      rw [LW] at hq
      cases hq2 : JT x q with
      | none =>
       rw [hq2] at hq
       simp only at hq
       split at hq
       ·rename_i he
        cases hq; left; exact ⟨rfl, by rw [he]; exact hrob⟩
       ·cases hq
      | some v => rw [hq2] at hq; cases hq; exact hpl.some x _ hx hq2
    ·rw [yA, Al]
     rw [hrob, if_pos rfl] at hin hgo
     rw [hms]
     have hnew : ((pl.map EH).any fun n => decide (n.1 = (A7 p m ss[k]).1)) = false := by
      rw [vM]
      intro n hn
      simpa using hpl.none _ hxo hlq n hn
     have hput : Bfs.put i (pl.map EH) (ss[k], (A7 p m ss[k]).1) = (pl ++ [AF.mk (A7 p m ss[k]).1 (i : Int) ss[k] []]).map EH := by
      unfold Bfs.put
      rw [hnew, if_neg (by simp), y7]; rfl
     simp only [Bfs.inner] at hin
     rw [hput] at hin
     split at hin
     ·cases hin
     rename_i hmm
     rw [zL, zW, zY] at hmm
     rw [Au (by simp [C4]; omega)]
     have hnd2 : (pl ++ [AF.mk (A7 p m ss[k]).1 (i : Int) ss[k] []])[i]? = some nd := Bfs.get_app_of hnd
     have ht := tail (pl ++ [AF.mk (A7 p m ss[k]).1 (i : Int) ss[k] []]) (q ++ [((A7 p m ss[k]).1, (pl.length : Int))]) (pl.length : Int) nd hnd2 hndm hfl (by rw [zW, zY]; omega)
     simp only [AU] at ht
     rw [ht]
     have hpr := Np (r := (pl.length : Int)) hnd2
     have hlast : ((pl ++ [AF.mk (A7 p m ss[k]).1 (i : Int) ss[k] []]).map EH)[pl.length]? = some ((A7 p m ss[k]).1, (i : Int), ss[k]) := by
      rw [zD, Bfs.get_app_new]; rfl
     have hold : ∀ (b : Nat) n, (pl.map EH)[b]? = some n → ((pl ++ [AF.mk (A7 p m ss[k]).1 (i : Int) ss[k] []]).map EH)[b]? = some n := fun b n hb => by
      rw [y7]; exact Bfs.get_app_of hb
     have hkeep : ∀ (b : Nat) nb, (pl ++ [AF.mk (A7 p m ss[k]).1 (i : Int) ss[k] []])[b]? = some nb → pl[b]? = some nb ∨ (i < b ∧ nb.fc = []) := fun b nb hb => by
      rcases Bfs.get_app hb with h2 | ⟨h2, h3⟩
      ·exact .inl h2
      ·exact .inr ⟨by omega, by rw [h3]⟩
     have hnx2 := SX (s := ss[k]) hnx hkeep hold hnd2 hlast
     have hpl2 : OU p (q ++ [((A7 p m ss[k]).1, (pl.length : Int))]) ((pl ++ [AF.mk (A7 p m ss[k]).1 (i : Int) ss[k] []]).map EH) := by
      refine ⟨hok2 _, ?_, ?_⟩
      ·intro x hx hq n hn
       rw [LW] at hq
       cases hq2 : JT x q with
       | none =>
        rw [hq2] at hq
        simp only at hq
        split at hq
        ·cases hq
        ·rename_i hne
         rw [y7] at hn
         rcases yC.1 hn with hn | hn
         ·exact hpl.none x hx hq2 n hn
         ·simp at hn; subst hn
          exact fun e => hne e.symm
       | some v => rw [hq2] at hq; cases hq
      ·intro x r hx hq
       rw [LW] at hq
       cases hq2 : JT x q with
       | none =>
        rw [hq2] at hq
        simp only at hq
        split at hq
        ·rename_i he
         cases hq
         exact .inr ⟨pl.length, _, _, rfl, by rw [he]; exact hlast⟩
        ·cases hq
       | some v =>
        rw [hq2] at hq; cases hq
        rcases hpl.some x _ hx hq2 with g | ⟨a, f, t, g1, g2⟩
        ·exact .inl g
        ·exact .inr ⟨a, f, t, g1, hold _ _ g2⟩
     obtain ⟨nd3, hnd3⟩ := Bfs.get_ex (l := Mo (pl ++ [AF.mk (A7 p m ss[k]).1 (i : Int) ss[k] []]) i nd (pl.length : Int)) (k := i) (by
      have := congrArg xK hpr; simp only [zL, zW, zY] at this; omega)
     obtain ⟨g1, g2⟩ | ⟨_, g2, g3, g4, g5⟩ := Mh hnd2 hnd3
     ·exact absurd rfl g1
     obtain ⟨pl', q', r1, r2, r3, r4, r5⟩ := HK hN h20 hv hm hmo hv2 ss e0 hss hsl j n (k + 1) (Mo (pl ++ [AF.mk (A7 p m ss[k]).1 (i : Int) ss[k] []]) i nd (pl.length : Int)) _ l' (by omega) (by omega) ⟨nd3, hnd3, by rw [g2]; exact hndm⟩ (by
       rw [hpr]
       intro n hn
       rw [y7] at hn
       rcases yC.1 hn with hn | hn
       ·exact hA n hn
       ·simp at hn; subst hn; exact ⟨hxo, hrob⟩) (by have := congrArg xK hpr; simp only [zL, zW, zY] at this; omega)  (by rw [hpr]; exact hpl2) (by rw [hgo]; exact hnx2) ⟨nd3, hnd3, by rw [g5]; split <;> (try simp only [zW, zY]) <;> omega⟩ (by rw [hpr]; exact hin)
     refine ⟨pl', q', r1, r2, r3, r4, ?_⟩
     intro b nb hb hbi
     rcases r5 b nb hb hbi with h2 | h2
     ·rcases Mh hnd2 h2 with ⟨_, h3⟩ | ⟨h3, _⟩
      ·rcases hkeep b nb h3 with h4 | ⟨_, h4⟩
       ·exact .inl h4
       ·exact .inr h4
      ·exact absurd h3 hbi
     ·exact .inr h2
  ·have : k = ss.length := by omega
   subst this
   rw [yO (zN _)] at hin
   have hin : some (pl.map EH) = some l' := hin
   cases hin
   rw [uH] at hnx
   rw [Cy, Ay (by simp)]
   exact ⟨pl, q, rfl, rfl, hpl, hnx, fun b nb hb _ => .inl hb⟩
end Go.Lift
