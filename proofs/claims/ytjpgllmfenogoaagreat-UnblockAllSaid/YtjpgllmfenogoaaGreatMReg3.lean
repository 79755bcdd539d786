/- Lemmas for UnblockAllSaid, which YtjpgllmfenogoaaGreatFinU8 proves. -/
import Derived.Test.YtjpgllmfenogoaaGreatDec
import Derived.KernelRfl
open Bool renaming and_eq_true → zH, and_eq_true_iff → uM, and_true → vW, false_and → vY, false_eq_true → vC, false_or → uZ, not_false → yT, not_true → zV, or_eq_false_iff → vF, or_eq_true → xO, true_and → xI
open Int renaming eq_ofNat_of_zero_le → zJ, natCast_nonneg → zA1, ofNat_inj → zA4, tmod → zY, toNat_natCast → zK
open List renaming all_eq_true → zG, any_eq_false → vT, any_eq_true → y7, append_assoc → yQ, append_nil → xM, cons_append → uT, drop_drop → vI, drop_eq_nil_of_le → yP, drop_zero → yM, eq_nil_iff_forall_not_mem → zA2, eq_nil_of_length_eq_zero → yF, ext_getElem? → yX, filter_append → xP, flatMap_append → vK, flatMap_eq_nil_iff → zA5, getD_cons_succ → vJ, getD_cons_zero → vV, getElem?_append_left → yK, getElem?_append_right → yJ, getElem?_drop → yU, getElem?_eq_getElem → yD, getElem?_eq_none → yG, getElem?_map → zF, getElem?_set → uA, getElem?_take_of_lt → yI, getElem_mem → xF, length → xU, length_append → zT, length_cons → zZ, length_filter_le → xQ, length_map → zI, length_range → uJ, length_set → yZ, length_singleton → zU, map_append → xH, map_cons → yH, mem_append → yA, mem_append_left → xJ, mem_cons → zO, mem_cons_of_mem → xR, mem_filter → uX, mem_iff_getElem? → zN, mem_map → zQ, mem_range → yY, mem_singleton → yE, nil_append → yR, pairwise_append → uK, pairwise_lt_range → vN, pairwise_map → vZ, range → zS, range_succ → uG, replicate → zD, take_add_one → yV, take_length → uU, take_of_length_le → uC
open Nat renaming add_assoc → x9, add_zero → xK, eq_zero_or_pos → uO, le_refl → zM, le_trans → xA, mul_le_mul_right → zB, sub_self → vM, succ_mul → zW, zero_add → zC, zero_le → zL
open Option renaming getD_some → yL, map_some → yC
namespace Go.Lift
open IntKind renaming wrap → wI
open Option renaming bind_some → oS
open List renaming getElem?_eq_some_iff → lI
theorem AO {α : Type} (xs : List α) (i : Nat) : Bh xs (i : Int) = xs[i]? := by
 unfold Bh; simp
theorem B2 {n : Int} (h0 : -9223372036854775808 ≤ n) (h1 : n ≤ 9223372036854775807) : wI .i64 n = n := by
 simp [wI, IntKind.signed, IntKind.bits]; omega
theorem Ay {i : Nat} (h : i < 1000000) : wI .i64 ((i : Int) + 1) = ((i + 1 : Nat) : Int) := by
 rw [B2 (by omega) (by omega)]; simp
@[simp] theorem AN {α : Type} {a b : Option α} : AR true a b = a := rfl
@[simp] theorem An {α : Type} {a b : Option α} : AR false a b = b := rfl
theorem AB {α : Type} {p : Prop} [Decidable p] {a b : Option α} (h : p) : AR (decide p) a b = a := by simp [h]
theorem Av {α : Type} {p : Prop} [Decidable p] {a b : Option α} (h : ¬ p) : AR (decide p) a b = b := by simp [h]
def JI : List Int → List Int → Int
 | [], [] => 0
 | [], _ :: _ => -1
 | _ :: _, [] => 1
 | a :: as1, b :: bs => if a < b then -1 else if b < a then 1 else JI as1 bs
theorem GT {α : Type} {xs : List α} {i : Nat} {x : α} (h : xs[i]? = some x) : xs.drop i = x :: xs.drop (i + 1) := by
 obtain ⟨hi, rfl⟩ := lI.1 h
 exact List.drop_eq_getElem_cons hi
theorem WQ (N : Nat) (a b : List Int) (hb : a.length < 1000000) : ∀ (n i : Nat), i ≤ a.length → i ≤ b.length → a.length - i < n →
  DY N a b (fun _ => AR (decide ((a.length : Int) < (b.length : Int))) (some (-1)) (AR (decide ((b.length : Int) < (a.length : Int))) (some 1) (some 0))) n (i : Int) = some (JI (a.drop i) (b.drop i))
 | 0, i, _, _, h => by omega
 | n + 1, i, hi, hj, h => by
  unfold DY
  simp only [Bi]
  by_cases h1 : i < a.length
  ·rw [AB (p := (i : Int) < (a.length : Int)) (by omega)]
   have ha : a[i]? = some a[i] := by simp [h1]
   rw [GT ha]
   by_cases h2 : i < b.length
   ·have hbb : b[i]? = some b[i] := by simp [h2]
    rw [show decide ((i : Int) < (b.length : Int)) = true from decide_eq_true (by omega), AN, AO, AO, ha, hbb, GT hbb]
    simp only [oS, JI]
    rw [Ay (by omega), WQ N a b hb n (i + 1) (by omega) (by omega) (by omega)]
    by_cases h3 : a[i] < b[i]
    ·simp [h3]
    ·by_cases h4 : b[i] < a[i]
     ·simp [h3, h4]
     ·simp [h3, h4]
   ·rw [show decide ((i : Int) < (b.length : Int)) = false from decide_eq_false (by omega), An, Av (by omega), AB (by omega), yP (by omega : b.length ≤ i)]
    simp [JI]
  ·rw [Av (p := (i : Int) < (a.length : Int)) (by omega), An, yP (by omega : a.length ≤ i)]
   by_cases h2 : a.length < b.length
   ·rw [AB (by omega)]
    have hbb : b[i]? = some b[i] := by simp [show i < b.length from by omega]
    rw [GT hbb]; simp [JI]
   ·rw [Av (by omega), Av (by omega), yP (by omega : b.length ≤ i)]
    simp [JI]
theorem Qi {N : Nat} {a b : List Int} (h : a.length < N) (hN : N ≤ 1000000) : D2 N a b = some (JI a b) := by
 have := WQ N a b (by omega) N 0 (by omega) (by omega) (by omega)
 simpa [D2] using this
theorem R4 : ∀ a : List Int, JI a a = 0
 | [] => rfl
 | a :: as1 => by simp [JI, R4 as1]
theorem PJ : ∀ a b : List Int, JI a b = 0 → a = b
 | [], [], _ => rfl
 | [], _ :: _, h => by simp [JI] at h
 | _ :: _, [], h => by simp [JI] at h
 | a :: as1, b :: bs, h => by
  unfold JI at h
  split at h
  ·omega
  ·split at h
   ·omega
   ·rw [PJ as1 bs h, show a = b from by omega]
def Q4 : List Int → Int
 | [] => 0
 | x :: xs => if x = 0 then Q4 xs else x
theorem fY (N : Nat) (a : List Int) (hb : a.length < 1000000) : ∀ (n i : Nat), i ≤ a.length → a.length - i < n →
  FZ N a (fun _ => some 0) n (i : Int) = some (Q4 (a.drop i))
 | 0, i, _, h => by omega
 | n + 1, i, hi, h => by
  unfold FZ
  by_cases h1 : i < a.length
  ·have ha : a[i]? = some a[i] := by simp [h1]
   rw [AB (by omega), AO, ha, GT ha]
   simp only [oS, Q4]
   rw [Ay (by omega), fY N a hb n (i + 1) (by omega) (by omega)]
   by_cases h3 : a[i] = 0
   ·simp [h3]
   ·have : (a[i] != 0) = true := by simpa using h3
    simp [h3, this]
  ·rw [Av (by omega), yP (by omega : a.length ≤ i)]
   simp [Q4]
theorem cn {N : Nat} {a : List Int} (h : a.length < N) (hN : N ≤ 1000000) : HW N a = some (Q4 a) := by
 have := fY N a (by omega) N 0 (by omega) (by omega)
 simpa [HW] using this
theorem ef (N : Nat) (a : List Int) (hb : a.length < 1000000) (hw : PL MK a) : ∀ (n i : Nat), i ≤ a.length → a.length - i < n →
  Dj N a (fun v => some v) n (a.take i, (i : Int)) = some a
 | 0, i, _, h => by omega
 | n + 1, i, hi, h => by
  unfold Dj
  by_cases h1 : i < a.length
  ·have ha : a[i]? = some a[i] := by simp [h1]
   rw [AB (by simpa using h1)]
   simp only
   rw [AO, ha]
   have hr : wI .i64 a[i] = a[i] := by
    have := hw a[i] (xF h1)
    unfold MK at this
    have h2 : 0 ≤ a[i] ∧ a[i] ≤ 255 := by simpa [Lit.wf, IntKind.min, IntKind.max, IntKind.signed, IntKind.bits] using this
    exact B2 (by omega) (by omega)
   simp only [oS, hr]
   have hlen : (a.take i).length + ([a[i]] : List Int).length ≤ CP := by
    simp [CP]; omega
   rw [show Dt ((a.take i).length + ([a[i]] : List Int).length ≤ CP) = some () from by unfold Dt; rw [if_pos hlen]]
   simp only [oS]
   rw [Ay (by omega), show a.take i ++ [a[i]] = a.take (i + 1) from by rw [yV, ha]; rfl]
   exact ef N a hb hw n (i + 1) (by omega) (by omega)
  ·rw [Av (by simpa using h1)]
   simp only
   rw [uC (by omega)]
theorem Pp {N : Nat} {a : List Int} (h : a.length < N) (hN : N ≤ 1000000) (hw : PL MK a) : DT N a = some a := by
 have := ef N a (by omega) hw N 0 (by omega) (by omega)
 simpa [DT] using this
def f5 (a : Ae) : Prop := a.gb.length ≤ 8 ∧ a.f7.length ≤ 8 ∧ a.gc.length ≤ 14
def VM (a b : Ae) : Int := Q4 [JI a.gb b.gb, JI a.f7 b.f7, JI a.gc b.gc]
theorem Sg (a : Ae) : VM a a = 0 := by unfold VM; simp [R4, Q4]
def DP {α R : Type} (f : Nat → α → Option R) : Nat → List α → Option R
 | _, [] => none
 | i, x :: xs => match f i x with
  | some r => some r
  | none => DP f (i + 1) xs
theorem GR {α R : Type} (f : Nat → α → Option R) (i : Nat) (x : α) (xs : List α) : DP f i (x :: xs) = match f i x with
  | some r => some r
  | none => DP f (i + 1) xs := rfl
def BS {R : Type} (a : Option R) (b : Option R) : Option R := match a with
 | some r => some r
 | none => b
theorem CX {α R : Type} (L : Nat → Int → Option R) (xs : List α) (j : Option R) (f : Nat → α → Option R)
  (hs : ∀ (n i : Nat) (x : α), xs[i]? = some x → L (n + 1) (i : Int) = BS (f i x) (L n ((i + 1 : Nat) : Int))) (he : ∀ n : Nat, L (n + 1) (xs.length : Int) = j) :
  ∀ n i : Nat, i ≤ xs.length → xs.length - i < n → L n (i : Int) = BS (DP f i (xs.drop i)) j
 | 0, i, _, h => by omega
 | n + 1, i, hi, h => by
  by_cases h1 : i < xs.length
  ·have hx : xs[i]? = some xs[i] := by simp [h1]
   rw [hs n i _ hx, GT hx, CX L xs j f hs he n (i + 1) (by omega) (by omega)]
   rw [GR]
   cases f i xs[i] <;> rfl
  ·have : i = xs.length := by omega
   subst this
   rw [he n, yP (zM _)]
   rfl
theorem Rx (N : Nat) (k n : Int) : E0 N k n = some (decide (0 ≤ k) && decide (k < n)) := by
 unfold E0
 simp only [Bi]
 by_cases h : 0 ≤ k
 ·rw [AB h]; simp [h]
 ·rw [Av h]; simp [h]
theorem ON (N : Nat) (t : Ao) : Bc N t = some (t.gd == 3 || t.gd == 4) := by
 unfold Bc
 simp only [Bi]
 cases h : t.gd == 3 <;> simp
def sq (l : List (List Bool)) (n m : Int) : Bool := decide ((l.length : Int) = n) && l.all fun r => decide ((r.length : Int) = m)
theorem Qn {α : Type} (p : α → Bool) {R : Type} (r : Nat → R) : ∀ (i : Nat) (xs : List α), (DP (fun i x => if p x then none else some (r i)) i xs).isNone = xs.all p
 | i, [] => rfl
 | i, x :: xs => by
  unfold DP
  cases h : p x <;> simp [h, Qn p r (i + 1) xs]
theorem RT (N : Nat) (l : List (List Bool)) (n m : Int) (h : n < (N : Int)) (hN : N ≤ 1000000) : Ed N l n m = some (sq l n m) := by
 unfold Ed sq
 by_cases h1 : (l.length : Int) = n
 ·subst h1
  simp only [bne_self_eq_false, An, decide_true, xI]
  have := CX (CS N l (l.length : Int) m (fun _ => some true)) l (some true) (fun _ r => if decide ((r.length : Int) = m) then none else some false)
   (fun n i x hx => by
    have hi := (lI.1 hx).1
    rw [CS, AB (by omega), AO, hx]
    simp only [oS]
    rw [Ay (by omega)]
    by_cases h2 : (x.length : Int) = m
    ·simp [h2, BS]
    ·have : ((x.length : Int) != m) = true := by simpa using h2
     simp [h2, this, BS])
   (fun n => by rw [CS, Av (by omega)]) N 0 (by omega) (by omega)
  simp only [Int.ofNat_zero, yM] at this
  rw [this]
  have h3 := Qn (fun r : List Bool => decide ((r.length : Int) = m)) (fun _ => false) 0 l
  cases hsc : DP (fun (_ : Nat) (r : List Bool) => if decide ((r.length : Int) = m) = true then none else some false) 0 l with
  | none => rw [hsc] at h3; rw [← h3]; rfl
  | some b =>
   rw [hsc] at h3
   rw [← h3]
   have : ∀ (i : Nat) (xs : List (List Bool)) b, DP (fun (_ : Nat) (r : List Bool) => if decide ((r.length : Int) = m) = true then none else some false) i xs = some b → b = false := by
    intro i xs
    induction xs generalizing i with
    | nil => intro b hb; cases hb
    | cons x xs ih =>
     intro b hb
     unfold DP at hb
     split at hb
     ·rename_i r hr; cases hb; split at hr <;> simp at hr; exact hr
     ·exact ih _ b hb
   rw [this 0 l b hsc]; rfl
 ·have : ((l.length : Int) != n) = true := by simpa using h1
  simp [this, h1]
theorem RA (N : Nat) (l : List (List Bool)) (n m : Int) (h : n < (N : Int)) (hN : N ≤ 1000000) : Gi N l n m = some (sq l n m) := by
 unfold Gi sq
 simp only [Bi]
 by_cases h1 : (l.length : Int) = n
 ·subst h1
  simp only [beq_self_eq_true, AN, decide_true, xI]
  have := CX (By N l (fun x => EN N x m) (fun _ => some (-1))) l (some (-1)) (fun i r => if decide ((r.length : Int) = m) then none else some (i : Int))
   (fun n i x hx => by
    have hi := (lI.1 hx).1
    rw [By, AB (by omega), AO, hx]
    simp only [oS, EN]
    rw [Ay (by omega)]
    by_cases h2 : (x.length : Int) = m
    ·simp [h2, BS]
    ·have : ((x.length : Int) != m) = true := by simpa using h2
     simp [h2, this, BS])
   (fun n => by rw [By, Av (by omega)]) N 0 (by omega) (by omega)
  simp only [Int.ofNat_zero, yM] at this
  unfold DB D5
  rw [this]
  have h3 := Qn (fun r : List Bool => decide ((r.length : Int) = m)) (fun i : Nat => (i : Int)) 0 l
  cases hsc : DP (fun (i : Nat) (r : List Bool) => if decide ((r.length : Int) = m) = true then none else some (i : Int)) 0 l with
  | none => rw [hsc] at h3; rw [← h3]; rfl
  | some b =>
   rw [hsc] at h3
   rw [← h3]
   have : ∀ (i : Nat) (xs : List (List Bool)) b, DP (fun (i : Nat) (r : List Bool) => if decide ((r.length : Int) = m) = true then none else some (i : Int)) i xs = some b → 0 ≤ b := by
    intro i xs
    induction xs generalizing i with
    | nil => intro b hb; cases hb
    | cons x xs ih =>
     intro b hb
     rw [GR] at hb
     split at hb
     ·rename_i r hr
      cases hb
      split at hr
      ·cases hr
      ·cases hr; omega
     ·exact ih _ b hb
   have := this 0 l b hsc
   simp [BS, this]
 ·have : ((l.length : Int) == n) = false := by simpa using h1
  simp [this, h1]
open List renaming mem_of_getElem? → lM
open List renaming getD_eq_getElem?_getD → lD
def Kd (l : List (List Bool)) : Option Int := DP (fun i row => if row.getD i false then none else some 1) 0 l
theorem Uf {row : List Bool} {i : Nat} (h : i < row.length) : Bh row (i : Int) = some (row.getD i false) := by
 rw [AO, lD]; simp [h]
theorem ai (N : Nat) (t : Ao) (h : t.gk.length < N) (hN : N ≤ 1000000) (hsq : ∀ row, row ∈ t.gk → row.length = t.gk.length) (j : Option Int) :
  Ch N t (fun _ => j) N 0 = BS (Kd t.gk) j := by
 have := CX (Ch N t (fun _ => j)) t.gk j (fun i row => if row.getD i false then none else some 1)
  (fun n i x hx => by
   have hi := (lI.1 hx).1
   have hl := hsq x (lM hx)
   rw [Ch, AB (by omega), AO, hx]
   simp only [oS]
   rw [Uf (by omega), Ay (by omega)]
   simp only [oS]
   cases x.getD i false <;> rfl)
  (fun n => by rw [Ch, Av (by omega)]) N 0 (by omega) (by omega)
 simpa [Kd] using this
theorem RN (N : Nat) (t : Ao) (h : t.gk.length < N) (hN : N ≤ 1000000) (hsq : ∀ row, row ∈ t.gk → row.length = t.gk.length) (j : Option Int) :
  DN N t (fun _ => j) N 0 = BS (Kd t.gk) j := by
 have := CX (DN N t (fun _ => j)) t.gk j (fun i row => if row.getD i false then none else some 1)
  (fun n i x hx => by
   have hi := (lI.1 hx).1
   have hl := hsq x (lM hx)
   rw [DN, AB (by omega), AO, hx]
   simp only [oS]
   rw [Uf (by omega), Ay (by omega)]
   simp only [oS]
   cases x.getD i false <;> rfl)
  (fun n => by rw [DN, Av (by omega)]) N 0 (by omega) (by omega)
 simpa [Kd] using this
theorem PE {l : List (List Bool)} {n m : Int} (h : sq l n m = true) : (l.length : Int) = n ∧ ∀ row, row ∈ l → (row.length : Int) = m := by
 unfold sq at h
 simp only [zH, decide_eq_true_eq, zG] at h
 exact h
def Ej (p : Ab) (t : Ao) : Int :=
 if t.gd < 1 ∨ 4 < t.gd ∨ (t.gl = true ∧ (t.gd = 3 ∨ t.gd = 4)) then 1
 else if t.ge < 0 ∨ (p.f9.length : Int) ≤ t.ge ∨ t.gi < 0 ∨ (p.f9.length : Int) ≤ t.gi then 4
 else
  let f := p.f9.getD t.ge.toNat 0
  let g := p.f9.getD t.gi.toNat 0
  if sq t.gh f g = false then 6
  else if t.gd = 4 then (if sq t.gk f f = false then 6 else (Kd t.gk).getD 0)
  else if t.gk.length = 0 then 0 else 6
theorem FV {α : Type} {xs : List α} {i : Int} {d : α} (h0 : 0 ≤ i) (h1 : i < (xs.length : Int)) : Bh xs i = some (xs.getD i.toNat d) := by
 obtain ⟨k, rfl⟩ := zJ h0
 rw [AO, lD, zK]
 simp [show k < xs.length from by omega]
theorem Yf {t : Ao} (A B : Option Int) (hk : ¬ (t.gl = true ∧ (t.gd = 3 ∨ t.gd = 4))) : AR t.gl (AR (t.gd == 3 || t.gd == 4) A B) B = B := by
 cases ha : t.gl
 ·rfl
 ·have : (t.gd == 3 || t.gd == 4) = false := by
   rw [vF]
   constructor
   ·simp only [beq_eq_false_iff_ne]; intro h; exact hk ⟨ha, .inl h⟩
   ·simp only [beq_eq_false_iff_ne]; intro h; exact hk ⟨ha, .inr h⟩
  rw [this]; rfl
theorem KQ {p : Ab} {i : Int} (hv : ∀ v, v ∈ p.f9 → 1 ≤ v ∧ v ≤ 6) (h0 : 0 ≤ i) (h1 : i < (p.f9.length : Int)) : 1 ≤ p.f9.getD i.toNat 0 ∧ p.f9.getD i.toNat 0 ≤ 6 := by
 refine hv _ ?_
 rw [lD, yD (by omega)]
 exact xF _
theorem W5 (N : Nat) (p : Ab) (t : Ao) (hN : N ≤ 1000000) (h6 : 7 ≤ N) (hv : ∀ v, v ∈ p.f9 → 1 ≤ v ∧ v ≤ 6) : FD N p t = some (Ej p t) := by
 unfold FD Ej
 simp only [Bi, ON, oS]
 by_cases k1 : t.gd < 1
 ·simp [k1]
 by_cases k2 : 4 < t.gd
 ·simp [k1, k2]
 rw [Av k1, Av k2]
 by_cases hk : t.gl = true ∧ (t.gd = 3 ∨ t.gd = 4)
 ·obtain ⟨ha, k | k⟩ := hk <;> simp [ha, k]
 rw [An, Yf _ _ hk, if_neg (fun h => h.elim k1 fun h => h.elim k2 hk)]
 by_cases f1 : t.ge < 0
 ·simp [f1]
 by_cases f2 : (p.f9.length : Int) ≤ t.ge
 ·simp [f1, f2]
 by_cases f3 : t.gi < 0
 ·simp [f1, f2, f3]
 by_cases f4 : (p.f9.length : Int) ≤ t.gi
 ·simp [f1, f2, f3, f4]
 rw [Av f1, Av f2, Av f3, if_neg (fun h => h.elim f1 fun h => h.elim f2 fun h => h.elim f3 f4)]
 have hf := KQ hv (i := t.ge) (by omega) (by omega)
 rw [decide_eq_false f4, An, FV (d := 0) (by omega : 0 ≤ t.ge) (by omega), FV (d := 0) (by omega : 0 ≤ t.gi) (by omega)]
 simp only [oS]
 generalize p.f9.getD t.ge.toNat 0 = f at *
 generalize p.f9.getD t.gi.toNat 0 = g at *
 rw [RT N t.gh f g (by omega) hN, RT N t.gk f f (by omega) hN]
 simp only [oS]
 cases hq : sq t.gh f g
 ·rfl
 simp only [zV, An]
 by_cases k4 : t.gd = 4
 ·have : (t.gd != 4) = false := by simp [k4]
  rw [this, An]
  simp only [k4, if_true]
  cases hr : sq t.gk f f
  ·rfl
  ·have h7 := PE hr
   simp only [zV, An]
   rw [ai N t (by omega) hN (fun row hm => by have := h7.2 row hm; omega)]
   cases Kd t.gk <;> simp [BS]
 ·have : (t.gd != 4) = true := by simpa using k4
  rw [this, AN]
  simp only [k4, if_false]
  by_cases hr : t.gk.length = 0
  ·simp [hr]
  ·have : ((t.gk.length : Int) != 0) = true := bne_iff_ne.2 (by omega)
   rw [this]; simp [hr]
theorem ZN (N : Nat) (k : Int) (a : Bool) : HZ N k a = some (k == 1 || (k == 2 || ((k == 3 || k == 4) && !a))) := by
 unfold HZ
 simp only [Bi]
 cases h1 : k == 1 <;> cases h2 : k == 2 <;> cases h3 : k == 3 <;> cases h4 : k == 4 <;> cases a <;> rfl
theorem Qf (N : Nat) (p : Ab) (t : Ao) (hN : N ≤ 1000000) (h6 : 7 ≤ N) (hv : ∀ v, v ∈ p.f9 → 1 ≤ v ∧ v ≤ 6) : Hv N p t = some (Ej p t) := by
 unfold Hv Ej
 simp only [Bi, ZN, Rx, oS]
 by_cases hb : t.gd < 1 ∨ 4 < t.gd ∨ (t.gl = true ∧ (t.gd = 3 ∨ t.gd = 4))
 ·have : (t.gd == 1 || (t.gd == 2 || ((t.gd == 3 || t.gd == 4) && !t.gl))) = false := by
   rcases hb with h | h | ⟨ha, h | h⟩
   ·rw [beq_eq_false_iff_ne.2 (by omega : t.gd ≠ 1), beq_eq_false_iff_ne.2 (by omega : t.gd ≠ 2), beq_eq_false_iff_ne.2 (by omega : t.gd ≠ 3), beq_eq_false_iff_ne.2 (by omega : t.gd ≠ 4)]; rfl
   ·rw [beq_eq_false_iff_ne.2 (by omega : t.gd ≠ 1), beq_eq_false_iff_ne.2 (by omega : t.gd ≠ 2), beq_eq_false_iff_ne.2 (by omega : t.gd ≠ 3), beq_eq_false_iff_ne.2 (by omega : t.gd ≠ 4)]; rfl
   ·simp [ha, h]
   ·simp [ha, h]
  rw [this, if_pos hb]; rfl
 ·have : (t.gd == 1 || (t.gd == 2 || ((t.gd == 3 || t.gd == 4) && !t.gl))) = true := by
   have hk : t.gd = 1 ∨ t.gd = 2 ∨ t.gd = 3 ∨ t.gd = 4 := by
    have h1 : ¬ t.gd < 1 := fun h => hb (.inl h)
    have h2 : ¬ 4 < t.gd := fun h => hb (.inr (.inl h))
    omega
   rcases hk with h | h | h | h
   ·simp [h]
   ·simp [h]
   ·cases ha : t.gl
    ·simp [h]
    ·exact (hb (.inr (.inr ⟨ha, .inl h⟩))).elim
   ·cases ha : t.gl
    ·simp [h]
    ·exact (hb (.inr (.inr ⟨ha, .inr h⟩))).elim
  rw [this, if_neg hb]
  simp only [zV, An]
  by_cases f1 : t.ge < 0
  ·simp [f1, show ¬ (0 ≤ t.ge) from by omega]
  by_cases f2 : (p.f9.length : Int) ≤ t.ge
  ·simp [f2, show ¬ (t.ge < (p.f9.length : Int)) from by omega]
  by_cases f3 : t.gi < 0
  ·simp [f3, show 0 ≤ t.ge from by omega, show t.ge < (p.f9.length : Int) from by omega, show ¬ (0 ≤ t.gi) from by omega]
  by_cases f4 : (p.f9.length : Int) ≤ t.gi
  ·simp [f4, show 0 ≤ t.ge from by omega, show t.ge < (p.f9.length : Int) from by omega, show ¬ (t.gi < (p.f9.length : Int)) from by omega]
  rw [if_neg (fun h => h.elim f1 fun h => h.elim f2 fun h => h.elim f3 f4)]
  have hf := KQ hv (i := t.ge) (by omega) (by omega)
  have hg := KQ hv (i := t.gi) (by omega) (by omega)
  rw [decide_eq_true (by omega : 0 ≤ t.ge), decide_eq_true (by omega : t.ge < (p.f9.length : Int)), decide_eq_true (by omega : 0 ≤ t.gi), decide_eq_true (by omega : t.gi < (p.f9.length : Int)), FV (d := 0) (by omega : 0 ≤ t.ge) (by omega), FV (d := 0) (by omega : 0 ≤ t.gi) (by omega)]
  simp only [Bool.and_self, zV, An, oS]
  generalize p.f9.getD t.ge.toNat 0 = f at *
  generalize p.f9.getD t.gi.toNat 0 = g at *
  rw [RA N t.gh f g (by omega) hN, RA N t.gk f f (by omega) hN]
  simp only [oS]
  cases hq : sq t.gh f g
  ·rfl
  simp only [zV, An]
  by_cases k4 : t.gd = 4
  ·simp only [k4, beq_self_eq_true, AN, if_true]
   cases hr : sq t.gk f f
   ·rfl
   ·have h7 := PE hr
    simp only [zV, An]
    rw [RN N t (by omega) hN (fun row hm => by have := h7.2 row hm; omega)]
    cases Kd t.gk <;> simp [BS]
  ·have : (t.gd == 4) = false := beq_eq_false_iff_ne.2 k4
   rw [this, An]
   simp only [k4, if_false, yT, AN]
   by_cases hr : t.gk.length = 0
   ·rw [RN N t (by omega) hN (fun row hm => by rw [yF hr] at hm; cases hm), yF hr]
    simp [Kd, DP, BS]
   ·rw [decide_eq_true (by omega : 0 < (t.gk.length : Int))]
    simp [hr]
def Gy (p : Ab) (i : Nat) (v : Int) : Option Int :=
 if v < 1 ∨ 6 < v ∨ p.gf.getD i 0 < 0 ∨ v ≤ p.gf.getD i 0 ∨ p.gj.getD i 0 < 0 ∨ v ≤ p.gj.getD i 0 then some 7 else none
def Mg (p : Ab) (_ : Nat) (t : Ao) : Option Int := if Ej p t = 0 then none else some (Ej p t)
def BK (p : Ab) : Int :=
 if 6 < p.f9.length ∨ 12 < p.ga.length then 3
 else if p.gf.length ≠ p.f9.length ∨ p.gj.length ≠ p.f9.length then 6
 else ((BS (DP (Gy p) 0 p.f9) (DP (Mg p) 0 p.ga)).getD 0)
theorem FJ {α R : Type} {f : Nat → α → Option R} : ∀ {i : Nat} {xs : List α}, DP f i xs = none → ∀ j x, xs[j]? = some x → f (i + j) x = none
 | _, [], _, j, x, hx => by simp at hx
 | i, y :: ys, h, j, x, hx => by
  rw [GR] at h
  split at h
  ·cases h
  ·rename_i h0
   cases j with
   | zero => simp at hx; subst hx; exact h0
   | succ j =>
    have := FJ h j x (by simpa using hx)
    rwa [show i + 1 + j = i + (j + 1) from by omega] at this
theorem PP {p : Ab} (h : DP (Gy p) 0 p.f9 = none) : ∀ v, v ∈ p.f9 → 1 ≤ v ∧ v ≤ 6 := by
 intro v hv
 obtain ⟨i, hi⟩ := zN.1 hv
 have := FJ h i v hi
 unfold Gy at this
 split at this
 ·cases this
 ·rename_i hn
  constructor
  ·exact Int.not_lt.1 fun h => hn (.inl h)
  ·exact Int.not_lt.1 fun h => hn (.inr (.inl h))
theorem DF {α : Type} {xs : List α} {i : Nat} {d : α} (h : i < xs.length) : Bh xs (i : Int) = some (xs.getD i d) := by
 rw [AO, lD]; simp [h]
theorem VE (N : Nat) (p : Ab) (hN : N ≤ 1000000) (h1 : p.f9.length < N) (h2 : p.gf.length = p.f9.length) (h3 : p.gj.length = p.f9.length) (j : Option Int) :
  Bq N p (fun _ => j) N 0 = BS (DP (Gy p) 0 p.f9) j := by
 have := CX (Bq N p (fun _ => j)) p.f9 j (Gy p)
  (fun n i x hx => by
   have hi := (lI.1 hx).1
   rw [Bq, AB (by omega), AO, hx]
   simp only [oS, Bi]
   rw [DF (d := 0) (by omega), DF (d := 0) (by omega), Ay (by omega)]
   simp only [oS]
   unfold Gy
   generalize p.gf.getD i 0 = a
   generalize p.gj.getD i 0 = b
   by_cases k1 : x < 1 <;> by_cases k2 : 6 < x <;> by_cases k3 : a < 0 <;> by_cases k4 : x ≤ a <;> by_cases k5 : b < 0 <;> by_cases k6 : x ≤ b <;> simp [k1, k2, k3, k4, k5, k6, BS])
  (fun n => by rw [Bq, Av (by omega)]) N 0 (by omega) (by omega)
 simpa using this
theorem S1 (N : Nat) (p : Ab) (hN : N ≤ 1000000) (h1 : p.f9.length < N) (h2 : p.gf.length = p.f9.length) (h3 : p.gj.length = p.f9.length) (j : Option Int) :
  Cg N p (fun _ => j) N 0 = BS (DP (Gy p) 0 p.f9) j := by
 have := CX (Cg N p (fun _ => j)) p.f9 j (Gy p)
  (fun n i x hx => by
   have hi := (lI.1 hx).1
   rw [Cg, AB (by omega), AO, hx]
   simp only [oS, Bi, Rx]
   rw [DF (d := 0) (by omega), DF (d := 0) (by omega), Ay (by omega)]
   simp only [oS]
   unfold Gy
   generalize p.gf.getD i 0 = a
   generalize p.gj.getD i 0 = b
   have e1 : decide (0 ≤ a) = !decide (a < 0) := by rw [← decide_not]; congr 1; simp
   have e2 : decide (a < x) = !decide (x ≤ a) := by rw [← decide_not]; congr 1; simp
   have e3 : decide (0 ≤ b) = !decide (b < 0) := by rw [← decide_not]; congr 1; simp
   have e4 : decide (b < x) = !decide (x ≤ b) := by rw [← decide_not]; congr 1; simp
   rw [e1, e2, e3, e4]
   by_cases k1 : x < 1 <;> by_cases k2 : 6 < x <;> by_cases k3 : a < 0 <;> by_cases k4 : x ≤ a <;> by_cases k5 : b < 0 <;> by_cases k6 : x ≤ b <;> simp [k1, k2, k3, k4, k5, k6, BS])
  (fun n => by rw [Cg, Av (by omega)]) N 0 (by omega) (by omega)
 simpa using this
theorem XU (N : Nat) (p : Ab) (hN : N ≤ 1000000) (h6 : 7 ≤ N) (h1 : p.ga.length < N) (hv : ∀ v, v ∈ p.f9 → 1 ≤ v ∧ v ≤ 6) (j : Option Int) :
  Bg N p (fun _ => j) N 0 = BS (DP (Mg p) 0 p.ga) j := by
 have := CX (Bg N p (fun _ => j)) p.ga j (Mg p)
  (fun n i x hx => by
   have hi := (lI.1 hx).1
   rw [Bg, AB (by omega), AO, hx]
   simp only [oS]
   rw [W5 N p x hN h6 hv, Ay (by omega)]
   simp only [oS]
   unfold Mg
   by_cases k : Ej p x = 0
   ·simp [k, BS]
   ·rw [bne_iff_ne.2 k, if_neg k]; rfl)
  (fun n => by rw [Bg, Av (by omega)]) N 0 (by omega) (by omega)
 simpa using this
theorem V3 (N : Nat) (p : Ab) (hN : N ≤ 1000000) (h6 : 7 ≤ N) (h1 : p.ga.length < N) (hv : ∀ v, v ∈ p.f9 → 1 ≤ v ∧ v ≤ 6) (j : Option Int) :
  B6 N p (fun _ => j) N 0 = BS (DP (Mg p) 0 p.ga) j := by
 have := CX (B6 N p (fun _ => j)) p.ga j (Mg p)
  (fun n i x hx => by
   have hi := (lI.1 hx).1
   rw [B6, AB (by omega), AO, hx]
   simp only [oS]
   rw [Qf N p x hN h6 hv, Ay (by omega)]
   simp only [oS]
   unfold Mg
   by_cases k : Ej p x = 0
   ·simp [k, BS]
   ·rw [bne_iff_ne.2 k, if_neg k]; rfl)
  (fun n => by rw [B6, Av (by omega)]) N 0 (by omega) (by omega)
 simpa using this
theorem Ns (N : Nat) (p : Ab) (hN : N ≤ 1000000) (h : 20 ≤ N) : Cb N p = some (BK p) := by
 unfold Cb BK
 simp only [Bi]
 by_cases k1 : 6 < p.f9.length
 ·rw [AB (by omega)]; simp [k1]
 rw [Av (by omega)]
 by_cases k2 : 12 < p.ga.length
 ·rw [decide_eq_true (by omega : (12 : Int) < (p.ga.length : Int))]; simp [k2]
 rw [decide_eq_false (by omega : ¬ (12 : Int) < (p.ga.length : Int)), An, if_neg (by omega)]
 by_cases k3 : p.gf.length = p.f9.length
 ·by_cases k4 : p.gj.length = p.f9.length
  ·rw [k3, k4]
   simp only [bne_self_eq_false, An, ne_eq, not_true_eq_false, or_self, if_false]
   rw [VE N p hN (by omega) k3 k4]
   cases hs : DP (Gy p) 0 p.f9 with
   | some r => rfl
   | none =>
    simp only [BS]
    rw [XU N p hN (by omega) (by omega) (PP hs)]
    cases DP (Mg p) 0 p.ga <;> rfl
  ·have : ((p.gj.length : Int) != (p.f9.length : Int)) = true := bne_iff_ne.2 (by omega)
   rw [this, k3]; simp [k4]
 ·have : ((p.gf.length : Int) != (p.f9.length : Int)) = true := bne_iff_ne.2 (by omega)
  rw [this]; simp [k3]
theorem IN (N : Nat) (p : Ab) (hN : N ≤ 1000000) (h : 20 ≤ N) : BG N p = some (BK p) := by
 unfold BG BK
 simp only [Bi]
 by_cases k1 : 6 < p.f9.length
 ·rw [AB (by omega)]; simp [k1]
 rw [Av (by omega)]
 by_cases k2 : 12 < p.ga.length
 ·rw [decide_eq_true (by omega : (12 : Int) < (p.ga.length : Int))]; simp [k2]
 rw [decide_eq_false (by omega : ¬ (12 : Int) < (p.ga.length : Int)), An, if_neg (by omega)]
 by_cases k3 : p.gf.length = p.f9.length
 ·by_cases k4 : p.gj.length = p.f9.length
  ·rw [k3, k4]
   simp only [bne_self_eq_false, An, ne_eq, not_true_eq_false, or_self, if_false]
   rw [S1 N p hN (by omega) k3 k4]
   cases hs : DP (Gy p) 0 p.f9 with
   | some r => rfl
   | none =>
    simp only [BS]
    rw [V3 N p hN (by omega) (by omega) (PP hs)]
    cases DP (Mg p) 0 p.ga <;> rfl
  ·have : ((p.gj.length : Int) != (p.f9.length : Int)) = true := bne_iff_ne.2 (by omega)
   rw [this, k3]; simp [k4]
 ·have : ((p.gf.length : Int) != (p.f9.length : Int)) = true := bne_iff_ne.2 (by omega)
  rw [this]; simp [k3]
theorem Kb {n : Int} (h : MK n) : 0 ≤ n ∧ n ≤ 255 := by
 unfold MK at h
 simpa [Lit.wf, IntKind.min, IntKind.max, IntKind.signed, IntKind.bits] using h
theorem Rc : ∀ k : Fin 256, DX .u8 0 (k.val : Int) = 0 := by decide +kernel
theorem Rg : ∀ k : Fin 256, DX .u8 (k.val : Int) 0 = (k.val : Int) := by decide +kernel
theorem XO {n : Int} (h : MK n) : DX .u8 0 n = 0 := by
 have := Kb h
 obtain ⟨k, rfl⟩ := zJ this.1
 exact Rc ⟨k, by omega⟩
theorem YU {n : Int} (h : MK n) : DX .u8 n 0 = n := by
 have := Kb h
 obtain ⟨k, rfl⟩ := zJ this.1
 exact Rg ⟨k, by omega⟩
theorem Fp {α R : Type} {f : Nat → α → Option R} : ∀ {i : Nat} {xs : List α} {r : R}, DP f i xs = some r → ∃ j x, xs[j]? = some x ∧ f (i + j) x = some r
 | _, [], _, h => by cases h
 | i, y :: ys, r, h => by
  rw [GR] at h
  split at h
  ·rename_i r' h0
   cases h
   exact ⟨0, y, rfl, h0⟩
  ·obtain ⟨j, x, h1, h2⟩ := Fp h
   exact ⟨j + 1, x, by simpa using h1, by rwa [show i + (j + 1) = i + 1 + j from by omega]⟩
structure Be (p : Ab) : Prop where
 nv : p.f9.length ≤ 6
 nt : p.ga.length ≤ 12
 now : p.gf.length = p.f9.length
 tgt : p.gj.length = p.f9.length
 ver : ∀ v, v ∈ p.f9 → 1 ≤ v ∧ v ≤ 6
 tab : ∀ t, t ∈ p.ga → Ej p t = 0
theorem Vt (l : List (List Bool)) : (Kd l).getD 0 = 0 ∨ (Kd l).getD 0 = 1 := by
 cases h : Kd l with
 | none => exact .inl rfl
 | some r =>
  obtain ⟨j, x, _, h⟩ := Fp h
  split at h
  ·cases h
  ·cases h; exact .inr rfl
theorem Sx (p : Ab) (t : Ao) : Ej p t = 0 ∨ Ej p t = 1 ∨ Ej p t = 4 ∨ Ej p t = 6 := by
 unfold Ej
 split
 ·exact .inr (.inl rfl)
 split
 ·exact .inr (.inr (.inl rfl))
 simp only
 split
 ·exact .inr (.inr (.inr rfl))
 split
 ·split
  ·exact .inr (.inr (.inr rfl))
  ·rcases Vt t.gk with h | h
   ·exact .inl h
   ·exact .inr (.inl h)
 ·split
  ·exact .inl rfl
  ·exact .inr (.inr (.inr rfl))
theorem JE (p : Ab) : (BK p = 0 ∧ Be p) ∨ (BK p = 1 ∨ BK p = 3 ∨ BK p = 4 ∨ BK p = 6 ∨ BK p = 7) := by
 unfold BK
 split
 ·simp
 rename_i k1
 split
 ·simp
 rename_i k2
 cases hs : DP (Gy p) 0 p.f9 with
 | some r =>
  obtain ⟨j, x, _, h⟩ := Fp hs
  unfold Gy at h
  split at h
  ·cases h; simp [BS]
  ·cases h
 | none =>
  cases ht : DP (Mg p) 0 p.ga with
  | some r =>
   obtain ⟨j, t, _, h⟩ := Fp ht
   unfold Mg at h
   split at h
   ·cases h
   ·rename_i hne
    cases h
    simp only [BS, yL]
    right
    rcases Sx p t with h | h | h | h
    ·exact (hne h).elim
    ·exact .inl h
    ·exact .inr (.inr (.inl h))
    ·exact .inr (.inr (.inr (.inl h)))
  | none =>
   left
   refine ⟨rfl, by omega, by omega, by omega, by omega, PP hs, fun t hm => ?_⟩
   obtain ⟨j, hj⟩ := zN.1 hm
   have := FJ ht j t hj
   unfold Mg at this
   split at this
   ·assumption
   ·cases this
def HY (m : Ae) (s : Nat) : Int :=
 if 0 ≤ m.f7.getD s 0 then Q3 .u8 (EI .u8 1 (m.gb.getD s 0)) (EI .u8 1 (m.f7.getD s 0)) else EI .u8 1 (m.gb.getD s 0)
def Nm (m : Ae) (i : Nat) (v : Int) : Option Int :=
 if m.gb.getD i 0 < 0 ∨ v ≤ m.gb.getD i 0 ∨ m.f7.getD i 0 < -1 ∨ v ≤ m.f7.getD i 0 then some 7
 else if m.gb.getD i 0 = m.f7.getD i 0 then some 1 else none
def Cd (t : Ao) : Bool := t.gd == 3 || t.gd == 4
def af (p : Ab) (t : Ao) : Int := wI .u8 (EI .u8 1 (p.f9.getD t.ge.toNat 0) - 1)
def KD (p : Ab) (m : Ae) (i : Nat) (t : Ao) : Option Int :=
 if Cd t = true then (if DX .u8 (HY m t.ge.toNat) (m.gc.getD i 0) ≠ 0 ∨ DX .u8 (m.gc.getD i 0) (af p t) ≠ 0 then some 1 else none)
 else if m.gc.getD i 0 ≠ 0 then some 1 else none
def GM (p : Ab) (m : Ae) : Int :=
 if BK p ≠ 0 then BK p
 else if m.gb.length ≠ p.f9.length ∨ m.f7.length ≠ p.f9.length ∨ m.gc.length ≠ p.ga.length then 6
 else (BS (DP (Nm m) 0 p.f9) (DP (KD p m) 0 p.ga)).getD 0
theorem J5 {p : Ab} {t : Ao} (h : Ej p t = 0) : 0 ≤ t.ge ∧ t.ge < (p.f9.length : Int) ∧ 0 ≤ t.gi ∧ t.gi < (p.f9.length : Int) := by
 unfold Ej at h
 split at h
 ·cases h
 ·split at h
  ·cases h
  ·omega
theorem M6 (N : Nat) (m : Ae) (s : Int) (h0 : 0 ≤ s) (h1 : s < (m.gb.length : Int)) (h2 : s < (m.f7.length : Int)) (hb : 0 ≤ m.gb.getD s.toNat 0) : Ga N m s = some (HY m s.toNat) := by
 unfold Ga HY
 rw [FV (d := 0) h0 h1, FV (d := 0) h0 h2]
 simp only [oS, Bi]
 rw [show Dt (0 ≤ m.gb.getD s.toNat 0) = some () from by unfold Dt; rw [if_pos hb]]
 simp only [oS]
 by_cases h : 0 ≤ m.f7.getD s.toNat 0
 ·rw [AB h, if_pos h, show Dt (0 ≤ m.f7.getD s.toNat 0) = some () from by unfold Dt; rw [if_pos h]]; rfl
 ·rw [Av h, if_neg h]
theorem Lt (N : Nat) (m : Ae) (s : Int) (h0 : 0 ≤ s) (h1 : s < (m.gb.length : Int)) (h2 : s < (m.f7.length : Int)) (hb : 0 ≤ m.gb.getD s.toNat 0) : Cc N m s = some (HY m s.toNat) := by
 unfold Cc HY
 rw [FV (d := 0) h0 h1, FV (d := 0) h0 h2]
 simp only [oS, Bi]
 rw [show Dt (0 ≤ m.gb.getD s.toNat 0) = some () from by unfold Dt; rw [if_pos hb]]
 simp only [oS]
 by_cases h : 0 ≤ m.f7.getD s.toNat 0
 ·rw [AB h, if_pos h, show Dt (0 ≤ m.f7.getD s.toNat 0) = some () from by unfold Dt; rw [if_pos h]]; rfl
 ·rw [Av h, if_neg h]
theorem Td (N : Nat) (p : Ab) (m : Ae) (hN : N ≤ 1000000) (h1 : p.f9.length < N) (h2 : m.gb.length = p.f9.length) (h3 : m.f7.length = p.f9.length) (j : Option Int) :
  E2 N p m (fun _ => j) N 0 = BS (DP (Nm m) 0 p.f9) j := by
 have := CX (E2 N p m (fun _ => j)) p.f9 j (Nm m)
  (fun n i x hx => by
   have hi := (lI.1 hx).1
   rw [E2, AB (by omega), AO, hx]
   simp only [oS, Bi]
   rw [DF (d := 0) (by omega), DF (d := 0) (by omega), Ay (by omega)]
   simp only [oS]
   unfold Nm
   generalize m.gb.getD i 0 = a
   generalize m.f7.getD i 0 = b
   by_cases k7 : a = b
   ·subst k7
    by_cases k3 : a < 0 <;> by_cases k4 : x ≤ a <;> by_cases k5 : a < -1 <;> simp [k3, k4, k5, BS]
   ·have k8 : (a == b) = false := beq_eq_false_iff_ne.2 k7
    by_cases k3 : a < 0 <;> by_cases k4 : x ≤ a <;> by_cases k5 : b < -1 <;> by_cases k6 : x ≤ b <;> simp [k3, k4, k5, k6, k7, k8, BS])
  (fun n => by rw [E2, Av (by omega)]) N 0 (by omega) (by omega)
 simpa using this
theorem Tv (N : Nat) (p : Ab) (m : Ae) (hN : N ≤ 1000000) (h1 : p.f9.length < N) (h2 : m.gb.length = p.f9.length) (h3 : m.f7.length = p.f9.length) (j : Option Int) :
  Cu N p m (fun _ => j) N 0 = BS (DP (Nm m) 0 p.f9) j := by
 have := CX (Cu N p m (fun _ => j)) p.f9 j (Nm m)
  (fun n i x hx => by
   have hi := (lI.1 hx).1
   rw [Cu, AB (by omega), show Bh p.f9 (i : Int) = some x from by rw [AO, hx]]
   simp only [oS, Bi]
   rw [DF (d := 0) (by omega), DF (d := 0) (by omega), Ay (by omega)]
   simp only [oS]
   unfold Nm
   generalize m.gb.getD i 0 = a
   generalize m.f7.getD i 0 = b
   by_cases k7 : a = b
   ·subst k7
    by_cases k3 : a < 0 <;> by_cases k4 : x ≤ a <;> by_cases k5 : a < -1 <;> simp [k3, k4, k5, BS]
   ·have k8 : (a == b) = false := beq_eq_false_iff_ne.2 k7
    by_cases k3 : a < 0 <;> by_cases k4 : x ≤ a <;> by_cases k5 : b < -1 <;> by_cases k6 : x ≤ b <;> simp [k3, k4, k5, k6, k7, k8, BS])
  (fun n => by rw [Cu, Av (by omega)]) N 0 (by omega) (by omega)
 simpa using this
structure MixServ (p : Ab) (m : Ae) : Prop where
 base : m.gb.length = p.f9.length
 next : m.f7.length = p.f9.length
 held : m.gc.length = p.ga.length
 b0 : ∀ i, i < p.f9.length → 0 ≤ m.gb.getD i 0 ∧ m.gb.getD i 0 < p.f9.getD i 0
 n0 : ∀ i, i < p.f9.length → -1 ≤ m.f7.getD i 0 ∧ m.f7.getD i 0 < p.f9.getD i 0
 ne : ∀ i, i < p.f9.length → m.gb.getD i 0 ≠ m.f7.getD i 0
theorem SY {p : Ab} {m : Ae} (h2 : m.gb.length = p.f9.length) (h3 : m.f7.length = p.f9.length) (h4 : m.gc.length = p.ga.length) (h : DP (Nm m) 0 p.f9 = none) : MixServ p m := by
 have key : ∀ i, i < p.f9.length → ¬ (m.gb.getD i 0 < 0 ∨ p.f9.getD i 0 ≤ m.gb.getD i 0 ∨ m.f7.getD i 0 < -1 ∨ p.f9.getD i 0 ≤ m.f7.getD i 0) ∧ ¬ m.gb.getD i 0 = m.f7.getD i 0 := by
  intro i hi
  have hx : p.f9[i]? = some (p.f9.getD i 0) := by rw [lD]; simp [hi]
  have := FJ h i _ hx
  rw [zC] at this
  unfold Nm at this
  split at this
  ·cases this
  ·split at this
   ·cases this
   ·rename_i k1 k2; exact ⟨k1, k2⟩
 exact ⟨h2, h3, h4, fun i hi => by have := (key i hi).1; omega, fun i hi => by have := (key i hi).1; omega, fun i hi => (key i hi).2⟩
theorem T2 {m : Ae} (hw : PL MK m.gc) {i : Nat} (h : i < m.gc.length) : MK (m.gc.getD i 0) := by
 refine hw _ ?_
 rw [lD, yD h]
 exact xF _
theorem KL (N : Nat) (t : Ao) : Gx N t = some (Cd t) := by
 unfold Gx Cd
 simp only [Bi]
 cases h : t.gd == 3 <;> simp
theorem HX (N : Nat) (t : Ao) : Bc N t = some (Cd t) := ON N t
theorem Vo (N : Nat) (p : Ab) (m : Ae) (hN : N ≤ 1000000) (h1 : p.ga.length < N) (hp : Be p) (hm : MixServ p m) (hw : PL MK m.gc) (j : Option Int) :
  Es N p m (fun _ => j) N 0 = BS (DP (KD p m) 0 p.ga) j := by
 have := CX (Es N p m (fun _ => j)) p.ga j (KD p m)
  (fun n i x hx => by
   have hi := (lI.1 hx).1
   have hin := J5 (hp.tab x (lM hx))
   have hheld := T2 hw (show i < m.gc.length from by rw [hm.held]; exact hi)
   have hv := KQ hp.ver hin.1 hin.2.1
   rw [Es, AB (by omega), AO, hx]
   simp only [oS, Bi, KL]
   rw [M6 N m x.ge hin.1 (by rw [hm.base]; exact hin.2.1) (by rw [hm.next]; exact hin.2.1) (hm.b0 _ (by omega)).1, FV (d := 0) hin.1 hin.2.1, DF (d := 0) (show i < m.gc.length from by rw [hm.held]; exact hi), Ay (by omega)]
   simp only [oS]
   rw [show Dt (0 ≤ p.f9.getD x.ge.toNat 0) = some () from by unfold Dt; rw [if_pos (by omega)]]
   simp only [oS]
   unfold KD af
   rw [XO hheld, YU hheld]
   generalize DX .u8 (HY m x.ge.toNat) (m.gc.getD i 0) = A
   generalize DX .u8 (m.gc.getD i 0) (wI .u8 (EI .u8 1 (p.f9.getD x.ge.toNat 0) - 1)) = B
   generalize m.gc.getD i 0 = H
   cases Cd x
   ·simp only [An, bne_self_eq_false]
    by_cases k : H = 0
    ·simp [k, BS]
    ·have : (H != 0) = true := bne_iff_ne.2 k
     simp [k, this, BS]
   ·simp only [AN]
    by_cases k : A = 0
    ·by_cases k2 : B = 0
     ·simp [k, k2, BS]
     ·have : (B != 0) = true := bne_iff_ne.2 k2
      simp [k, k2, this, BS]
    ·have : (A != 0) = true := bne_iff_ne.2 k
     simp [k, this, BS])
  (fun n => by rw [Es, Av (by omega)]) N 0 (by omega) (by omega)
 simpa using this
theorem VY (N : Nat) (p : Ab) (m : Ae) (hN : N ≤ 1000000) (h1 : p.ga.length < N) (hp : Be p) (hm : MixServ p m) (j : Option Int) :
  Cj N p m (fun _ => j) N 0 = BS (DP (KD p m) 0 p.ga) j := by
 have := CX (Cj N p m (fun _ => j)) p.ga j (KD p m)
  (fun n i x hx => by
   have hi := (lI.1 hx).1
   have hin := J5 (hp.tab x (lM hx))
   have hv := KQ hp.ver hin.1 hin.2.1
   rw [Cj, AB (by omega), AO, hx]
   simp only [oS, Bi, HX]
   rw [Lt N m x.ge hin.1 (by rw [hm.base]; exact hin.2.1) (by rw [hm.next]; exact hin.2.1) (hm.b0 _ (by omega)).1, FV (d := 0) hin.1 hin.2.1, DF (d := 0) (show i < m.gc.length from by rw [hm.held]; exact hi), Ay (by omega)]
   simp only [oS]
   rw [show Dt (0 ≤ p.f9.getD x.ge.toNat 0) = some () from by unfold Dt; rw [if_pos (by omega)]]
   simp only [oS]
   unfold KD af
   generalize DX .u8 (HY m x.ge.toNat) (m.gc.getD i 0) = A
   generalize DX .u8 (m.gc.getD i 0) (wI .u8 (EI .u8 1 (p.f9.getD x.ge.toNat 0) - 1)) = B
   generalize m.gc.getD i 0 = H
   cases Cd x
   ·simp only [yT, AN, An]
    by_cases k : H = 0
    ·simp [k, BS]
    ·have : (H != 0) = true := bne_iff_ne.2 k
     simp [k, this, BS]
   ·simp only [zV, An, AN]
    by_cases k : A = 0
    ·by_cases k2 : B = 0
     ·simp [k, k2, BS]
     ·have : (B != 0) = true := bne_iff_ne.2 k2
      simp [k, k2, this, BS]
    ·have : (A != 0) = true := bne_iff_ne.2 k
     by_cases k2 : B = 0
     ·simp [k, k2, this, BS]
     ·have h5 : (B != 0) = true := bne_iff_ne.2 k2
      simp [k, h5, BS])
  (fun n => by rw [Cj, Av (by omega)]) N 0 (by omega) (by omega)
 simpa using this
theorem JK (N : Nat) (p : Ab) (m : Ae) (hN : N ≤ 1000000) (h : 20 ≤ N) (hw : PL MK m.gc) : Gv N p m = some (GM p m) := by
 unfold Gv GM
 rw [IN N p hN h]
 simp only [oS, Bi]
 by_cases k0 : BK p = 0
 ·have hp : Be p := by
   rcases JE p with h | h
   ·exact h.2
   ·omega
  have hnv := hp.nv
  have hnt := hp.nt
  rw [k0]
  simp only [bne_self_eq_false, An, ne_eq, not_true_eq_false, if_false]
  by_cases k1 : m.gb.length = p.f9.length
  ·by_cases k2 : m.f7.length = p.f9.length
   ·by_cases k3 : m.gc.length = p.ga.length
    ·rw [k1, k2, k3]
     simp only [bne_self_eq_false, An, not_true_eq_false, or_self, if_false]
     rw [Td N p m hN (by omega) k1 k2]
     cases hs : DP (Nm m) 0 p.f9 with
     | some r => rfl
     | none =>
      simp only [BS]
      rw [Vo N p m hN (by omega) hp (SY k1 k2 k3 hs) hw]
      cases DP (KD p m) 0 p.ga <;> rfl
    ·have : ((m.gc.length : Int) != (p.ga.length : Int)) = true := bne_iff_ne.2 (by omega)
     rw [this, k1, k2]; simp [k3]
   ·have : ((m.f7.length : Int) != (p.f9.length : Int)) = true := bne_iff_ne.2 (by omega)
    rw [this, k1]; simp [k2]
  ·have : ((m.gb.length : Int) != (p.f9.length : Int)) = true := bne_iff_ne.2 (by omega)
   rw [this]; simp [k1]
 ·rw [bne_iff_ne.2 k0]; simp [k0]
theorem JC (N : Nat) (p : Ab) (m : Ae) (hN : N ≤ 1000000) (h : 20 ≤ N) : DO N p m = some (GM p m) := by
 unfold DO GM
 rw [Ns N p hN h]
 simp only [oS, Bi]
 by_cases k0 : BK p = 0
 ·have hp : Be p := by
   rcases JE p with h | h
   ·exact h.2
   ·omega
  have hnv := hp.nv
  have hnt := hp.nt
  rw [k0]
  simp only [bne_self_eq_false, An, ne_eq, not_true_eq_false, if_false]
  by_cases k1 : m.gb.length = p.f9.length
  ·by_cases k2 : m.f7.length = p.f9.length
   ·by_cases k3 : m.gc.length = p.ga.length
    ·rw [k1, k2, k3]
     simp only [bne_self_eq_false, An, not_true_eq_false, or_self, if_false]
     rw [Tv N p m hN (by omega) k1 k2]
     cases hs : DP (Nm m) 0 p.f9 with
     | some r => rfl
     | none =>
      simp only [BS]
      rw [VY N p m hN (by omega) hp (SY k1 k2 k3 hs)]
      cases DP (KD p m) 0 p.ga <;> rfl
    ·have : ((m.gc.length : Int) != (p.ga.length : Int)) = true := bne_iff_ne.2 (by omega)
     rw [this, k1, k2]; simp [k3]
   ·have : ((m.f7.length : Int) != (p.f9.length : Int)) = true := bne_iff_ne.2 (by omega)
    rw [this, k1]; simp [k2]
  ·have : ((m.gb.length : Int) != (p.f9.length : Int)) = true := bne_iff_ne.2 (by omega)
   rw [this]; simp [k1]
 ·rw [bne_iff_ne.2 k0]; simp [k0]
@[simp] theorem Ba {α β : Type} (k : α) (f : α → β) : Bi k f = f k := rfl
@[simp] theorem X3 {p : Prop} [Decidable p] (h : p) : Dt p = some () := by unfold Dt; rw [if_pos h]
theorem Ap {β : Type} {p : Prop} [Decidable p] (h : p) (f : Unit → Option β) : (Dt p).bind f = f () := by rw [X3 h]; rfl
def BU {α β : Type} (g : Nat → α → List β) : Nat → List α → List β
 | _, [] => []
 | i, x :: xs => g i x ++ BU g (i + 1) xs
def Im {α A : Type} (f : Nat → α → A → A) : Nat → List α → A → A
 | _, [], a => a
 | i, x :: xs, a => Im f (i + 1) xs (f i x a)
theorem Oa {α β : Type} (g : Nat → α → List β) : ∀ (i : Nat) (xs ys : List α), BU g i (xs ++ ys) = BU g i xs ++ BU g (i + xs.length) ys
 | i, [], ys => by simp [BU]
 | i, x :: xs, ys => by
  rw [uT, BU, BU, Oa g (i + 1) xs ys, yQ, zZ, x9, Nat.add_comm 1]
theorem EX {α β : Type} {g : Nat → α → List β} {y : β} : ∀ {i : Nat} {xs : List α}, y ∈ BU g i xs ↔ ∃ j x, xs[j]? = some x ∧ y ∈ g (i + j) x
 | _, [] => by simp [BU]
 | i, x :: xs => by
  rw [BU, yA, EX]
  constructor
  ·rintro (h | ⟨j, z, hz, h⟩)
   ·exact ⟨0, x, rfl, h⟩
   ·exact ⟨j + 1, z, by simpa using hz, by rwa [show i + (j + 1) = i + 1 + j from by omega]⟩
  ·rintro ⟨j, z, hz, h⟩
   cases j with
   | zero => simp at hz; subst hz; exact .inl h
   | succ j => exact .inr ⟨j, z, by simpa using hz, by rwa [show i + 1 + j = i + (j + 1) from by omega]⟩
theorem KK {α β : Type} {g : Nat → α → List β} {i : Nat} {xs : List α} : BU g i xs = [] ↔ ∀ j x, xs[j]? = some x → g (i + j) x = [] := by
 rw [zA2]
 constructor
 ·intro h j x hx
  rw [zA2]
  exact fun y hy => h y (EX.2 ⟨j, x, hx, hy⟩)
 ·intro h y hy
  obtain ⟨j, x, hx, hm⟩ := EX.1 hy
  rw [h j x hx] at hm; cases hm
theorem F0 {α β : Type} {g : Nat → α → List β} {c : Nat} : ∀ {i : Nat} {xs : List α}, (∀ j x, xs[j]? = some x → (g (i + j) x).length ≤ c) → (BU g i xs).length ≤ c * xs.length
 | _, [], _ => by simp [BU]
 | i, x :: xs, h => by
  have h1 := h 0 x rfl
  have h2 := F0 (g := g) (c := c) (i := i + 1) (xs := xs) fun j y hy => by
   have := h (j + 1) y (by simpa using hy)
   rwa [show i + (j + 1) = i + 1 + j from by omega] at this
  rw [BU, zT, zZ, Nat.mul_add]
  simp only [xK] at h1
  omega
theorem Ip {α A S R : Type} (L : Nat → S → Option R) (mk : A → Int → S) (xs : List α) (j : A → Option R) (f : Nat → α → A → A) (I : Nat → A → Prop)
  (hs : ∀ (n i : Nat) (x : α) (a : A), xs[i]? = some x → I i a → L (n + 1) (mk a (i : Int)) = L n (mk (f i x a) ((i + 1 : Nat) : Int)) ∧ I (i + 1) (f i x a))
  (he : ∀ (n : Nat) (a : A), I xs.length a → L (n + 1) (mk a (xs.length : Int)) = j a) :
  ∀ (n i : Nat) (a : A), i ≤ xs.length → xs.length - i < n → I i a → L n (mk a (i : Int)) = j (Im f i (xs.drop i) a) ∧ I xs.length (Im f i (xs.drop i) a)
 | 0, i, _, _, h, _ => by omega
 | n + 1, i, a, hi, h, ha => by
  by_cases h1 : i < xs.length
  ·have hx : xs[i]? = some xs[i] := by simp [h1]
   obtain ⟨e1, e2⟩ := hs n i _ a hx ha
   rw [e1, GT hx, Im]
   exact Ip L mk xs j f I hs he n (i + 1) _ (by omega) (by omega) e2
  ·have : i = xs.length := by omega
   subst this
   rw [yP (zM _), Im]
   exact ⟨he n a ha, ha⟩
theorem Qk {α β : Type} (g : Nat → α → List β) : ∀ (i : Nat) (xs : List α) (acc : List β), Im (fun i x a => a ++ g i x) i xs acc = acc ++ BU g i xs
 | _, [], acc => by simp [Im, BU]
 | i, x :: xs, acc => by rw [Im, Qk g (i + 1) xs, BU, yQ]
theorem CC {α β S R : Type} (L : Nat → S → Option R) (mk : List β → Int → S) (xs : List α) (j : List β → Option R) (g : Nat → α → List β) (c B : Nat)
  (hg : ∀ i x, xs[i]? = some x → (g i x).length ≤ c)
  (hs : ∀ (n i : Nat) (x : α) (a : List β), xs[i]? = some x → a.length + (g i x).length ≤ B → L (n + 1) (mk a (i : Int)) = L n (mk (a ++ g i x) ((i + 1 : Nat) : Int)))
  (he : ∀ (n : Nat) (a : List β), L (n + 1) (mk a (xs.length : Int)) = j a) (n : Nat) (a : List β) (hn : xs.length < n) (ha : a.length + c * xs.length ≤ B) :
  L n (mk a 0) = j (a ++ BU g 0 xs) := by
 have := Ip L mk xs j (fun i x a => a ++ g i x) (fun i b => i ≤ xs.length ∧ b.length ≤ a.length + c * i)
  (fun n i x b hx hb => by
   have h1 := hg i x hx
   have hi := (lI.1 hx).1
   have h2 : c * (i + 1) ≤ c * xs.length := Nat.mul_le_mul_left c hi
   have h3 : c * (i + 1) = c * i + c := Nat.mul_succ c i
   refine ⟨hs n i x b hx (by have := hb.2; omega), hi, ?_⟩
   rw [zT]
   have := hb.2
   omega)
  (fun n b _ => he n b) n 0 a (zL _) (by omega) ⟨zL _, by omega⟩
 have h2 := this.1
 rw [yM, Qk] at h2
 exact h2
def Ez (s : Int) (v : Nat) : Bool := s.toNat.testBit v
def JG (m : Ae) (s v : Nat) : Bool := decide (m.gb.getD s 0 = (v : Int)) || decide (m.f7.getD s 0 = (v : Int))
theorem ZM : ∀ (s : Fin 256) (v : Fin 8), HG .u8 (GW .u8 (s.val : Int) (v.val : Int)) 1 = if Ez (s.val : Int) v.val then 1 else 0 := by decide +kernel
theorem S4 {s : Int} {v : Nat} (h0 : 0 ≤ s) (h1 : s ≤ 255) (hv : v < 8) : HG .u8 (GW .u8 s (v : Int)) 1 = if Ez s v then 1 else 0 := by
 obtain ⟨k, rfl⟩ := zJ h0
 exact ZM ⟨k, by omega⟩ ⟨v, hv⟩
theorem U1 {s : Int} {v : Nat} (h0 : 0 ≤ s) (h1 : s ≤ 255) (hv : v < 8) : (HG .u8 (GW .u8 s (v : Int)) 1 == 0) = !Ez s v := by
 rw [S4 h0 h1 hv]; cases Ez s v <;> rfl
theorem Ui {s : Int} {v : Nat} (h0 : 0 ≤ s) (h1 : s ≤ 255) (hv : v < 8) : (HG .u8 (GW .u8 s (v : Int)) 1 == 1) = Ez s v := by
 rw [S4 h0 h1 hv]; cases Ez s v <;> rfl
theorem Lq {s : Int} {v : Nat} (h1 : s ≤ 255) (hv : 8 ≤ v) : Ez s v = false := by
 unfold Ez
 apply Nat.testBit_lt_two_pow
 have : (2 : Nat) ^ 8 ≤ 2 ^ v := Nat.pow_le_pow_right (by omega) hv
 omega
theorem K8 : ∀ (b : Fin 8) (v : Fin 8), Ez (EI .u8 1 (b.val : Int)) v.val = decide (b.val = v.val) ∧ 0 ≤ EI .u8 1 (b.val : Int) ∧ EI .u8 1 (b.val : Int) ≤ 255 := by decide +kernel
theorem ZS : ∀ (b n : Fin 8) (v : Fin 8), Ez (Q3 .u8 (EI .u8 1 (b.val : Int)) (EI .u8 1 (n.val : Int))) v.val = (decide (b.val = v.val) || decide (n.val = v.val))
  ∧ 0 ≤ Q3 .u8 (EI .u8 1 (b.val : Int)) (EI .u8 1 (n.val : Int)) ∧ Q3 .u8 (EI .u8 1 (b.val : Int)) (EI .u8 1 (n.val : Int)) ≤ 255 := by decide +kernel
theorem Yx {m : Ae} {s : Nat} (hb0 : 0 ≤ m.gb.getD s 0) (hb1 : m.gb.getD s 0 < 8) (hn1 : m.f7.getD s 0 < 8) :
  (∀ v, Ez (HY m s) v = JG m s v) ∧ 0 ≤ HY m s ∧ HY m s ≤ 255 := by
 unfold HY JG
 obtain ⟨b, hb⟩ := zJ hb0
 rw [hb] at hb1 ⊢
 by_cases h : 0 ≤ m.f7.getD s 0
 ·obtain ⟨n, hn⟩ := zJ h
  rw [hn] at hn1 ⊢
  rw [if_pos (by omega)]
  have h1 := ZS ⟨b, by omega⟩ ⟨n, by omega⟩
  refine ⟨fun v => ?_, (h1 0).2⟩
  by_cases hv : v < 8
  ·rw [(h1 ⟨v, hv⟩).1]
   simp only [zA4]
  ·rw [Lq (h1 0).2.2 (by omega)]
   simp; omega
 ·rw [if_neg h]
  have h1 := K8 ⟨b, by omega⟩
  refine ⟨fun v => ?_, (h1 0).2⟩
  have h3 : decide (m.f7.getD s 0 = (v : Int)) = false := decide_eq_false (by omega)
  rw [h3, Bool.or_false]
  by_cases hv : v < 8
  ·rw [(h1 ⟨v, hv⟩).1]
   simp only [zA4]
  ·rw [Lq (h1 0).2.2 (by omega)]
   simp; omega
theorem Za {a : Nat} (h : a < 256) : (BitVec.ofInt 8 (a : Int)).toNat = a := by
 simp; omega
theorem P0 {a b : Int} (ha : 0 ≤ a ∧ a ≤ 255) (hb : 0 ≤ b ∧ b ≤ 255) : DX .u8 a b = 0 ↔ ∀ v, Ez a v = true → Ez b v = true := by
 obtain ⟨a, rfl⟩ := zJ ha.1
 obtain ⟨b, rfl⟩ := zJ hb.1
 have hA := Za (a := a) (by omega)
 have hB := Za (a := b) (by omega)
 unfold DX Ez
 simp only [IntKind.bits, zK]
 have hx : ∀ x : BitVec 8, wI .u8 (x.toNat : Int) = (x.toNat : Int) := by
  intro x
  have := x.isLt
  simp [wI, IntKind.signed, IntKind.bits]
  omega
 rw [hx]
 constructor
 ·intro h v hv
  have h0 : (BitVec.ofInt 8 (a : Int) &&& ~~~BitVec.ofInt 8 (b : Int)) = (BitVec.ofNat 8 0) := by
   apply BitVec.eq_of_toNat_eq
   simp only [BitVec.toNat_ofNat, Nat.zero_mod]
   exact zA4.1 h
  by_cases hv8 : v < 8
  ·have h1 : (BitVec.ofInt 8 (a : Int) &&& ~~~BitVec.ofInt 8 (b : Int)).getLsbD v = false := by rw [h0]; simp
   rw [BitVec.getLsbD_and, BitVec.getLsbD_not] at h1
   have e1 : (BitVec.ofInt 8 (a : Int)).getLsbD v = a.testBit v := by unfold BitVec.getLsbD; rw [hA]
   have e2 : (BitVec.ofInt 8 (b : Int)).getLsbD v = b.testBit v := by unfold BitVec.getLsbD; rw [hB]
   rw [e1, e2, hv] at h1
   simpa [hv8] using h1
  ·have := Lq (s := (a : Int)) (v := v) (by omega) (by omega)
   unfold Ez at this
   rw [zK, hv] at this
   cases this
 ·intro h
  have h0 : (BitVec.ofInt 8 (a : Int) &&& ~~~BitVec.ofInt 8 (b : Int)) = (BitVec.ofNat 8 0) := by
   apply BitVec.eq_of_getLsbD_eq
   intro i hi
   rw [BitVec.getLsbD_and, BitVec.getLsbD_not]
   have e1 : (BitVec.ofInt 8 (a : Int)).getLsbD i = a.testBit i := by unfold BitVec.getLsbD; rw [hA]
   have e2 : (BitVec.ofInt 8 (b : Int)).getLsbD i = b.testBit i := by unfold BitVec.getLsbD; rw [hB]
   rw [e1, e2]
   have := h i
   cases h3 : a.testBit i
   ·simp
   ·rw [this h3]; simp
  have h2 : ∀ x : BitVec 8, x = (BitVec.ofNat 8 0) → (x.toNat : Int) = 0 := fun x hx => by rw [hx]; rfl
  exact h2 _ h0
theorem aA : ∀ n : Fin 9, (∀ v : Fin 8, Ez (wI .u8 (EI .u8 1 (n.val : Int) - 1)) v.val = decide (v.val < n.val)) ∧ 0 ≤ wI .u8 (EI .u8 1 (n.val : Int) - 1) ∧ wI .u8 (EI .u8 1 (n.val : Int) - 1) ≤ 255 := by decide +kernel
theorem Zq {n : Int} (h0 : 0 ≤ n) (h1 : n ≤ 8) : (∀ v, Ez (wI .u8 (EI .u8 1 n - 1)) v = decide ((v : Int) < n)) ∧ 0 ≤ wI .u8 (EI .u8 1 n - 1) ∧ wI .u8 (EI .u8 1 n - 1) ≤ 255 := by
 obtain ⟨n, rfl⟩ := zJ h0
 have h := aA ⟨n, by omega⟩
 refine ⟨fun v => ?_, h.2⟩
 by_cases hv : v < 8
 ·rw [h.1 ⟨v, hv⟩]; simp
 ·rw [Lq h.2.2 (by omega)]
  symm; apply decide_eq_false; omega
structure B4 (p : Ab) (m : Ae) : Prop extends MixServ p m where
 range : ∀ i, i < p.ga.length → 0 ≤ m.gc.getD i 0 ∧ m.gc.getD i 0 ≤ 255
 low : ∀ i t, p.ga[i]? = some t → Cd t = true → ∀ v, JG m t.ge.toNat v = true → Ez (m.gc.getD i 0) v = true
 high : ∀ i t, p.ga[i]? = some t → Cd t = true → ∀ v, Ez (m.gc.getD i 0) v = true → (v : Int) < p.f9.getD t.ge.toNat 0
 none : ∀ i t, p.ga[i]? = some t → Cd t = false → m.gc.getD i 0 = 0
theorem Jo {p : Ab} (hp : Be p) {i : Nat} (hi : i < p.f9.length) : 1 ≤ p.f9.getD i 0 ∧ p.f9.getD i 0 ≤ 6 := by
 have := KQ (i := (i : Int)) hp.ver (by omega) (by omega)
 simpa using this
theorem Jb {p : Ab} {m : Ae} (hp : Be p) (hm : MixServ p m) {s : Nat} (hs : s < p.f9.length) :
  (∀ v, Ez (HY m s) v = JG m s v) ∧ 0 ≤ HY m s ∧ HY m s ≤ 255 := by
 have h1 := hm.b0 s hs
 have h2 := hm.n0 s hs
 have h3 := Jo hp hs
 exact Yx h1.1 (by omega) (by omega)
theorem U3 {p : Ab} {m : Ae} (hp : Be p) (hm : MixServ p m) {i : Nat} {t : Ao} (ht : p.ga[i]? = some t) (hr : 0 ≤ m.gc.getD i 0 ∧ m.gc.getD i 0 ≤ 255) :
  KD p m i t = none ↔ ((Cd t = true → (∀ v, JG m t.ge.toNat v = true → Ez (m.gc.getD i 0) v = true) ∧ (∀ v, Ez (m.gc.getD i 0) v = true → (v : Int) < p.f9.getD t.ge.toNat 0)) ∧ (Cd t = false → m.gc.getD i 0 = 0)) := by
 have hin := J5 (hp.tab t (lM ht))
 have hrun := Jb hp hm (s := t.ge.toNat) (by omega)
 have hver := Jo hp (i := t.ge.toNat) (by omega)
 have hall := Zq (n := p.f9.getD t.ge.toNat 0) (by omega) (by omega)
 unfold KD af
 have e1 := P0 hrun.2 hr
 have e2 := P0 hr hall.2
 cases hst : Cd t
 ·simp
 ·simp only [if_true, true_implies, Bool.true_eq_false, false_implies, and_true, ite_eq_right_iff, reduceCtorEq, imp_false, not_or, Decidable.not_not]
  rw [e1, e2]
  simp only [hrun.1, hall.1, decide_eq_true_eq]
theorem KZ {p : Ab} {m : Ae} (hw : PL MK m.gc) (h : GM p m = 0) : Be p ∧ B4 p m := by
 unfold GM at h
 split at h
 ·rename_i k; exact (k h).elim
 ·rename_i k0
  have hp : Be p := by
   rcases JE p with h | h
   ·exact h.2
   ·omega
  split at h
  ·cases h
  ·rename_i k1
   have b1 : m.gb.length = p.f9.length := Decidable.not_not.1 fun h => k1 (.inl h)
   have b2 : m.f7.length = p.f9.length := Decidable.not_not.1 fun h => k1 (.inr (.inl h))
   have b3 : m.gc.length = p.ga.length := Decidable.not_not.1 fun h => k1 (.inr (.inr h))
   cases hs : DP (Nm m) 0 p.f9 with
   | some r =>
    obtain ⟨j, x, _, he⟩ := Fp hs
    rw [hs] at h
    unfold Nm at he
    simp only [BS, yL] at h
    split at he
    ·cases he; cases h
    ·split at he
     ·cases he; cases h
     ·cases he
   | none =>
    have hm := SY b1 b2 b3 hs
    rw [hs] at h
    simp only [BS] at h
    cases ht : DP (KD p m) 0 p.ga with
    | some r =>
     obtain ⟨j, x, _, he⟩ := Fp ht
     rw [ht] at h
     simp only [yL] at h
     subst h
     unfold KD at he
     split at he
     ·split at he <;> cases he
     ·split at he <;> cases he
    | none =>
     have hr : ∀ i, i < p.ga.length → 0 ≤ m.gc.getD i 0 ∧ m.gc.getD i 0 ≤ 255 := fun i hi => Kb (T2 hw (by omega))
     have key : ∀ i t, p.ga[i]? = some t → _ := fun i t hi => (U3 hp hm hi (hr i (lI.1 hi).1)).1 (by have := FJ ht i t hi; rwa [zC] at this)
     exact ⟨hp, hm, hr, fun i t hi hst => ((key i t hi).1 hst).1, fun i t hi hst => ((key i t hi).1 hst).2, fun i t hi hst => (key i t hi).2 hst⟩
theorem FU {α R : Type} {f : Nat → α → Option R} : ∀ {i : Nat} {xs : List α}, (∀ j x, xs[j]? = some x → f (i + j) x = none) → DP f i xs = none
 | _, [], _ => rfl
 | i, y :: ys, h => by
  rw [GR, show f i y = none from h 0 y rfl]
  exact FU fun j x hx => by
   have := h (j + 1) x (by simpa using hx)
   rwa [show i + (j + 1) = i + 1 + j from by omega] at this
theorem TA {p : Ab} (hp : Be p) (hr : ∀ i, i < p.f9.length → 0 ≤ p.gf.getD i 0 ∧ p.gf.getD i 0 < p.f9.getD i 0 ∧ 0 ≤ p.gj.getD i 0 ∧ p.gj.getD i 0 < p.f9.getD i 0) : BK p = 0 := by
 have := hp.nv
 have := hp.nt
 have := hp.now
 have := hp.tgt
 unfold BK
 rw [if_neg (by omega), if_neg (by omega)]
 have h1 : DP (Gy p) 0 p.f9 = none := FU fun j x hx => by
  have hj := (lI.1 hx).1
  have h1 := hr j hj
  have h2 := Jo hp hj
  have e : p.f9.getD j 0 = x := by rw [lD, hx]; rfl
  rw [e] at h1 h2
  unfold Gy
  rw [zC, if_neg (by omega)]
 have h2 : DP (Mg p) 0 p.ga = none := FU fun j x hx => by
  unfold Mg
  rw [if_pos (hp.tab x (lM hx))]
 rw [h1, h2]; rfl
theorem Co {p : Ab} (h : BK p = 0) : Be p ∧ ∀ i, i < p.f9.length → 0 ≤ p.gf.getD i 0 ∧ p.gf.getD i 0 < p.f9.getD i 0 ∧ 0 ≤ p.gj.getD i 0 ∧ p.gj.getD i 0 < p.f9.getD i 0 := by
 have hp : Be p := by
  rcases JE p with h | h
  ·exact h.2
  ·omega
 refine ⟨hp, fun i hi => ?_⟩
 have h1 := hp.nv
 have h2 := hp.nt
 have h3 := hp.now
 have h4 := hp.tgt
 unfold BK at h
 rw [if_neg (by omega), if_neg (by omega)] at h
 cases hs : DP (Gy p) 0 p.f9 with
 | some r =>
  obtain ⟨j, x, _, he⟩ := Fp hs
  rw [hs] at h
  unfold Gy at he
  split at he
  ·cases he; cases h
  ·cases he
 | none =>
  have hx : p.f9[i]? = some (p.f9.getD i 0) := by rw [lD]; simp [hi]
  have := FJ hs i _ hx
  rw [zC] at this
  unfold Gy at this
  split at this
  ·cases this
  ·rename_i hn; omega
theorem Jf {p : Ab} {m : Ae} (hv : BK p = 0) (hm : B4 p m) : GM p m = 0 := by
 obtain ⟨hp, _⟩ := Co hv
 unfold GM
 rw [hv, if_neg (by simp), if_neg (by have := hm.base; have := hm.next; have := hm.held; omega)]
 have h1 : DP (Nm m) 0 p.f9 = none := FU fun j x hx => by
  have hj := (lI.1 hx).1
  have e : p.f9.getD j 0 = x := by rw [lD, hx]; rfl
  have h1 := hm.b0 j hj
  have h2 := hm.n0 j hj
  have h3 := hm.ne j hj
  rw [e] at h1 h2
  unfold Nm
  rw [zC, if_neg (by omega), if_neg h3]
 have h2 : DP (KD p m) 0 p.ga = none := FU fun j x hx => by
  have hj := (lI.1 hx).1
  rw [zC]
  exact (U3 hp hm.toMixServ hx (hm.range j hj)).2 ⟨fun hst => ⟨hm.low j x hx hst, hm.high j x hx hst⟩, fun hst => hm.none j x hx hst⟩
 rw [h1, h2]; rfl
def MQ {α : Type} (g : Nat → α → Bool) : Nat → List α → Bool
 | _, [] => false
 | i, x :: xs => g i x || MQ g (i + 1) xs
theorem Ql {α : Type} {g : Nat → α → Bool} : ∀ {i : Nat} {xs : List α}, MQ g i xs = true ↔ ∃ j x, xs[j]? = some x ∧ g (i + j) x = true
 | _, [] => by simp [MQ]
 | i, x :: xs => by
  rw [MQ, xO, Ql]
  constructor
  ·rintro (h | ⟨j, z, hz, h⟩)
   ·exact ⟨0, x, rfl, h⟩
   ·exact ⟨j + 1, z, by simpa using hz, by rwa [show i + (j + 1) = i + 1 + j from by omega]⟩
  ·rintro ⟨j, z, hz, h⟩
   cases j with
   | zero => simp at hz; subst hz; exact .inl h
   | succ j => exact .inr ⟨j, z, by simpa using hz, by rwa [show i + 1 + j = i + (j + 1) from by omega]⟩
theorem Nn {α β : Type} (g : Nat → α → List β) (h : Nat → α → Bool) : ∀ (i : Nat) (xs : List α) (a : List β) (b : Bool),
  Im (fun i x (s : List β × Bool) => (s.1 ++ g i x, s.2 || h i x)) i xs (a, b) = (a ++ BU g i xs, b || MQ h i xs)
 | _, [], a, b => by simp [Im, BU, MQ]
 | i, x :: xs, a, b => by rw [Im, Nn g h, BU, MQ, yQ, Bool.or_assoc]
def gC (i u : Nat) (m : Ae) (t : Ao) (v : Nat) (ok : Bool) : List Aa :=
 if JG m t.gi.toNat v && (!ok && !t.gl) then [⟨(i : Int), (u : Int), (v : Int)⟩] else []
def hC (m : Ae) (t : Ao) (v : Nat) (ok : Bool) : Bool := JG m t.gi.toNat v && ok
def KT (i : Nat) (m : Ae) (t : Ao) (u : Nat) (row : List Bool) : List Aa :=
 BU (gC i u m t) 0 row ++ if t.gl && !MQ (hC m t) 0 row then [⟨(i : Int), (u : Int), -1⟩] else []
def TC (m : Ae) (i : Nat) (t : Ao) (u : Nat) : Bool := if Cd t then Ez (m.gc.getD i 0) u else JG m t.ge.toNat u
def KA (m : Ae) (i : Nat) (t : Ao) : List Aa := BU (fun u row => if TC m i t u then KT i m t u row else []) 0 t.gh
def FQ (p : Ab) (m : Ae) : List Aa := BU (KA m) 0 p.ga
structure NH (p : Ab) (t : Ao) : Prop where
 kind : 1 ≤ t.gd ∧ t.gd ≤ 4
 aware : t.gl = true → Cd t = false
 from0 : 0 ≤ t.ge ∧ t.ge < (p.f9.length : Int)
 to0 : 0 ≤ t.gi ∧ t.gi < (p.f9.length : Int)
 okL : (t.gh.length : Int) = p.f9.getD t.ge.toNat 0
 okR : ∀ row, row ∈ t.gh → (row.length : Int) = p.f9.getD t.gi.toNat 0
 reL : t.gd = 4 → (t.gk.length : Int) = p.f9.getD t.ge.toNat 0
 reR : ∀ row, row ∈ t.gk → (row.length : Int) = p.f9.getD t.ge.toNat 0
 reD : t.gd = 4 → Kd t.gk = none
 reN : t.gd ≠ 4 → t.gk = []
theorem IX {p : Ab} {t : Ao} (h : Ej p t = 0) : NH p t := by
 unfold Ej at h
 split at h
 ·cases h
 rename_i h1
 split at h
 ·cases h
 rename_i h2
 simp only at h
 split at h
 ·cases h
 rename_i h3
 have h3 : sq t.gh (p.f9.getD t.ge.toNat 0) (p.f9.getD t.gi.toNat 0) = true := by simpa using h3
 have h3 := PE h3
 have ha : t.gl = true → Cd t = false := by
  intro ha
  unfold Cd
  rw [vF, beq_eq_false_iff_ne, beq_eq_false_iff_ne]
  exact ⟨fun hk => h1 (.inr (.inr ⟨ha, .inl hk⟩)), fun hk => h1 (.inr (.inr ⟨ha, .inr hk⟩))⟩
 split at h
 ·rename_i h4
  split at h
  ·cases h
  rename_i h5
  have h5 : sq t.gk (p.f9.getD t.ge.toNat 0) (p.f9.getD t.ge.toNat 0) = true := by simpa using h5
  have h5 := PE h5
  refine ⟨by omega, ha, by omega, by omega, h3.1, h3.2, fun _ => h5.1, h5.2, fun _ => ?_, fun h => (h h4).elim⟩
  cases hd : Kd t.gk with
  | none => rfl
  | some r =>
   obtain ⟨j, x, _, hx⟩ := Fp hd
   rw [hd] at h
   split at hx
   ·cases hx
   ·cases hx; cases h
 ·rename_i h4
  split at h
  ·rename_i h5
   have h5 := yF h5
   refine ⟨by omega, ha, by omega, by omega, h3.1, h3.2, fun h => (h4 h).elim, fun row hr => ?_, fun h => (h4 h).elim, fun _ => h5⟩
   rw [h5] at hr; cases hr
  ·cases h
theorem MC {R : Type} (b : Bool) (acc : List Aa) (x : Aa) (j : List Aa → Option R) (h : acc.length + 1 ≤ CP) :
  AR b ((Dt (acc.length + ([x] : List Aa).length ≤ CP)).bind fun _ => j (acc ++ [x])) (j acc) = j (acc ++ if b then [x] else []) := by
 cases b
 ·simp
 ·rw [AN, Ap (by simpa using h)]; rfl
theorem T8 (N : Nat) (m : Ae) (t : Ao) (i u : Nat) (row : List Bool) (R : Int) (b1 b2 acc : List Aa) (j : List Aa × Bool → Option (List Aa))
  (hN : N ≤ 1000000) (h8 : 8 ≤ N) (hrow : row.length ≤ 6) (hacc : acc.length + 6 ≤ CP) (hR0 : 0 ≤ R) (hR1 : R ≤ 255) (hRb : ∀ v, Ez R v = JG m t.gi.toNat v) :
  Cf N (b1, (i : Int)) t R (b2, (u : Int)) row j N (acc, false, 0) = j (acc ++ BU (gC i u m t) 0 row, MQ (hC m t) 0 row) := by
 have := Ip (A := List Aa × Bool) (Cf N (b1, (i : Int)) t R (b2, (u : Int)) row j) (fun a k => (a.1, a.2, k)) row (fun a => j a) (fun v ok s => (s.1 ++ gC i u m t v ok, s.2 || hC m t v ok))
  (fun v a => v ≤ row.length ∧ a.1.length ≤ acc.length + v)
  (fun n v ok a hx ha => by
   have hv := (lI.1 hx).1
   obtain ⟨c, f⟩ := a
   simp only at ha
   refine ⟨?_, by omega, ?_⟩
   ·rw [Cf]
    simp only [Ba]
    rw [AB (by omega), AO, hx]
    simp only [oS]
    rw [Ap (by omega), U1 hR0 hR1 (by omega), hRb, Ay (by omega), MC _ _ _ (fun l => Cf N (b1, (i : Int)) t R (b2, (u : Int)) row j n (l, true, ((v + 1 : Nat) : Int))) (by omega)]
    unfold gC hC
    rw [MC _ _ _ (fun l => Cf N (b1, (i : Int)) t R (b2, (u : Int)) row j n (l, ok, ((v + 1 : Nat) : Int))) (by omega)]
    cases JG m t.gi.toNat v
    ·simp
    ·cases ok <;> cases f <;> cases t.gl <;> simp
   ·simp only [gC, zT]
    split <;> simp <;> omega)
  (fun n a _ => by
   rw [Cf]
   simp only [Ba]
   rw [Av (by omega)]) N 0 (acc, false) (by omega) (by omega) ⟨by omega, by simp⟩
 have h2 := this.1
 rw [yM, Nn, uZ] at h2
 exact h2
theorem JM {p : Ab} {t : Ao} (hp : Be p) (ht : NH p t) : t.gh.length ≤ 6 ∧ ∀ row, row ∈ t.gh → row.length ≤ 6 := by
 have h1 := KQ hp.ver ht.from0.1 ht.from0.2
 have h2 := KQ hp.ver ht.to0.1 ht.to0.2
 have h3 := ht.okL
 exact ⟨by omega, fun row hr => by have := ht.okR row hr; omega⟩
theorem V6 (i u : Nat) (m : Ae) (t : Ao) (v : Nat) (ok : Bool) : (gC i u m t v ok).length ≤ 1 := by
 unfold gC; split <;> simp
theorem Vd (i : Nat) (m : Ae) (t : Ao) (u : Nat) (row : List Bool) (h : row.length ≤ 6) : (KT i m t u row).length ≤ 7 := by
 unfold KT
 rw [zT]
 have := F0 (g := gC i u m t) (c := 1) (i := 0) (xs := row) (fun j x _ => V6 _ _ _ _ _ _)
 split <;> simp <;> omega
theorem U9 (i : Nat) (m : Ae) (t : Ao) (u : Nat) (row : List Bool) (h : row.length ≤ 6) : (if TC m i t u = true then KT i m t u row else []).length ≤ 7 := by
 have := Vd i m t u row h
 split <;> simp <;> omega
theorem Ps {p : Ab} {t : Ao} (hp : Be p) (ht : NH p t) (i : Nat) (m : Ae) : (KA m i t).length ≤ 42 := by
 have h1 := JM hp ht
 have := F0 (g := fun u row => if TC m i t u = true then KT i m t u row else []) (c := 7) (i := 0) (xs := t.gh) (fun j x hx => U9 i m t _ x (h1.2 x (lM hx)))
 unfold KA
 omega
theorem N7 (N : Nat) (p : Ab) (m : Ae) (t : Ao) (i : Nat) (W R : Int) (b1 acc : List Aa) (j : List Aa → Option (List Aa))
  (hN : N ≤ 1000000) (h8 : 8 ≤ N) (hp : Be p) (ht : NH p t) (hacc : acc.length + 42 ≤ 10000) (hR0 : 0 ≤ R) (hR1 : R ≤ 255) (hRb : ∀ v, Ez R v = JG m t.gi.toNat v) (hW0 : 0 ≤ W) (hW1 : W ≤ 255) (hWb : ∀ v, Ez W v = TC m i t v) :
  CK N (b1, (i : Int)) t R W j N (acc, 0) = j (acc ++ KA m i t) := by
 have hl := JM hp ht
 exact CC (CK N (b1, (i : Int)) t R W j) (fun a k => (a, k)) t.gh j (fun u row => if TC m i t u then KT i m t u row else []) 7 10000
  (fun u row hx => U9 i m t u row (hl.2 row (lM hx)))
  (fun n u row a hx ha => by
   have hu := (lI.1 hx).1
   have hrow := hl.2 row (lM hx)
   rw [CK]
   simp only [Ba]
   rw [AB (by omega), Ap (by omega), U1 hW0 hW1 (by omega), hWb, AO, hx]
   simp only [oS]
   rw [T8 N m t i u row R b1 a a _ hN h8 hrow (by unfold CP; omega) hR0 hR1 hRb, Ay (by omega)]
   cases hw : TC m i t u
   ·simp
   ·simp only [zV, An, if_true, KT]
    have h1 := F0 (g := gC i u m t) (c := 1) (i := 0) (xs := row) (fun j x _ => V6 _ _ _ _ _ _)
    have := MC (R := List Aa) (t.gl && !MQ (hC m t) 0 row) (a ++ BU (gC i u m t) 0 row) ⟨(i : Int), (u : Int), -1⟩ (fun l => CK N (b1, (i : Int)) t R W j n (l, ((u + 1 : Nat) : Int))) (by rw [zT]; unfold CP; rw [hw, if_pos rfl] at ha; omega)
    rw [← yQ, ← this]
    cases t.gl <;> cases MQ (hC m t) 0 row <;> rfl)
  (fun n a => by
   rw [CK]
   simp only [Ba]
   rw [Av (by omega)]) N acc (by omega) (by omega)
theorem T1 (N : Nat) (p : Ab) (m : Ae) (t : Ao) (i u : Nat) (row : List Bool) (b1 b2 acc : List Aa) (j : List Aa × Bool → Option (List Aa))
  (hN : N ≤ 1000000) (h8 : 8 ≤ N) (hp : Be p) (hm : MixServ p m) (ht : NH p t) (hu : t.gh[u]? = some row) (hacc : acc.length + 6 ≤ CP) :
  Bv N p m (b1, (i : Int)) t (b2, (u : Int)) j N (acc, false, 0) = j (acc ++ BU (gC i u m t) 0 row, MQ (hC m t) 0 row) := by
 have hrow := (JM hp ht).2 row (lM hu)
 have hR := Jb hp hm (s := t.gi.toNat) (by have := ht.to0; omega)
 have hlen := ht.okR row (lM hu)
 have hto := ht.to0
 have := Ip (A := List Aa × Bool) (Bv N p m (b1, (i : Int)) t (b2, (u : Int)) j) (fun a k => (a.1, a.2, k)) row (fun a => j a) (fun v ok s => (s.1 ++ gC i u m t v ok, s.2 || hC m t v ok))
  (fun v a => v ≤ row.length ∧ a.1.length ≤ acc.length + v)
  (fun n v ok a hx ha => by
   have hv := (lI.1 hx).1
   obtain ⟨c, f⟩ := a
   simp only at ha
   refine ⟨?_, by omega, ?_⟩
   ·rw [Bv]
    simp only [Ba]
    rw [FV (d := 0) hto.1 hto.2, Lt N m t.gi hto.1 (by rw [hm.base]; exact hto.2) (by rw [hm.next]; exact hto.2) (hm.b0 _ (by omega)).1, AO, hu]
    simp only [oS]
    unfold CV
    rw [AB (by omega), AO, hx, Ap (by omega), Ui hR.2.1 hR.2.2 (by omega), hR.1]
    simp only [oS]
    rw [Ay (by omega), MC _ _ _ (fun l => Bv N p m (b1, (i : Int)) t (b2, (u : Int)) j n (l, true, ((v + 1 : Nat) : Int))) (by omega)]
    unfold gC hC
    rw [MC _ _ _ (fun l => Bv N p m (b1, (i : Int)) t (b2, (u : Int)) j n (l, ok, ((v + 1 : Nat) : Int))) (by omega)]
    cases JG m t.gi.toNat v
    ·simp
    ·cases ok <;> cases f <;> cases t.gl <;> simp
   ·simp only [gC, zT]
    split <;> simp <;> omega)
  (fun n a _ => by
   rw [Bv]
   simp only [Ba]
   rw [FV (d := 0) hto.1 hto.2]
   simp only [oS]
   rw [Av (by omega)]) N 0 (acc, false) (by omega) (by omega) ⟨by omega, by simp⟩
 have h2 := this.1
 rw [yM, Nn, uZ] at h2
 exact h2
theorem NE (N : Nat) (p : Ab) (m : Ae) (t : Ao) (i : Nat) (W : Int) (b1 acc : List Aa) (j : List Aa → Option (List Aa))
  (hN : N ≤ 1000000) (h8 : 8 ≤ N) (hp : Be p) (hm : MixServ p m) (ht : NH p t) (hacc : acc.length + 42 ≤ 10000) (hW0 : 0 ≤ W) (hW1 : W ≤ 255) (hWb : ∀ v, Ez W v = TC m i t v) :
  BN N p m (b1, (i : Int)) t W j N (acc, 0) = j (acc ++ KA m i t) := by
 have hl := JM hp ht
 have hfr := ht.from0
 have hok := ht.okL
 exact CC (BN N p m (b1, (i : Int)) t W j) (fun a k => (a, k)) t.gh j (fun u row => if TC m i t u then KT i m t u row else []) 7 10000
  (fun u row hx => U9 i m t u row (hl.2 row (lM hx)))
  (fun n u row a hx ha => by
   have hu := (lI.1 hx).1
   have hrow := hl.2 row (lM hx)
   rw [BN]
   simp only [Ba]
   rw [FV (d := 0) hfr.1 hfr.2]
   simp only [oS]
   unfold CV
   rw [AB (by omega), Ap (by omega), Ui hW0 hW1 (by omega), hWb]
   simp only [oS]
   rw [T1 N p m t i u row b1 a a _ hN h8 hp hm ht hx (by unfold CP; omega), Ay (by omega)]
   cases hw : TC m i t u
   ·simp
   ·simp only [zV, An, if_true, KT]
    have h1 := F0 (g := gC i u m t) (c := 1) (i := 0) (xs := row) (fun j x _ => V6 _ _ _ _ _ _)
    have := MC (R := List Aa) (t.gl && !MQ (hC m t) 0 row) (a ++ BU (gC i u m t) 0 row) ⟨(i : Int), (u : Int), -1⟩ (fun l => BN N p m (b1, (i : Int)) t W j n (l, ((u + 1 : Nat) : Int))) (by rw [zT]; unfold CP; rw [hw, if_pos rfl] at ha; omega)
    rw [← yQ, ← this]
    cases t.gl <;> cases MQ (hC m t) 0 row <;> rfl)
  (fun n a => by
   rw [BN]
   simp only [Ba]
   rw [FV (d := 0) hfr.1 hfr.2]
   simp only [oS]
   rw [Av (by omega)]) N acc (by omega) (by omega)
theorem O7 (N : Nat) (p : Ab) (m : Ae) (hN : N ≤ 1000000) (h20 : 20 ≤ N) (hp : Be p) (hm : B4 p m) : GP N p m = some (FQ p m) := by
 unfold GP
 have hnt := hp.nt
 rw [CC (D4 N p m _) (fun a k => (a, k)) p.ga some (KA m) 42 9000
  (fun i t hx => Ps hp (IX (hp.tab t (lM hx))) i m)
  (fun n i t a hx ha => by
   have hi := (lI.1 hx).1
   have ht := IX (hp.tab t (lM hx))
   have hto := ht.to0
   have hfr := ht.from0
   have hR := Jb hp hm.toMixServ (s := t.gi.toNat) (by omega)
   have hF := Jb hp hm.toMixServ (s := t.ge.toNat) (by omega)
   have hH := hm.range i hi
   rw [D4]
   simp only [Ba]
   rw [AB (by omega), AO, hx]
   simp only [oS, KL]
   rw [M6 N m t.ge hfr.1 (by rw [hm.base]; exact hfr.2) (by rw [hm.next]; exact hfr.2) (hm.b0 _ (by omega)).1, M6 N m t.gi hto.1 (by rw [hm.base]; exact hto.2) (by rw [hm.next]; exact hto.2) (hm.b0 _ (by omega)).1, DF (d := 0) (by rw [hm.held]; exact hi), Ay (by omega)]
   simp only [oS]
   cases hs : Cd t
   ·rw [An, N7 N p m t i _ _ a a _ hN (by omega) hp ht (by omega) hR.2.1 hR.2.2 hR.1 hF.2.1 hF.2.2 (fun v => by unfold TC; rw [hs, hF.1]; rfl)]
   ·rw [AN, N7 N p m t i _ _ a a _ hN (by omega) hp ht (by omega) hR.2.1 hR.2.2 hR.1 hH.1 hH.2 (fun v => by unfold TC; rw [hs]; rfl)])
  (fun n a => by
   rw [D4]
   simp only [Ba]
   rw [Av (by omega)]) N [] (by omega) (by simp; omega)]
 rfl
theorem OE (N : Nat) (p : Ab) (m : Ae) (hN : N ≤ 1000000) (h20 : 20 ≤ N) (hp : Be p) (hm : B4 p m) : FC N p m = some (FQ p m) := by
 unfold FC
 have hnt := hp.nt
 rw [CC (C9 N p m _) (fun a k => (a, k)) p.ga some (KA m) 42 9000
  (fun i t hx => Ps hp (IX (hp.tab t (lM hx))) i m)
  (fun n i t a hx ha => by
   have hi := (lI.1 hx).1
   have ht := IX (hp.tab t (lM hx))
   have hto := ht.to0
   have hfr := ht.from0
   have hF := Jb hp hm.toMixServ (s := t.ge.toNat) (by omega)
   have hH := hm.range i hi
   rw [C9]
   simp only [Ba]
   rw [AB (by omega), AO, hx]
   simp only [oS, HX]
   rw [Lt N m t.ge hfr.1 (by rw [hm.base]; exact hfr.2) (by rw [hm.next]; exact hfr.2) (hm.b0 _ (by omega)).1, DF (d := 0) (by rw [hm.held]; exact hi), Ay (by omega)]
   simp only [oS]
   cases hs : Cd t
   ·rw [An, NE N p m t i _ a a _ hN (by omega) hp hm.toMixServ ht (by omega) hF.2.1 hF.2.2 (fun v => by unfold TC; rw [hs, hF.1]; rfl)]
   ·rw [AN, NE N p m t i _ a a _ hN (by omega) hp hm.toMixServ ht (by omega) hH.1 hH.2 (fun v => by unfold TC; rw [hs]; rfl)])
  (fun n a => by
   rw [C9]
   simp only [Ba]
   rw [Av (by omega)]) N [] (by omega) (by simp; omega)]
 rfl
theorem FN {A S R : Type} (L : Nat → S → Option R) (mk : A → Int → S) (len : Nat) (j : A → Option R) (I : Nat → A → Prop)
  (hs : ∀ (n i : Nat) (a : A), i < len → I i a → ∃ a', L (n + 1) (mk a (i : Int)) = L n (mk a' ((i + 1 : Nat) : Int)) ∧ I (i + 1) a')
  (he : ∀ (n : Nat) (a : A), I len a → L (n + 1) (mk a (len : Int)) = j a) :
  ∀ (n i : Nat) (a : A), i ≤ len → len - i < n → I i a → ∃ a', L n (mk a (i : Int)) = j a' ∧ I len a'
 | 0, i, _, _, h, _ => by omega
 | n + 1, i, a, hi, h, ha => by
  by_cases h1 : i < len
  ·obtain ⟨a', e1, e2⟩ := hs n i a h1 ha
   rw [e1]
   exact FN L mk len j I hs he n (i + 1) _ (by omega) (by omega) e2
  ·have : i = len := by omega
   subst this
   exact ⟨a, he n a ha, ha⟩
theorem Kr {α : Type} {xs ys : List α} {i : Nat} {d : α} (h : i < xs.length) : (xs ++ ys).getD i d = xs.getD i d := by
 rw [lD, lD, yK h]
theorem KC {α : Type} {xs : List α} {y : α} {i : Nat} {d : α} (h : i = xs.length) : (xs ++ [y]).getD i d = y := by
 subst h; rw [lD, yJ (zM _)]; simp
theorem QF {α : Type} {P : Nat → α → Prop} {xs : List α} {y : α} {d : α} {n : Nat} (hn : xs.length = n) (h : ∀ k, k < n → P k (xs.getD k d)) (hy : P n y) : ∀ k, k < n + 1 → P k ((xs ++ [y]).getD k d) := by
 intro k hk
 by_cases h1 : k < n
 ·rw [Kr (by omega)]; exact h k h1
 ·have : k = n := by omega
  subst this
  rw [KC hn.symm]; exact hy
theorem WO {l : List Int} (hw : PL MK l) (i : Nat) : 0 ≤ l.getD i 0 ∧ l.getD i 0 ≤ 255 := by
 by_cases h : i < l.length
 ·have : l.getD i 0 ∈ l := by rw [lD, yD h]; exact xF _
  exact Kb (hw _ this)
 ·rw [lD, yG (by omega)]
  exact ⟨by decide, by decide⟩
theorem RC (N : Nat) {l : List Int} (hw : PL MK l) (i : Nat) : EW N l (i : Int) = some (l.getD i 0) := by
 unfold EW
 have h2 := WO hw i
 by_cases h : i < l.length
 ·rw [AB (by omega), DF (d := 0) h]
  simp only [oS]
  rw [B2 (by omega) (by omega)]
 ·rw [Av (by omega), lD, yG (by omega)]; rfl
theorem IY {a n : Int} (ha : 0 ≤ a) (hn : 0 < n) : 0 ≤ zY a n ∧ zY a n < n := ⟨Int.tmod_nonneg n ha, Int.tmod_lt_of_pos a hn⟩
theorem aZ {l : List (List Bool)} {n m : Int} (h1 : (l.length : Int) = n) (h2 : ∀ row, row ∈ l → (row.length : Int) = m) : sq l n m = true := by
 unfold sq
 simp only [zH, decide_eq_true_eq, zG]
 exact ⟨h1, h2⟩
theorem cB {p : Ab} {t : Ao} (h : NH p t) : Ej p t = 0 := by
 have hk := h.kind
 have hf := h.from0
 have ht := h.to0
 unfold Ej
 rw [if_neg, if_neg (by omega)]
 ·simp only [aZ h.okL h.okR]
  rw [if_neg (by simp)]
  by_cases h4 : t.gd = 4
  ·rw [if_pos h4, aZ (h.reL h4) h.reR, if_neg (by simp), h.reD h4]; rfl
  ·rw [if_neg h4, h.reN h4]; rfl
 ·rintro (h1 | h1 | ⟨h1, h2⟩)
  ·omega
  ·omega
  ·have := h.aware h1
   unfold Cd at this
   rw [vF, beq_eq_false_iff_ne, beq_eq_false_iff_ne] at this
   omega
theorem YV (N : Nat) (m bad : Int) (diag : Bool) (i : Nat) (acc : List (List Bool)) {_R : Type} (j : List Bool → Option (List (List Bool))) (hN : N ≤ 1000000) (h20 : 20 ≤ N) (hm : 0 ≤ m ∧ m ≤ 6) (hi : i < 6) :
  ∃ row, CM N m bad diag (acc, (i : Int)) j N ([], 0) = j row ∧ (row.length : Int) = m ∧ (diag = true → (i : Int) < m → row.getD i false = true) := by
 obtain ⟨M, rfl⟩ := zJ hm.1
 obtain ⟨row, e, h1, h2⟩ := FN (A := List Bool) (CM N (M : Int) bad diag (acc, (i : Int)) j) (fun a k => (a, k)) M j
  (fun k a => a.length = k ∧ ∀ q, q < k → diag = true → q = i → a.getD q false = true)
  (fun n k a hk ha => by
   refine ⟨a ++ [(diag && decide (i = k)) || (zY (GW .u16 bad ((3 * i + k : Nat) : Int)) 2 == 0)], ?_, by simp [ha.1], QF (P := fun q y => diag = true → q = i → y = true) ha.1 ha.2 (fun h1 h2 => by simp [h1, h2])⟩
   rw [CM]
   simp only [Ba]
   rw [AB (by omega), Ay (by omega), B2 (n := 3 * (i : Int)) (by omega) (by omega), B2 (n := 3 * (i : Int) + (k : Int)) (by omega) (by omega)]
   have l1 : ∀ y : Bool, a.length + ([y] : List Bool).length ≤ CP := by intro y; rw [ha.1]; unfold CP; simp; omega
   simp only [Ap (l1 _), Ap (show (0 : Int) ≤ 3 * (i : Int) + (k : Int) by omega)]
   have e1 : ((3 * i + k : Nat) : Int) = 3 * (i : Int) + (k : Int) := by omega
   rw [e1]
   have e2 : (((i : Nat) : Int) == ((k : Nat) : Int)) = decide (i = k) := by
    by_cases h : i = k
    ·simp [h]
    ·rw [decide_eq_false h]; exact beq_eq_false_iff_ne.2 (by omega)
   rw [e2]
   cases diag <;> cases decide (i = k) <;> rfl)
  (fun n a _ => by
   rw [CM]
   simp only [Ba]
   rw [Av (by omega)]) N 0 [] (zL _) (by omega) ⟨rfl, fun q hq => by omega⟩
 exact ⟨row, e, by omega, fun hd hlt => h2 i (by omega) hd rfl⟩
theorem Wx (N : Nat) (n m bad : Int) (diag : Bool) (hN : N ≤ 1000000) (h20 : 20 ≤ N) (hn : 0 ≤ n ∧ n ≤ 6) (hm : 0 ≤ m ∧ m ≤ 6) :
  ∃ l, EY N n m bad diag = some l ∧ (l.length : Int) = n ∧ (∀ row, row ∈ l → (row.length : Int) = m) ∧ (diag = true → n = m → Kd l = none) := by
 obtain ⟨M, rfl⟩ := zJ hn.1
 unfold EY
 obtain ⟨l, e, h1, h2⟩ := FN (A := List (List Bool)) (CL N (M : Int) m bad diag (fun v => some v)) (fun a k => (a, k)) M some
  (fun k a => a.length = k ∧ ∀ q, q < k → (((a.getD q []).length : Nat) : Int) = m ∧ (diag = true → (q : Int) < m → (a.getD q []).getD q false = true))
  (fun n k a hk ha => by
   obtain ⟨row, e, h1, h2⟩ := YV (_R := Unit) N m bad diag k a (fun (v5 : List Bool) =>
    (Dt (a.length + (([v5] : List (List Bool))).length ≤ CP)).bind fun _ =>
    CL N (M : Int) m bad diag (fun v => some v) n (a ++ (([v5] : List (List Bool))), (wI .i64 ((k : Int) + 1)))) hN h20 hm (by omega)
   refine ⟨a ++ [row], ?_, by simp [ha.1], QF (P := fun q y => ((y.length : Nat) : Int) = m ∧ (diag = true → (q : Int) < m → y.getD q false = true)) ha.1 ha.2 ⟨h1, h2⟩⟩
   rw [CL]
   simp only
   rw [AB (by omega), e, Ap (by rw [ha.1]; unfold CP; simp; omega), Ay (by omega)])
  (fun n a _ => by
   rw [CL]
   simp only
   rw [Av (by omega)]) N 0 [] (zL _) (by omega) ⟨rfl, fun q hq => by omega⟩
 have key : ∀ q row, l[q]? = some row → l.getD q [] = row := fun q row hq => by rw [lD, hq]; rfl
 refine ⟨l, e, by omega, fun row hr => ?_, fun hd hnm => ?_⟩
 ·obtain ⟨q, hq⟩ := zN.1 hr
  have := (h2 q (by have := (lI.1 hq).1; omega)).1
  rwa [key q row hq] at this
 ·unfold Kd
  refine FU fun q row hq => ?_
  have hlt := (lI.1 hq).1
  have := (h2 q (by omega)).2 hd (by omega)
  rw [key q row hq] at this
  rw [zC, this]; rfl
structure aK (p : Ab) : Prop where
 valid : BK p = 0
 nv : p.f9.length ≤ 3
 nt : p.ga.length ≤ 4
 v3 : ∀ v, v ∈ p.f9 → v ≤ 3
theorem W2 {p q : Ab} (h : p.f9 = q.f9) (t : Ao) : Ej p t = Ej q t := by
 unfold Ej; rw [h]
theorem e8 (N : Nat) (d : Bz) (hN : N ≤ 1000000) (h20 : 20 ≤ N) (hw : FK d) : ∃ p ok, Gw N d = some (p, ok) ∧ (ok = true → aK p) := by
 obtain ⟨w1, w2, w3, w4, _⟩ := hw
 unfold Gw
 simp only [Ba]
 by_cases k1 : 3 < d.f9.length
 ·rw [AB (by omega)]; exact ⟨_, false, rfl, fun h => by cases h⟩
 by_cases k2 : 4 < d.gy.length
 ·rw [Av (by omega), decide_eq_true (by omega : (4 : Int) < (d.gy.length : Int))]; exact ⟨_, false, rfl, fun h => by cases h⟩
 rw [Av (by omega), decide_eq_false (by omega : ¬ (4 : Int) < (d.gy.length : Int)), An]
 obtain ⟨⟨vs, ns, ts⟩, e, h1, h2, h3, h4⟩ := FN (A := List Int × List Int × List Int) (Df N d fun v5 => BI N d v5 (fun v16 => some (Ab.mk v5.1 v5.2.1 v5.2.2 v16, true)) N ([], 0)) (fun a k => (a.1, a.2.1, a.2.2, k)) d.f9.length
  (fun v5 => BI N d v5 (fun v16 => some (Ab.mk v5.1 v5.2.1 v5.2.2 v16, true)) N ([], 0))
  (fun i a => a.1.length = i ∧ a.2.1.length = i ∧ a.2.2.length = i ∧ (∀ k, k < i → (1 ≤ a.1.getD k 0 ∧ a.1.getD k 0 ≤ 3) ∧ (0 ≤ a.2.1.getD k 0 ∧ a.2.1.getD k 0 < a.1.getD k 0) ∧ (0 ≤ a.2.2.getD k 0 ∧ a.2.2.getD k 0 < a.1.getD k 0)))
  (fun n i a hi ha => by
   obtain ⟨vs, ns, ts⟩ := a
   obtain ⟨h1, h2, h3, h4⟩ := ha
   simp only at h1 h2 h3 h4
   have hv := WO w1 i
   have hb := WO w2 i
   have hk := WO w3 i
   have hm := IY (n := 3) hv.1 (by omega)
   obtain ⟨v, hvd⟩ : ∃ v, v = 1 + zY (d.f9.getD i 0) 3 := ⟨_, rfl⟩
   have m1 := IY (n := v) hb.1 (by omega)
   have m2 := IY (n := v) hk.1 (by omega)
   refine ⟨(vs ++ [v], ns ++ [zY (d.gf.getD i 0) v], ts ++ [zY (d.gj.getD i 0) v]), ?_, by simp [h1], by simp [h2], by simp [h3], ?_⟩
   ·rw [Df]
    simp only
    rw [AB (by omega), DF (d := 0) hi, RC N w2, RC N w3]
    simp only [oS]
    rw [B2 (n := zY _ _) (by omega) (by omega), B2 (n := 1 + _) (by omega) (by omega), ← hvd, Ay (by omega)]
    have l1 : ∀ y : Int, vs.length + ([y] : List Int).length ≤ CP := by intro y; rw [h1]; unfold CP; simp; omega
    have l2 : ∀ y : Int, ns.length + ([y] : List Int).length ≤ CP := by intro y; rw [h2]; unfold CP; simp; omega
    have l3 : ∀ y : Int, ts.length + ([y] : List Int).length ≤ CP := by intro y; rw [h3]; unfold CP; simp; omega
    simp only [Ap (l1 _), Ap (l2 _), Ap (l3 _), Ap (show v ≠ 0 by omega)]
   ·intro k hk
    simp only
    by_cases hki : k < i
    ·rw [Kr (by omega), Kr (by omega), Kr (by omega)]; exact h4 k hki
    ·have : k = i := by omega
     subst this
     rw [KC h1.symm, KC h2.symm, KC h3.symm]
     omega)
  (fun n a _ => by
   rw [Df]
   simp only
   rw [Av (by omega)]) N 0 ([], [], []) (zL _) (by omega) ⟨rfl, rfl, rfl, fun k hk => by omega⟩
 simp only at h1 h2 h3 h4
 have e' : Df N d (fun v5 => BI N d v5 (fun v16 => some (Ab.mk v5.1 v5.2.1 v5.2.2 v16, true)) N ([], 0)) N ([], [], [], 0) = _ := e
 rw [e']
 have hvs : ∀ v, v ∈ vs → 1 ≤ v ∧ v ≤ 3 := by
  intro v hv
  obtain ⟨q, hq⟩ := zN.1 hv
  have := (h4 q (by have := (lI.1 hq).1; omega)).1
  rwa [lD, hq] at this
 have fin : ∀ Q0 : List Ao, Q0.length ≤ 4 → (∀ t, t ∈ Q0 → Ej ⟨vs, ns, ts, []⟩ t = 0) → aK ⟨vs, ns, ts, Q0⟩ := by
  intro Q0 ht h
  have hp : Be ⟨vs, ns, ts, Q0⟩ := ⟨show vs.length ≤ 6 by omega, show Q0.length ≤ 12 by omega, show ns.length = vs.length by omega, show ts.length = vs.length by omega, fun v hv => by have := hvs v hv; omega, fun t ht => by rw [← h t ht]; exact W2 rfl t⟩
  exact ⟨TA hp fun i hi => by have := h4 i (by have : i < vs.length := hi; omega); simp only; omega, show vs.length ≤ 3 by omega, ht, fun v hv => (hvs v hv).2⟩
 by_cases k3 : vs.length = 0
 ·refine ⟨_, true, ?_, fun _ => fin [] (by simp) (fun t ht => by cases ht)⟩
  obtain ⟨M, rfl⟩ : ∃ M, N = M + 1 := ⟨N - 1, by omega⟩
  rw [BI]
  simp only [Ba]
  rw [k3]
  by_cases k4 : (0 : Int) < (d.gy.length : Int)
  ·rw [AB k4]; rfl
  ·rw [Av k4]; rfl
 obtain ⟨Q0, e2, g1, g2⟩ := FN (A := List Ao) (BI N d (vs, ns, ts) (fun v16 => some (Ab.mk vs ns ts v16, true))) (fun a k => (a, k)) d.gy.length (fun v16 => some (Ab.mk vs ns ts v16, true))
  (fun i a => a.length = i ∧ ∀ t, t ∈ a → Ej ⟨vs, ns, ts, []⟩ t = 0)
  (fun n i a hi ha => by
   have hx : d.gy[i]? = some d.gy[i] := by simp [hi]
   generalize d.gy[i] = l at hx
   obtain ⟨u1, u2, u3, _, u5, u6, _⟩ := w4 l (lM hx)
   have u1 := Kb u1
   have u2 := Kb u2
   have u3 := Kb u3
   have mk := IY (n := 4) u1.1 (by omega)
   have hL : (0 : Int) < (vs.length : Int) := by omega
   have mf := IY (n := (vs.length : Int)) u2.1 hL
   have mt := IY (n := (vs.length : Int)) u3.1 hL
   rw [BI]
   simp only [Ba]
   rw [AB (by omega), decide_eq_true hL, AN, AO, hx]
   simp only [oS]
   rw [Ap (by omega), Ap (by omega), B2 (n := l.ge) (by omega) (by omega), B2 (n := l.gi) (by omega) (by omega), B2 (n := zY l.gd 4) (by omega) (by omega), B2 (n := 1 + _) (by omega) (by omega), Ay (by omega)]
   simp only [ON, oS]
   rw [FV (d := 0) mf.1 mf.2, FV (d := 0) mt.1 mt.2]
   simp only [oS]
   have hA : ∀ q : Int, 0 ≤ q → q < (vs.length : Int) → 1 ≤ vs.getD q.toNat 0 ∧ vs.getD q.toNat 0 ≤ 3 := fun q h0 h1 => (h4 q.toNat (by omega)).1
   have hf := hA _ mf.1 mf.2
   have ht := hA _ mt.1 mt.2
   obtain ⟨A, eA, a1, a2, _⟩ := Wx N (vs.getD (zY l.ge (vs.length : Int)).toNat 0) (vs.getD (zY l.gi (vs.length : Int)).toNat 0) l.gz false hN h20 (by omega) (by omega)
   obtain ⟨B, eB, b1, b2, b3⟩ := Wx N (vs.getD (zY l.ge (vs.length : Int)).toNat 0) (vs.getD (zY l.ge (vs.length : Int)).toNat 0) l.gA true hN h20 (by omega) (by omega)
   rw [eA, eB]
   simp only [oS]
   have l1 : ∀ y : Ao, a.length + ([y] : List Ao).length ≤ CP := by intro y; rw [ha.1]; unfold CP; simp; omega
   simp only [Ap (l1 _)]
   obtain ⟨kd, hkd⟩ : ∃ kd, kd = 1 + zY l.gd 4 := ⟨_, rfl⟩
   rw [← hkd]
   have fin2 : ∀ (aw : Bool) (re : List (List Bool)), (aw = true → (kd == 3 || kd == 4) = false) → ((kd = 4 → re = B) ∧ (kd ≠ 4 → re = [])) →
     Ej ⟨vs, ns, ts, []⟩ (Ao.mk kd (zY l.ge (vs.length : Int)) (zY l.gi (vs.length : Int)) aw A re) = 0 := by
    intro aw re haw hre
    refine cB ⟨show 1 ≤ kd ∧ kd ≤ 4 by omega, haw, mf, mt, a1, a2, fun h => by rw [hre.1 h]; exact b1, fun row hr => ?_, fun h => by rw [hre.1 h]; exact b3 rfl rfl, fun h => hre.2 h⟩
    by_cases h4 : kd = 4
    ·simp only at hr; rw [hre.1 h4] at hr; exact b2 row hr
    ·simp only at hr; rw [hre.2 h4] at hr; cases hr
   have app : ∀ t, Ej ⟨vs, ns, ts, []⟩ t = 0 → (a ++ [t]).length = i + 1 ∧ ∀ t', t' ∈ a ++ [t] → Ej ⟨vs, ns, ts, []⟩ t' = 0 := by
    intro t ht
    refine ⟨by simp [ha.1], fun t' ht' => ?_⟩
    rcases yA.1 ht' with h | h
    ·exact ha.2 t' h
    ·rw [yE.1 h]; exact ht
   by_cases h4 : kd = 4
   ·have e4 : (kd == 4) = true := beq_iff_eq.2 h4
    have hre : (kd = 4 → B = B) ∧ (kd ≠ 4 → B = []) := ⟨fun _ => rfl, fun h => (h h4).elim⟩
    rw [e4]
    simp only [AN, Bool.or_true, zV]
    cases l.gl
    ·exact ⟨_, rfl, app _ (fin2 false B (fun h => by cases h) hre)⟩
    ·exact ⟨_, rfl, app _ (fin2 false B (fun h => by cases h) hre)⟩
   ·have e4 : (kd == 4) = false := beq_eq_false_iff_ne.2 h4
    have hre : (kd = 4 → ([] : List (List Bool)) = B) ∧ (kd ≠ 4 → ([] : List (List Bool)) = []) := ⟨fun h => (h4 h).elim, fun _ => rfl⟩
    rw [e4]
    simp only [An, Bool.or_false]
    cases l.gl
    ·exact ⟨_, rfl, app _ (fin2 false [] (fun h => by cases h) hre)⟩
    ·cases e3 : kd == 3
     ·exact ⟨_, rfl, app _ (fin2 true [] (fun _ => by rw [e3, e4]; rfl) hre)⟩
     ·exact ⟨_, rfl, app _ (fin2 false [] (fun h => by cases h) hre)⟩)
  (fun n a _ => by
   rw [BI]
   simp only [Ba]
   rw [Av (by omega), An]) N 0 [] (zL _) (by omega) ⟨rfl, fun t ht => by cases ht⟩
 exact ⟨_, true, e2, fun _ => fin Q0 (by omega) g2⟩
def JF : List Int → Nat → Nat
 | [], _ => 0
 | _, 0 => 0
 | n :: ns, q + 1 => (if 0 ≤ n then 1 else 0) + JF ns q
theorem JY (l : List Int) : JF l 0 = 0 := by cases l <;> rfl
theorem Iy : ∀ (l : List Int) (q : Nat), q < l.length → JF l (q + 1) = JF l q + if 0 ≤ l.getD q 0 then 1 else 0
 | [], q, h => by simp at h
 | n :: ns, 0, _ => by simp [JF, JY]
 | n :: ns, q + 1, h => by
  rw [JF, Iy ns q (by simpa using h), JF, vJ, x9]
theorem QL (l : List Int) {a b : Nat} (h : a ≤ b) (hb : b ≤ l.length) : JF l a ≤ JF l b := by
 induction b with
 | zero => rw [Nat.le_zero.1 h]; exact zM _
 | succ b ih =>
  by_cases h1 : a = b + 1
  ·rw [h1]; exact zM _
  ·have := ih (by omega) (by omega)
   rw [Iy l b (by omega)]; omega
theorem Mi (l : List Int) : ∀ q, q ≤ l.length → JF l q ≤ q
 | 0, _ => by rw [JY]; exact zM _
 | q + 1, h => by
  have := Mi l q (by omega)
  rw [Iy l q h]
  split <;> omega
def OZ (l : List Int) (k q : Nat) : Int := if 0 ≤ l.getD q 0 ∧ k.testBit (JF l q) = true then -1 else l.getD q 0
def Zm (l : List Int) (k : Nat) : List Int := (zS l.length).map (OZ l k)
def bA (m : Ae) (k : Nat) : Ae := ⟨m.gb, Zm m.f7 k, m.gc⟩
def Ho (m : Ae) : List Ae := (zS (2 ^ JF m.f7 m.f7.length)).map (bA m)
theorem NL (l : List Int) (k : Nat) : (Zm l k).length = l.length := by simp [Zm]
theorem Tx (l : List Int) (k q : Nat) (h : q < l.length) : (Zm l k).getD q 0 = OZ l k q := by
 unfold Zm; rw [lD, zF, List.getElem?_range h]; rfl
theorem GB {l1 l2 : List Int} (h1 : l1.length = l2.length) (h : ∀ q, q < l1.length → l1.getD q 0 = l2.getD q 0) : l1 = l2 := by
 apply List.ext_getElem h1
 intro q h2 h3
 have := h q h2
 rw [lD, lD, yD h2, yD h3] at this
 exact this
theorem Wz : ∀ (k : Fin 64) (b : Fin 7), HG .i64 (GW .i64 (k.val : Int) (b.val : Int)) 1 = (if k.val.testBit b.val then 1 else 0) ∧ zY (GW .i64 (k.val : Int) (b.val : Int)) 2 = (if k.val.testBit b.val then 1 else 0) := by decide +kernel
theorem ah : ∀ n : Fin 7, EI .i64 1 (n.val : Int) = ((2 ^ n.val : Nat) : Int) := by decide +kernel
structure Rh (m x : Ae) : Prop where
 base : x.gb = m.gb
 held : x.gc = m.gc
 len : x.f7.length = m.f7.length
 next : ∀ q, q < m.f7.length → x.f7.getD q 0 = m.f7.getD q 0 ∨ (0 ≤ m.f7.getD q 0 ∧ x.f7.getD q 0 = -1)
theorem Rh.refl (m : Ae) : Rh m m := ⟨rfl, rfl, rfl, fun _ _ => .inl rfl⟩
theorem Rh.trans {a b c : Ae} (h1 : Rh a b) (h2 : Rh b c) : Rh a c :=
 ⟨h2.base.trans h1.base, h2.held.trans h1.held, h2.len.trans h1.len, fun q hq => by
  have e1 := h1.next q hq
  have e2 := h2.next q (by rw [h1.len]; exact hq)
  omega⟩
theorem Yd (m : Ae) (k : Nat) : Rh m (bA m k) :=
 ⟨rfl, rfl, NL _ _, fun q hq => by
  show (Zm m.f7 k).getD q 0 = _ ∨ _ ∧ (Zm m.f7 k).getD q 0 = _
  rw [Tx _ _ _ hq]; unfold OZ
  split
  ·rename_i h; exact .inr ⟨h.1, rfl⟩
  ·exact .inl rfl⟩
theorem Wc : ∀ (l x : List Int), x.length = l.length → (∀ q, q < l.length → x.getD q 0 = l.getD q 0 ∨ (0 ≤ l.getD q 0 ∧ x.getD q 0 = -1)) → ∃ k, k < 2 ^ JF l l.length ∧ ∀ q, q < l.length → x.getD q 0 = OZ l k q
 | [], x, h, _ => ⟨0, by simp [JF], fun q hq => by simp at hq⟩
 | n :: ns, [], h, _ => by simp at h
 | n :: ns, y :: ys, h, hq => by
  obtain ⟨k, hk, hk2⟩ := Wc ns ys (by simpa using h) (fun q hq' => by have := hq (q + 1) (by simpa using hq'); simpa using this)
  have h0 := hq 0 (by simp)
  simp only [vV] at h0
  by_cases hn : 0 ≤ n
  ·refine ⟨2 * k + if y = n then 0 else 1, ?_, ?_⟩
   ·rw [zZ, JF, if_pos hn, Nat.pow_add]
    split <;> omega
   ·intro q hq'
    cases q with
    | zero =>
     simp only [vV, OZ, JY]
     by_cases hy : y = n
     ·simp [hy]
     ·rw [if_neg hy, if_pos ⟨hn, by simp⟩]; omega
    | succ q =>
     have := hk2 q (by simpa using hq')
     simp only [vJ, OZ, JF, if_pos hn] at this ⊢
     rw [this, Nat.add_comm 1, Nat.testBit_succ]
     have : (2 * k + if y = n then 0 else 1) / 2 = k := by split <;> omega
     rw [this]
  ·refine ⟨k, ?_, ?_⟩
   ·rw [zZ, JF, if_neg hn, zC]; exact hk
   ·intro q hq'
    cases q with
    | zero =>
     simp only [vV, OZ, JY]
     rw [if_neg (fun h => hn h.1)]
     omega
    | succ q =>
     have := hk2 q (by simpa using hq')
     simp only [vJ, OZ, JF, if_neg hn, zC] at this ⊢
     exact this
theorem Qx {m x : Ae} : x ∈ Ho m ↔ Rh m x := by
 unfold Ho
 rw [zQ]
 constructor
 ·rintro ⟨k, _, rfl⟩; exact Yd m k
 ·intro h
  obtain ⟨k, hk, hq⟩ := Wc m.f7 x.f7 h.len h.next
  refine ⟨k, yY.2 hk, ?_⟩
  have : Zm m.f7 k = x.f7 := GB (by rw [NL, h.len]) fun q hq' => by
   rw [NL] at hq'
   rw [Tx _ _ _ hq', hq q hq']
  unfold bA
  rw [this, ← h.base, ← h.held]
theorem bG {m x : Ae} (h : Rh m x) {s : Nat} (hs : s < m.f7.length) {v : Nat} (hv : JG x s v = true) : JG m s v = true := by
 unfold JG at hv ⊢
 rw [h.base] at hv
 have := h.next s hs
 simp only [xO, decide_eq_true_eq] at hv ⊢
 omega
theorem bj {p : Ab} {m x : Ae} (hp : Be p) (hm : B4 p m) (h : Rh m x) : B4 p x := by
 refine ⟨⟨by rw [h.base]; exact hm.base, by rw [h.len]; exact hm.next, by rw [h.held]; exact hm.held, fun i hi => by rw [h.base]; exact hm.b0 i hi, fun i hi => ?_, fun i hi => ?_⟩, fun i hi => by rw [h.held]; exact hm.range i hi, fun i t ht hs v hv => ?_, fun i t ht hs v hv => ?_, fun i t ht hs => by rw [h.held]; exact hm.none i t ht hs⟩
 ·have h1 := hm.n0 i hi
  have h2 := h.next i (by rw [hm.next]; exact hi)
  have h3 := Jo hp hi
  omega
 ·have h1 := hm.ne i hi
  have h2 := h.next i (by rw [hm.next]; exact hi)
  have h3 := hm.b0 i hi
  rw [h.base]
  omega
 ·have hin := (IX (hp.tab t (lM ht))).from0
  rw [h.held]
  exact hm.low i t ht hs v (bG h (by rw [hm.next]; omega) hv)
 ·rw [h.held] at hv
  exact hm.high i t ht hs v hv
theorem K6 (N : Nat) (l : List Int) (h : l.length ≤ CP) : A1 N l = some l := by
 unfold A1
 rw [Ap (by simpa using h)]; rfl
theorem R6 (N : Nat) (l : List Int) (h : l.length ≤ CP) : B8 N l = some l := by
 unfold B8
 rw [Ap (by simpa using h)]; rfl
theorem J8 {l : List Int} {i q : Nat} {y : Int} (hi : i < l.length) : (l.set i y).getD q 0 = if q = i then y else l.getD q 0 := by
 rw [lD, lD, uA]
 by_cases h : i = q
 ·subst h; simp [hi]
 ·rw [if_neg h, if_neg (fun e => h e.symm)]
theorem Zo {l : List Int} {a b : Nat} (ha : a < l.length) (hb : b < l.length) (h1 : 0 ≤ l.getD a 0) (h2 : 0 ≤ l.getD b 0) (h : JF l a = JF l b) : a = b := by
 rcases Nat.lt_trichotomy a b with h3 | h3 | h3
 ·have := QL l (a := a + 1) (b := b) h3 (by omega)
  rw [Iy l a ha, if_pos h1] at this; omega
 ·exact h3
 ·have := QL l (a := b + 1) (b := a) h3 (by omega)
  rw [Iy l b hb, if_pos h2] at this; omega
structure YN (l : List Int) (o : List Int) : Prop where
 len : o.length = JF l l.length
 at_ : ∀ b, b < o.length → ∃ i : Nat, o.getD b 0 = (i : Int) ∧ i < l.length ∧ 0 ≤ l.getD i 0 ∧ JF l i = b
theorem UT (N : Nat) (l o : List Int) (k : Nat) (acc : List Ae) (hN : N ≤ 1000000) (h20 : 20 ≤ N) (hl : l.length ≤ 6) (ho : YN l o) (hk : k < 64) (j : List Int → Option (List Ae × Int)) :
  DD N o (acc, (k : Int)) j N (l, 0) = j (Zm l k) := by
 have hol := Mi l l.length (zM _)
 have hoL := ho.len
 obtain ⟨x, e, h1, h2⟩ := FN (A := List Int) (DD N o (acc, (k : Int)) j) (fun a k => (a, k)) o.length j
  (fun b a => a.length = l.length ∧ ∀ q, q < l.length → a.getD q 0 = if 0 ≤ l.getD q 0 ∧ JF l q < b ∧ k.testBit (JF l q) = true then -1 else l.getD q 0)
  (fun n b a hb ha => by
   obtain ⟨i, hi1, hi2, hi3, hi4⟩ := ho.at_ b hb
   have hbit := Wz ⟨k, hk⟩ ⟨b, by omega⟩
   rw [DD]
   simp only [Ba]
   rw [AB (by omega), DF (d := 0) hb]
   simp only [oS]
   rw [Ap (by omega), hi1, hbit.1, DF (d := 0) (show i < a.length by rw [ha.1]; exact hi2), Ay (by omega)]
   simp only [oS, zK]
   cases hkb : k.testBit b
   ·refine ⟨a, rfl, ha.1, fun q hq => ?_⟩
    rw [ha.2 q hq]
    by_cases hqb : JF l q = b
    ·rw [hqb, hkb]; simp
    ·by_cases h3 : JF l q < b
     ·have : JF l q < b + 1 := by omega
      simp [h3, this]
     ·have : ¬ JF l q < b + 1 := by omega
      simp [h3, this]
   ·refine ⟨a.set i (-1), rfl, by simp [ha.1], fun q hq => ?_⟩
    rw [J8 (by rw [ha.1]; exact hi2), ha.2 q hq]
    by_cases hqi : q = i
    ·subst hqi
     rw [if_pos rfl, if_pos ⟨hi3, by omega, by rw [hi4]; exact hkb⟩]
    ·rw [if_neg hqi]
     by_cases h0 : 0 ≤ l.getD q 0
     ·have hne : JF l q ≠ b := fun h => hqi (Zo hq hi2 h0 hi3 (by omega))
      by_cases h3 : JF l q < b
      ·have : JF l q < b + 1 := by omega
       simp [h3, this]
      ·have : ¬ JF l q < b + 1 := by omega
       simp [h3, this]
     ·rw [if_neg (fun h => h0 h.1), if_neg (fun h => h0 h.1)])
  (fun n a _ => by
   rw [DD]
   simp only [Ba]
   rw [Av (by omega)]) N 0 l (zL _) (by omega) ⟨rfl, fun q hq => by simp⟩
 have e' : DD N o (acc, (k : Int)) j N (l, 0) = j x := e
 rw [e']
 congr 1
 refine GB (by rw [NL, h1]) fun q hq => ?_
 rw [h1] at hq
 rw [h2 q hq, Tx _ _ _ hq, OZ]
 by_cases h0 : 0 ≤ l.getD q 0
 ·have h3 := QL l (a := q + 1) (b := l.length) hq (zM _)
  rw [Iy l q hq, if_pos h0] at h3
  have : JF l q < o.length := by omega
  simp [this]
 ·rw [if_neg (fun h => h0 h.1), if_neg (fun h => h0 h.1)]
theorem TT (N : Nat) (m : Ae) (k : Nat) (acc : List Ae) (hN : N ≤ 1000000) (h20 : 20 ≤ N) (hl : m.f7.length ≤ 6) (hk : k < 64) (j : List Int → Option (List Ae)) :
  Ce N m (acc, (k : Int)) j N (m.f7, 0, 0) = j (Zm m.f7 k) := by
 obtain ⟨⟨x, pl⟩, e, h1, h2, h3⟩ := FN (A := List Int × Nat) (Ce N m (acc, (k : Int)) j) (fun a k => (a.1, (a.2 : Int), k)) m.f7.length (fun a => j a.1)
  (fun i a => a.2 = JF m.f7 i ∧ a.1.length = m.f7.length ∧ ∀ q, q < m.f7.length → a.1.getD q 0 = if q < i then OZ m.f7 k q else m.f7.getD q 0)
  (fun n i a hi ha => by
   obtain ⟨a, pl⟩ := a
   obtain ⟨a1, a2, a3⟩ := ha
   simp only at a1 a2 a3
   have hple := Mi m.f7 i (by omega)
   have hbit := Wz ⟨k, hk⟩ ⟨pl, by omega⟩
   have hs := Iy m.f7 i hi
   rw [Ce]
   simp only [Ba]
   rw [AB (by omega), DF (d := 0) hi]
   simp only [oS]
   rw [Ay (by omega)]
   by_cases h0 : m.f7.getD i 0 < 0
   ·rw [AB h0]
    refine ⟨(a, pl), rfl, by simp only; rw [hs, if_neg (by omega), a1]; rfl, a2, fun q hq => ?_⟩
    simp only
    rw [a3 q hq]
    by_cases hqi : q = i
    ·subst hqi
     rw [if_neg (by omega), if_pos (by omega), OZ, if_neg (by omega)]
    ·by_cases h4 : q < i
     ·rw [if_pos h4, if_pos (by omega)]
     ·rw [if_neg h4, if_neg (by omega)]
   ·rw [Av h0, Ap (by omega), DF (d := 0) (show i < a.length by omega), hbit.2, Ay (by omega)]
    simp only [oS, zK]
    cases hkb : k.testBit pl
    ·refine ⟨(a, pl + 1), rfl, by simp only; rw [hs, if_pos (by omega), a1], a2, fun q hq => ?_⟩
     simp only
     rw [a3 q hq]
     by_cases hqi : q = i
     ·subst hqi
      rw [if_neg (by omega), if_pos (by omega), OZ, ← a1, hkb]; simp
     ·by_cases h4 : q < i
      ·rw [if_pos h4, if_pos (by omega)]
      ·rw [if_neg h4, if_neg (by omega)]
    ·refine ⟨(a.set i (-1), pl + 1), rfl, by simp only; rw [hs, if_pos (by omega), a1], by simp [a2], fun q hq => ?_⟩
     simp only
     rw [J8 (by omega), a3 q hq]
     by_cases hqi : q = i
     ·subst hqi
      rw [if_pos rfl, if_pos (by omega), OZ, ← a1, if_pos ⟨by omega, hkb⟩]
     ·rw [if_neg hqi]
      by_cases h4 : q < i
      ·rw [if_pos h4, if_pos (by omega)]
      ·rw [if_neg h4, if_neg (by omega)])
  (fun n a _ => by
   rw [Ce]
   simp only [Ba]
   rw [Av (by omega)]) N 0 (m.f7, 0) (zL _) (by omega) ⟨(JY _).symm, rfl, fun q hq => by simp⟩
 have e' : Ce N m (acc, (k : Int)) j N (m.f7, 0, 0) = j x := e
 rw [e']
 congr 1
 simp only at h2 h3
 refine GB (by rw [NL, h2]) fun q hq => ?_
 rw [h2] at hq
 rw [h3 q hq, if_pos hq, Tx _ _ _ hq]
theorem YR (N : Nat) (m : Ae) (hN : N ≤ 1000000) (h20 : 20 ≤ N) (hl : m.f7.length ≤ 6) (j : List Int → Option (List Ae × Int)) :
  ∃ o, EB N m j N ([], 0) = j o ∧ YN m.f7 o := by
 obtain ⟨o, e, h1, h2⟩ := FN (A := List Int) (EB N m j) (fun a k => (a, k)) m.f7.length j
  (fun i o => o.length = JF m.f7 i ∧ ∀ b, b < o.length → ∃ q : Nat, o.getD b 0 = (q : Int) ∧ q < m.f7.length ∧ 0 ≤ m.f7.getD q 0 ∧ JF m.f7 q = b)
  (fun n i o hi ho => by
   have hple := Mi m.f7 i (by omega)
   have hs := Iy m.f7 i hi
   rw [EB]
   simp only [Ba]
   rw [AB (by omega), DF (d := 0) hi]
   simp only [oS]
   rw [Ay (by omega)]
   by_cases h0 : 0 ≤ m.f7.getD i 0
   ·rw [AB h0, Ap (by rw [ho.1]; unfold CP; simp; omega)]
    refine ⟨o ++ [(i : Int)], rfl, by rw [hs, if_pos h0, ← ho.1]; simp, ?_⟩
    rw [zT]
    exact QF (P := fun b y => ∃ q : Nat, y = (q : Int) ∧ q < m.f7.length ∧ 0 ≤ m.f7.getD q 0 ∧ JF m.f7 q = b) rfl ho.2 ⟨i, rfl, hi, h0, ho.1.symm⟩
   ·rw [Av h0]
    exact ⟨o, rfl, by rw [hs, if_neg h0, ho.1]; rfl, ho.2⟩)
  (fun n a _ => by
   rw [EB]
   simp only [Ba]
   rw [Av (by omega)]) N 0 [] (zL _) (by omega) ⟨(JY _).symm, fun b hb => by simp at hb⟩
 exact ⟨o, e, h1, h2⟩
theorem Nj {n : Nat} (h : n ≤ 6) : 2 ^ n ≤ 64 := Nat.pow_le_pow_right (n := 2) (by omega) h
theorem PG {n : Nat} (h : n ≤ 6) : EI .i64 1 (n : Int) = ((2 ^ n : Nat) : Int) := ah ⟨n, by omega⟩
theorem Me {β : Type} (f : Nat → β) (n : Nat) : (zS (n + 1)).map f = (zS n).map f ++ [f n] := by
 rw [uG, xH]; rfl
theorem Ru (N : Nat) (p : Ab) (m : Ae) (hN : N ≤ 1000000) (h20 : 100 ≤ N) (hw : PL MK m.gc) (hv : GM p m = 0) : HV N p m = some (Ho m, 0) := by
 obtain ⟨hp, hm⟩ := KZ hw hv
 have hnv := hp.nv
 have hnt := hp.nt
 have hl : m.f7.length ≤ 6 := by rw [hm.next]; omega
 unfold HV
 rw [JK N p m hN (by omega) hw, hv]
 simp only [oS, bne_self_eq_false, An]
 obtain ⟨o, e, ho⟩ := YR N m hN (by omega) hl (fun (v4 : (List Int)) =>
   (Dt (0 ≤ (v4.length : Int))).bind fun _ =>
   DC N m v4 (fun (v12 : (List Ae)) =>
    some (v12, 0)) N (([] : List Ae), 0))
 rw [e, Ap (by omega)]
 have hoL := ho.len
 have hol := Mi m.f7 m.f7.length (zM _)
 have hpow := Nj (show JF m.f7 m.f7.length ≤ 6 by omega)
 obtain ⟨a, e2, h1⟩ := FN (A := List Ae) (DC N m o fun v12 => some (v12, 0)) (fun a k => (a, k)) (2 ^ JF m.f7 m.f7.length) (fun v12 => some (v12, 0))
  (fun i a => a = (zS i).map (bA m))
  (fun n i a hi ha => by
   refine ⟨a ++ [bA m i], ?_, by rw [Me, ha]⟩
   have hal : a.length = i := by rw [ha]; simp
   rw [DC]
   rw [hoL, PG (n := JF m.f7 m.f7.length) (by omega), AB (by omega), K6 N m.gb (by have := hm.base; unfold CP; omega), K6 N m.f7 (by unfold CP; omega), R6 N m.gc (by have := hm.held; unfold CP; omega)]
   simp only [oS]
   rw [UT N m.f7 o i a hN (by omega) hl ho (by omega), Ap (by rw [hal]; unfold CP; simp; omega), Ay (by omega)]
   rfl)
  (fun n a _ => by
   rw [DC]
   rw [hoL, PG (n := JF m.f7 m.f7.length) (by omega), Av (by simp)]) N 0 [] (zL _) (by omega) rfl
 have e2' : DC N m o (fun v12 => some (v12, 0)) N ([], 0) = some (a, 0) := e2
 rw [e2', h1]; rfl
theorem VZ (N : Nat) (m : Ae) (h1 : m.gb.length ≤ CP) (h2 : m.f7.length ≤ CP) (h3 : m.gc.length ≤ CP) : Fb N m = some m := by
 unfold Fb
 rw [Ap (by simpa using h1), Ap (by simpa using h2), Ap (by simpa using h3)]; rfl
theorem Vc (N : Nat) (m : Ae) (hN : N ≤ 1000000) (h20 : 100 ≤ N) (h1 : m.gb.length ≤ 100) (hl : m.f7.length ≤ 6) (h3 : m.gc.length ≤ 100) : Fn N m = some (Ho m) := by
 unfold Fn
 obtain ⟨c, e, hc⟩ := FN (A := Nat) (CZ N m (fun (v2 : Int) =>
  BH N m v2 (fun (v8 : (List Ae)) => some v8) N (([] : List Ae), 0))) (fun a k => ((a : Int), k)) m.f7.length (fun a => BH N m (a : Int) (fun (v8 : (List Ae)) => some v8) N (([] : List Ae), 0))
  (fun i a => a = JF m.f7 i)
  (fun n i a hi ha => by
   have hple := Mi m.f7 i (by omega)
   have hs := Iy m.f7 i hi
   rw [CZ]
   simp only [Ba]
   rw [AB (by omega), DF (d := 0) hi]
   simp only [oS]
   rw [Ay (by omega), Ay (by omega)]
   by_cases h0 : 0 ≤ m.f7.getD i 0
   ·rw [AB h0]
    exact ⟨a + 1, rfl, by rw [hs, if_pos h0, ha]⟩
   ·rw [Av h0]
    exact ⟨a, rfl, by rw [hs, if_neg h0, ha]; rfl⟩)
  (fun n a _ => by
   rw [CZ]
   simp only [Ba]
   rw [Av (by omega)]) N 0 0 (zL _) (by omega) (JY _).symm
 have e' : CZ N m (fun (v2 : Int) => BH N m v2 (fun (v8 : (List Ae)) => some v8) N (([] : List Ae), 0)) N (0, 0) = _ := e
 rw [e', hc]
 have hol := Mi m.f7 m.f7.length (zM _)
 have hpow := Nj (show JF m.f7 m.f7.length ≤ 6 by omega)
 obtain ⟨a, e2, h1⟩ := FN (A := List Ae) (BH N m (JF m.f7 m.f7.length : Int) fun v8 => some v8) (fun a k => (a, k)) (2 ^ JF m.f7 m.f7.length) some
  (fun i a => a = (zS i).map (bA m))
  (fun n i a hi ha => by
   refine ⟨a ++ [bA m i], ?_, by rw [Me, ha]⟩
   have hal : a.length = i := by rw [ha]; simp
   rw [BH]
   rw [Ap (by omega), PG (n := JF m.f7 m.f7.length) (by omega), AB (by omega), VZ N m (by unfold CP; omega) (by unfold CP; omega) (by unfold CP; omega)]
   simp only [oS]
   rw [TT N m i a hN (by omega) hl (by omega), Ap (by rw [hal]; unfold CP; simp; omega), Ay (by omega)]
   rfl)
  (fun n a _ => by
   rw [BH]
   rw [Ap (by omega), PG (n := JF m.f7 m.f7.length) (by omega), Av (by simp)]) N 0 [] (zL _) (by omega) rfl
 have e2' : BH N m (JF m.f7 m.f7.length : Int) (fun v8 => some v8) N ([], 0) = some a := e2
 rw [e2', h1]; rfl
theorem Vg (N : Nat) (p : Ab) (m : Ae) (hN : N ≤ 1000000) (h20 : 100 ≤ N) (hp : Be p) (hm : B4 p m) : Fn N m = some (Ho m) := by
 have := hp.nv
 have := hp.nt
 exact Vc N m hN h20 (by rw [hm.base]; omega) (by rw [hm.next]; omega) (by rw [hm.held]; omega)
theorem M5 {p : Ab} {m : Ae} (hm : B4 p m) : PL MK m.gc := by
 intro x hx
 obtain ⟨q, hq⟩ := zN.1 hx
 have h1 := (lI.1 hq).1
 have := hm.range q (by rw [← hm.held]; exact h1)
 rw [lD, hq] at this
 unfold MK
 simp only [yL] at this
 simp [Lit.wf, IntKind.min, IntKind.max, IntKind.signed, IntKind.bits]
 omega
def Lh (p : Ab) (x : Ae) : Option (Ae × Aa) := match FQ p x with
 | [] => none
 | c :: _ => some (x, c)
def OH (p : Ab) (m : Ae) : Option (Ae × Aa) := DP (fun _ x => Lh p x) 0 (Ho m)
def ID : Ae := ⟨[], [], []⟩
def Zh : Aa := ⟨0, 0, 0⟩
def Vm (p : Ab) (m : Ae) : Ae × Aa × Int := match OH p m with
 | some (x, c) => (x, c, 0)
 | none => (ID, Zh, 15)
def Bs (p : Ab) (m : Ae) : Bool := (OH p m).isNone
theorem QV {m : Ae} (hl : m.f7.length ≤ 6) : (Ho m).length ≤ 64 := by
 unfold Ho
 have hol := Mi m.f7 m.f7.length (zM _)
 have hpow := Nj (show JF m.f7 m.f7.length ≤ 6 by omega)
 simpa using hpow
theorem Mj {α R R' : Type} (f : Nat → α → Option R) (g : R → R') : ∀ (i : Nat) (xs : List α), DP (fun i x => (f i x).map g) i xs = (DP f i xs).map g
 | _, [] => rfl
 | i, x :: xs => by
  rw [GR, GR]
  cases f i x
  ·exact Mj f g (i + 1) xs
  ·rfl
theorem Tg (N : Nat) (p : Ab) (m : Ae) (hN : N ≤ 1000000) (h20 : 100 ≤ N) (hw : PL MK m.gc) (hv : GM p m = 0) : Iu N p m = some (Vm p m) := by
 obtain ⟨hp, hm⟩ := KZ hw hv
 have hnv := hp.nv
 unfold Iu
 rw [Ru N p m hN h20 hw hv]
 simp only [oS, bne_self_eq_false, An]
 have hal := QV (m := m) (by rw [hm.next]; omega)
 have := CX (FP N p (Ho m, 0) fun _ => some (ID, Zh, 15)) (Ho m) (some (ID, Zh, 15)) (fun _ x => (Lh p x).map fun y => (y.1, y.2, 0))
  (fun n i x hx => by
   have hi := (lI.1 hx).1
   have hx2 := bj hp hm (Qx.1 (lM hx))
   rw [FP, AB (by simp only; omega)]
   simp only [AO, hx, oS]
   rw [O7 N p x hN (by omega) hp hx2, Ay (by omega)]
   simp only [oS, Lh]
   cases FQ p x with
   | nil => rfl
   | cons c cs => rw [AB (by simp only [zZ]; omega)]; rfl)
  (fun n => by rw [FP, Av (by simp)]) N 0 (zL _) (by omega)
 rw [yM, Mj] at this
 exact this.trans (by
  unfold Vm OH
  cases DP (fun _ x => Lh p x) 0 (Ho m) <;> rfl)
theorem KN (N : Nat) (p : Ab) (m : Ae) (hN : N ≤ 1000000) (h20 : 100 ≤ N) (hw : PL MK m.gc) (hv : GM p m = 0) : Hf N p m = some (Bs p m, 0) := by
 unfold Hf
 rw [Tg N p m hN h20 hw hv]
 unfold Bs Vm
 cases OH p m <;> rfl
theorem Uj {α R : Type} {f : Nat → α → Option R} {i : Nat} {xs : List α} : (DP f i xs).isNone = true ↔ ∀ j x, xs[j]? = some x → f (i + j) x = none := by
 constructor
 ·intro h
  exact FJ (Option.isNone_iff_eq_none.1 h)
 ·intro h
  rw [FU h]; rfl
theorem Uz {p : Ab} {x : Ae} : Lh p x = none ↔ FQ p x = [] := by
 unfold Lh
 cases FQ p x <;> simp
theorem T9 (N : Nat) (p : Ab) (m : Ae) (hN : N ≤ 1000000) (h20 : 100 ≤ N) (hp : Be p) (hm : B4 p m) : Fc N p m = some (FQ p m).isEmpty := by
 unfold Fc
 rw [OE N p m hN (by omega) hp hm]
 simp only [oS]
 cases FQ p m with
 | nil => rfl
 | cons c cs =>
  rw [beq_eq_false_iff_ne.2 (by simp only [zZ]; omega)]; rfl
theorem I6 (N : Nat) (p : Ab) (m : Ae) (hN : N ≤ 1000000) (h20 : 100 ≤ N) (hp : Be p) (hm : B4 p m) : C2 N p m = some (Bs p m) := by
 have hnv := hp.nv
 unfold C2
 rw [Vg N p m hN h20 hp hm]
 simp only [oS]
 have hal := QV (m := m) (by rw [hm.next]; omega)
 have := CX (Cn N p (Ho m) fun _ => some true) (Ho m) (some true) (fun _ x => (Lh p x).map fun _ => false)
  (fun n i x hx => by
   have hi := (lI.1 hx).1
   have hx2 := bj hp hm (Qx.1 (lM hx))
   rw [Cn, AB (by omega)]
   simp only [AO, hx, oS]
   rw [T9 N p x hN h20 hp hx2, Ay (by omega)]
   simp only [oS, Lh]
   cases FQ p x with
   | nil => rfl
   | cons c cs => rfl)
  (fun n => by rw [Cn, Av (by simp)]) N 0 (zL _) (by omega)
 rw [yM, Mj] at this
 refine Eq.trans this ?_
 unfold Bs OH
 cases DP (fun _ x => Lh p x) 0 (Ho m) <;> rfl
theorem TQ {N : Nat} {a b : Ae} (hN : N ≤ 1000000) (h1 : a.gb.length < N) (h2 : a.f7.length < N) (h3 : a.gc.length < N) (h4 : b.gc.length < N) (wa : PL MK a.gc) (wb : PL MK b.gc) : EQ N a b = some (VM a b) := by
 unfold EQ
 rw [Qi h1 hN, Qi h2 hN, Pp h3 hN wa, Pp h4 hN wb]
 simp only [oS]
 rw [Qi h3 hN]
 unfold VM Q4
 by_cases h1 : JI a.gb b.gb = 0
 ·simp only [h1, Q4]
  by_cases h2 : JI a.f7 b.f7 = 0
  ·simp only [h2]
   by_cases h3 : JI a.gc b.gc = 0 <;> simp [h3]
  ·have : (JI a.f7 b.f7 != 0) = true := by simpa using h2
   simp [h2, this]
 ·have : (JI a.gb b.gb != 0) = true := by simpa using h1
  simp [h1, this]
theorem Sr (N : Nat) (a b : List Int) (hN : N ≤ 1000000) (h : a.length < N) : Ew N a b = some (a == b) := by
 unfold Ew
 by_cases hl : a.length = b.length
 ·rw [hl, bne_self_eq_false, An]
  have := CX (Cm N a b fun _ => some true) a (some true) (fun i x => if x = b.getD i 0 then none else some false)
   (fun n i x hx => by
    have hi := (lI.1 hx).1
    rw [Cm, AB (by omega), AO, hx, DF (d := 0) (by omega)]
    simp only [oS]
    rw [Ay (by omega)]
    by_cases h : x = b.getD i 0
    ·rw [if_pos h, h, bne_self_eq_false]; rfl
    ·rw [if_neg h, bne_iff_ne.2 h]; rfl)
   (fun n => by rw [Cm, Av (by simp)]) N 0 (zL _) (by omega)
  refine this.trans ?_
  rw [yM]
  cases hs : DP (fun i x => if x = b.getD i 0 then none else some false) 0 a with
  | none =>
   have : a = b := GB hl fun q hq => by
    have hx : a[q]? = some (a.getD q 0) := by rw [lD]; simp [hq]
    have := FJ hs q _ hx
    rw [zC] at this
    split at this
    ·assumption
    ·cases this
   rw [this, beq_self_eq_true]; rfl
  | some r =>
   obtain ⟨j, x, hx, hf⟩ := Fp hs
   rw [zC] at hf
   split at hf
   ·cases hf
   ·rename_i hne
    cases hf
    have : (a == b) = false := beq_eq_false_iff_ne.2 fun e => hne (by rw [← e, lD, hx]; rfl)
    rw [this]; rfl
 ·have h1 : ((a.length : Int) != (b.length : Int)) = true := bne_iff_ne.2 (by omega)
  have h2 : (a == b) = false := beq_eq_false_iff_ne.2 fun e => hl (by rw [e])
  rw [h1, h2]; rfl
theorem Tf (N : Nat) (a : List Int) (f : Int → Option Bool) (g : Int → Bool) (hN : N ≤ 1000000) (h : a.length < N) (hf : ∀ x, x ∈ a → f x = some (g x)) : C5 N a f = some (a.any g) := by
 unfold C5 EF
 have := CX (Bp N a f fun _ => some (-1)) a (some (-1)) (fun i x => if g x then some (i : Int) else none)
  (fun n i x hx => by
   have hi := (lI.1 hx).1
   rw [Bp, AB (by omega), AO, hx]
   simp only [oS]
   rw [hf x (lM hx), Ay (by omega)]
   simp only [oS]
   cases g x <;> rfl)
  (fun n => by rw [Bp, Av (by simp)]) N 0 (zL _) (by omega)
 have e : Bp N a f (fun _ => some (-1)) N 0 = _ := this
 rw [e, yM]
 cases hs : DP (fun i x => if g x then some (i : Int) else none) 0 a with
 | none =>
  have : a.any g = false := by
   rw [vT]
   intro x hx
   obtain ⟨j, hj⟩ := zN.1 hx
   have := FJ hs j x hj
   intro hg
   rw [hg] at this; cases this
  rw [this]; rfl
 | some r =>
  obtain ⟨j, x, hx, hf⟩ := Fp hs
  split at hf
  ·rename_i hg
   cases hf
   have : a.any g = true := y7.2 ⟨x, lM hx, hg⟩
   rw [this]
   simp only [BS, oS]
   rw [decide_eq_true (by omega)]
  ·cases hf
def II (p : Ab) (m : Ae) : Bool := GM p m == 0 && (m.gb == p.gj && m.f7.all (fun n => decide (n < 0)))
theorem UK (N : Nat) (p : Ab) (m : Ae) (hN : N ≤ 1000000) (h20 : 100 ≤ N) (hw : PL MK m.gc) : Ji N p m = some (II p m) := by
 unfold Ji II
 rw [JK N p m hN (by omega) hw]
 simp only [Ba, oS]
 by_cases hv : GM p m = 0
 ·obtain ⟨hp, hm⟩ := KZ hw hv
  have := hp.nv
  rw [hv, Sr N _ _ hN (by rw [hm.base]; omega), Tf N m.f7 (fun x => HT N x) (fun n => decide (0 ≤ n)) hN (by rw [hm.next]; omega) (fun x _ => rfl)]
  simp only [oS, beq_self_eq_true, AN, xI]
  have : m.f7.all (fun n => decide (n < 0)) = !m.f7.any (fun n => decide (0 ≤ n)) := by
   rw [List.not_any_eq_all_not]
   congr 1; funext n
   by_cases h : 0 ≤ n
   ·rw [decide_eq_true h, decide_eq_false (by omega)]; rfl
   ·rw [decide_eq_false h, decide_eq_true (by omega)]; rfl
  rw [this]
  cases m.gb == p.gj <;> simp
 ·rw [beq_eq_false_iff_ne.2 hv]; rfl
theorem UM (N : Nat) (p : Ab) (m : Ae) (hN : N ≤ 1000000) (h20 : 100 ≤ N) (hw : PL MK m.gc) : FR N p m = some (II p m) := by
 unfold FR II
 rw [JC N p m hN (by omega)]
 simp only [oS]
 by_cases hv : GM p m = 0
 ·obtain ⟨hp, hm⟩ := KZ hw hv
  have h1 := hp.nv
  have h2 := hp.tgt
  have h3 := hm.base
  have h4 := hm.next
  rw [hv]
  simp only [bne_self_eq_false, An, beq_self_eq_true, xI]
  have := CX (Dl N p m fun _ => some true) m.gb (some true) (fun i x => if 0 ≤ m.f7.getD i 0 ∨ x ≠ p.gj.getD i 0 then some false else none)
   (fun n i x hx => by
    have hi := (lI.1 hx).1
    rw [Dl, AB (by omega)]
    simp only [Ba]
    rw [show Bh m.gb (i : Int) = some x from by rw [AO, hx], DF (d := 0) (by omega), DF (d := 0) (by omega)]
    simp only [oS]
    rw [Ay (by omega)]
    by_cases k1 : 0 ≤ m.f7.getD i 0
    ·rw [AB k1, if_pos (.inl k1)]; rfl
    ·rw [Av k1]
     by_cases k2 : x = p.gj.getD i 0
     ·rw [if_neg (fun h => h.elim k1 (fun h => h k2)), k2, bne_self_eq_false]; rfl
     ·rw [if_pos (.inr k2), bne_iff_ne.2 k2]; rfl)
   (fun n => by rw [Dl, Av (by simp)]) N 0 (zL _) (by omega)
  refine this.trans ?_
  rw [yM]
  cases hs : DP (fun i x => if 0 ≤ m.f7.getD i 0 ∨ x ≠ p.gj.getD i 0 then some false else none) 0 m.gb with
  | none =>
   have key : ∀ q, q < m.gb.length → m.gb.getD q 0 = p.gj.getD q 0 ∧ ¬ 0 ≤ m.f7.getD q 0 := by
    intro q hq
    have hx : m.gb[q]? = some (m.gb.getD q 0) := by rw [lD]; simp [hq]
    have := FJ hs q _ hx
    rw [zC] at this
    split at this
    ·cases this
    ·rename_i h; exact ⟨Decidable.not_not.1 fun h' => h (.inr h'), fun h' => h (.inl h')⟩
   have e1 : m.gb = p.gj := GB (by omega) fun q hq => (key q hq).1
   have e2 : m.f7.all (fun n => decide (n < 0)) = true := by
    rw [zG]
    intro n hn
    obtain ⟨q, hq⟩ := zN.1 hn
    have hl := (lI.1 hq).1
    have := (key q (by omega)).2
    rw [lD, hq] at this
    simp only [yL] at this
    simp only [decide_eq_true_eq]
    omega
   rw [e2, e1]; simp [BS]
  | some r =>
   obtain ⟨j, x, hx, hf⟩ := Fp hs
   rw [zC] at hf
   have hj := (lI.1 hx).1
   split at hf
   ·rename_i h
    cases hf
    have : (m.gb == p.gj && m.f7.all (fun n => decide (n < 0))) = false := by
     rw [Bool.and_eq_false_iff]
     rcases h with h | h
     ·right
      rw [List.all_eq_false]
      refine ⟨m.f7.getD j 0, ?_, ?_⟩
      ·rw [lD, yD (by omega)]; exact xF _
      ·simp only [decide_eq_true_eq]; omega
     ·left
      exact beq_eq_false_iff_ne.2 fun e => h (by rw [← e, lD, hx]; rfl)
    rw [this]; rfl
   ·cases hf
 ·rw [bne_iff_ne.2 hv, beq_eq_false_iff_ne.2 hv]; rfl
open Go
structure bv (x y : Ao) : Prop where
 k : y.gd = x.gd
 f : y.ge = x.ge
 t : y.gi = x.gi
 a : y.gl = x.gl
 r : y.gk = x.gk
 l : y.gh.length = x.gh.length
 o : ∀ (u : Nat) (row : List Bool), x.gh[u]? = some row → ∃ row', y.gh[u]? = some row' ∧ row'.length = row.length ∧ ∀ v : Nat, row[v]? = some true → row'[v]? = some true
structure XH (p q : Ab) : Prop where
 v : q.f9 = p.f9
 n : q.gf = p.gf
 t : q.gj = p.gj
 l : q.ga.length = p.ga.length
 o : ∀ (i : Nat) (x : Ao), p.ga[i]? = some x → ∃ y, q.ga[i]? = some y ∧ bv x y
theorem bv.st {x y : Ao} (h : bv x y) : Cd y = Cd x := by unfold Cd; rw [h.k]
theorem UJ {α R : Type} {f g : Nat → α → Option R} : ∀ {i : Nat} {xs ys : List α}, ys.length = xs.length → (∀ (j : Nat) x, xs[j]? = some x → ∃ y, ys[j]? = some y ∧ g (i + j) y = f (i + j) x) → DP g i ys = DP f i xs
 | _, [], [], _, _ => rfl
 | _, [], y :: ys, h, _ => by simp at h
 | _, x :: xs, [], h, _ => by simp at h
 | i, x :: xs, y :: ys, h, hh => by
  obtain ⟨y', e1, e2⟩ := hh 0 x rfl
  simp only [List.getElem?_cons_zero, Option.some.injEq] at e1
  subst e1
  rw [GR, GR, show g i y = f i x from e2, UJ (by simpa using h) fun j x' hx => by
   obtain ⟨y', e1, e2⟩ := hh (j + 1) x' (by simpa using hx)
   exact ⟨y', by simpa using e1, by rwa [show i + (j + 1) = i + 1 + j from by omega] at e2⟩]
theorem ZZ {x y : Ao} (h : bv x y) (m : Int) : (y.gh.all fun r => decide ((r.length : Int) = m)) = (x.gh.all fun r => decide ((r.length : Int) = m)) := by
 rw [Bool.eq_iff_iff, zG, zG]
 constructor
 ·intro hy r hr
  obtain ⟨u, hu⟩ := zN.1 hr
  obtain ⟨r', e1, e2, _⟩ := h.o u r hu
  have := hy r' (lM e1)
  rwa [e2] at this
 ·intro hx r hr
  obtain ⟨u, hu⟩ := zN.1 hr
  have hl := (lI.1 hu).1
  have hz : x.gh[u]? = some (x.gh[u]'(by rw [← h.l]; exact hl)) := by simp [show u < x.gh.length by rw [← h.l]; exact hl]
  obtain ⟨r', e1, e2, _⟩ := h.o u _ hz
  rw [hu] at e1; cases e1
  rw [e2]
  exact hx _ (lM hz)
theorem bB {x y : Ao} (h : bv x y) (n m : Int) : sq y.gh n m = sq x.gh n m := by
 unfold sq; rw [h.l, ZZ h]
theorem V8 {p q : Ab} (h : XH p q) {x y : Ao} (hx : bv x y) : Ej q y = Ej p x := by
 unfold Ej
 simp only [h.v, hx.k, hx.f, hx.t, hx.a, hx.r, bB hx]
theorem QH {p q : Ab} (h : XH p q) : BK q = BK p := by
 unfold BK
 have e1 : DP (Mg q) 0 q.ga = DP (Mg p) 0 p.ga := UJ h.l fun j x hx => by
  obtain ⟨y, hy, ht⟩ := h.o j x hx
  exact ⟨y, hy, by unfold Mg; rw [V8 h ht]⟩
 have e2 : Gy q = Gy p := by unfold Gy; rw [h.n, h.t]
 rw [e1, e2, h.v, h.n, h.t, h.l]
theorem V0 {p q : Ab} (h : XH p q) {m : Ae} (hc : FQ p m = []) : FQ q m = [] := by
 unfold FQ at hc ⊢
 rw [KK] at hc ⊢
 intro i y hy
 have hi : i < p.ga.length := by rw [← h.l]; exact (lI.1 hy).1
 have hx : p.ga[i]? = some p.ga[i] := by simp [hi]
 obtain ⟨y', hy', ht⟩ := h.o i _ hx
 rw [hy] at hy'; cases hy'
 have hci := hc i _ hx
 unfold KA at hci ⊢
 rw [KK] at hci ⊢
 intro u row' hu'
 have hu : u < (p.ga[i]).gh.length := by rw [← ht.l]; exact (lI.1 hu').1
 have hr : (p.ga[i]).gh[u]? = some (p.ga[i]).gh[u] := by simp [hu]
 obtain ⟨r2, e1, e2, e3⟩ := ht.o u _ hr
 rw [hu'] at e1; cases e1
 have hcu := hci u _ hr
 have hw : TC m (0 + i) y (0 + u) = TC m (0 + i) p.ga[i] (0 + u) := by unfold TC; rw [ht.st, ht.f]
 rw [hw]
 cases hwb : TC m (0 + i) p.ga[i] (0 + u)
 ·rfl
 ·rw [hwb, if_pos rfl] at hcu
  rw [if_pos rfl]
  unfold KT at hcu ⊢
  rw [List.append_eq_nil_iff] at hcu ⊢
  have hfalse : ∀ (v : Nat), row'[v]? = some false → (p.ga[i]).gh[u][v]? = some false := fun v hv => by
   have hvl : v < (p.ga[i]).gh[u].length := by rw [← e2]; exact (lI.1 hv).1
   have hz : (p.ga[i]).gh[u][v]? = some (p.ga[i]).gh[u][v] := by simp [hvl]
   cases hb : (p.ga[i]).gh[u][v]
   ·rw [hz, hb]
   ·rw [hb] at hz
    have := e3 v hz
    rw [hv] at this; cases this
  refine ⟨?_, ?_⟩
  ·have h1 := hcu.1
   rw [KK] at h1 ⊢
   intro v ok hv
   cases ok
   ·have := h1 v false (hfalse v hv)
    unfold gC at this ⊢
    rw [ht.t, ht.a]; exact this
   ·unfold gC; simp
  ·have h2 := hcu.2
   rw [ht.a]
   cases ha : (p.ga[i]).gl
   ·simp
   ·rw [ha] at h2
    cases hb : MQ (hC m p.ga[i]) 0 (p.ga[i]).gh[u]
    ·rw [hb] at h2; simp at h2
    ·obtain ⟨v, ok, hv, hh⟩ := Ql.1 hb
     unfold hC at hh
     rw [zH] at hh
     have hok : ok = true := hh.2
     subst hok
     have : MQ (hC m y) 0 row' = true := Ql.2 ⟨v, true, e3 v hv, by unfold hC; rw [ht.t, hh.1]; rfl⟩
     rw [this]; simp
theorem NX {p q : Ab} (h : XH p q) {m : Ae} (hr : Bs p m = true) : Bs q m = true := by
 unfold Bs OH at hr ⊢
 rw [Uj] at hr ⊢
 intro j x hx
 have := hr j x hx
 rw [Uz] at this ⊢
 exact V0 h this
structure cQ (p : Ab) (m x : Ae) : Prop where
 base : m.gb = x.gb
 next : m.f7 = x.f7
 held : ∀ i, i < p.ga.length → ∀ v, Ez (m.gc.getD i 0) v = true → Ez (x.gc.getD i 0) v = true
theorem cQ.refl (p : Ab) (m : Ae) : cQ p m m := ⟨rfl, rfl, fun _ _ _ h => h⟩
theorem cQ.trans {p : Ab} {a b c : Ae} (h : cQ p a b) (g : cQ p b c) : cQ p a c := ⟨h.base.trans g.base, h.next.trans g.next, fun i hi v hv => g.held i hi v (h.held i hi v hv)⟩
def Gu (p : Ab) (t : Ao) : Int := if Cd t = true then EI .u8 1 (p.gf.getD t.ge.toNat 0) else 0
def Fq (p : Ab) : Ae := ⟨p.gf, zD p.gf.length (-1), p.ga.map (Gu p)⟩
theorem Xy (N : Nat) (h : 100 ≤ N) (n : Nat) (hn : n ≤ 6) : Ft N [(-1)] (n : Int) = some (zD n (-1)) := by
 obtain ⟨k, rfl⟩ : ∃ k, N = k + 100 := ⟨N - 100, by omega⟩
 have : n = 0 ∨ n = 1 ∨ n = 2 ∨ n = 3 ∨ n = 4 ∨ n = 5 ∨ n = 6 := by omega
 rcases this with rfl | rfl | rfl | rfl | rfl | rfl | rfl
 all_goals (show _ = _; kernel_rfl)
theorem Un (T : List Int) (i : Nat) (hi : i < T.length) : (T.take i ++ zD (T.length - i) 0).set i (T.getD i 0) = T.take (i + 1) ++ zD (T.length - (i + 1)) 0 := by
 have hl : (T.take i).length = i := by simp; omega
 rw [List.set_append_right _ _ (by omega), hl, vM, show T.length - i = (T.length - (i + 1)) + 1 from by omega, List.replicate_succ, List.set_cons_zero, yV, yQ]
 have : T[i]? = some (T.getD i 0) := by rw [lD]; simp [hi]
 rw [this]; rfl
theorem W3 (T : List Int) (i : Nat) (hi : i < T.length) (h0 : T.getD i 0 = 0) : T.take i ++ zD (T.length - i) 0 = T.take (i + 1) ++ zD (T.length - (i + 1)) 0 := by
 rw [← Un T i hi, h0, List.set_append_right _ _ (by rw [List.length_take]; omega)]
 congr 1
 have hl : (T.take i).length = i := by simp; omega
 rw [hl, vM, show T.length - i = (T.length - (i + 1)) + 1 from by omega, List.replicate_succ, List.set_cons_zero]
theorem Vk {p : Ab} (hv : BK p = 0) {t : Ao} (ht : t ∈ p.ga) : 0 ≤ t.ge ∧ t.ge.toNat < p.gf.length ∧ 0 ≤ p.gf.getD t.ge.toNat 0 ∧ p.gf.getD t.ge.toNat 0 < 6 ∧ p.gf.getD t.ge.toNat 0 < p.f9.getD t.ge.toNat 0 ∧ t.ge.toNat < p.f9.length := by
 obtain ⟨hp, hr⟩ := Co hv
 have h1 := J5 (hp.tab t ht)
 have h2 := hr t.ge.toNat (by omega)
 have h3 := Jo hp (i := t.ge.toNat) (by omega)
 have := hp.now
 refine ⟨h1.1, by omega, h2.1, by omega, h2.2.1, by omega⟩
theorem K0 {p : Ab} {i : Nat} {t : Ao} (ht : p.ga[i]? = some t) : (p.ga.map (Gu p)).getD i 0 = Gu p t := by
 rw [lD, zF, ht]; rfl
theorem SZ (N : Nat) (p : Ab) (hN : N ≤ 1000000) (h20 : 100 ≤ N) : Ix N p = some (if BK p = 0 then Fq p else ⟨[], [], []⟩, BK p) := by
 unfold Ix
 rw [IN N p hN (by omega)]
 simp only [oS]
 by_cases hv : BK p = 0
 ·rw [if_pos hv, hv]
  obtain ⟨hp, _⟩ := Co hv
  have hnv := hp.nv
  have hnt := hp.nt
  have hnow := hp.now
  rw [bne_self_eq_false, An, K6 N _ (by simp only [CP]; omega)]
  simp only [oS]
  rw [Xy N h20 _ (by omega)]
  simp only [oS]
  rw [Ap (by simp only [CP]; omega)]
  obtain ⟨a', e, ha⟩ := FN (E3 N p fun v7 => some (Ae.mk p.gf (zD p.gf.length (-1)) v7, 0)) (fun a i => (a, i)) p.ga.length (fun v7 => some (Ae.mk p.gf (zD p.gf.length (-1)) v7, 0))
   (fun i a => a = (p.ga.map (Gu p)).take i ++ zD ((p.ga.map (Gu p)).length - i) 0)
   (fun n i a hi ha => by
    have hx : p.ga[i]? = some p.ga[i] := by simp [hi]
    have hm : p.ga[i] ∈ p.ga := xF hi
    obtain ⟨n1, n2, n3, n4, _⟩ := Vk hv hm
    rw [E3, AB (by simp only; omega)]
    simp only [Ba, AO, hx, oS, KL, Ay (show i < 1000000 by omega)]
    have hal : i < (p.ga.map (Gu p)).length := by simpa using hi
    cases hs : Cd p.ga[i]
    ·rw [An]
     refine ⟨a, rfl, ?_⟩
     rw [ha]
     exact W3 _ _ hal (by rw [K0 hx]; unfold Gu; rw [hs]; rfl)
    ·rw [AN]
     have e1 : Bh p.gf p.ga[i].ge = some (p.gf.getD p.ga[i].ge.toNat 0) := by
      obtain ⟨q, hq⟩ := zJ n1
      rw [hq]; exact DF (by rw [hq] at n2; simpa using n2)
     rw [e1]
     simp only [oS]
     rw [Ap n3]
     have hl : i < a.length := by rw [ha]; simp; omega
     have e2 : a[i]? = some a[i] := by simp [hl]
     rw [e2]
     simp only [oS]
     refine ⟨_, rfl, ?_⟩
     rw [← Un _ _ hal, K0 hx, ha]
     unfold Gu; rw [hs]; rfl)
   (fun n a ha => by rw [E3, Av (by simp)]) N 0 (zD p.ga.length 0) (zL _) (by omega) (by simp)
  have e' : E3 N p (fun v7 => some (Ae.mk p.gf (zD p.gf.length (-1)) v7, 0)) N (zD ((p.ga.length : Int)).toNat (0 : Int), 0) = _ := e
  rw [e', ha]
  have e5 : (p.ga.map (Gu p)).take p.ga.length = p.ga.map (Gu p) := uC (by simp)
  simp [Fq, e5]
 ·rw [if_neg hv, bne_iff_ne.2 hv, AN]
theorem N4 (N : Nat) (p : Ab) (hN : N ≤ 1000000) (h20 : 100 ≤ N) : Ep N p = some (if BK p = 0 then Fq p else ⟨[], [], []⟩, BK p) := by
 unfold Ep
 rw [Ns N p hN (by omega)]
 simp only [oS]
 by_cases hv : BK p = 0
 ·rw [if_pos hv, hv]
  obtain ⟨hp, _⟩ := Co hv
  have hnv := hp.nv
  have hnt := hp.nt
  have hnow := hp.now
  rw [bne_self_eq_false, An]
  obtain ⟨a', e, ha⟩ := FN (Cv N p fun v4 => Bo N p (fun v10 => some (Ae.mk v4.1 v4.2 v10, 0)) N (([] : List Int), 0)) (fun a i => (a.1, a.2, i)) p.f9.length (fun v4 => Bo N p (fun v10 => some (Ae.mk v4.1 v4.2 v10, 0)) N (([] : List Int), 0))
   (fun i a => a = (p.gf.take i, zD i (-1)))
   (fun n i a hi ha => by
    subst ha
    rw [Cv, AB (by simp only; omega)]
    have hx : p.gf[i]? = some p.gf[i] := by simp [show i < p.gf.length from by omega]
    simp only [AO, hx, oS, Ay (show i < 1000000 by omega)]
    rw [Ap (by simp [CP]; omega), Ap (by simp [CP]; omega)]
    refine ⟨(p.gf.take i ++ [p.gf[i]], zD i (-1) ++ [-1]), rfl, ?_⟩
    rw [yV, hx, List.replicate_succ']; rfl)
   (fun n a ha => by rw [Cv, Av (by simp)]) N 0 ([], []) (zL _) (by omega) rfl
  have e' : Cv N p (fun v4 => Bo N p (fun v10 => some (Ae.mk v4.1 v4.2 v10, 0)) N (([] : List Int), 0)) N (([] : List Int), ([] : List Int), 0) = _ := e
  rw [e', ha]
  simp only
  obtain ⟨b', e2, hb⟩ := FN (Bo N p fun v10 => some (Ae.mk (p.gf.take p.f9.length) (zD p.f9.length (-1)) v10, 0)) (fun a i => (a, i)) p.ga.length (fun v10 => some (Ae.mk (p.gf.take p.f9.length) (zD p.f9.length (-1)) v10, 0))
   (fun i a => a = (p.ga.map (Gu p)).take i)
   (fun n i a hi ha => by
    subst ha
    have hx : p.ga[i]? = some p.ga[i] := by simp [hi]
    have hm : p.ga[i] ∈ p.ga := xF hi
    obtain ⟨n1, n2, n3, n4, _⟩ := Vk hv hm
    rw [Bo, AB (by simp only; omega)]
    simp only [Ba, AO, hx, oS, HX, Ay (show i < 1000000 by omega)]
    have hT : (p.ga.map (Gu p))[i]? = some (Gu p p.ga[i]) := by rw [zF, hx]; rfl
    have hlen : ((p.ga.map (Gu p)).take i).length + 1 ≤ CP := by simp [CP]; omega
    cases hs : Cd p.ga[i]
    ·rw [An, Ap (by simpa using hlen)]
     refine ⟨_, rfl, ?_⟩
     rw [yV, hT]
     unfold Gu; rw [hs]; rfl
    ·rw [AN]
     have e1 : Bh p.gf p.ga[i].ge = some (p.gf.getD p.ga[i].ge.toNat 0) := by
      obtain ⟨q, hq⟩ := zJ n1
      rw [hq]; exact DF (by rw [hq] at n2; simpa using n2)
     rw [e1]
     simp only [oS]
     rw [Ap n3, Ap (by simpa using hlen)]
     refine ⟨_, rfl, ?_⟩
     rw [yV, hT]
     unfold Gu; rw [hs]; rfl)
   (fun n a ha => by rw [Bo, Av (by simp)]) N 0 [] (zL _) (by omega) rfl
  have e3 : Bo N p (fun v10 => some (Ae.mk (p.gf.take p.f9.length) (zD p.f9.length (-1)) v10, 0)) N (([] : List Int), 0) = _ := e2
  rw [e3, hb]
  simp only [Fq, ← hnow, uU]
  rw [show p.ga.length = (p.ga.map (Gu p)).length from by simp, uU]
 ·rw [if_neg hv, bne_iff_ne.2 hv, AN]
theorem Ov {p : Ab} (hv : BK p = 0) : B4 p (Fq p) := by
 obtain ⟨hp, hr⟩ := Co hv
 have hnow := hp.now
 have hnx : ∀ i, i < p.f9.length → (zD p.gf.length (-1 : Int)).getD i 0 = -1 := fun i hi => by
  rw [lD, List.getElem?_replicate, if_pos (by omega)]; rfl
 have hone : ∀ (i : Nat) (t : Ao), p.ga[i]? = some t → ∃ b : Nat, b < 6 ∧ p.gf.getD t.ge.toNat 0 = (b : Int) ∧ (b : Int) < p.f9.getD t.ge.toNat 0 ∧ t.ge.toNat < p.f9.length := fun i t ht => by
  obtain ⟨n1, n2, n3, n4, n5, n6⟩ := Vk hv (lM ht)
  obtain ⟨b, hb⟩ := zJ n3
  exact ⟨b, by omega, hb, by omega, n6⟩
 have hbit : ∀ b : Nat, b < 8 → ∀ v, Ez (EI .u8 1 (b : Int)) v = decide (b = v) := fun b hb v => by
  by_cases h : v < 8
  ·exact (K8 ⟨b, hb⟩ ⟨v, h⟩).1
  ·rw [Lq (K8 ⟨b, hb⟩ ⟨0, by omega⟩).2.2 (by omega)]
   symm; apply decide_eq_false; omega
 refine { base := hnow, next := by simp [Fq, hnow], held := by simp [Fq], b0 := fun i hi => ⟨(hr i hi).1, (hr i hi).2.1⟩, n0 := fun i hi => ?_, ne := fun i hi => ?_, range := fun i hi => ?_, low := fun i t ht hs v hv' => ?_, high := fun i t ht hs v hb => ?_, none := fun i t ht hs => ?_ }
 ·show -1 ≤ (zD p.gf.length (-1 : Int)).getD i 0 ∧ (zD p.gf.length (-1 : Int)).getD i 0 < _
  rw [hnx i hi]
  have := Jo hp hi
  omega
 ·show p.gf.getD i 0 ≠ (zD p.gf.length (-1 : Int)).getD i 0
  rw [hnx i hi]
  have := hr i hi
  omega
 ·have hx : p.ga[i]? = some p.ga[i] := by simp [hi]
  show 0 ≤ (p.ga.map (Gu p)).getD i 0 ∧ (p.ga.map (Gu p)).getD i 0 ≤ 255
  rw [K0 hx]
  unfold Gu
  split
  ·obtain ⟨b, h1, h2, _⟩ := hone i _ hx
   rw [h2]
   exact (K8 ⟨b, by omega⟩ ⟨0, by omega⟩).2
  ·omega
 ·show Ez ((p.ga.map (Gu p)).getD i 0) v = true
  obtain ⟨b, h1, h2, h3, h4⟩ := hone i t ht
  rw [K0 ht]
  unfold Gu
  rw [if_pos hs, h2, hbit b (by omega)]
  unfold JG at hv'
  have h5 : (Fq p).gb.getD t.ge.toNat 0 = (b : Int) := h2
  have h6 : (Fq p).f7.getD t.ge.toNat 0 = -1 := hnx _ h4
  rw [h5, h6, xO, decide_eq_true_iff, decide_eq_true_iff] at hv'
  apply decide_eq_true; omega
 ·have hb : Ez ((p.ga.map (Gu p)).getD i 0) v = true := hb
  obtain ⟨b, h1, h2, h3, h4⟩ := hone i t ht
  rw [K0 ht] at hb
  unfold Gu at hb
  rw [if_pos hs, h2, hbit b (by omega), decide_eq_true_iff] at hb
  omega
 ·show (p.ga.map (Gu p)).getD i 0 = 0
  rw [K0 ht]; unfold Gu; rw [hs]; rfl
theorem Pl (x : BitVec 8) : wI .u8 (x.toNat : Int) = (x.toNat : Int) := by
 have := x.isLt
 simp [wI, IntKind.signed, IntKind.bits]
 omega
theorem TS (x : BitVec 8) : 0 ≤ (x.toNat : Int) ∧ (x.toNat : Int) ≤ 255 := by
 have := x.isLt
 omega
theorem Yq (x : BitVec 8) (v : Nat) : Ez (x.toNat : Int) v = x.getLsbD v := by
 unfold Ez; rw [zK]; rfl
theorem ST {a : Int} (ha : 0 ≤ a ∧ a ≤ 255) (v : Nat) : (BitVec.ofInt 8 a).getLsbD v = Ez a v := by
 obtain ⟨a, rfl⟩ := zJ ha.1
 unfold BitVec.getLsbD Ez
 rw [Za (by omega), zK]
theorem VP {a b : Int} (ha : 0 ≤ a ∧ a ≤ 255) (hb : 0 ≤ b ∧ b ≤ 255) : (∀ v, Ez (DX .u8 a b) v = (Ez a v && !Ez b v)) ∧ 0 ≤ DX .u8 a b ∧ DX .u8 a b ≤ 255 := by
 have e : DX .u8 a b = ((BitVec.ofInt 8 a &&& ~~~BitVec.ofInt 8 b).toNat : Int) := Pl (BitVec.ofInt 8 a &&& ~~~BitVec.ofInt 8 b)
 rw [e]
 refine ⟨fun v => ?_, TS _⟩
 rw [Yq, BitVec.getLsbD_and, BitVec.getLsbD_not, ST ha, ST hb]
 by_cases h : v < 8
 ·simp [h]
 ·rw [Lq ha.2 (by omega)]; simp
theorem VT {a b : Int} (ha : 0 ≤ a ∧ a ≤ 255) (hb : 0 ≤ b ∧ b ≤ 255) : (∀ v, Ez (Q3 .u8 a b) v = (Ez a v || Ez b v)) ∧ 0 ≤ Q3 .u8 a b ∧ Q3 .u8 a b ≤ 255 := by
 have e : Q3 .u8 a b = ((BitVec.ofInt 8 a ||| BitVec.ofInt 8 b).toNat : Int) := Pl (BitVec.ofInt 8 a ||| BitVec.ofInt 8 b)
 rw [e]
 refine ⟨fun v => ?_, TS _⟩
 rw [Yq, BitVec.getLsbD_or, ST ha, ST hb]
theorem ZX {b : Nat} (hb : b < 8) : (∀ v, Ez (EI .u8 1 (b : Int)) v = decide (b = v)) ∧ 0 ≤ EI .u8 1 (b : Int) ∧ EI .u8 1 (b : Int) ≤ 255 := by
 refine ⟨fun v => ?_, (K8 ⟨b, hb⟩ ⟨0, by omega⟩).2⟩
 by_cases h : v < 8
 ·exact (K8 ⟨b, hb⟩ ⟨v, h⟩).1
 ·rw [Lq (K8 ⟨b, hb⟩ ⟨0, by omega⟩).2.2 (by omega)]
  symm; apply decide_eq_false; omega
theorem Y5 (N : Nat) {s : Int} {v : Nat} (hs : 0 ≤ s ∧ s ≤ 255) (hv : v < 8) : CV N s (v : Int) = some (Ez s v) := by
 unfold CV
 rw [Ap (by omega), S4 hs.1 hs.2 hv]
 cases Ez s v <;> rfl
def bi (v : Nat) : Nat := ((zS 8).find? fun u => v.testBit u).getD 8
def cY (v : Nat) : Nat := ((zS 8).filter fun u => v.testBit u).length
theorem bR : ∀ v : Fin 256, DA 0 (v.val : Int) = some (bi v.val : Int) := by decide +kernel
theorem en (N : Nat) {v : Nat} (h : v < 256) : DA N (v : Int) = some (bi v : Int) := bR ⟨v, h⟩
theorem ad : ∀ v : Fin 256, v.val ≠ 0 → bi v.val < 8 ∧ Ez (v.val : Int) (bi v.val) = true ∧ 0 ≤ HG .u8 (v.val : Int) (wI .u8 ((v.val : Int) - 1)) ∧ HG .u8 (v.val : Int) (wI .u8 ((v.val : Int) - 1)) ≤ 255 ∧
  cY (HG .u8 (v.val : Int) (wI .u8 ((v.val : Int) - 1))).toNat + 1 = cY v.val ∧
  ∀ u : Fin 8, Ez (HG .u8 (v.val : Int) (wI .u8 ((v.val : Int) - 1))) u.val = (Ez (v.val : Int) u.val && decide (u.val ≠ bi v.val)) := by decide +kernel
theorem dI (v : Nat) : cY v ≤ 8 := by
 have := xQ (fun u => v.testBit u) (zS 8)
 simpa [cY] using this
theorem TI (N : Nat) (t : Ao) (b : Int) (rw_ : Nat → Bool) : ∀ (k n v : Nat), cY v ≤ k → k < n → v < 256 →
  (∀ u, u < 8 → Ez (v : Int) u = true → ∃ row, Bh t.gk (u : Int) = some row ∧ Bh row b = some (rw_ u)) →
  Ee N t b (fun _ => some true) n (v : Int) = some ((zS 8).all fun u => !Ez (v : Int) u || rw_ u)
 | k, 0, v, _, h, _, _ => by omega
 | k, n + 1, v, hk, hn, hv, hr => by
  rw [Ee]
  by_cases h0 : v = 0
  ·subst h0
   have : (((0 : Nat) : Int) != 0) = false := rfl
   rw [this, An]
   congr 1
  ·have h1 : ((v : Int) != 0) = true := bne_iff_ne.2 (by omega)
   obtain ⟨l1, l2, l3, l4, l5, l6⟩ := ad ⟨v, hv⟩ h0
   simp only at l1 l2 l3 l4 l5 l6
   obtain ⟨row, e1, e2⟩ := hr _ l1 l2
   rw [h1, AN, en N hv]
   simp only [oS, e1, e2]
   obtain ⟨w, hw⟩ := zJ l3
   rw [hw] at l4 l5 l6 ⊢
   rw [zK] at l5
   cases hq : rw_ (bi v)
   ·rw [yT, AN]
    congr 1
    symm
    rw [List.all_eq_false]
    exact ⟨bi v, by simpa using l1, by rw [l2, hq]; simp⟩
   ·rw [zV, An]
    match k, hk with
    | 0, hk => exfalso; omega
    | k + 1, hk =>
    rw [TI N t b rw_ k n w (by omega) (by omega) (by omega) (fun u hu hb => hr u hu (by have := l6 ⟨u, hu⟩; simp only at this; rw [hb] at this; simpa using (uM.1 this.symm).1))]
    congr 1
    rw [Bool.eq_iff_iff, zG, zG]
    refine ⟨fun h u hu => ?_, fun h u hu => ?_⟩
    ·have hu8 : u < 8 := by simpa using hu
     have h3 := h u hu
     have h4 := l6 ⟨u, hu8⟩
     simp only at h4
     rw [h4] at h3
     by_cases e : u = bi v
     ·rw [e, hq]; simp
     ·simpa [e] using h3
    ·have hu8 : u < 8 := by simpa using hu
     have h3 := h u hu
     have h4 := l6 ⟨u, hu8⟩
     simp only at h4
     rw [h4]
     cases hb : Ez (v : Int) u
     ·simp
     ·rw [hb] at h3; simp at h3; simp [h3]
theorem Uq (N : Nat) (m : Ae) (s : Int) (h0 : 0 ≤ s) (h1 : s < (m.gb.length : Int)) (h2 : s < (m.f7.length : Int)) (hb : 0 ≤ m.gb.getD s.toNat 0) : Hb N m s = some (HY m s.toNat) := by
 unfold Hb HY
 rw [FV (d := 0) h0 h1, FV (d := 0) h0 h2]
 simp only [oS, Bi]
 rw [show Dt (0 ≤ m.gb.getD s.toNat 0) = some () from by unfold Dt; rw [if_pos hb]]
 simp only [oS]
 by_cases h : 0 ≤ m.f7.getD s.toNat 0
 ·rw [AB h, if_pos h, show Dt (0 ≤ m.f7.getD s.toNat 0) = some () from by unfold Dt; rw [if_pos h]]; rfl
 ·rw [Av h, if_neg h]
theorem LQ (N : Nat) (t : Ao) : GS N t = some (Cd t) := by
 unfold GS Cd
 simp only [Bi]
 cases h : t.gd == 3 <;> simp
def Hw (s : Af) : Bool := decide (1 ≤ s.gd ∧ s.gd ≤ 4 ∧ 0 ≤ s.gg ∧ 0 ≤ s.gp) && (s.gd == 1 || s.gp == 0)
def GG (p : Ab) (s : Af) : Bool :=
 if s.gd = 3 then decide (s.gg < (p.ga.length : Int)) else decide (s.gg < (p.f9.length : Int)) && (s.gd != 1 || decide (s.gp < p.f9.getD s.gg.toNat 0))
theorem Rb (N : Nat) (s : Af) : HS N s = some (Hw s) := by
 unfold HS Hw Yy
 simp only [Bi]
 by_cases h1 : (if s.gp < s.gg then s.gp else s.gg) < 0
 ·rw [AB h1, AN, decide_eq_false (by split at h1 <;> omega)]; rfl
 ·rw [Av h1]
  by_cases h2 : s.gd < 1
  ·rw [AB h2, AN, decide_eq_false (by omega)]; rfl
  ·rw [Av h2]
   by_cases h3 : 4 < s.gd
   ·rw [decide_eq_true h3, AN, decide_eq_false (by omega)]; rfl
   ·rw [decide_eq_false h3, An, decide_eq_true (by split at h1 <;> omega), xI]
    cases h4 : s.gd == 1 <;> simp
theorem Sw (N : Nat) (s : Af) : Fx N s = some (Hw s) := by
 unfold Fx Hw
 simp only [Bi]
 by_cases h1 : 1 ≤ s.gd
 ·rw [AB h1]
  by_cases h2 : s.gd ≤ 4
  ·rw [AB h2]
   by_cases h3 : 0 ≤ s.gg
   ·rw [AB h3]
    by_cases h4 : 0 ≤ s.gp
    ·rw [AB h4, decide_eq_true (by omega), xI]
     cases h5 : s.gd == 1 <;> simp
    ·rw [Av h4, decide_eq_false (by omega)]; rfl
   ·rw [Av h3, decide_eq_false (by omega)]; rfl
  ·rw [Av h2, decide_eq_false (by omega)]; rfl
 ·rw [Av h1, decide_eq_false (by omega)]; rfl
theorem PX (N : Nat) (p : Ab) (s : Af) (hv : Hw s = true) : HD N p s = some (GG p s) := by
 have h0 : 0 ≤ s.gg := by
  unfold Hw at hv
  rw [zH, decide_eq_true_iff] at hv
  exact hv.1.2.2.1
 unfold HD GG
 simp only [Bi]
 by_cases h1 : s.gd = 3
 ·rw [if_pos h1, beq_iff_eq.2 h1, AN]
 ·rw [if_neg h1, beq_eq_false_iff_ne.2 h1, An]
  by_cases h2 : s.gg < (p.f9.length : Int)
  ·rw [AB h2, decide_eq_true h2, xI]
   cases h3 : s.gd != 1
   ·rw [An, FV (d := 0) h0 h2, uZ]; rfl
   ·rw [AN]; rfl
  ·rw [Av h2, decide_eq_false h2]; rfl
def U5 (s : Af) (t : Ao) : Bool := t.ge == s.gg && Cd t
def UP (s : Af) (i : Nat) (t : Ao) (a : List Int) : List Int := if U5 s t = true then a.set i (Q3 .u8 (a.getD i 0) (EI .u8 1 s.gp)) else a
def IQ (p : Ab) (s : Af) (held : List Int) : List Int := Im (UP s) 0 p.ga held
theorem Py {_R : Type} (N : Nat) (p : Ab) (s : Af) (held : List Int) (hv : 0 ≤ s.gp) (hl : held.length = p.ga.length) (h12 : p.ga.length < N) (hN : N ≤ 1000000) (j : List Int → Option (Bool × List Int × List Int)) :
  Eu N p s j N (held, 0) = j (IQ p s held) ∧ (IQ p s held).length = p.ga.length := by
 have := Ip (Eu N p s j) (fun a i => (a, i)) p.ga j (UP s) (fun i a => a.length = p.ga.length)
  (fun n i x a hx ha => by
   have hi := (lI.1 hx).1
   rw [Eu, AB (by simp only; omega)]
   simp only [Ba, AO, hx, oS, LQ, Ay (show i < 1000000 by omega)]
   have e2 : a[i]? = some (a.getD i 0) := by rw [lD]; simp [show i < a.length from by omega]
   unfold UP U5
   cases h1 : x.ge == s.gg
   ·rw [An, An, vY, if_neg (by simp)]; exact ⟨rfl, ha⟩
   ·rw [AN, xI]
    cases h2 : Cd x
    ·rw [An, if_neg (by simp)]; exact ⟨rfl, ha⟩
    ·rw [AN, e2, if_pos rfl]
     simp only [oS]
     rw [Ap hv]
     exact ⟨rfl, by simpa using ha⟩)
  (fun n a ha => by rw [Eu, Av (by simp)]) N 0 held (zL _) (by omega) hl
 rw [yM] at this
 exact this
theorem QN (N : Nat) (p : Ab) (s : Af) (held : List Int) (hv : 0 ≤ s.gp) (hl : held.length = p.ga.length) (h12 : p.ga.length < N) (hN : N ≤ 1000000) (j : List Int → Option (Ae × Bool)) :
  Ck N p s j N (held, 0) = j (IQ p s held) := by
 have := Ip (Ck N p s j) (fun a i => (a, i)) p.ga j (UP s) (fun i a => a.length = p.ga.length)
  (fun n i x a hx ha => by
   have hi := (lI.1 hx).1
   rw [Ck, AB (by simp only; omega)]
   simp only [Ba, AO, hx, oS, HX, Ay (show i < 1000000 by omega)]
   have e2 : a[i]? = some (a.getD i 0) := by rw [lD]; simp [show i < a.length from by omega]
   unfold UP U5
   cases h1 : x.ge == s.gg
   ·rw [An, An, vY, if_neg (by simp)]; exact ⟨rfl, ha⟩
   ·rw [AN, xI]
    cases h2 : Cd x
    ·rw [An, if_neg (by simp)]; exact ⟨rfl, ha⟩
    ·rw [AN, e2, if_pos rfl]
     simp only [oS]
     rw [Ap hv]
     exact ⟨rfl, by simpa using ha⟩)
  (fun n a ha => by rw [Ck, Av (by simp)]) N 0 held (zL _) (by omega) hl
 rw [yM] at this
 exact this.1
def LK (m : Ae) (t : Ao) (u : Nat) : Bool := (t.gk.getD u []).getD (m.gb.getD t.ge.toNat 0).toNat false
def Pz (m : Ae) (i : Nat) (t : Ao) (u : Nat) : Bool := Ez (m.gc.getD i 0) u && !JG m t.ge.toNat u
def H9 (_p : Ab) (m : Ae) (i : Nat) (t : Ao) : Bool := t.gd == 4 && (zS 8).any fun u => Pz m i t u && !LK m t u
def F4 (p : Ab) (m : Ae) (s : Af) : Option Ae :=
 let i := s.gg.toNat
 if s.gd = 1 then (if 0 ≤ m.f7.getD i 0 ∨ m.gb.getD i 0 = s.gp then none else some ⟨m.gb, m.f7.set i s.gp, IQ p s m.gc⟩)
 else if s.gd = 3 then match p.ga[i]? with
  | none => none
  | some t => if Cd t = false ∨ m.gc.getD i 0 = HY m t.ge.toNat ∨ H9 p m i t = true then none else some ⟨m.gb, m.f7, m.gc.set i (HY m t.ge.toNat)⟩
 else if m.f7.getD i 0 < 0 then none
 else some ⟨if s.gd = 2 then m.gb.set i (m.f7.getD i 0) else m.gb, m.f7.set i (-1), m.gc⟩
def A7 (p : Ab) (m : Ae) (s : Af) : Ae × Int :=
 if Hw s = false then (ID, 1) else if GG p s = false then (ID, 4) else match F4 p m s with
  | none => (ID, 11)
  | some x => (x, 0)
end Go.Lift
namespace Go.Lift
open Option renaming bind_some → oS
open List renaming mem_of_getElem? → lM
open List renaming getElem?_eq_some_iff → lI
open List renaming getD_eq_getElem?_getD → lD
open Go
section clear
variable {p : Ab} {m : Ae} {i : Nat} {t : Ao}
theorem Ym (hp : Be p) (hm : B4 p m) (ht : p.ga[i]? = some t) (hs : Cd t = true) {u : Nat} (h : Ez (m.gc.getD i 0) u = true) : (u : Int) < p.f9.getD t.ge.toNat 0 ∧ u < 6 ∧ t.ge.toNat < p.f9.length := by
 have h1 := hm.high i t ht hs u h
 have hin := J5 (hp.tab t (lM ht))
 have h2 := Jo hp (i := t.ge.toNat) (by omega)
 exact ⟨h1, by omega, by omega⟩
theorem Zi (hp : Be p) (hm : B4 p m) (ht : p.ga[i]? = some t) (hs : Cd t = true) (h4 : t.gd = 4) {u : Nat} (h : Ez (m.gc.getD i 0) u = true) :
  Bh t.gk (u : Int) = some (t.gk.getD u []) ∧ Bh (t.gk.getD u []) (m.gb.getD t.ge.toNat 0) = some (LK m t u) := by
 have hT := IX (hp.tab t (lM ht))
 obtain ⟨h1, h2, h3⟩ := Ym hp hm ht hs h
 have hl := hT.reL h4
 have e : t.gk[u]? = some (t.gk.getD u []) := by rw [lD]; simp [show u < t.gk.length from by omega]
 have hr := hT.reR _ (lM e)
 have hb := hm.b0 t.ge.toNat h3
 refine ⟨by rw [AO, e], ?_⟩
 unfold LK
 obtain ⟨b, hb'⟩ := zJ hb.1
 rw [hb'] at hb ⊢
 rw [zK]
 exact DF (by omega)
theorem Ri (N : Nat) (hN : N ≤ 1000000) (h20 : 100 ≤ N) (hp : Be p) (hm : B4 p m) (ht : p.ga[i]? = some t) :
  H0 N p m (i : Int) = some (if Cd t = false ∨ m.gc.getD i 0 = HY m t.ge.toNat ∨ H9 p m i t = true then (false, m.gc) else (true, m.gc.set i (HY m t.ge.toNat))) := by
 have hi := (lI.1 ht).1
 have hin := J5 (hp.tab t (lM ht))
 have hb := hm.base
 have hnx := hm.next
 have hh := hm.held
 have hr := Jb hp hm.toMixServ (s := t.ge.toNat) (by omega)
 have hrg := hm.range i hi
 have eh : Bh m.gc (i : Int) = some (m.gc.getD i 0) := DF (by omega)
 unfold H0
 simp only [Ba, AO, ht, oS, LQ]
 have eh' : m.gc[i]? = some (m.gc.getD i 0) := by rw [← AO, eh]
 cases hs : Cd t
 ·rw [yT, AN, if_pos (.inl rfl)]
 ·rw [zV, An, Uq N m _ hin.1 (by omega) (by omega) (hm.b0 _ (by omega)).1]
  simp only [oS, eh']
  by_cases h1 : m.gc.getD i 0 = HY m t.ge.toNat
  ·rw [beq_iff_eq.2 h1, AN, AN, if_pos (.inr (.inl h1))]
  ·rw [beq_eq_false_iff_ne.2 h1, An]
   by_cases h4 : t.gd = 4
   ·rw [beq_iff_eq.2 h4, AN, FV (d := 0) hin.1 (by omega)]
    simp only [oS]
    obtain ⟨a1, a2, a3⟩ := VP hrg hr.2
    obtain ⟨w, hw⟩ := zJ a2
    unfold GX
    rw [hw] at a1 a3 ⊢
    rw [TI N t _ (LK m t) 8 N w (dI _) (by omega) (by omega) (fun u hu hbu => by
     have := a1 u; rw [hbu] at this
     exact ⟨_, Zi hp hm ht hs h4 (uM.1 this.symm).1⟩)]
    simp only [oS]
    have e : (!(zS 8).all fun u => !Ez (w : Int) u || LK m t u) = H9 p m i t := by
     unfold H9
     rw [beq_iff_eq.2 h4, xI, List.not_all_eq_any_not]
     congr 1
     funext u
     rw [a1 u, hr.1 u]
     unfold Pz
     cases Ez (m.gc.getD i 0) u <;> cases JG m t.ge.toNat u <;> cases LK m t u <;> rfl
    rw [e]
    cases hst : H9 p m i t
    ·rw [An, if_neg (by rintro (h | h | h); cases h; exact h1 h; cases h)]; rfl
    ·rw [AN, if_pos (.inr (.inr rfl))]
   ·have e : H9 p m i t = false := by unfold H9; rw [beq_eq_false_iff_ne.2 h4]; rfl
    rw [beq_eq_false_iff_ne.2 h4, An, An, e, if_neg (by rintro (h | h | h); cases h; exact h1 h; cases h)]; rfl
theorem Qd (N : Nat) (hN : N ≤ 1000000) (h20 : 100 ≤ N) (hp : Be p) (hm : B4 p m) (ht : p.ga[i]? = some t) (hs : Cd t = true) (s : Af) (hsi : s.gg = (i : Int)) (j : Option (Ae × Bool)) :
  BP N p m s t (HY m t.ge.toNat) (fun _ => j) N 0 = if H9 p m i t = true then some (ID, false) else j := by
 have hi := (lI.1 ht).1
 have hin := J5 (hp.tab t (lM ht))
 have hb := hm.base
 have hh := hm.held
 have hr := Jb hp hm.toMixServ (s := t.ge.toNat) (by omega)
 have hrg := hm.range i hi
 have hver := Jo hp (i := t.ge.toNat) (by omega)
 obtain ⟨nv, hnv⟩ := zJ (show 0 ≤ p.f9.getD t.ge.toNat 0 by omega)
 have eh' : m.gc[i]? = some (m.gc.getD i 0) := by rw [lD]; simp [show i < m.gc.length from by omega]
 have := CX (BP N p m s t (HY m t.ge.toNat) fun _ => j) (zS nv) j (fun u _ => if (Pz m i t u && (t.gd == 4 && !LK m t u)) = true then some (ID, false) else none)
  (fun n u x hx => by
   have hu : u < nv := by
    have := (lI.1 hx).1
    simpa using this
   rw [BP, FV (d := 0) hin.1 (by omega), hnv]
   simp only [oS]
   rw [AB (by omega)]
   simp only [Ba, hsi, AO, eh', oS]
   rw [Y5 N hrg (by omega), Ay (by omega)]
   simp only [oS]
   cases h1 : Ez (m.gc.getD i 0) u
   ·have e : Pz m i t u = false := by unfold Pz; rw [h1]; rfl
    rw [An, An, An, e]; rfl
   ·rw [AN, Y5 N hr.2 (by omega), hr.1 u]
    simp only [oS]
    have e : Pz m i t u = !JG m t.ge.toNat u := by unfold Pz; rw [h1]; rfl
    rw [← e]
    cases h2 : Pz m i t u
    ·rw [An, An]; rfl
    ·rw [AN]
     by_cases h4 : t.gd = 4
     ·obtain ⟨e1, e2⟩ := Zi hp hm ht hs h4 h1
      rw [AO] at e1
      rw [beq_iff_eq.2 h4, AN, e1, FV (d := 0) hin.1 (by omega)]
      simp only [oS]
      rw [e2]
      simp only [oS]
      cases LK m t u <;> rfl
     ·rw [beq_eq_false_iff_ne.2 h4, An, An]; rfl)
  (fun n => by
   rw [BP, FV (d := 0) hin.1 (by omega), hnv]
   simp only [oS, uJ]
   rw [Av (by omega)]) N 0 (zL _) (by simp; omega)
 have e0 : BP N p m s t (HY m t.ge.toNat) (fun _ => j) N 0 = _ := this
 rw [e0, yM]
 by_cases hst : H9 p m i t = true
 ·rw [if_pos hst]
  unfold H9 at hst
  rw [zH, y7] at hst
  obtain ⟨h4, u, hu, h5⟩ := hst
  rw [zH] at h5
  have h6 : Ez (m.gc.getD i 0) u = true := by have := h5.1; unfold Pz at this; exact (uM.1 this).1
  have h7 := Ym hp hm ht hs h6
  cases hsc : DP (fun u (_ : Nat) => if (Pz m i t u && (t.gd == 4 && !LK m t u)) = true then some (ID, false) else none) 0 (zS nv) with
  | some r =>
   obtain ⟨q, x, hx, hf⟩ := Fp hsc
   split at hf
   ·cases hf; rfl
   ·cases hf
  | none =>
   exfalso
   have hx : (zS nv)[u]? = some u := List.getElem?_range (by omega)
   have := FJ hsc u u hx
   rw [zC, h5.1, h4, h5.2] at this
   cases this
 ·rw [if_neg hst]
  have : DP (fun u (_ : Nat) => if (Pz m i t u && (t.gd == 4 && !LK m t u)) = true then some (ID, false) else none) 0 (zS nv) = none := FU fun q x hx => by
   rw [zC]
   split
   ·rename_i h5
    exfalso; apply hst
    rw [zH, zH] at h5
    unfold H9
    rw [h5.2.1, xI, y7]
    have hq : q < nv := by
     have := (lI.1 hx).1
     simpa using this
    exact ⟨q, yY.2 (by omega), by rw [h5.1, h5.2.2]; rfl⟩
   ·rfl
  rw [this]; rfl
end clear
end Go.Lift
namespace Go.Lift
open Option renaming bind_some → oS
open List renaming mem_of_getElem? → lM
open Go
theorem IT {s : Af} (h : Hw s = true) : 1 ≤ s.gd ∧ s.gd ≤ 4 ∧ 0 ≤ s.gg ∧ 0 ≤ s.gp ∧ (s.gd ≠ 1 → s.gp = 0) := by
 unfold Hw at h
 rw [zH, decide_eq_true_iff, xO, beq_iff_eq, beq_iff_eq] at h
 exact ⟨h.1.1, h.1.2.1, h.1.2.2.1, h.1.2.2.2, fun hk => h.2.elim (fun e => (hk e).elim) id⟩
theorem JP {p : Ab} {s : Af} (h : GG p s = true) : (s.gd = 3 → s.gg < (p.ga.length : Int)) ∧ (s.gd ≠ 3 → s.gg < (p.f9.length : Int)) ∧ (s.gd = 1 → s.gp < p.f9.getD s.gg.toNat 0) := by
 unfold GG at h
 split at h
 ·rename_i hk
  rw [decide_eq_true_iff] at h
  exact ⟨fun _ => h, fun hn => (hn hk).elim, fun h1 => by omega⟩
 ·rename_i hk
  rw [zH, decide_eq_true_iff, xO, decide_eq_true_iff, bne_iff_ne] at h
  exact ⟨fun h3 => (hk h3).elim, fun _ => h.1, fun h1 => h.2.elim (fun hn => (hn h1).elim) id⟩
theorem Xb (N : Nat) {p : Ab} {m : Ae} (hp : Be p) (hm : B4 p m) : Hx N m = some m := by
 have hnv := hp.nv
 have hnt := hp.nt
 have h1 := hm.base
 have h2 := hm.next
 have h3 := hm.held
 unfold Hx
 rw [K6 N _ (by simp only [CP]; omega), K6 N _ (by simp only [CP]; omega), R6 N _ (by simp only [CP]; omega)]
 rfl
theorem MV (N : Nat) (hN : N ≤ 1000000) (h20 : 100 ≤ N) {p : Ab} {m : Ae} (hp : Be p) (hm : B4 p m) {s : Af} (hv : Hw s = true) (hx : GG p s = true) :
  ∃ o, GD N p m s = some (o, (F4 p m s).isSome) ∧ ∀ x, F4 p m s = some x → o = x := by
 obtain ⟨k1, k4, i0, v0, vk⟩ := IT hv
 obtain ⟨x3, xn, x1⟩ := JP hx
 have hnv := hp.nv
 have hnt := hp.nt
 have hb := hm.base
 have hn := hm.next
 have hh := hm.held
 obtain ⟨i, hi⟩ := zJ i0
 unfold GD F4
 rw [Xb N hp hm]
 simp only [oS, Ba]
 by_cases hk1 : s.gd = 1
 ·have hi1 : (i : Int) < p.f9.length := by have := xn (by omega); omega
  rw [beq_iff_eq.2 hk1, AN, if_pos hk1]
  unfold Ja
  simp only [Ba, hi, zK]
  rw [DF (d := 0) (show i < m.f7.length by omega)]
  simp only [oS]
  by_cases c1 : 0 ≤ m.f7.getD i 0
  ·rw [AB c1, AN, if_pos (.inl c1)]
   exact ⟨_, rfl, fun x hx => by cases hx⟩
  ·rw [Av c1, DF (d := 0) (show i < m.gb.length by omega)]
   simp only [oS]
   by_cases c2 : m.gb.getD i 0 = s.gp
   ·rw [beq_iff_eq.2 c2, AN, if_pos (.inr c2)]
    exact ⟨_, rfl, fun x hx => by cases hx⟩
   ·rw [beq_eq_false_iff_ne.2 c2, An, (Py (_R := Unit) N p s m.gc v0 hh (by omega) hN _).1, if_neg (by rintro (h | h); exact c1 h; exact c2 h)]
    exact ⟨_, rfl, fun x hx => by cases hx; rfl⟩
 ·rw [beq_eq_false_iff_ne.2 hk1, An, if_neg hk1]
  by_cases hk3 : s.gd = 3
  ·have hi3 : i < p.ga.length := by have := x3 hk3; omega
   have ht : p.ga[i]? = some p.ga[i] := by simp [hi3]
   rw [beq_iff_eq.2 hk3, AN, if_pos hk3, hi, Ri N hN h20 hp hm ht]
   simp only [oS, zK, ht]
   split
   ·exact ⟨_, rfl, fun x hx => by cases hx⟩
   ·exact ⟨_, rfl, fun x hx => by cases hx; rfl⟩
  ·have hi1 : (i : Int) < p.f9.length := by have := xn hk3; omega
   rw [beq_eq_false_iff_ne.2 hk3, An, if_neg hk3, hi, DF (d := 0) (show i < m.f7.length by omega)]
   simp only [oS, zK]
   by_cases c1 : m.f7.getD i 0 < 0
   ·rw [AB c1, if_pos c1]
    exact ⟨_, rfl, fun x hx => by cases hx⟩
   ·rw [Av c1, if_neg c1]
    by_cases hk2 : s.gd = 2
    ·rw [beq_iff_eq.2 hk2, AN, DF (d := 0) (show i < m.gb.length by omega), if_pos hk2]
     exact ⟨_, rfl, fun x hx => by cases hx; rfl⟩
    ·rw [beq_eq_false_iff_ne.2 hk2, An, if_neg hk2]
     exact ⟨_, rfl, fun x hx => by cases hx; rfl⟩
theorem Q8 (N : Nat) (hN : N ≤ 1000000) (h20 : 100 ≤ N) {p : Ab} {m : Ae} (hp : Be p) (hm : B4 p m) (s : Af) : H1 N p m s = some (A7 p m s) := by
 unfold H1 A7
 rw [Rb]
 simp only [oS]
 cases hv : Hw s
 ·rw [yT, AN, if_pos rfl]; rfl
 ·rw [zV, An, if_neg (by simp), PX N p s hv]
  simp only [oS]
  cases hx : GG p s
  ·rw [yT, AN, if_pos rfl]; rfl
  ·rw [zV, An, if_neg (by simp)]
   obtain ⟨o, e, ho⟩ := MV N hN h20 hp hm hv hx
   rw [e]
   simp only [oS]
   cases ha : F4 p m s with
   | none => rfl
   | some x => rw [ho x ha]; rfl
theorem Oo (N : Nat) (hN : N ≤ 1000000) (h20 : 100 ≤ N) {p : Ab} {m : Ae} (hp : Be p) (hm : B4 p m) {s : Af} (hv : Hw s = true) (hx : GG p s = true) :
  Dd N p m s = some (match F4 p m s with | none => (ID, false) | some x => (x, true)) := by
 obtain ⟨k1, k4, i0, v0, vk⟩ := IT hv
 obtain ⟨x3, xn, x1⟩ := JP hx
 have hnv := hp.nv
 have hnt := hp.nt
 have hb := hm.base
 have hn := hm.next
 have hh := hm.held
 obtain ⟨i, hi⟩ := zJ i0
 unfold Dd F4
 rw [Ap (by simp [CP]; omega), Ap (by simp [CP]; omega), Ap (by simp [CP]; omega)]
 simp only [Ba, yR]
 by_cases hk1 : s.gd = 1
 ·have hi1 : (i : Int) < p.f9.length := by have := xn (by omega); omega
  rw [beq_iff_eq.2 hk1, AN, if_pos hk1]
  simp only [hi, zK]
  rw [DF (d := 0) (show i < m.f7.length by omega)]
  simp only [oS]
  by_cases c1 : 0 ≤ m.f7.getD i 0
  ·rw [AB c1, AN, if_pos (.inl c1)]; rfl
  ·rw [Av c1, DF (d := 0) (show i < m.gb.length by omega)]
   simp only [oS]
   by_cases c2 : m.gb.getD i 0 = s.gp
   ·rw [beq_iff_eq.2 c2.symm, AN, if_pos (.inr c2)]; rfl
   ·rw [beq_eq_false_iff_ne.2 (fun h => c2 h.symm), An, QN N p s m.gc v0 hh (by omega) hN _, if_neg (by rintro (h | h); exact c1 h; exact c2 h)]
 ·rw [beq_eq_false_iff_ne.2 hk1, An, if_neg hk1]
  by_cases hk3 : s.gd = 3
  ·have hi3 : i < p.ga.length := by have := x3 hk3; omega
   have ht : p.ga[i]? = some p.ga[i] := by simp [hi3]
   have hin := J5 (hp.tab _ (lM ht))
   have eh' : Bh m.gc (i : Int) = some (m.gc.getD i 0) := DF (by omega)
   rw [beq_eq_false_iff_ne.2 (show s.gd ≠ 2 by omega), An, beq_iff_eq.2 hk3, AN, if_pos hk3, hi, AO, ht]
   simp only [oS, HX, zK, ht]
   cases hs : Cd p.ga[i]
   ·rw [yT, AN, if_pos (.inl rfl)]; rfl
   ·rw [zV, An, Lt N m _ hin.1 (by omega) (by omega) (hm.b0 _ (by omega)).1, eh']
    simp only [oS]
    by_cases h1 : m.gc.getD i 0 = HY m (p.ga[i]).ge.toNat
    ·rw [beq_iff_eq.2 h1, AN, if_pos (.inr (.inl h1))]; rfl
    ·rw [beq_eq_false_iff_ne.2 h1, An]
     rw [Qd N hN h20 hp hm ht hs s hi]
     cases hst : H9 p m i p.ga[i]
     ·rw [if_neg (by simp), if_neg (by rintro (h | h | h); cases h; exact h1 h; cases h)]
     ·rw [if_pos rfl, if_pos (.inr (.inr rfl))]
  ·have hi1 : (i : Int) < p.f9.length := by have := xn hk3; omega
   rw [if_neg hk3, hi, DF (d := 0) (show i < m.f7.length by omega)]
   simp only [oS, zK]
   by_cases hk2 : s.gd = 2
   ·rw [beq_iff_eq.2 hk2, AN, if_pos hk2]
    by_cases c1 : m.f7.getD i 0 < 0
    ·rw [AB c1, if_pos c1]; rfl
    ·rw [Av c1, if_neg c1, DF (d := 0) (show i < m.gb.length by omega)]; rfl
   ·rw [beq_eq_false_iff_ne.2 hk2, An, beq_eq_false_iff_ne.2 hk3, An, if_neg hk2]
    by_cases c1 : m.f7.getD i 0 < 0
    ·rw [AB c1, if_pos c1]; rfl
    ·rw [Av c1, if_neg c1]
end Go.Lift
namespace Go.Lift
open Option renaming bind_some → oS
open List renaming mem_of_getElem? → lM
open List renaming getElem?_eq_some_iff → lI
open Go
theorem T3 (s : Af) : ∀ (xs : List Ao) (i : Nat) (a : List Int), i + xs.length ≤ a.length → (Im (UP s) i xs a).length = a.length ∧ ∀ q, (Im (UP s) i xs a).getD q 0 = match (if i ≤ q then xs[q - i]? else none) with
  | some t => if U5 s t = true then Q3 .u8 (a.getD q 0) (EI .u8 1 s.gp) else a.getD q 0
  | none => a.getD q 0
 | [], i, a, _ => by
  refine ⟨rfl, fun q => ?_⟩
  split
  ·rename_i h; split at h
   ·simp at h
   ·cases h
  ·rfl
 | x :: xs, i, a, hl => by
  have hl' : i + (xs.length + 1) ≤ a.length := by simpa using hl
  have ha : (UP s i x a).length = a.length := by unfold UP; split <;> simp
  obtain ⟨ih1, ih2⟩ := T3 s xs (i + 1) (UP s i x a) (by omega)
  refine ⟨by rw [Im, ih1, ha], fun q => ?_⟩
  rw [Im, ih2 q]
  have hu : (UP s i x a).getD q 0 = if q = i ∧ U5 s x = true then Q3 .u8 (a.getD q 0) (EI .u8 1 s.gp) else a.getD q 0 := by
   unfold UP
   by_cases hc : U5 s x = true
   ·rw [if_pos hc, J8 (by omega)]
    by_cases hq : q = i
    ·subst hq; rw [if_pos rfl, if_pos ⟨rfl, hc⟩]
    ·rw [if_neg hq, if_neg (fun h => hq h.1)]
   ·rw [if_neg hc, if_neg (fun h => hc h.2)]
  by_cases h1 : i + 1 ≤ q
  ·rw [if_pos h1, if_pos (show i ≤ q by omega), hu, if_neg (by omega)]
   rw [show (x :: xs)[q - i]? = xs[q - (i + 1)]? from by rw [show q - i = (q - (i + 1)) + 1 from by omega, List.getElem?_cons_succ]]
  ·rw [if_neg h1]
   by_cases h2 : q = i
   ·subst h2
    rw [if_pos (zM _), vM, hu]
    simp
   ·rw [if_neg (show ¬ i ≤ q by omega), hu, if_neg (by omega)]
theorem Xo {p : Ab} {s : Af} {held : List Int} (hl : held.length = p.ga.length) : (IQ p s held).length = p.ga.length ∧ ∀ q t, p.ga[q]? = some t → (IQ p s held).getD q 0 = if U5 s t = true then Q3 .u8 (held.getD q 0) (EI .u8 1 s.gp) else held.getD q 0 := by
 obtain ⟨h1, h2⟩ := T3 s p.ga 0 held (by omega)
 refine ⟨h1.trans hl, fun q t ht => ?_⟩
 have := h2 q
 rw [if_pos (zL _), Nat.sub_zero, ht] at this
 exact this
theorem Qo {m : Ae} {s v : Nat} : JG m s v = true ↔ m.gb.getD s 0 = (v : Int) ∨ m.f7.getD s 0 = (v : Int) := by
 unfold JG; rw [xO, decide_eq_true_iff, decide_eq_true_iff]
theorem Yi {p : Ab} {m x : Ae} (hp : Be p) (hm : B4 p m) {s : Af} (hv : Hw s = true) (hx : GG p s = true) (h : F4 p m s = some x) : B4 p x := by
 obtain ⟨k1, k4, i0, v0, vk⟩ := IT hv
 obtain ⟨x3, xn, x1⟩ := JP hx
 obtain ⟨i, hi⟩ := zJ i0
 have hb := hm.base
 have hn := hm.next
 have hh := hm.held
 unfold F4 at h
 simp only [hi, zK] at h
 rw [hi, zK] at x1
 split at h
 ·rename_i hk1
  have hi1 : i < p.f9.length := by have := xn (by omega); omega
  have hx1 := x1 hk1
  have hvi := Jo hp hi1
  split at h
  ·cases h
  rename_i hc
  cases h
  obtain ⟨u1, u2⟩ := Xo (s := s) hh
  obtain ⟨b, hbv⟩ := zJ v0
  have hob := ZX (b := b) (by omega)
  have hN : ∀ q, (m.f7.set i s.gp).getD q 0 = if q = i then s.gp else m.f7.getD q 0 := fun q => J8 (by omega)
  refine { base := hb, next := by simpa using hn, held := u1, b0 := hm.b0, n0 := fun q hq => ?_, ne := fun q hq => ?_, range := fun q hq => ?_, low := fun q t ht hs v hr => ?_, high := fun q t ht hs v hbit => ?_, none := fun q t ht hs => ?_ }
  ·show -1 ≤ (m.f7.set i s.gp).getD q 0 ∧ (m.f7.set i s.gp).getD q 0 < _
   rw [hN q]
   split
   ·rename_i e; subst e; omega
   ·exact hm.n0 q hq
  ·show m.gb.getD q 0 ≠ (m.f7.set i s.gp).getD q 0
   rw [hN q]
   split
   ·rename_i e; subst e; exact fun h => hc (.inr h)
   ·exact hm.ne q hq
  ·have ht : p.ga[q]? = some p.ga[q] := by simp [hq]
   show 0 ≤ (IQ p s m.gc).getD q 0 ∧ (IQ p s m.gc).getD q 0 ≤ 255
   rw [u2 q _ ht, hbv]
   split
   ·exact (VT (hm.range q hq) hob.2).2
   ·exact hm.range q hq
  ·have hq := (lI.1 ht).1
   show Ez ((IQ p s m.gc).getD q 0) v = true
   have hin := J5 (hp.tab t (lM ht))
   rw [Qo] at hr
   have hr : m.gb.getD t.ge.toNat 0 = (v : Int) ∨ (m.f7.set i s.gp).getD t.ge.toNat 0 = (v : Int) := hr
   rw [hN] at hr
   rw [u2 q t ht, hbv]
   have hlow := hm.low q t ht hs v
   rw [Qo] at hlow
   by_cases hf : t.ge.toNat = i
   ·have hup : U5 s t = true := by unfold U5; rw [hs, vW, beq_iff_eq, hi]; omega
    rw [if_pos hup, (VT (hm.range q hq) hob.2).1, hob.1 v, xO, decide_eq_true_iff]
    rw [if_pos hf] at hr
    rcases hr with h | h
    ·exact .inl (hlow (.inl h))
    ·right; omega
   ·rw [if_neg hf] at hr
    have hup : U5 s t = false := by unfold U5; rw [hs, vW, beq_eq_false_iff_ne, hi]; omega
    rw [hup, if_neg (by simp)]
    exact hlow hr
  ·have hq := (lI.1 ht).1
   have hbit : Ez ((IQ p s m.gc).getD q 0) v = true := hbit
   have hin := J5 (hp.tab t (lM ht))
   rw [u2 q t ht, hbv] at hbit
   split at hbit
   ·rename_i hup
    rw [(VT (hm.range q hq) hob.2).1, hob.1 v, xO, decide_eq_true_iff] at hbit
    rcases hbit with h | h
    ·exact hm.high q t ht hs v h
    ·unfold U5 at hup
     rw [hs, vW, beq_iff_eq, hi] at hup
     rw [hup, zK]; omega
   ·exact hm.high q t ht hs v hbit
  ·show (IQ p s m.gc).getD q 0 = 0
   have hup : U5 s t = false := by unfold U5; rw [hs, Bool.and_false]
   rw [u2 q t ht, hup, if_neg (by simp)]
   exact hm.none q t ht hs
 ·rename_i hk1
  split at h
  ·rename_i hk3
   have hi3 : i < p.ga.length := by have := x3 hk3; omega
   have ht0 : p.ga[i]? = some p.ga[i] := by simp [hi3]
   rw [ht0] at h
   simp only at h
   split at h
   ·cases h
   rename_i hc
   cases h
   have hin0 := J5 (hp.tab _ (lM ht0))
   have hr0 := Jb hp hm.toMixServ (s := (p.ga[i]).ge.toNat) (by omega)
   have hs0 : Cd p.ga[i] = true := by
    cases hs : Cd p.ga[i]
    ·exact (hc (.inl hs)).elim
    ·rfl
   have hH : ∀ q, (m.gc.set i (HY m (p.ga[i]).ge.toNat)).getD q 0 = if q = i then HY m (p.ga[i]).ge.toNat else m.gc.getD q 0 := fun q => J8 (by omega)
   refine { base := hb, next := hn, held := by simpa using hh, b0 := hm.b0, n0 := hm.n0, ne := hm.ne, range := fun q hq => ?_, low := fun q t ht hs v hr => ?_, high := fun q t ht hs v hbit => ?_, none := fun q t ht hs => ?_ }
   ·show 0 ≤ (m.gc.set i (HY m (p.ga[i]).ge.toNat)).getD q 0 ∧ (m.gc.set i (HY m (p.ga[i]).ge.toNat)).getD q 0 ≤ 255
    rw [hH q]
    split
    ·exact hr0.2
    ·exact hm.range q hq
   ·show Ez ((m.gc.set i (HY m (p.ga[i]).ge.toNat)).getD q 0) v = true
    have hr : JG m t.ge.toNat v = true := hr
    rw [hH q]
    split
    ·rename_i e; subst e
     rw [ht0] at ht; cases ht
     rw [hr0.1]; exact hr
    ·exact hm.low q t ht hs v hr
   ·have hbit : Ez ((m.gc.set i (HY m (p.ga[i]).ge.toNat)).getD q 0) v = true := hbit
    rw [hH q] at hbit
    split at hbit
    ·rename_i e; subst e
     rw [ht0] at ht; cases ht
     rw [hr0.1] at hbit
     exact hm.high q _ ht0 hs0 v (hm.low q _ ht0 hs0 v hbit)
    ·exact hm.high q t ht hs v hbit
   ·show (m.gc.set i (HY m (p.ga[i]).ge.toNat)).getD q 0 = 0
    rw [hH q, if_neg (fun e => by subst e; rw [ht0] at ht; cases ht; rw [hs0] at hs; cases hs)]
    exact hm.none q t ht hs
  ·rename_i hk3
   have hi1 : i < p.f9.length := by have := xn hk3; omega
   have hvi := Jo hp hi1
   split at h
   ·cases h
   rename_i hc
   cases h
   have hN : ∀ q, (m.f7.set i (-1)).getD q 0 = if q = i then -1 else m.f7.getD q 0 := fun q => J8 (by omega)
   have hB : ∀ q, (if s.gd = 2 then m.gb.set i (m.f7.getD i 0) else m.gb).getD q 0 = if s.gd = 2 ∧ q = i then m.f7.getD i 0 else m.gb.getD q 0 := fun q => by
    by_cases hk2 : s.gd = 2
    ·rw [if_pos hk2, J8 (by omega)]
     by_cases e : q = i
     ·rw [if_pos e, if_pos ⟨hk2, e⟩]
     ·rw [if_neg e, if_neg (fun h => e h.2)]
    ·rw [if_neg hk2, if_neg (fun h => hk2 h.1)]
   have hrun : ∀ q v, JG ⟨if s.gd = 2 then m.gb.set i (m.f7.getD i 0) else m.gb, m.f7.set i (-1), m.gc⟩ q v = true → JG m q v = true := fun q v hr => by
    rw [Qo] at hr ⊢
    simp only [hN q, hB q] at hr
    by_cases e : q = i
    ·subst e
     rw [if_pos rfl] at hr
     by_cases hk2 : s.gd = 2
     ·rw [if_pos ⟨hk2, rfl⟩] at hr; omega
     ·rw [if_neg (fun h => hk2 h.1)] at hr; omega
    ·rw [if_neg e, if_neg (fun h => e h.2)] at hr; exact hr
   refine { base := by simp only; split <;> simp [hb], next := by simpa using hn, held := hh, b0 := fun q hq => ?_, n0 := fun q hq => ?_, ne := fun q hq => ?_, range := hm.range, low := fun q t ht hs v hr => hm.low q t ht hs v (hrun _ _ hr), high := hm.high, none := hm.none }
   ·simp only [hB q]
    split
    ·rename_i e; obtain ⟨_, e⟩ := e; subst e
     have := hm.n0 q hq
     omega
    ·exact hm.b0 q hq
   ·simp only [hN q]
    split
    ·rename_i e; subst e; omega
    ·exact hm.n0 q hq
   ·simp only [hB q, hN q]
    have h1 := hm.b0 q hq
    by_cases e : q = i
    ·rw [if_pos e]
     split
     ·rename_i e2; obtain ⟨_, e2⟩ := e2; subst e2; omega
     ·omega
    ·rw [if_neg e, if_neg (fun h => e h.2)]; exact hm.ne q hq
theorem Sy (N : Nat) (hN : N ≤ 1000000) (h20 : 100 ≤ N) {p : Ab} {m : Ae} (hw : PL MK m.gc) (s : Af) : FB N p m s = some (if GM p m = 0 then A7 p m s else (ID, GM p m)) := by
 unfold FB A7
 rw [JC N p m hN (by omega)]
 simp only [oS, Ba]
 by_cases hval : GM p m = 0
 ·obtain ⟨hp, hm⟩ := KZ hw hval
  rw [if_pos hval, hval, bne_self_eq_false, An, Sw]
  simp only [oS]
  cases hv : Hw s
  ·rw [yT, AN, if_pos rfl]; rfl
  ·rw [zV, An, if_neg (by simp)]
   obtain ⟨k1, k4, i0, v0, vk⟩ := IT hv
   have key : ∀ b : Bool, GG p s = b → (if b = false then (ID, (4 : Int)) else match F4 p m s with | none => (ID, 11) | some x => (x, 0)) = (if b = false then (ID, (4 : Int)) else match F4 p m s with | none => (ID, 11) | some x => (x, 0)) := fun _ _ => rfl
   have tail : GG p s = true → ((Dd N p m s).bind fun v15 => AR (!v15.2) (some (Ae.mk [] [] [], (11 : Int))) (some (v15.1, 0))) = some (match F4 p m s with | none => (ID, 11) | some x => (x, 0)) := fun hx => by
    rw [Oo N hN h20 hp hm hv hx]
    cases F4 p m s <;> rfl
   have zz : (Ae.mk [] [] [], (4 : Int)) = (ID, 4) := rfl
   by_cases hk3 : s.gd = 3
   ·rw [beq_iff_eq.2 hk3, AN, show (s.gd != 3) = false from by rw [hk3]; rfl]
    have hX : GG p s = decide (s.gg < (p.ga.length : Int)) := by unfold GG; rw [if_pos hk3]
    by_cases c : (p.ga.length : Int) ≤ s.gg
    ·rw [AB c, AN, hX, decide_eq_false (by omega), if_pos rfl]; rfl
    ·have hx : GG p s = true := by rw [hX, decide_eq_true (by omega)]
     rw [Av c, An, An, beq_eq_false_iff_ne.2 (show s.gd ≠ 1 by omega), An, An, hx, if_neg (by simp)]
     exact tail hx
   ·rw [beq_eq_false_iff_ne.2 hk3, An, bne_iff_ne.2 hk3, AN]
    have hX : GG p s = (decide (s.gg < (p.f9.length : Int)) && (s.gd != 1 || decide (s.gp < p.f9.getD s.gg.toNat 0))) := by unfold GG; rw [if_neg hk3]
    by_cases c : (p.f9.length : Int) ≤ s.gg
    ·rw [decide_eq_true c, AN, hX, decide_eq_false (show ¬ s.gg < (p.f9.length : Int) by omega), vY, if_pos rfl]; rfl
    ·rw [decide_eq_false c, An]
     by_cases hk1 : s.gd = 1
     ·rw [beq_iff_eq.2 hk1, AN, FV (d := 0) i0 (by omega)]
      simp only [oS]
      by_cases c2 : p.f9.getD s.gg.toNat 0 ≤ s.gp
      ·rw [decide_eq_true c2, AN, hX, decide_eq_false (show ¬ s.gp < p.f9.getD s.gg.toNat 0 by omega), show (s.gd != 1) = false from by rw [hk1]; rfl, uZ, Bool.and_false, if_pos rfl]; rfl
      ·have hx : GG p s = true := by rw [hX, decide_eq_true (by omega), decide_eq_true (by omega), Bool.or_true]; rfl
       rw [decide_eq_false c2, An, hx, if_neg (by simp)]
       exact tail hx
     ·have hx : GG p s = true := by rw [hX, decide_eq_true (by omega), bne_iff_ne.2 hk1]; rfl
      rw [beq_eq_false_iff_ne.2 hk1, An, An, hx, if_neg (by simp)]
      exact tail hx
 ·rw [if_neg hval, bne_iff_ne.2 hval, AN]; rfl
theorem Rs (N : Nat) (hN : N ≤ 1000000) (h20 : 100 ≤ N) {p : Ab} {m : Ae} (hw : PL MK m.gc) (s : Af) : H2 N p m s = some (if GM p m = 0 then A7 p m s else (ID, GM p m)) := by
 unfold H2
 rw [JK N p m hN (by omega) hw]
 simp only [oS]
 by_cases hval : GM p m = 0
 ·obtain ⟨hp, hm⟩ := KZ hw hval
  rw [if_pos hval, hval, bne_self_eq_false, An, Q8 N hN h20 hp hm s]; rfl
 ·rw [if_neg hval, bne_iff_ne.2 hval, AN]; rfl
theorem Ms {p : Ab} {m : Ae} (hp : Be p) (hm : B4 p m) {s : Af} (h : (A7 p m s).2 = 0) : B4 p (A7 p m s).1 := by
 unfold A7 at h ⊢
 split at h
 ·cases h
 rename_i h1
 rw [if_neg h1]
 split at h
 ·cases h
 rename_i h2
 rw [if_neg h2]
 cases ha : F4 p m s with
 | none => rw [ha] at h; cases h
 | some x => exact Yi hp hm (by simpa using h1) (by simpa using h2) ha
end Go.Lift
namespace Go.Lift
open Go
section
variable {N : Nat} {p : Ab} {l : List Af}
end
end Go.Lift
namespace Go.Lift
open Go
def Og (p : Ab) (m : Ae) (s : Af) : Option Ae := if (A7 p m s).2 = 0 ∧ s.gd ≠ 4 ∧ Bs p (A7 p m s).1 = true then some (A7 p m s).1 else none
def PO (p : Ab) : Ae → List Af → Option Ae
 | m, [] => some m
 | m, s :: l => (Og p m s).bind fun x => PO p x l
def Ot (p : Ab) (m : Ae) (l : List Af) : Bool := match PO p m l with
 | some x => II p x
 | none => false
theorem XA {p : Ab} {m x : Ae} {s : Af} : Og p m s = some x ↔ Hw s = true ∧ GG p s = true ∧ F4 p m s = some x ∧ s.gd ≠ 4 ∧ Bs p x = true := by
 unfold Og A7
 cases h1 : Hw s
 ·simp
 cases h2 : GG p s
 ·simp
 cases h3 : F4 p m s with
 | none => simp
 | some y =>
  simp only [Bool.true_eq_false, if_false, true_and, Option.some.injEq]
  constructor
  ·intro h
   split at h
   ·rename_i hc; cases h; exact ⟨rfl, hc.1, hc.2⟩
   ·cases h
  ·rintro ⟨rfl, h4, h5⟩
   rw [if_pos ⟨h4, h5⟩]
theorem Sm {p : Ab} {m : Ae} {l : List Af} (h : Ot p m l = true) : ∃ x, PO p m l = some x ∧ II p x = true := by
 unfold Ot at h
 cases hr : PO p m l with
 | none => rw [hr] at h; cases h
 | some x => rw [hr] at h; exact ⟨x, rfl, h⟩
end Go.Lift
namespace Go.Lift
open IntKind renaming wrap → wI
open Option renaming bind_some → oS
open List renaming getElem?_eq_some_iff → lI
open List renaming getD_eq_getElem?_getD → lD
open Go
def Hm (m : Ae) (i : Nat) (b : Int) : List Int := [wI .u8 b, wI .u8 (wI .i64 (m.f7.getD i 0 + 1))]
def LS (m : Ae) : List Int := BU (Hm m) 0 m.gb ++ m.gc
theorem YB (N : Nat) (hN : N ≤ 1000000) (h20 : 100 ≤ N) {p : Ab} {m : Ae} (hp : Be p) (hm : B4 p m) : Io N m = some (C1 (LS m)) := by
 have hnv := hp.nv
 have hnt := hp.nt
 have hb := hm.base
 have hn := hm.next
 have hh := hm.held
 unfold Io
 have e1 : wI .i64 (2 * (m.gb.length : Int)) = 2 * (m.gb.length : Int) := B2 (by omega) (by omega)
 rw [e1, B2 (n := 2 * (m.gb.length : Int) + (m.gc.length : Int)) (by omega) (by omega), Ap ⟨Int.le_refl 0, by omega, by simp only [CP]; omega⟩]
 have l1 := CC (FG N m fun v3 => Eh N m (fun v9 => some (C1 v9)) N (v3, 0)) (fun a i => (a, i)) m.gb (fun v3 => Eh N m (fun v9 => some (C1 v9)) N (v3, 0)) (Hm m) 2 100
  (fun i x hx => by simp [Hm])
  (fun n i x a hx hl => by
   have hi := (lI.1 hx).1
   rw [FG, AB (by simp only; omega)]
   simp only [AO, hx, oS, Ay (show i < 1000000 by omega)]
   have e2 : m.f7[i]? = some (m.f7.getD i 0) := by rw [lD]; simp [show i < m.f7.length by omega]
   rw [e2]
   simp only [oS]
   rw [Ap (by simp [CP]; simp [Hm] at hl; omega)]
   rfl)
  (fun n a => by rw [FG, Av (by simp)]) N [] (by omega) (by simp; omega)
 have l1' : FG N m (fun v3 => Eh N m (fun v9 => some (C1 v9)) N (v3, 0)) N (zD (0 : Int).toNat (0 : Int), 0) = _ := l1
 rw [l1', yR]
 have hfl : (BU (Hm m) 0 m.gb).length ≤ 2 * m.gb.length := F0 fun j x hx => by simp [Hm]
 have l2 := CC (Eh N m fun v9 => some (C1 v9)) (fun a i => (a, i)) m.gc (fun v9 => some (C1 v9)) (fun _ x => [x]) 1 100
  (fun i x hx => by simp)
  (fun n i x a hx hl => by
   have hi := (lI.1 hx).1
   rw [Eh, AB (by simp only; omega)]
   simp only [AO, hx, oS, Ay (show i < 1000000 by omega)]
   rw [Ap (by simp [CP]; simp at hl; omega)])
  (fun n a => by rw [Eh, Av (by simp)]) N (BU (Hm m) 0 m.gb) (by omega) (by omega)
 have e3 : ∀ (i : Nat) (l : List Int), BU (fun _ (x : Int) => [x]) i l = l := by
  intro i l
  induction l generalizing i with
  | nil => rfl
  | cons x l ih => rw [BU, ih]; rfl
 refine l2.trans ?_
 rw [e3]; rfl
theorem U6 (xs : List Int) : ∀ b : ByteArray, (xs.foldl (fun s n => s.push (UInt8.ofNat n.toNat)) b).data.toList = b.data.toList ++ xs.map fun n => UInt8.ofNat n.toNat := by
 induction xs with
 | nil => intro b; simp
 | cons x xs ih => intro b; rw [List.foldl_cons, ih]; simp [ByteArray.push]
theorem Oh (xs : List Int) : (C1 xs).data.toList = xs.map fun n => UInt8.ofNat n.toNat := by
 unfold C1
 rw [U6]; rfl
theorem bH {a b : Int} (ha : 0 ≤ a ∧ a ≤ 255) (hb : 0 ≤ b ∧ b ≤ 255) (h : UInt8.ofNat a.toNat = UInt8.ofNat b.toNat) : a = b := by
 have := congrArg UInt8.toNat h
 simp at this
 omega
theorem PT : ∀ {xs ys : List Int}, (∀ x, x ∈ xs → 0 ≤ x ∧ x ≤ 255) → (∀ x, x ∈ ys → 0 ≤ x ∧ x ≤ 255) → (xs.map fun n => UInt8.ofNat n.toNat) = (ys.map fun n => UInt8.ofNat n.toNat) → xs = ys
 | [], [], _, _, _ => rfl
 | [], _ :: _, _, _, h => by cases h
 | _ :: _, [], _, _, h => by cases h
 | x :: xs, y :: ys, hx, hy, h => by
  rw [yH, yH, List.cons.injEq] at h
  rw [bH (hx x (by simp)) (hy y (by simp)) h.1, PT (fun z hz => hx z (xR _ hz)) (fun z hz => hy z (xR _ hz)) h.2]
theorem TW {xs ys : List Int} (hx : ∀ x, x ∈ xs → 0 ≤ x ∧ x ≤ 255) (hy : ∀ x, x ∈ ys → 0 ≤ x ∧ x ≤ 255) (h : (C1 xs == C1 ys) = true) : xs = ys := by
 rw [KO, beq_iff_eq] at h
 have h := congrArg Array.toList h
 rw [Oh, Oh] at h
 exact PT hx hy h
theorem SU (xs : List Int) : (C1 xs == C1 xs) = true := by rw [KO]; simp
theorem RQ {α β : Type} {g h : Nat → α → List β} {c : Nat} : ∀ {i : Nat} {xs ys : List α}, xs.length = ys.length → (∀ i x, (g i x).length = c) → (∀ i x, (h i x).length = c) → BU g i xs = BU h i ys → ∀ j x y, xs[j]? = some x → ys[j]? = some y → g (i + j) x = h (i + j) y
 | i, [], ys, _, _, _, _, j, x, y, hx, _ => by simp at hx
 | i, x :: xs, [], hl, _, _, _, _, _, _, _, _ => by simp at hl
 | i, x :: xs, y :: ys, hl, hg, hh, e, j, x', y', hx, hy => by
  rw [BU, BU] at e
  have e1 := List.append_inj e ((hg i x).trans (hh i y).symm)
  cases j with
  | zero => simp at hx hy; subst hx; subst hy; exact e1.1
  | succ j =>
   have := RQ (i := i + 1) (by simpa using hl) hg hh e1.2 j x' y' (by simpa using hx) (by simpa using hy)
   rwa [show i + 1 + j = i + (j + 1) from by omega] at this
theorem Sk {p : Ab} {m : Ae} (_hp : Be p) (hm : B4 p m) : ∀ x, x ∈ LS m → 0 ≤ x ∧ x ≤ 255 := by
 intro x hx
 unfold LS at hx
 rcases yA.1 hx with h | h
 ·obtain ⟨j, b, hb, hk⟩ := EX.1 h
  have hw : ∀ n : Int, 0 ≤ wI .u8 n ∧ wI .u8 n ≤ 255 := fun n => by
   simp [wI, IntKind.signed, IntKind.bits]; omega
  unfold Hm at hk
  rcases zO.1 hk with e | e
  ·subst e; exact hw _
  ·rcases zO.1 e with e | e
   ·subst e; exact hw _
   ·cases e
 ·obtain ⟨j, hj⟩ := zN.1 h
  have hl := (lI.1 hj).1
  have := hm.range j (by rw [← hm.held]; exact hl)
  rw [lD, hj] at this
  exact this
theorem I9 {n : Int} (h : 0 ≤ n ∧ n ≤ 255) : wI .u8 n = n := by
 simp [wI, IntKind.signed, IntKind.bits]; omega
theorem au {p : Ab} {m x : Ae} (hp : Be p) (hm : B4 p m) (hx : B4 p x) (h : (C1 (LS m) == C1 (LS x)) = true) : m = x := by
 have e := TW (Sk hp hm) (Sk hp hx) h
 unfold LS at e
 have hbl : m.gb.length = x.gb.length := hm.base.trans hx.base.symm
 have hfl : ∀ y : Ae, (BU (Hm y) 0 y.gb).length = 2 * y.gb.length := fun y => by
  have : ∀ (i : Nat) (l : List Int), (BU (Hm y) i l).length = 2 * l.length := by
   intro i l
   induction l generalizing i with
   | nil => rfl
   | cons b l ih => rw [BU, zT, ih, zZ]; simp [Hm]; omega
  exact this 0 _
 obtain ⟨e1, e2⟩ := List.append_inj e (by rw [hfl, hfl, hbl])
 have key : ∀ j, j < p.f9.length → m.gb.getD j 0 = x.gb.getD j 0 ∧ m.f7.getD j 0 = x.f7.getD j 0 := fun j hj => by
  have h1 : m.gb[j]? = some (m.gb.getD j 0) := by rw [lD]; simp [hm.base, hj]
  have h2 : x.gb[j]? = some (x.gb.getD j 0) := by rw [lD]; simp [hx.base, hj]
  have h3 := RQ (c := 2) hbl (fun _ _ => by simp [Hm]) (fun _ _ => by simp [Hm]) e1 j _ _ h1 h2
  rw [zC] at h3
  have v := Jo hp hj
  have b1 := hm.b0 j hj
  have b2 := hx.b0 j hj
  have n1 := hm.n0 j hj
  have n2 := hx.n0 j hj
  unfold Hm at h3
  rw [B2 (n := m.f7.getD j 0 + 1) (by omega) (by omega), B2 (n := x.f7.getD j 0 + 1) (by omega) (by omega), I9 (n := m.gb.getD j 0) (by omega), I9 (n := x.gb.getD j 0) (by omega), I9 (n := m.f7.getD j 0 + 1) (by omega), I9 (n := x.f7.getD j 0 + 1) (by omega), List.cons.injEq, List.cons.injEq] at h3
  exact ⟨h3.1, by omega⟩
 have hB : m.gb = x.gb := GB hbl fun q hq => (key q (by rw [← hm.base]; exact hq)).1
 have hN : m.f7 = x.f7 := GB (hm.next.trans hx.next.symm) fun q hq => (key q (by rw [← hm.next]; exact hq)).2
 cases m; cases x
 simp only at hB hN e2
 rw [hB, hN, e2]
end Go.Lift
namespace Go.Lift
open Option renaming bind_some → oS
open List renaming mem_of_getElem? → lM
open List renaming getElem?_eq_some_iff → lI
open Go
def Kj (i : Nat) (n : Int) : List Af := (zS n.toNat).map fun v => ⟨1, (i : Int), ((v : Nat) : Int), ⟩
def ED (p : Ab) : List Af := BU Kj 0 p.f9 ++ ((zS p.f9.length).map fun i => (⟨2, ((i : Nat) : Int), 0⟩ : Af)) ++ ((zS p.ga.length).map fun i => (⟨3, ((i : Nat) : Int), 0⟩ : Af))
def Gz (p : Ab) (m : Ae) : List Af := (ED p).filter fun s => (A7 p m s).2 == 0
theorem WL {p : Ab} (hp : Be p) : (ED p).length ≤ 54 := by
 have h1 : (BU Kj 0 p.f9).length ≤ 6 * p.f9.length := F0 fun j x hx => by
  have := hp.ver x (lM hx)
  simp [Kj]; omega
 have := hp.nv
 have := hp.nt
 unfold ED
 simp only [zT, zI, uJ]
 omega
theorem TO (N : Nat) (hN : N ≤ 1000000) (h20 : 100 ≤ N) {p : Ab} (hp : Be p) : Jg N p = some (ED p) := by
 have hnv := hp.nv
 have hnt := hp.nt
 unfold Jg
 have l1 := CC (DJ N p fun v2 => CG N p (fun v10 => BA N p (fun v14 => some v14) N (v10, 0)) N (v2, 0)) (fun a i => (a, i)) p.f9 (fun v2 => CG N p (fun v10 => BA N p (fun v14 => some v14) N (v10, 0)) N (v2, 0)) Kj 6 100
  (fun i x hx => by have := hp.ver x (lM hx); simp [Kj]; omega)
  (fun n i x a hx hl => by
   have hi := (lI.1 hx).1
   have hx6 := hp.ver x (lM hx)
   obtain ⟨k, hk⟩ := zJ (show 0 ≤ x by omega)
   rw [DJ, AB (by simp only; omega)]
   simp only [AO, hx, oS, Ay (show i < 1000000 by omega)]
   subst hk
   obtain ⟨a', e, ha⟩ := FN (Fw N (a, (i : Int)) (k : Int) fun v6 => DJ N p (fun v2 => CG N p (fun v10 => BA N p (fun v14 => some v14) N (v10, 0)) N (v2, 0)) n (v6, ((i + 1 : Nat) : Int))) (fun b v => (b, v)) k (fun v6 => DJ N p (fun v2 => CG N p (fun v10 => BA N p (fun v14 => some v14) N (v10, 0)) N (v2, 0)) n (v6, ((i + 1 : Nat) : Int)))
    (fun v b => b = a ++ (zS v).map fun v => (⟨1, (i : Int), ((v : Nat) : Int)⟩ : Af))
    (fun n v b hv hb => by
     subst hb
     rw [Fw, AB (by simp only; omega), Ap (by simp [CP]; simp [Kj] at hl; omega), Ay (by omega)]
     exact ⟨_, rfl, by rw [uG, xH, yQ]; rfl⟩)
    (fun n b hb => by rw [Fw, Av (by simp)]) N 0 a (zL _) (by omega) (by simp)
   have e' : Fw N (a, (i : Int)) (k : Int) (fun v6 => DJ N p (fun v2 => CG N p (fun v10 => BA N p (fun v14 => some v14) N (v10, 0)) N (v2, 0)) n (v6, ((i + 1 : Nat) : Int))) N (a, 0) = _ := e
   rw [e', ha]; rfl)
  (fun n a => by rw [DJ, Av (by simp)]) N [] (by omega) (by simp; omega)
 have l1' : DJ N p (fun v2 => CG N p (fun v10 => BA N p (fun v14 => some v14) N (v10, 0)) N (v2, 0)) N (([] : List Af), 0) = _ := l1
 rw [l1', yR]
 have hA : (BU Kj 0 p.f9).length ≤ 6 * p.f9.length := F0 fun j x hx => by
  have := hp.ver x (lM hx)
  simp [Kj]; omega
 generalize hAe : BU Kj 0 p.f9 = A at hA
 obtain ⟨b', e2, hb⟩ := FN (CG N p fun v10 => BA N p (fun v14 => some v14) N (v10, 0)) (fun b v => (b, v)) p.f9.length (fun v10 => BA N p (fun v14 => some v14) N (v10, 0))
  (fun v b => b = A ++ (zS v).map fun i => (⟨2, ((i : Nat) : Int), 0⟩ : Af))
  (fun n v b hv hb => by
   subst hb
   rw [CG, AB (by simp only; omega), Ap (by simp [CP]; omega), Ay (by omega)]
   exact ⟨_, rfl, by rw [uG, xH, yQ]; rfl⟩)
  (fun n b hb => by rw [CG, Av (by simp)]) N 0 A (zL _) (by omega) (by simp)
 have e2' : CG N p (fun v10 => BA N p (fun v14 => some v14) N (v10, 0)) N (A, 0) = _ := e2
 rw [e2', hb]
 generalize hBe : A ++ (zS p.f9.length).map (fun i => (⟨2, ((i : Nat) : Int), 0⟩ : Af)) = B
 have hB : B.length ≤ 50 := by rw [← hBe]; simp; omega
 obtain ⟨c', e3, hc⟩ := FN (BA N p fun v14 => some v14) (fun b v => (b, v)) p.ga.length (fun v14 => some v14)
  (fun v b => b = B ++ (zS v).map fun i => (⟨3, ((i : Nat) : Int), 0⟩ : Af))
  (fun n v b hv hb => by
   subst hb
   rw [BA, AB (by simp only; omega), Ap (by simp [CP]; omega), Ay (by omega)]
   exact ⟨_, rfl, by rw [uG, xH, yQ]; rfl⟩)
  (fun n b hb => by rw [BA, Av (by simp)]) N 0 B (zL _) (by omega) (by simp)
 have e3' : BA N p (fun v14 => some v14) N (B, 0) = _ := e3
 rw [e3', hc, ← hBe, ← hAe]; rfl
end Go.Lift
namespace Go.Lift
open Option renaming bind_some → oS
open List renaming mem_of_getElem? → lM
open List renaming getElem?_eq_some_iff → lI
open List renaming getD_eq_getElem?_getD → lD
open Go
theorem OU {p : Ab} (hp : Be p) {s : Af} (h : s ∈ ED p) : Hw s = true ∧ GG p s = true := by
 have hnv := hp.nv
 unfold ED at h
 rcases yA.1 h with h | h
 ·rcases yA.1 h with h | h
  ·obtain ⟨j, x, hx, hk⟩ := EX.1 h
   rw [zC] at hk
   unfold Kj at hk
   obtain ⟨v, hv, rfl⟩ := zQ.1 hk
   have hx6 := hp.ver x (lM hx)
   have hv := yY.1 hv
   have hj := (lI.1 hx).1
   refine ⟨by unfold Hw; simp, ?_⟩
   unfold GG
   have e : p.f9.getD j 0 = x := by rw [lD, hx]; rfl
   simp only
   rw [if_neg (by omega), decide_eq_true (by omega), zK, e, decide_eq_true (by omega), Bool.or_true]; rfl
  ·obtain ⟨v, hv, rfl⟩ := zQ.1 h
   have hv := yY.1 hv
   refine ⟨by unfold Hw; simp, ?_⟩
   unfold GG
   simp only
   rw [if_neg (by omega), decide_eq_true (by omega)]; rfl
 ·obtain ⟨v, hv, rfl⟩ := zQ.1 h
  have hv := yY.1 hv
  refine ⟨by unfold Hw; simp, ?_⟩
  unfold GG
  simp only
  rw [if_pos trivial, decide_eq_true (by omega)]
theorem Y1 {p : Ab} {m : Ae} {s : Af} (hv : Hw s = true) (hx : GG p s = true) : ((A7 p m s).2 == 0) = (F4 p m s).isSome := by
 unfold A7
 rw [hv, hx, if_neg (by simp), if_neg (by simp)]
 cases F4 p m s <;> rfl
theorem Ut (N : Nat) (hN : N ≤ 1000000) (h20 : 100 ≤ N) {p : Ab} {m : Ae} (hp : Be p) (hm : B4 p m) {s : Af} (h : s ∈ ED p) :
  D8 N s p.f9 p.gf p.gj p.ga m.gb m.f7 m.gc = some (!((A7 p m s).2 == 0)) := by
 obtain ⟨hv, hx⟩ := OU hp h
 unfold D8
 obtain ⟨o, e, _⟩ := MV N hN h20 hp hm hv hx
 have e' : GD N ⟨p.f9, p.gf, p.gj, p.ga⟩ ⟨m.gb, m.f7, m.gc⟩ s = some (o, (F4 p m s).isSome) := e
 rw [e', Y1 hv hx]; rfl
theorem VK (N : Nat) (hN : N ≤ 1000000) (a : List Af) (f : Af → Option Bool) (g : Af → Bool) (h : a.length < N) (hf : ∀ x, x ∈ a → f x = some (g x)) :
  BW N a f = some ((DP (fun i x => if g x = true then some (i : Int) else none) 0 a).getD (-1)) := by
 unfold BW
 have := CX (A6 N a f fun _ => some (-1)) a (some (-1)) (fun i x => if g x = true then some (i : Int) else none)
  (fun n i x hx => by
   have hi := (lI.1 hx).1
   rw [A6, AB (by omega), AO, hx]
   simp only [oS]
   rw [hf x (lM hx), Ay (by omega)]
   simp only [oS]
   cases g x <;> rfl)
  (fun n => by rw [A6, Av (by simp)]) N 0 (zL _) (by omega)
 refine this.trans ?_
 rw [yM]
 cases DP (fun i x => if g x = true then some (i : Int) else none) 0 a <;> rfl
theorem Rd {α : Type} {l : List α} {i : Nat} {v : α} (h : i < l.length) : (l.set i v).take (i + 1) = l.take i ++ [v] := by
 rw [yV, List.take_set_of_le (zM i)]
 congr 1
 simp [h]
theorem T7 (N : Nat) (hN : N ≤ 1000000) (a : List Af) (f : Af → Option Bool) (g : Af → Bool) (h : a.length < N) (h9 : a.length ≤ 1000) (hf : ∀ x, x ∈ a → f x = some (g x)) :
  ∃ X n, BR N a f = some (n, X) ∧ n ≤ X.length ∧ X.take n = a.filter fun x => !g x := by
 unfold BR
 rw [VK N hN a f g h hf]
 simp only [oS]
 cases hs : DP (fun i x => if g x = true then some (i : Int) else none) 0 a with
 | none =>
  refine ⟨a, a.length, rfl, zM _, ?_⟩
  rw [uU]
  symm
  rw [List.filter_eq_self]
  intro x hx
  obtain ⟨j, hj⟩ := zN.1 hx
  have := FJ hs j x hj
  cases hg : g x
  ·rfl
  ·rw [hg] at this; cases this
 | some r =>
  obtain ⟨j, x, hx, hr⟩ := Fp hs
  rw [zC] at hr
  split at hr
  ·rename_i hg
   cases hr
   have hj := (lI.1 hx).1
   have e0 : ((some (j : Int)).getD (-1) == (-1 : Int)) = false := beq_eq_false_iff_ne.2 (by simp only [yL]; omega)
   rw [e0, An]
   simp only [yL]
   rw [Ay (by omega)]
   -- what lies before the first that goes is kept
   have hpre : (a.take (j + 1)).filter (fun x => !g x) = a.take j := by
    rw [yV, hx, xP]
    have h1 : (a.take j).filter (fun x => !g x) = a.take j := by
     rw [List.filter_eq_self]
     intro y hy
     obtain ⟨q, hq⟩ := zN.1 hy
     have hql := (lI.1 hq).1
     simp at hql
     rw [yI (by omega)] at hq
     cases hgy : g y
     ·rfl
     ·exfalso
      have : ∀ (xs : List Af) (i j q : Nat) (y : Af), DP (fun i x => if g x = true then some (i : Int) else none) i xs = some ((i + j : Nat) : Int) → q < j → xs[q]? = some y → g y = true → False := by
       intro xs
       induction xs with
       | nil => intro i j q y _ _ hq; simp at hq
       | cons z zs ih =>
        intro i j q y hs hqj hq hgy
        rw [GR] at hs
        cases hz : g z
        ·rw [hz] at hs
         cases q with
         | zero => simp at hq; subst hq; rw [hz] at hgy; cases hgy
         | succ q =>
          cases j with
          | zero => omega
          | succ j => exact ih (i + 1) j q y (by rw [show i + 1 + j = i + (j + 1) from by omega]; exact hs) (by omega) (by simpa using hq) hgy
        ·rw [hz] at hs
         have hs : (some (i : Int)) = some ((i + j : Nat) : Int) := hs
         have := Option.some.inj hs
         omega
      exact this a 0 j q y (by rw [zC]; exact hs) (by omega) hq hgy
    rw [h1]
    simp [hg]
   obtain ⟨b, e, hb⟩ := FN (AY N f fun v4 => (Dt ((0 : Int) ≤ v4.2 ∧ (v4.2).toNat ≤ v4.1.length ∧ v4.1.length ≤ v4.1.length)).bind fun _ =>
     (Dt ((0 : Int) ≤ v4.2 ∧ 0 ≤ (v4.2).toNat ∧ (v4.2).toNat ≤ (GZ v4.1 ((v4.2).toNat) (zD ((v4.1.length - (v4.2).toNat)) ((Af.mk 0 0 0)))).length)).bind fun _ =>
     some ((v4.2).toNat, GZ v4.1 ((v4.2).toNat) (zD ((v4.1.length - (v4.2).toNat)) ((Af.mk 0 0 0)))))
    (fun (b : List Af × Nat) i => (b.1, ((b.2 : Nat) : Int), i)) a.length (fun b => (Dt ((0 : Int) ≤ ((b.2 : Nat) : Int) ∧ (((b.2 : Nat) : Int)).toNat ≤ b.1.length ∧ b.1.length ≤ b.1.length)).bind fun _ =>
     (Dt ((0 : Int) ≤ ((b.2 : Nat) : Int) ∧ 0 ≤ (((b.2 : Nat) : Int)).toNat ∧ (((b.2 : Nat) : Int)).toNat ≤ (GZ b.1 ((((b.2 : Nat) : Int)).toNat) (zD ((b.1.length - (((b.2 : Nat) : Int)).toNat)) ((Af.mk 0 0 0)))).length)).bind fun _ =>
     some ((((b.2 : Nat) : Int)).toNat, GZ b.1 ((((b.2 : Nat) : Int)).toNat) (zD ((b.1.length - (((b.2 : Nat) : Int)).toNat)) ((Af.mk 0 0 0)))))
    (fun i b => b.1.length = a.length ∧ b.2 ≤ i ∧ b.1.drop i = a.drop i ∧ b.1.take b.2 = (a.take i).filter fun x => !g x)
    (fun n i b hi hb => by
     obtain ⟨b1, b2, b3, b4⟩ := hb
     rw [AY, AB (by simp only; omega)]
     have hai : a[i]? = some a[i] := by simp [hi]
     have hbi : b.1[i]? = some a[i] := by
      have := congrArg (fun l => l[0]?) b3
      simp only [yU, xK] at this
      rw [this, hai]
     simp only [Ba, AO, hbi, oS]
     rw [hf a[i] (xF hi), Ay (i := i) (by omega)]
     simp only [oS]
     have hnext : b.1.drop (i + 1) = a.drop (i + 1) := by
      have := congrArg (List.drop 1) b3
      rwa [vI, vI] at this
     cases hgi : g a[i]
     ·rw [yT, AN]
      have hbj : b.1[b.2]? = some b.1[b.2] := by simp [show b.2 < b.1.length from by omega]
      rw [hbj, Ay (i := b.2) (by omega)]
      refine ⟨(b.1.set b.2 a[i], b.2 + 1), rfl, by simpa using b1, by simp only; omega, ?_, ?_⟩
      ·simp only
       rw [List.drop_set_of_lt (by omega), hnext]
      ·simp only
       rw [Rd (by omega), b4, yV, hai, xP]
       simp [hgi]
     ·rw [zV, An]
      refine ⟨b, rfl, b1, by omega, hnext, ?_⟩
      rw [b4, yV, hai, xP]
      simp [hgi])
    (fun n b hb => by rw [AY, Av (by simp [hb.1])]) N (j + 1) (a, j) (by omega) (by omega) ⟨rfl, by simp only; omega, rfl, hpre.symm⟩
   obtain ⟨b1, b2, b3, b4⟩ := hb
   have e' : AY N f (fun v4 => (Dt ((0 : Int) ≤ v4.2 ∧ (v4.2).toNat ≤ v4.1.length ∧ v4.1.length ≤ v4.1.length)).bind fun _ =>
     (Dt ((0 : Int) ≤ v4.2 ∧ 0 ≤ (v4.2).toNat ∧ (v4.2).toNat ≤ (GZ v4.1 ((v4.2).toNat) (zD ((v4.1.length - (v4.2).toNat)) ((Af.mk 0 0 0)))).length)).bind fun _ =>
     some ((v4.2).toNat, GZ v4.1 ((v4.2).toNat) (zD ((v4.1.length - (v4.2).toNat)) ((Af.mk 0 0 0))))) N (a, (j : Int), ((j + 1 : Nat) : Int)) = _ := e
   rw [e']
   have hsl : (GZ b.1 b.2 (zD (b.1.length - b.2) (Af.mk 0 0 0))).length = b.1.length := H7 (by rw [List.length_replicate]; omega)
   simp only [zK]
   rw [Ap ⟨by omega, by omega, zM _⟩, Ap ⟨by omega, by omega, by rw [hsl]; omega⟩]
   refine ⟨_, _, rfl, by rw [hsl]; omega, ?_⟩
   unfold GZ
   rw [yQ, List.take_append_of_le_length (by simp; omega), List.take_take, Nat.min_self, b4, uU]
  ·cases hr
theorem V5 (N : Nat) (hN : N ≤ 1000000) (h20 : 100 ≤ N) {p : Ab} {m : Ae} (hv : BK p = 0) (hm : B4 p m) : Ha N p m = some (Gz p m, 0) := by
 obtain ⟨hp, _⟩ := Co hv
 unfold Ha
 rw [JK N p m hN (by omega) (M5 hm), Jf hv hm]
 simp only [oS, bne_self_eq_false, An]
 rw [TO N hN h20 hp]
 simp only [oS]
 have hl := WL hp
 obtain ⟨X, n, e, h1, h2⟩ := T7 N hN (ED p) (fun x => D8 N x p.f9 p.gf p.gj p.ga m.gb m.f7 m.gc) (fun s => !((A7 p m s).2 == 0)) (by omega) (by omega) (fun x hx => Ut N hN h20 hp hm hx)
 rw [e]
 simp only [oS]
 rw [Ap h1, h2]
 unfold Gz
 simp
theorem Jl {β : Type} (g : Nat → List β) : ∀ n : Nat, BU (fun i (_ : Nat) => g i) 0 (zS n) = (zS n).flatMap g
 | 0 => rfl
 | n + 1 => by rw [uG, Oa, Jl g n, vK]; simp [BU]
def Zl (p : Ab) (m : Ae) (s : Af) : Bool := (A7 p m s).2 == 0
def gS (p : Ab) (m : Ae) (k : Int) (i v : Nat) : List Af := if Zl p m ⟨k, (i : Int), (v : Int)⟩ = true then [⟨k, (i : Int), (v : Int)⟩] else []
def bS (p : Ab) (m : Ae) (k : Int) (i : Nat) : List Af := (zS 6).flatMap (gS p m k i)
def Vp (p : Ab) : Nat := max p.f9.length p.ga.length
def kS (p : Ab) (m : Ae) (k : Int) : List Af := (zS (Vp p)).flatMap (bS p m k)
theorem Mn {β : Type} (f : Nat → β) (q : β → Bool) : ∀ n : Nat, ((zS n).flatMap fun v => if q (f v) = true then [f v] else []) = ((zS n).map f).filter q
 | 0 => rfl
 | n + 1 => by
  rw [uG, vK, Mn f q n, xH, xP]
  cases h : q (f n) <;> simp [h]
theorem L8 {β : Type} (g : Nat → List β) (a : Nat) (h : ∀ v, a ≤ v → g v = []) : ∀ n, a ≤ n → (zS n).flatMap g = (zS a).flatMap g
 | 0, hn => by rw [Nat.le_zero.1 hn]
 | n + 1, hn => by
  by_cases h1 : a = n + 1
  ·rw [h1]
  ·rw [uG, vK, L8 g a h n (by omega)]
   simp [h n (by omega)]
theorem Y8 (p : Ab) (m : Ae) (k : Int) (i v : Nat) : (gS p m k i v).length ≤ 1 := by unfold gS; split <;> simp
theorem YF (p : Ab) (m : Ae) (k : Int) (i : Nat) : (bS p m k i).length ≤ 6 := by
 unfold bS
 rw [← Jl]
 have := F0 (g := fun i' (_ : Nat) => gS p m k i i') (c := 1) (i := 0) (xs := zS 6) fun j x _ => Y8 p m k i _
 simpa using this
theorem bJ {p : Ab} (hp : Be p) (m : Ae) (k : Int) : (kS p m k).length ≤ 72 := by
 have h1 := hp.nv
 have h2 := hp.nt
 unfold kS
 rw [← Jl]
 have := F0 (g := fun i' (_ : Nat) => bS p m k i') (c := 6) (i := 0) (xs := zS (Vp p)) fun j x _ => YF p m k _
 simp only [uJ] at this
 have h3 : Vp p ≤ 12 := by unfold Vp; omega
 omega
theorem cx {p : Ab} {m : Ae} {s : Af} (h : Zl p m s = true) : Hw s = true ∧ GG p s = true := by
 unfold Zl A7 at h
 split at h
 ·cases h
 ·rename_i h1
  split at h
  ·cases h
  ·rename_i h2
   exact ⟨by simpa using h1, by simpa using h2⟩
theorem Ox {p : Ab} {m : Ae} {k : Int} {i v : Nat} (h : Zl p m ⟨k, (i : Int), (v : Int)⟩ = true) : (k = 3 → i < p.ga.length) ∧ (k ≠ 3 → i < p.f9.length) ∧ (k = 1 → (v : Int) < p.f9.getD i 0) ∧ (k ≠ 1 → v = 0) := by
 obtain ⟨h1, h2⟩ := cx h
 obtain ⟨a1, a2, a3, a4, a5⟩ := IT h1
 obtain ⟨b1, b2, b3⟩ := JP h2
 simp only [zK] at *
 exact ⟨fun e => by have := b1 e; omega, fun e => by have := b2 e; omega, b3, fun e => by have := a5 e; omega⟩
theorem Yw {p : Ab} (hp : Be p) (m : Ae) : kS p m 1 ++ kS p m 2 ++ kS p m 3 = Gz p m := by
 have hnv := hp.nv
 have hnt := hp.nt
 unfold Gz ED
 rw [xP, xP]
 have e1 : kS p m 1 = (BU Kj 0 p.f9).filter fun s => (A7 p m s).2 == 0 := by
  unfold kS
  rw [L8 (bS p m 1) p.f9.length (fun i hi => by
   unfold bS
   rw [zA5]
   intro v _
   unfold gS
   rw [if_neg]
   intro h
   have := (Ox h).2.1 (by decide)
   omega) (Vp p) (by unfold Vp; omega)]
  have e : ∀ (xs : List Int) (i : Nat), (∀ j x, xs[j]? = some x → 1 ≤ x ∧ x ≤ 6 ∧ p.f9.getD (i + j) 0 = x) → ((zS xs.length).flatMap fun j => bS p m 1 (i + j)) = (BU Kj i xs).filter fun s => (A7 p m s).2 == 0 := by
   intro xs
   induction xs with
   | nil => intro i _; rfl
   | cons x xs ih =>
    intro i hx
    rw [zZ, List.range_succ_eq_map, List.flatMap_cons, List.flatMap_map, BU, xP]
    have ih' := ih (i + 1) (fun j y hy => by
     have := hx (j + 1) y (by simpa using hy)
     rw [show i + 1 + j = i + (j + 1) from by omega]; exact this)
    have hx0 := hx 0 x rfl
    rw [xK] at hx0
    congr 1
    ·rw [xK]
     unfold bS Kj
     rw [L8 (gS p m 1 i) x.toNat (fun v hv => by
      unfold gS
      rw [if_neg]
      intro h
      have := (Ox h).2.2.1 rfl
      rw [hx0.2.2] at this
      omega) 6 (by omega)]
     exact Mn (fun v => (⟨1, (i : Int), ((v : Nat) : Int)⟩ : Af)) (Zl p m) x.toNat
    ·rw [← ih']
     congr 1
     funext j
     rw [show i + (j + 1) = i + 1 + j from by omega]
  have := e p.f9 0 (fun j x hx => by
   have h1 := hp.ver x (lM hx)
   refine ⟨h1.1, h1.2, ?_⟩
   rw [zC, lD, hx]; rfl)
  simp only [zC] at this
  exact this
 have e23 : ∀ (k : Int) (n : Nat), k ≠ 1 → n ≤ Vp p → (∀ i v, Zl p m ⟨k, ((i : Nat) : Int), ((v : Nat) : Int)⟩ = true → i < n) → kS p m k = (((zS n).map fun i => (⟨k, ((i : Nat) : Int), 0⟩ : Af)).filter fun s => (A7 p m s).2 == 0) := by
  intro k n hk hn hi
  unfold kS
  rw [L8 (bS p m k) n (fun i hi' => by
   unfold bS
   rw [zA5]
   intro v _
   unfold gS
   rw [if_neg]
   intro h
   have := hi i v h
   omega) (Vp p) hn]
  show _ = List.filter (Zl p m) _
  rw [← Mn (fun i => (⟨k, ((i : Nat) : Int), 0⟩ : Af)) (Zl p m) n]
  congr 1
  funext i
  unfold bS
  rw [L8 (gS p m k i) 1 (fun v hv => by
   unfold gS
   rw [if_neg]
   intro h
   have := (Ox h).2.2.2 hk
   omega) 6 (by omega)]
  simp [gS]
 rw [e1, e23 2 p.f9.length (by decide) (by unfold Vp; omega) (fun i v h => (Ox h).2.1 (by decide)), e23 3 p.ga.length (by decide) (by unfold Vp; omega) (fun i v h => (Ox h).1 rfl)]
theorem U0 (a b : Nat) : Xx (a : Int) (b : Int) = ((max a b : Nat) : Int) := by
 unfold Xx
 omega
theorem Tp (N : Nat) (hN : N ≤ 1000000) (h20 : 100 ≤ N) {p : Ab} {m : Ae} (hv : BK p = 0) (hm : B4 p m) : FA N p m = some (Gz p m) := by
 obtain ⟨hp, _⟩ := Co hv
 have hnv := hp.nv
 have hnt := hp.nt
 have hmx : Vp p ≤ 12 := by unfold Vp; omega
 unfold FA
 have hmix := Jf hv hm
 -- one number
 have inn : ∀ (k : Int) (c0 a : List Af) (i : Nat) (d0 : List Af) (j : List Af → Option (List Af)), a.length ≤ 1000 →
   Ct N p m (c0, k) (d0, (i : Int)) j N (a, 0) = j (a ++ bS p m k i) := by
  intro k c0 a i d0 j ha
  have := CC (Ct N p m (c0, k) (d0, (i : Int)) j) (fun a i => (a, i)) (zS 6) j (fun v _ => gS p m k i v) 1 2000
   (fun v x _ => Y8 _ _ _ _ _)
   (fun n v x a hx hl => by
    have hi := (lI.1 hx).1
    simp only [uJ] at hi
    rw [Ct, AB (by simp only; omega)]
    simp only [Ba]
    rw [Sy N hN h20 (M5 hm), if_pos hmix]
    simp only [oS, Ay (show v < 1000000 by omega)]
    unfold gS Zl
    cases hq : (A7 p m ⟨k, (i : Int), (v : Int)⟩).2 == 0
    ·rw [An, if_neg (by simp), xM]
    ·rw [AN, if_pos rfl, Ap (by simp [CP]; unfold gS Zl at hl; rw [hq] at hl; simp at hl; omega)])
   (fun n a => by rw [Ct, Av (by simp)]) N a (by simp; omega) (by simp; omega)
  rw [Jl] at this
  exact this
 have mid : ∀ (k : Int) (c0 a : List Af) (j : List Af → Option (List Af)), a.length ≤ 500 →
   Cw N p m (c0, k) j N (a, 0) = j (a ++ kS p m k) := by
  intro k c0 a j ha
  have := CC (Cw N p m (c0, k) j) (fun a i => (a, i)) (zS (Vp p)) j (fun i _ => bS p m k i) 6 900
   (fun v x _ => YF _ _ _ _)
   (fun n i x a hx hl => by
    have hi := (lI.1 hx).1
    simp only [uJ] at hi
    rw [Cw, AB (by simp only; rw [U0]; unfold Vp at hi; omega)]
    rw [inn k c0 a i a _ (by omega)]
    simp only [Ay (show i < 1000000 by omega)])
   (fun n a => by rw [Cw, Av (by simp [U0, Vp])]) N a (by simp; omega) (by simp; omega)
  rw [Jl] at this
  exact this
 have hk := bJ hp m
 have go : ∀ (k : Int) (n : Nat) (a : List Af), k ≤ 3 → 1 ≤ k → a.length ≤ 300 → BD N p m (fun v2 => some v2) (n + 1) (a, k) = BD N p m (fun v2 => some v2) n (a ++ kS p m k, k + 1) := by
  intro k n a h1 h2 ha
  rw [BD, AB h1]
  rw [mid k a a _ (by omega), B2 (by omega) (by omega)]
 obtain ⟨N', hN'⟩ : ∃ q, N = q + 4 := ⟨N - 4, by omega⟩
 have e0 : BD N p m (fun v2 => some v2) N ([], 1) = BD N p m (fun v2 => some v2) (N' + 4) ([], 1) := by rw [hN']
 rw [e0, go 1 (N' + 3) [] (by decide) (by decide) (by simp), yR]
 rw [show (1 : Int) + 1 = 2 from rfl, go 2 (N' + 2) _ (by decide) (by decide) (by have := hk 1; omega)]
 rw [show (2 : Int) + 1 = 3 from rfl, go 3 (N' + 1) _ (by decide) (by decide) (by have h1 := hk 1; have h2 := hk 2; rw [zT]; omega)]
 rw [BD, Av (by simp), Yw hp]
end Go.Lift
namespace Go.Lift
open List renaming mem_of_getElem? → lM
open List renaming getElem?_eq_some_iff → lI
namespace Bfs
section
variable {α σ : Type}
def code (rk : σ → Nat) (K : Nat) (w : List σ) : Nat := w.foldl (fun c s => c * K + rk s) 0
theorem JN (rk : σ → Nat) (K : Nat) (w : List σ) (s : σ) : code rk K (w ++ [s]) = code rk K w * K + rk s := by
 simp [code]
theorem T5 (rk : σ → Nat) (K : Nat) : code rk K ([] : List σ) = 0 := rfl
def Dig (rk : σ → Nat) (K : Nat) (w : List σ) : Prop := ∀ s, s ∈ w → 1 ≤ rk s ∧ rk s ≤ K
theorem Dig.snoc {rk : σ → Nat} {K : Nat} {w : List σ} {s : σ} (h : Dig rk K w) (hs : 1 ≤ rk s ∧ rk s ≤ K) : Dig rk K (w ++ [s]) := by
 intro x hx; rcases yA.1 hx with h1 | h1
 ·exact h x h1
 ·rw [yE.1 h1]; exact hs
theorem Wi {c d K a b : Nat} (h : c < d) (_ : 1 ≤ b) (ha : a ≤ K) : c * K + a < d * K + b := by
 have : c * K + K ≤ d * K := by rw [← zW]; exact zB K h
 omega
theorem Zz {c d K a : Nat} (h : c ≤ d) : c * K + a ≤ d * K + a := Nat.add_le_add_right (zB K h) a
theorem list_snoc {β : Type} (l : List β) : l = [] ∨ ∃ u s, l = u ++ [s] := by
 cases h : l.reverse with
 | nil => exact .inl (List.reverse_eq_nil_iff.1 h)
 | cons s r => exact .inr ⟨r.reverse, s, by rw [← List.reverse_cons, ← h, List.reverse_reverse]⟩
abbrev Nd (α σ : Type) := α × Int × σ
def put [DecidableEq α] (i : Nat) (l : List (Nd α σ)) (q : σ × α) : List (Nd α σ) := if (l.any fun n => decide (n.1 = q.2)) = true then l else l ++ [(q.2, (i : Int), q.1)]
def inner [DecidableEq α] (most i : Nat) : List (σ × α) → List (Nd α σ) → Option (List (Nd α σ))
 | [], l => some l
 | q :: qs, l => if most < (put i l q).length then none else inner most i qs (put i l q)
def go [DecidableEq α] (nxt : α → List (σ × α)) (most : Nat) : Nat → Nat → List (Nd α σ) → Option (List (Nd α σ))
 | 0, _, _ => none
 | n + 1, i, l => match l[i]? with
  | none => some l
  | some nd => (inner most i (nxt nd.1) l).bind fun l' => go nxt most n (i + 1) l'
structure Inv (nxt : α → List (σ × α)) (rk : σ → Nat) (K : Nat) (root : α) (i : Nat) (done : List (σ × α)) (l : List (Nd α σ)) (ws : List (List σ)) : Prop where
 len : ws.length = l.length
 root : ∃ s, l[0]? = some (root, -1, s)
 root' : ws[0]? = some []
 par : ∀ (k : Nat) x f s, 0 < k → l[k]? = some (x, f, s) → ∃ (j : Nat) (y : α) (g : Int) (t : σ) (w : List σ), f = (j : Int) ∧ j < k ∧ l[j]? = some (y, g, t) ∧ (s, x) ∈ nxt y ∧ ws[j]? = some w ∧ ws[k]? = some (w ++ [s]) ∧ (j < i ∨ (j = i ∧ (s, x) ∈ done))
 nodup : ∀ (a b : Nat) x f s g t, l[a]? = some (x, f, s) → l[b]? = some (x, g, t) → a = b
 inc : ∀ (a b : Nat) u w, ws[a]? = some u → ws[b]? = some w → a < b → code rk K u < code rk K w
 dig : ∀ (k : Nat) w, ws[k]? = some w → Dig rk K w
 closed : ∀ (j : Nat) x f s w, l[j]? = some (x, f, s) → ws[j]? = some w → ∀ q, (j < i ∧ q ∈ nxt x) ∨ (j = i ∧ q ∈ done) → ∃ (k : Nat) (f' : Int) (s' : σ) (w' : List σ), l[k]? = some (q.2, f', s') ∧ ws[k]? = some w' ∧ code rk K w' ≤ code rk K (w ++ [q.1])
theorem get_app {β : Type} {l : List β} {y x : β} {k : Nat} (h : (l ++ [y])[k]? = some x) : l[k]? = some x ∨ (k = l.length ∧ x = y) := by
 rcases Nat.lt_trichotomy k l.length with h1 | h1 | h1
 ·rw [yK h1] at h; exact .inl h
 ·subst h1; simp at h; exact .inr ⟨rfl, h.symm⟩
 ·rw [yG (by simp; omega)] at h; cases h
theorem get_app_of {β : Type} {l : List β} {y x : β} {k : Nat} (h : l[k]? = some x) : (l ++ [y])[k]? = some x := by
 rw [yK ((lI.1 h).1)]; exact h
theorem get_app_new {β : Type} {l : List β} {y : β} : (l ++ [y])[l.length]? = some y := by simp
theorem lt_get {β : Type} {l : List β} {k : Nat} {x : β} (h : l[k]? = some x) : k < l.length := (lI.1 h).1
theorem get_ex {β : Type} {l : List β} {k : Nat} (h : k < l.length) : ∃ x, l[k]? = some x := ⟨l[k], yD h⟩
theorem ZB [DecidableEq α] {nxt : α → List (σ × α)} {rk : σ → Nat} {K : Nat} {root : α} {i : Nat} {done : List (σ × α)} {l : List (Nd α σ)} {ws : List (List σ)} {x : α} {f : Int} {s : σ} {q : σ × α}
  (hI : Inv nxt rk K root i done l ws) (hx : l[i]? = some (x, f, s)) (hq : q ∈ nxt x) (hd : ∀ r, r ∈ done → rk r.1 < rk q.1) (hr : 1 ≤ rk q.1 ∧ rk q.1 ≤ K) :
  ∃ ws', Inv nxt rk K root i (done ++ [q]) (put i l q) ws' ∧ (∀ (k : Nat) w, ws[k]? = some w → ws'[k]? = some w) ∧ (∀ (k : Nat) n, l[k]? = some n → (put i l q)[k]? = some n) := by
 obtain ⟨w0, hw0⟩ := get_ex (l := ws) (k := i) (by rw [hI.len]; exact lt_get hx)
 unfold put
 by_cases hin : (l.any fun n => decide (n.1 = q.2)) = true
 ·rw [if_pos hin]
  refine ⟨ws, ⟨hI.len, hI.root, hI.root', ?_, hI.nodup, hI.inc, hI.dig, ?_⟩, fun _ _ h => h, fun _ _ h => h⟩
  ·intro k y g t hk hy
   obtain ⟨j, y', g', t', w, h1, h2, h3, h4, h5, h6, h7⟩ := hI.par k y g t hk hy
   exact ⟨j, y', g', t', w, h1, h2, h3, h4, h5, h6, h7.imp id fun h => ⟨h.1, xJ _ h.2⟩⟩
  ·intro j y g t w hy hw r hr'
   by_cases hold : (j < i ∧ r ∈ nxt y) ∨ (j = i ∧ r ∈ done)
   ·exact hI.closed j y g t w hy hw r hold
   ·have hjr : j = i ∧ r = q := by
     rcases hr' with h | ⟨h1, h2⟩
     ·exact absurd (.inl h) hold
     ·rcases yA.1 h2 with h3 | h3
      ·exact absurd (.inr ⟨h1, h3⟩) hold
      ·exact ⟨h1, yE.1 h3⟩
    obtain ⟨rfl, rfl⟩ := hjr
    rw [hw0] at hw; cases hw
    obtain ⟨n, hn1, hn2⟩ := y7.1 hin
    obtain ⟨k, hk⟩ := zN.1 hn1
    obtain ⟨nx, nf, ns⟩ := n
    have hn2 : nx = r.2 := of_decide_eq_true hn2
    subst hn2
    obtain ⟨wk, hwk⟩ := get_ex (l := ws) (k := k) (by rw [hI.len]; exact lt_get hk)
    refine ⟨k, nf, ns, wk, hk, hwk, ?_⟩
    rw [JN]
    rcases uO k with rfl | hk0
    ·rw [hI.root'] at hwk; cases hwk; rw [T5]; omega
    ·obtain ⟨j', y', g', t', w, h1, h2, h3, h4, h5, h6, h7⟩ := hI.par k _ _ _ hk0 hk
     rw [h6] at hwk; cases hwk
     rw [JN]
     have hdg : 1 ≤ rk ns ∧ rk ns ≤ K := hI.dig k _ h6 ns (by simp)
     rcases h7 with h7 | ⟨h7, h8⟩
     ·exact Nat.le_of_lt (Wi (hI.inc _ _ _ _ h5 hw0 h7) hr.1 hdg.2)
     ·subst h7; rw [hw0] at h5; cases h5
      have := hd _ h8
      simp only at this; omega
 ·rw [if_neg hin]
  have hnew : ∀ (k : Nat) y g t, l[k]? = some (y, g, t) → y ≠ q.2 := fun k y g t hy e => hin (y7.2 ⟨_, lM hy, decide_eq_true e⟩)
  have hbig : ∀ (k : Nat) u, ws[k]? = some u → code rk K u < code rk K (w0 ++ [q.1]) := by
   intro k u hu
   rw [JN]
   obtain ⟨⟨nx, nf, ns⟩, hk⟩ := get_ex (l := l) (k := k) (by rw [← hI.len]; exact lt_get hu)
   rcases uO k with rfl | hk0
   ·rw [hI.root'] at hu; cases hu; rw [T5]; omega
   ·obtain ⟨j', y', g', t', w, h1, h2, h3, h4, h5, h6, h7⟩ := hI.par k _ _ _ hk0 hk
    rw [h6] at hu; cases hu
    rw [JN]
    have hdg : 1 ≤ rk ns ∧ rk ns ≤ K := hI.dig k _ h6 ns (by simp)
    rcases h7 with h7 | ⟨h7, h8⟩
    ·exact Wi (hI.inc _ _ _ _ h5 hw0 h7) hr.1 hdg.2
    ·subst h7; rw [hw0] at h5; cases h5
     have := hd _ h8
     simp only at this; omega
  refine ⟨ws ++ [w0 ++ [q.1]], ⟨by simp [hI.len], ?_, get_app_of hI.root', ?_, ?_, ?_, ?_, ?_⟩, fun _ _ h => get_app_of h, fun _ _ h => get_app_of h⟩
  ·obtain ⟨s0, hs0⟩ := hI.root; exact ⟨s0, get_app_of hs0⟩
  ·intro k y g t hk hy
   rcases get_app hy with hy | ⟨hk1, hy⟩
   ·obtain ⟨j, y', g', t', w, h1, h2, h3, h4, h5, h6, h7⟩ := hI.par k y g t hk hy
    exact ⟨j, y', g', t', w, h1, h2, get_app_of h3, h4, get_app_of h5, get_app_of h6, h7.imp id fun h => ⟨h.1, xJ _ h.2⟩⟩
   ·cases hy
    refine ⟨i, x, f, s, w0, rfl, by rw [hk1]; exact lt_get hx, get_app_of hx, hq, get_app_of hw0, by rw [hk1, ← hI.len]; exact get_app_new, .inr ⟨rfl, by simp⟩⟩
  ·intro a b y g t g' t' ha hb
   rcases get_app ha with ha | ⟨ha1, ha⟩ <;> rcases get_app hb with hb | ⟨hb1, hb⟩
   ·exact hI.nodup a b y g t g' t' ha hb
   ·cases hb; exact absurd rfl (hnew _ _ _ _ ha)
   ·cases ha; exact absurd rfl (hnew _ _ _ _ hb)
   ·omega
  ·intro a b u w ha hb hab
   rcases get_app ha with ha | ⟨ha1, ha⟩ <;> rcases get_app hb with hb | ⟨hb1, hb⟩
   ·exact hI.inc a b u w ha hb hab
   ·rw [hb]; exact hbig _ _ ha
   ·have := lt_get hb; omega
   ·omega
  ·intro k w hw
   rcases get_app hw with hw | ⟨hw1, hw⟩
   ·exact hI.dig k w hw
   ·rw [hw]; exact (hI.dig _ _ hw0).snoc hr
  ·intro j y g t w hy hw r hr'
   rcases get_app hy with hy1 | ⟨hy1, hy2⟩
   ·have hw1 : ws[j]? = some w := by
     rcases get_app hw with h | ⟨h, _⟩
     ·exact h
     ·have := lt_get hy1; rw [← hI.len] at this; omega
    by_cases hold : (j < i ∧ r ∈ nxt y) ∨ (j = i ∧ r ∈ done)
    ·obtain ⟨k, f', s', w', h1, h2, h3⟩ := hI.closed j y g t w hy1 hw1 r hold
     exact ⟨k, f', s', w', get_app_of h1, get_app_of h2, h3⟩
    ·have hjr : j = i ∧ r = q := by
      rcases hr' with h | ⟨h1, h2⟩
      ·exact absurd (.inl h) hold
      ·rcases yA.1 h2 with h3 | h3
       ·exact absurd (.inr ⟨h1, h3⟩) hold
       ·exact ⟨h1, yE.1 h3⟩
     obtain ⟨rfl, rfl⟩ := hjr
     rw [hw0] at hw1; cases hw1
     exact ⟨l.length, _, _, _, get_app_new, by rw [← hI.len]; exact get_app_new, zM _⟩
   ·have := lt_get hx
    rcases hr' with h | h <;> omega
theorem Sj [DecidableEq α] {nxt : α → List (σ × α)} {rk : σ → Nat} {K : Nat} {root : α} {i most : Nat} {x : α} {f : Int} {s : σ} (hP : (nxt x).Pairwise fun a b => rk a.1 < rk b.1) (hD : ∀ q, q ∈ nxt x → 1 ≤ rk q.1 ∧ rk q.1 ≤ K) :
  ∀ (qs done : List (σ × α)) (l l' : List (Nd α σ)) (ws : List (List σ)), done ++ qs = nxt x → Inv nxt rk K root i done l ws → l[i]? = some (x, f, s) → inner most i qs l = some l' →
   ∃ ws', Inv nxt rk K root i (nxt x) l' ws' ∧ (∀ (k : Nat) w, ws[k]? = some w → ws'[k]? = some w) ∧ (∀ (k : Nat) n, l[k]? = some n → l'[k]? = some n)
 | [], done, l, l', ws, he, hI, hx, h => by
  cases h; rw [xM] at he; subst he; exact ⟨ws, hI, fun _ _ h => h, fun _ _ h => h⟩
 | q :: qs, done, l, l', ws, he, hI, hx, h => by
  have hqm : q ∈ nxt x := by rw [← he]; simp
  have hlt : ∀ r, r ∈ done → rk r.1 < rk q.1 := fun r hr => by
   rw [← he] at hP
   exact (uK.1 hP).2.2 r hr q (by simp)
  obtain ⟨ws1, h1, h2, h3⟩ := ZB hI hx hqm hlt (hD q hqm)
  simp only [inner] at h
  split at h
  ·cases h
  ·obtain ⟨ws2, g1, g2, g3⟩ := Sj hP hD qs (done ++ [q]) _ l' ws1 (by rw [yQ]; exact he) h1 (h3 _ _ hx) h
   exact ⟨ws2, g1, fun k w hw => g2 k w (h2 k w hw), fun k n hn => g3 k n (h3 k n hn)⟩
theorem XY {nxt : α → List (σ × α)} {rk : σ → Nat} {K : Nat} {root : α} {i : Nat} {x : α} {f : Int} {s : σ} {l : List (Nd α σ)} {ws : List (List σ)} (h : Inv nxt rk K root i (nxt x) l ws) (hx : l[i]? = some (x, f, s)) : Inv nxt rk K root (i + 1) [] l ws := by
 refine ⟨h.len, h.root, h.root', ?_, h.nodup, h.inc, h.dig, ?_⟩
 ·intro k y g t hk hy
  obtain ⟨j, y', g', t', w, h1, h2, h3, h4, h5, h6, h7⟩ := h.par k y g t hk hy
  exact ⟨j, y', g', t', w, h1, h2, h3, h4, h5, h6, .inl (by rcases h7 with h7 | h7 <;> omega)⟩
 ·intro j y g t w hy hw r hr
  rcases hr with ⟨h1, h2⟩ | ⟨_, h2⟩
  ·refine h.closed j y g t w hy hw r ?_
   by_cases hj : j < i
   ·exact .inl ⟨hj, h2⟩
   ·have : j = i := by omega
    subst this; rw [hx] at hy; cases hy; exact .inr ⟨rfl, h2⟩
  ·cases h2
theorem inv_go [DecidableEq α] {nxt : α → List (σ × α)} {rk : σ → Nat} {K : Nat} {root : α} {most : Nat} (P : α → Prop) (hP : ∀ x, P x → (nxt x).Pairwise fun a b => rk a.1 < rk b.1) (hD : ∀ x, P x → ∀ q, q ∈ nxt x → (1 ≤ rk q.1 ∧ rk q.1 ≤ K) ∧ P q.2) (hroot : P root) :
  ∀ (n i : Nat) (l l' : List (Nd α σ)) (ws : List (List σ)), i ≤ l.length → Inv nxt rk K root i [] l ws → (∀ (k : Nat) x f s, l[k]? = some (x, f, s) → P x) → go nxt most n i l = some l' → ∃ ws', Inv nxt rk K root l'.length [] l' ws' ∧ (∀ (k : Nat) x f s, l'[k]? = some (x, f, s) → P x)
 | 0, i, l, l', ws, _, _, _, h => by cases h
 | n + 1, i, l, l', ws, hi, hI, hA, h => by
  simp only [go] at h
  split at h
  ·rename_i hn
   cases h
   have : i = l.length := by
    have := List.getElem?_eq_none_iff.1 hn; omega
   subst this
   exact ⟨ws, hI, hA⟩
  ·rename_i nd hn
   obtain ⟨x, f, s⟩ := nd
   cases hin : inner most i (nxt x) l with
   | none => rw [hin] at h; cases h
   | some l1 =>
    rw [hin] at h
    have hx := hA _ _ _ _ hn
    obtain ⟨ws1, h1, h2, h3⟩ := Sj (hP x hx) (fun q hq => (hD x hx q hq).1) (nxt x) [] l l1 ws rfl hI hn hin
    have hA1 : ∀ (k : Nat) y g t, l1[k]? = some (y, g, t) → P y := fun k y g t hy => by
     rcases uO k with rfl | hk
     ·obtain ⟨s0, hs0⟩ := h1.root; rw [hs0] at hy; cases hy; exact hroot
     ·obtain ⟨j, y', g', t', w, e1, e2, e3, e4, e5, e6, e7⟩ := h1.par k y g t hk hy
      have hj : P y' := by
       have hjl : j < l.length := by rcases e7 with h | h <;> have := lt_get hn <;> omega
       obtain ⟨⟨z, zf, zs⟩, hz⟩ := get_ex hjl
       have := h3 _ _ hz
       rw [e3] at this; cases this
       exact hA _ _ _ _ hz
      exact (hD y' hj _ e4).2
    exact inv_go P hP hD hroot n (i + 1) l1 l' ws1 (by have := lt_get (h3 _ _ hn); omega) (XY h1 (h3 _ _ hn)) hA1 h
theorem inv_start {nxt : α → List (σ × α)} {rk : σ → Nat} {K : Nat} {root : α} {s : σ} : Inv nxt rk K root 0 [] [(root, -1, s)] [[]] := by
 refine ⟨rfl, ⟨s, rfl⟩, rfl, ?_, ?_, ?_, ?_, ?_⟩
 ·intro k x f s hk h; rw [yG (by simp; omega)] at h; cases h
 ·intro a b x f s g t ha hb; have := lt_get ha; have := lt_get hb; simp at *; omega
 ·intro a b u w ha hb hab; have := lt_get hb; simp at this; omega
 ·intro k w hw
  have := lt_get hw; simp at this; subst this; simp at hw; subst hw
  intro s hs; cases hs
 ·intro j x f s w _ _ q h
  rcases h with h | h
  ·omega
  ·cases h.2
def run (nxt : α → List (σ × α)) (x : α) : List σ → α → Prop
 | [], y => y = x
 | s :: w, y => ∃ z, (s, z) ∈ nxt x ∧ run nxt z w y
theorem G5 {nxt : α → List (σ × α)} : ∀ {u w : List σ} {x y : α}, run nxt x (u ++ w) y ↔ ∃ z, run nxt x u z ∧ run nxt z w y
 | [], w, x, y => by simp [run]
 | s :: u, w, x, y => by
  simp only [uT, run]
  constructor
  ·rintro ⟨z, h1, h2⟩
   obtain ⟨z', h3, h4⟩ := G5.1 h2
   exact ⟨z', ⟨z, h1, h3⟩, h4⟩
  ·rintro ⟨z', ⟨z, h1, h3⟩, h4⟩
   exact ⟨z, h1, G5.2 ⟨z', h3, h4⟩⟩
theorem way_run {nxt : α → List (σ × α)} {rk : σ → Nat} {K : Nat} {root : α} {i : Nat} {l : List (Nd α σ)} {ws : List (List σ)} (h : Inv nxt rk K root i [] l ws) : ∀ (n k : Nat) {x : α} {f : Int} {s : σ} {w : List σ}, k < n → l[k]? = some (x, f, s) → ws[k]? = some w → run nxt root w x
 | 0, k, _, _, _, _, hk, _, _ => by omega
 | n + 1, k, x, f, s, w, hk, hx, hw => by
  rcases uO k with rfl | hk0
  ·obtain ⟨s0, hs0⟩ := h.root; rw [hs0] at hx; cases hx
   rw [h.root'] at hw; cases hw; rfl
  ·obtain ⟨j, y', g', t', w', e1, e2, e3, e4, e5, e6, e7⟩ := h.par k _ _ _ hk0 hx
   rw [e6] at hw; cases hw
   exact G5.2 ⟨y', way_run h n j (by omega) e3 e5, x, e4, rfl⟩
theorem reach_node {nxt : α → List (σ × α)} {rk : σ → Nat} {K : Nat} {root : α} {l : List (Nd α σ)} {ws : List (List σ)} (h : Inv nxt rk K root l.length [] l ws) : ∀ (n : Nat) {w : List σ} {y : α}, w.length = n → run nxt root w y → ∃ (k : Nat) (f : Int) (s : σ) (u : List σ), l[k]? = some (y, f, s) ∧ ws[k]? = some u ∧ code rk K u ≤ code rk K w
 | 0, w, y, hn, hr => by
  rw [List.length_eq_zero_iff.1 hn] at hr ⊢
  simp only [run] at hr; subst hr
  obtain ⟨s, hs⟩ := h.root
  exact ⟨0, _, _, _, hs, h.root', zM _⟩
 | n + 1, w, y, hn, hr => by
  rcases list_snoc w with rfl | ⟨w', s, rfl⟩
  ·simp at hn
  obtain ⟨z, h1, h2⟩ := G5.1 hr
  simp only [run] at h2
  obtain ⟨z', h2, rfl⟩ := h2
  simp only [zT, zU] at hn
  obtain ⟨k, f, t, u, g1, g2, g3⟩ := reach_node h n (by omega) h1
  obtain ⟨k', f', s', u', e1, e2, e3⟩ := h.closed k z f t u g1 g2 (s, y) (.inl ⟨lt_get g1, h2⟩)
  refine ⟨k', f', s', u', e1, e2, xA e3 ?_⟩
  rw [JN, JN]
  exact Zz g3
theorem QA [DecidableEq α] {most more i : Nat} (hm : most ≤ more) : ∀ (qs : List (σ × α)) (l l' : List (Nd α σ)), inner most i qs l = some l' → inner more i qs l = some l'
 | [], l, l', h => h
 | q :: qs, l, l', h => by
  simp only [inner] at h ⊢
  split at h
  ·cases h
  ·rw [if_neg (by omega)]; exact QA hm qs _ _ h
theorem go_more [DecidableEq α] {nxt : α → List (σ × α)} {most more : Nat} (hm : most ≤ more) : ∀ (n m i : Nat) (l l' : List (Nd α σ)), n ≤ m → go nxt most n i l = some l' → go nxt more m i l = some l'
 | 0, m, i, l, l', _, h => by cases h
 | n + 1, m, i, l, l', hnm, h => by
  obtain ⟨m, rfl⟩ : ∃ k, m = k + 1 := ⟨m - 1, by omega⟩
  simp only [go] at h ⊢
  cases hl : l[i]? with
  | none => rw [hl] at h; exact h
  | some nd =>
   rw [hl] at h
   simp only at h ⊢
   cases hin : inner most i (nxt nd.1) l with
   | none => rw [hin] at h; cases h
   | some l1 =>
    rw [hin] at h
    rw [QA hm _ _ _ hin]
    exact go_more hm n m (i + 1) l1 l' (by omega) h
theorem inner_len [DecidableEq α] {most i : Nat} : ∀ (qs : List (σ × α)) (l l' : List (Nd α σ)), l.length ≤ most → inner most i qs l = some l' → l'.length ≤ most
 | [], l, l', h0, h => by cases h; exact h0
 | q :: qs, l, l', h0, h => by
  simp only [inner] at h
  split at h
  ·cases h
  ·exact inner_len qs _ _ (by omega) h
theorem go_len [DecidableEq α] {nxt : α → List (σ × α)} {most : Nat} : ∀ (n i : Nat) (l l' : List (Nd α σ)), l.length ≤ most → go nxt most n i l = some l' → l'.length ≤ most
 | 0, i, l, l', _, h => by cases h
 | n + 1, i, l, l', h0, h => by
  simp only [go] at h
  split at h
  ·cases h; exact h0
  ·rename_i nd hn
   cases hin : inner most i (nxt nd.1) l with
   | none => rw [hin] at h; cases h
   | some l1 => rw [hin] at h; exact go_len n (i + 1) l1 l' (inner_len _ _ _ h0 hin) h
end
end Bfs
end Go.Lift
namespace Go.Lift
open IntKind renaming wrap → wI
open Option renaming bind_some → oS
open List renaming mem_of_getElem? → lM
open List renaming getElem?_eq_some_iff → lI
open List renaming getD_eq_getElem?_getD → lD
open Go
theorem QQ : ∀ {l : List Int}, Q4 l = 0 → ∀ x, x ∈ l → x = 0
 | [], _, x, hx => by cases hx
 | y :: ys, h, x, hx => by
  unfold Q4 at h
  split at h
  ·rename_i hy
   rcases zO.1 hx with rfl | hx
   ·exact hy
   ·exact QQ h x hx
  ·rename_i hy; exact absurd h hy
theorem Ry {a b : Ae} (h : VM a b = 0) : a = b := by
 have := QQ h
 have h1 := PJ _ _ (this (JI a.gb b.gb) (by simp))
 have h2 := PJ _ _ (this (JI a.f7 b.f7) (by simp))
 have h3 := PJ _ _ (this (JI a.gc b.gc) (by simp))
 cases a; cases b; simp only at h1 h2 h3; subst h1; subst h2; subst h3; rfl
instance fy : DecidableEq Ae := fun a b => if h : VM a b = 0 then isTrue (Ry h) else isFalse (fun e => h (by rw [e]; exact Sg b))
theorem YT (a b : Ae) : (VM a b == 0) = decide (a = b) := by
 by_cases h : a = b
 ·rw [decide_eq_true h, h, Sg]; rfl
 ·rw [decide_eq_false h]
  exact beq_eq_false_iff_ne.2 fun e => h (Ry e)
def Sc (p : Ab) (m : Ae) (ss : List Af) : List (Af × Ae) := ss.filterMap fun s => if Bs p (A7 p m s).1 = true then some (s, (A7 p m s).1) else none
def Jj (p : Ab) (m : Ae) : List (Af × Ae) := Sc p m (Gz p m)
def NB (s : Af) : Nat := if s.gd = 1 then 1 + 8 * s.gg.toNat + s.gp.toNat else if s.gd = 2 then 60 + s.gg.toNat else 70 + s.gg.toNat
theorem Iw {p : Ab} {m : Ae} {s : Af} (h : s ∈ Gz p m) : s ∈ ED p ∧ (A7 p m s).2 = 0 := by
 unfold Gz at h
 have := uX.1 h
 exact ⟨this.1, by simpa using this.2⟩
theorem PI {p : Ab} {m : Ae} {ss : List Af} {q : Af × Ae} : q ∈ Sc p m ss ↔ q.1 ∈ ss ∧ q.2 = (A7 p m q.1).1 ∧ Bs p q.2 = true := by
 unfold Sc
 rw [List.mem_filterMap]
 constructor
 ·rintro ⟨s, h1, h2⟩
  split at h2
  ·rename_i h3; cases h2; exact ⟨h1, rfl, h3⟩
  ·cases h2
 ·rintro ⟨h1, h2, h3⟩
  refine ⟨q.1, h1, ?_⟩
  rw [← h2, if_pos h3]
theorem ND {p : Ab} {m : Ae} {q : Af × Ae} : q ∈ Jj p m ↔ q.1 ∈ Gz p m ∧ q.2 = (A7 p m q.1).1 ∧ Bs p q.2 = true := PI
theorem Vb {p : Ab} {m : Ae} (hp : Be p) (hm : B4 p m) {q : Af × Ae} (h : q ∈ Jj p m) : B4 p q.2 ∧ Bs p q.2 = true := by
 obtain ⟨h1, h2, h3⟩ := ND.1 h
 exact ⟨by rw [h2]; exact Ms hp hm (Iw h1).2, h3⟩
theorem Qg {p : Ab} (hp : Be p) {s : Af} (h : s ∈ ED p) : s.gd ≤ 3 ∧ 1 ≤ NB s ∧ NB s ≤ 100 := by
 obtain ⟨h1, h2⟩ := OU hp h
 obtain ⟨a1, a2, a3, a4, a5⟩ := IT h1
 obtain ⟨b1, b2, b3⟩ := JP h2
 have hnv := hp.nv
 have hnt := hp.nt
 have hk : s.gd ≤ 3 := by
  unfold ED at h
  rcases yA.1 h with h | h
  ·rcases yA.1 h with h | h
   ·obtain ⟨j, x, hx, hk⟩ := EX.1 h
    unfold Kj at hk
    obtain ⟨v, hv, rfl⟩ := zQ.1 hk
    exact (by decide : (1 : Int) ≤ 3)
   ·obtain ⟨v, hv, rfl⟩ := zQ.1 h
    exact (by decide : (2 : Int) ≤ 3)
  ·obtain ⟨v, hv, rfl⟩ := zQ.1 h
   exact (by decide : (3 : Int) ≤ 3)
 refine ⟨hk, ?_⟩
 unfold NB
 by_cases h1 : s.gd = 1
 ·rw [if_pos h1]
  have := b2 (by omega)
  have h3 := b3 h1
  have h4 := (Jo hp (i := s.gg.toNat) (by omega)).2
  omega
 ·rw [if_neg h1]
  by_cases h2 : s.gd = 2
  ·rw [if_pos h2]
   have := b2 (by omega)
   omega
  ·rw [if_neg h2]
   have := b1 (by omega)
   omega
theorem Z9 (i : Nat) (n : Int) : (Kj i n).Pairwise fun a b => NB a < NB b := by
 unfold Kj
 rw [vZ]
 refine List.Pairwise.imp ?_ vN
 intro a b h
 simp [NB]; omega
theorem ZG {p : Ab} (hp : Be p) : (ED p).Pairwise fun a b => NB a < NB b := by
 have hnv := hp.nv
 have hnt := hp.nt
 have e1 : ∀ (xs : List Int) (i : Nat), (∀ x, x ∈ xs → x ≤ 6) → (BU Kj i xs).Pairwise fun a b => NB a < NB b := by
  intro xs
  induction xs with
  | nil => intro i _; exact List.Pairwise.nil
  | cons x xs ih =>
   intro i hx
   rw [BU, uK]
   refine ⟨Z9 i x, ih (i + 1) fun y hy => hx y (xR _ hy), ?_⟩
   intro a ha b hb
   unfold Kj at ha
   obtain ⟨v, hv, rfl⟩ := zQ.1 ha
   obtain ⟨j, y, hy, hb⟩ := EX.1 hb
   unfold Kj at hb
   obtain ⟨w, hw, rfl⟩ := zQ.1 hb
   have := hx x (by simp)
   have := yY.1 hv
   simp [NB]; omega
 unfold ED
 rw [uK, uK]
 refine ⟨⟨e1 _ 0 fun x hx => (hp.ver x hx).2, ?_, ?_⟩, ?_, ?_⟩
 ·rw [vZ]
  refine List.Pairwise.imp ?_ vN
  intro a b h
  simp [NB]; omega
 ·intro a ha b hb
  obtain ⟨w, hw, rfl⟩ := zQ.1 hb
  obtain ⟨j, y, hy, ha⟩ := EX.1 ha
  unfold Kj at ha
  obtain ⟨v, hv, rfl⟩ := zQ.1 ha
  have := yY.1 hv
  have := (hp.ver y (lM hy)).2
  have := (lI.1 hy).1
  simp [NB]; omega
 ·rw [vZ]
  refine List.Pairwise.imp ?_ vN
  intro a b h
  simp [NB]; omega
 ·intro a ha b hb
  obtain ⟨w, hw, rfl⟩ := zQ.1 hb
  have hw := yY.1 hw
  rcases yA.1 ha with ha | ha
  ·obtain ⟨j, y, hy, ha⟩ := EX.1 ha
   unfold Kj at ha
   obtain ⟨v, hv, rfl⟩ := zQ.1 ha
   have := yY.1 hv
   have := (hp.ver y (lM hy)).2
   have := (lI.1 hy).1
   simp [NB]; omega
  ·obtain ⟨v, hv, rfl⟩ := zQ.1 ha
   have := yY.1 hv
   simp [NB]; omega
theorem cD {p : Ab} {m : Ae} {ss : List Af} (h : ss.Pairwise fun a b => NB a < NB b) : (Sc p m ss).Pairwise fun a b => NB a.1 < NB b.1 := by
 unfold Sc
 rw [List.pairwise_filterMap]
 refine List.Pairwise.imp ?_ h
 intro a b hab x hx y hy
 split at hx
 ·cases hx
  split at hy
  ·cases hy; exact hab
  ·cases hy
 ·cases hx
theorem cG {p : Ab} (hp : Be p) (m : Ae) : (Jj p m).Pairwise fun a b => NB a.1 < NB b.1 := cD ((ZG hp).filter _)
theorem aj {p : Ab} {s : Af} (hv : Hw s = true) (hx : GG p s = true) (hk : s.gd ≠ 4) : s ∈ ED p := by
 obtain ⟨a1, a2, a3, a4, a5⟩ := IT hv
 obtain ⟨b1, b2, b3⟩ := JP hx
 obtain ⟨k, i, v⟩ := s
 simp only at *
 unfold ED
 obtain ⟨i, rfl⟩ := zJ a3
 by_cases h1 : k = 1
 ·subst h1
  have h2 := b2 (by decide)
  have h3 := b3 rfl
  obtain ⟨v, rfl⟩ := zJ a4
  refine xJ _ (xJ _ (EX.2 ⟨i, p.f9.getD i 0, ?_, ?_⟩))
  ·rw [lD]
   have hi : i < p.f9.length := by omega
   simp [hi]
  ·unfold Kj
   refine zQ.2 ⟨v, yY.2 ?_, by simp⟩
   simp only [zK] at h3
   omega
 ·have hv0 := a5 h1
  subst hv0
  by_cases h2 : k = 2
  ·subst h2
   have := b2 (by decide)
   exact xJ _ (List.mem_append_right _ (zQ.2 ⟨i, yY.2 (by omega), rfl⟩))
  ·have h3 : k = 3 := by omega
   subst h3
   have := b1 rfl
   exact List.mem_append_right _ (zQ.2 ⟨i, yY.2 (by omega), rfl⟩)
theorem R7 {p : Ab} {m x : Ae} {s : Af} : Og p m s = some x → (s, x) ∈ Jj p m := by
 intro h
 obtain ⟨h1, h2, h3, h4, h5⟩ := XA.1 h
 unfold Og at h
 split at h
 ·rename_i h6
  cases h
  refine ND.2 ⟨?_, rfl, h6.2.2⟩
  unfold Gz
  exact uX.2 ⟨aj h1 h2 h4, by simpa using h6.1⟩
 ·cases h
theorem Xq {p : Ab} (hp : Be p) {m x : Ae} {s : Af} (h : (s, x) ∈ Jj p m) : Og p m s = some x := by
 obtain ⟨h1, h2, h3⟩ := ND.1 h
 have h1 : s ∈ Gz p m := h1
 obtain ⟨h4, h5⟩ := Iw h1
 have := (Qg hp h4).1
 have h2 : x = (A7 p m s).1 := h2
 have h3 : Bs p x = true := h3
 unfold Og
 rw [if_pos ⟨h5, by omega, by rw [← h2]; exact h3⟩, h2]
theorem NN {p : Ab} (hp : Be p) : ∀ {w : List Af} {m x : Ae}, PO p m w = some x ↔ Bfs.run (Jj p) m w x
 | [], m, x => by simp only [PO, Bfs.run, Option.some.injEq]; exact eq_comm
 | s :: w, m, x => by
  simp only [PO, Bfs.run]
  constructor
  ·intro h
   cases hs : Og p m s with
   | none => rw [hs] at h; cases h
   | some z => rw [hs] at h; exact ⟨z, R7 hs, (NN hp).1 h⟩
  ·rintro ⟨z, h1, h2⟩
   rw [Xq hp h1]
   exact (NN hp).2 h2
abbrev Jz := Bfs.Nd Ae Af
def JJ (n : Jz) : AF := ⟨n.1, n.2.1, n.2.2⟩
def MZ : Af := ⟨0, 0, 0⟩
theorem XP {N : Nat} {p : Ab} {a b : Ae} (hN : N ≤ 1000000) (h20 : 100 ≤ N) (hp : Be p) (ha : B4 p a) (hb : B4 p b) : Fy N a b = some (decide (a = b)) := by
 have hnv := hp.nv
 have hnt := hp.nt
 unfold Fy
 rw [TQ hN (by rw [ha.base]; omega) (by rw [ha.next]; omega) (by rw [ha.held]; omega) (by rw [hb.held]; omega) (M5 ha) (M5 hb)]
 simp only [oS]
 rw [YT]
theorem TF {N : Nat} (hN : N ≤ 1000000) (h20 : 100 ≤ N) {p : Ab} (hp : Be p) {x : Ae} (hx : B4 p x) {l : List Jz} (hl : l.length < N) (hA : ∀ n, n ∈ l → B4 p n.1) :
  ∃ r, EV N (l.map JJ) x = some r ∧ decide (r < 0) = !(l.any fun n => decide (n.1 = x)) := by
 unfold EV
 have := CX (CE N (l.map JJ) x fun _ => some (-1)) l (some (-1)) (fun i n => if n.1 = x then some (i : Int) else none)
  (fun n i nd hnd => by
   have hi := (lI.1 hnd).1
   rw [CE, AB (by rw [zI]; omega), AO, zF, hnd]
   simp only [yC, oS, JJ]
   have e := XP hN h20 hp (hA nd (lM hnd)) hx
   rw [show (Ae.mk nd.1.gb nd.1.f7 nd.1.gc) = nd.1 from rfl, e, Ay (by omega)]
   simp only [oS]
   by_cases h : nd.1 = x
   ·rw [decide_eq_true h, if_pos h]; rfl
   ·rw [decide_eq_false h, if_neg h]; rfl)
  (fun n => by rw [CE, Av (by simp)]) N 0 (zL _) (by omega)
 have e' : CE N (l.map JJ) x (fun _ => some (-1)) N 0 = _ := this
 rw [e', yM]
 cases hs : DP (fun i (n : Jz) => if n.1 = x then some (i : Int) else none) 0 l with
 | none =>
  refine ⟨_, rfl, ?_⟩
  have : (l.any fun n => decide (n.1 = x)) = false := by
   rw [vT]
   intro n hn
   obtain ⟨j, hj⟩ := zN.1 hn
   have := FJ hs j n hj
   split at this
   ·cases this
   ·rename_i h; simpa using h
  rw [this]; rfl
 | some r =>
  refine ⟨_, rfl, ?_⟩
  obtain ⟨j, n, hj, hr⟩ := Fp hs
  split at hr
  ·rename_i h
   cases hr
   have : (l.any fun n => decide (n.1 = x)) = true := y7.2 ⟨n, lM hj, decide_eq_true h⟩
   rw [this]
   exact decide_eq_false (by omega)
  ·cases hr
theorem UQ {i : Nat} {l : List Jz} {q : Af × Ae} {k : Nat} {n : Jz} (h : l[k]? = some n) : (Bfs.put i l q)[k]? = some n := by
 unfold Bfs.put
 split
 ·exact h
 ·exact Bfs.get_app_of h
theorem WW {i : Nat} {l : List Jz} {q : Af × Ae} {n : Jz} (h : n ∈ Bfs.put i l q) : n ∈ l ∨ n.1 = q.2 := by
 unfold Bfs.put at h
 split at h
 ·exact .inl h
 ·rcases yA.1 h with h | h
  ·exact .inl h
  ·rw [yE.1 h]; exact .inr rfl
theorem Ue {p : Ab} {m : Ae} {s : Af} {ss : List Af} : Sc p m (s :: ss) = if Bs p (A7 p m s).1 = true then (s, (A7 p m s).1) :: Sc p m ss else Sc p m ss := by
 unfold Sc
 rw [List.filterMap_cons]
 split <;> rename_i h
 ·split at h
  ·cases h
  ·rename_i h2; rw [if_neg h2]
 ·split at h
  ·rename_i h2; cases h; rw [if_pos h2]
  ·cases h
theorem Lc {p : Ab} {most i : Nat} : ∀ {qs : List (Af × Ae)} {l l' : List Jz}, Bfs.inner most i qs l = some l' → (∀ q, q ∈ qs → B4 p q.2 ∧ Bs p q.2 = true) → (∀ n, n ∈ l → B4 p n.1 ∧ Bs p n.1 = true) → (∀ n, n ∈ l' → B4 p n.1 ∧ Bs p n.1 = true) ∧ (∀ (k : Nat) n, l[k]? = some n → l'[k]? = some n)
 | [], l, l', h, _, hA => by cases h; exact ⟨hA, fun _ _ h => h⟩
 | q :: qs, l, l', h, hq, hA => by
  simp only [Bfs.inner] at h
  split at h
  ·cases h
  ·obtain ⟨h1, h2⟩ := Lc h (fun q hq' => hq q (xR _ hq')) (fun n hn => by
    rcases WW hn with h | h
    ·exact hA n h
    ·rw [h]; exact hq q (by simp))
   exact ⟨h1, fun k n hn => h2 k n (UQ hn)⟩
theorem Ss (N : Nat) (hN : N ≤ 1000000) (h20 : 100 ≤ N) {p : Ab} {m : Ae} (hp : Be p) (hm : B4 p m) {s : Af} (hs : s ∈ Gz p m) : ∃ b, Dd N p m s = some ((A7 p m s).1, b) := by
 obtain ⟨h1, h2⟩ := Iw hs
 obtain ⟨h3, h4⟩ := OU hp h1
 rw [Oo N hN h20 hp hm h3 h4]
 unfold A7 at h2 ⊢
 rw [h3, h4, if_neg (by simp), if_neg (by simp)] at h2 ⊢
 cases h : F4 p m s with
 | none => rw [h] at h2; cases h2
 | some x => exact ⟨true, rfl⟩
theorem K9 {N : Nat} (hN : N ≤ 1000000) (h20 : 100 ≤ N) {p : Ab} (hp : Be p) {m : Ae} (hm : B4 p m) {f : Int} {t : Af} {most i : Nat} (hmo : most ≤ 20000) {v1 : List AF × Int} (hv1 : v1.2 = (i : Int)) (ss : List Af) (hss : ∀ s, s ∈ ss → s ∈ Gz p m) (hsl : ss.length ≤ 1000) (j : List AF → Option (List AF × Bool)) :
  ∀ (n k : Nat) (l : List Jz), k ≤ ss.length → ss.length - k < n → l[i]? = some (m, f, t) → (∀ n, n ∈ l → B4 p n.1 ∧ Bs p n.1 = true) → l.length ≤ most → (l.length < N ∧ most < N ∨ ∃ l', Bfs.inner most i (Sc p m (ss.drop k)) l = some l' ∧ l'.length < N) →
   BY N p (most : Int) v1 ss j n (l.map JJ, (k : Int)) = match Bfs.inner most i (Sc p m (ss.drop k)) l with
    | none => some ([], false)
    | some l' => j (l'.map JJ)
 | 0, k, l, _, h, _, _, _, _ => by omega
 | n + 1, k, l, hk, h, hi, hA, hlm, hfu => by
  by_cases h1 : k < ss.length
  ·have hs : ss[k]? = some ss[k] := by simp [h1]
   have hsm := hss _ (lM hs)
   have hl1 : l.length < N := by
    rcases hfu with h | ⟨l', h, h2⟩
    ·exact h.1
    ·have hk := (Lc (p := p) h (fun q hq => by
      obtain ⟨g1, g2, g3⟩ := PI.1 hq
      exact ⟨by rw [g2]; exact Ms hp hm (Iw (hss _ (List.mem_of_mem_drop g1))).2, g3⟩) hA).2
     by_cases h0 : l.length = 0
     ·omega
     ·have := hk (l.length - 1) l[l.length - 1] (by simp)
      have := (lI.1 this).1
      omega
   rw [BY, AB (by simp only; omega)]
   simp only [Ba, hv1, AO, zF, hi, hs, yC, oS, JJ]
   obtain ⟨b, ea⟩ := Ss N hN h20 hp hm hsm
   rw [show (Ae.mk m.gb m.f7 m.gc) = m from rfl, ea]
   simp only [oS]
   have hxo := Ms hp hm (Iw hsm).2
   rw [I6 N p _ hN h20 hp hxo]
   simp only [oS]
   rw [GT hs, Ue] at hfu ⊢
   cases hr : Bs p (A7 p m ss[k]).1
   ·rw [hr] at hfu
    rw [An, An, if_neg (by simp), Av (by rw [zI]; omega), Ay (by omega)]
    rw [if_neg (by simp)] at hfu
    exact K9 hN h20 hp hm hmo hv1 ss hss hsl j n (k + 1) l (by omega) (by omega) hi hA hlm hfu
   ·rw [hr] at hfu
    rw [AN, if_pos rfl]
    rw [if_pos rfl] at hfu
    obtain ⟨r, er, hr2⟩ := TF hN h20 hp hxo hl1 (fun n hn => (hA n hn).1)
    have er' : EV N (l.map fun n => AF.mk n.1 n.2.1 n.2.2) (A7 p m ss[k]).1 = some r := er
    have em : (l.map fun n : Jz => AF.mk n.1 n.2.1 n.2.2) = l.map JJ := rfl
    rw [← em, er']
    simp only [oS]
    rw [hr2]
    have hput : Bfs.put i l (ss[k], (A7 p m ss[k]).1) = if (l.any fun n => decide (n.1 = (A7 p m ss[k]).1)) = true then l else l ++ [((A7 p m ss[k]).1, (i : Int), ss[k])] := rfl
    simp only [Bfs.inner] at hfu ⊢
    have hA2 : ∀ n, n ∈ Bfs.put i l (ss[k], (A7 p m ss[k]).1) → B4 p n.1 ∧ Bs p n.1 = true := fun n hn => by
     rcases WW hn with h | h
     ·exact hA n h
     ·rw [h]; exact ⟨hxo, hr⟩
    have hi2 : (Bfs.put i l (ss[k], (A7 p m ss[k]).1))[i]? = some (m, f, t) := UQ hi
    have main : (AR (decide ((most : Int) < (((Bfs.put i l (ss[k], (A7 p m ss[k]).1)).map JJ).length : Int))) (some (([] : List AF), false)) (BY N p (most : Int) v1 ss j n ((Bfs.put i l (ss[k], (A7 p m ss[k]).1)).map JJ, (wI .i64 ((k : Int) + 1))))) =
      match (if most < (Bfs.put i l (ss[k], (A7 p m ss[k]).1)).length then none else Bfs.inner most i (Sc p m (ss.drop (k + 1))) (Bfs.put i l (ss[k], (A7 p m ss[k]).1))) with
      | none => some ([], false)
      | some l' => j (l'.map JJ) := by
     by_cases hb : most < (Bfs.put i l (ss[k], (A7 p m ss[k]).1)).length
     ·rw [if_pos hb, AB (by rw [zI]; omega)]
     ·rw [if_neg hb] at hfu
      rw [if_neg hb, Av (by rw [zI]; omega), Ay (by omega)]
      exact K9 hN h20 hp hm hmo hv1 ss hss hsl j n (k + 1) _ (by omega) (by omega) hi2 hA2 (by omega) (hfu.imp (fun h => ⟨by omega, h.2⟩) id)
    cases hin : (l.any fun n => decide (n.1 = (A7 p m ss[k]).1))
    ·rw [hin] at hput
     rw [yT, AN, Ap (by simp [CP]; omega)]
     rw [if_neg (by simp)] at hput
     rw [hput, xH] at main
     rw [hput]
     exact main
    ·rw [hin] at hput
     rw [zV, An]
     rw [if_pos rfl] at hput
     rw [hput] at main
     rw [hput]
     exact main
  ·have : k = ss.length := by omega
   subst this
   rw [BY, Av (by simp), yP (zM _)]
   rfl
theorem V9 {p : Ab} {m : Ae} (hm : B4 p m) (hr : Bs p m = true) : ∀ n, n ∈ ([(m, -1, MZ)] : List Jz) → B4 p n.1 ∧ Bs p n.1 = true := fun n hn => by
 rw [yE.1 hn]; exact ⟨hm, hr⟩
theorem RI {p : Ab} (hp : Be p) (m : Ae) : (Gz p m).length ≤ 54 := xA (xQ _ _) (WL hp)
theorem L4 {N : Nat} (hN : N ≤ 1000000) (h20 : 100 ≤ N) {p : Ab} (hv : BK p = 0) {most : Nat} (hmo : most ≤ 20000) (j : List AF → Option (List AF × Bool)) :
  ∀ (n i : Nat) (l : List Jz), i ≤ l.length → (∀ n, n ∈ l → B4 p n.1 ∧ Bs p n.1 = true) → l.length ≤ most → (most < N ∧ most < n + i ∨ ∃ l', Bfs.go (Jj p) most n i l = some l' ∧ l'.length < N) →
   BZ N p (most : Int) j n (l.map JJ, (i : Int)) = match Bfs.go (Jj p) most n i l with
    | none => some ([], false)
    | some l' => j (l'.map JJ)
 | 0, i, l, hi, _, hlm, hfu => by
  rcases hfu with h | ⟨l', h, _⟩
  ·omega
  ·cases h
 | n + 1, i, l, hi, hA, hlm, hfu => by
  obtain ⟨hp, _⟩ := Co hv
  simp only [Bfs.go] at hfu ⊢
  rw [BZ]
  by_cases h1 : i < l.length
  ·obtain ⟨⟨m, f, t⟩, hx⟩ := Bfs.get_ex h1
   have hm := (hA _ (lM hx)).1
   rw [hx] at hfu ⊢
   simp only at hfu ⊢
   rw [AB (by rw [zI]; omega)]
   simp only [AO, zF, hx, yC, oS, JJ]
   rw [show (Ae.mk m.gb m.f7 m.gc) = m from rfl, Tp N hN h20 hv hm]
   simp only [oS]
   have hgo : Sc p m ((Gz p m).drop 0) = Jj p m := rfl
   have hsl := RI hp m
   have e := K9 hN h20 hp hm hmo (v1 := (l.map JJ, (i : Int))) rfl (Gz p m) (fun s hs => hs) (by omega) (fun (v7 : (List AF)) =>
    BZ N p (most : Int) j n (v7, (wI .i64 ((i : Int) + 1)))) N 0 l (zL _) (by omega) hx hA hlm (by
     rcases hfu with ⟨g1, g2⟩ | ⟨l', h, hl'⟩
     ·exact .inl ⟨by omega, g1⟩
     ·right
      rw [hgo]
      cases hin : Bfs.inner most i (Jj p m) l with
      | none => rw [hin] at h; cases h
      | some l1 =>
       rw [hin] at h
       refine ⟨l1, rfl, ?_⟩
       have : l1.length ≤ l'.length := by
        have : ∀ (n i : Nat) (l l' : List Jz), Bfs.go (Jj p) most n i l = some l' → l.length ≤ l'.length := by
         intro n
         induction n with
         | zero => intro i l l' h; cases h
         | succ n ih =>
          intro i l l' h
          simp only [Bfs.go] at h
          split at h
          ·cases h; exact zM _
          ·rename_i nd _
           cases hin : Bfs.inner most i (Jj p nd.1) l with
           | none => rw [hin] at h; cases h
           | some l1 =>
            rw [hin] at h
            refine xA ?_ (ih _ _ _ h)
            have : ∀ (qs : List (Af × Ae)) (l l1 : List Jz), Bfs.inner most i qs l = some l1 → l.length ≤ l1.length := by
             intro qs
             induction qs with
             | nil => intro l l1 h; cases h; exact zM _
             | cons q qs ih =>
              intro l l1 h
              simp only [Bfs.inner] at h
              split at h
              ·cases h
              ·refine xA ?_ (ih _ _ h)
               unfold Bfs.put; split
               ·exact zM _
               ·simp
            exact this _ _ _ hin
        exact this _ _ _ _ h
       omega)
   have e' : BY N p (most : Int) (l.map JJ, (i : Int)) (Gz p m) (fun (v7 : (List AF)) => BZ N p (most : Int) j n (v7, (wI .i64 ((i : Int) + 1)))) N (l.map JJ, 0) = _ := e
   rw [e', hgo]
   cases hin : Bfs.inner most i (Jj p m) l with
   | none => rfl
   | some l1 =>
    rw [hin] at hfu
    obtain ⟨k1, k2⟩ := Lc hin (fun q hq => Vb hp hm hq) hA
    have := (lI.1 (k2 _ _ hx)).1
    simp only [oS] at hfu ⊢
    rw [Ay (by omega)]
    exact L4 hN h20 hv hmo j n (i + 1) l1 (by omega) k1 (Bfs.inner_len _ _ _ hlm hin) (hfu.imp (fun h => ⟨h.1, by omega⟩) id)
  ·have hi' : i = l.length := by omega
   subst hi'
   rw [yG (zM _)]
   rw [Av (by simp)]
def IW (p : Ab) (m : Ae) (most n : Nat) : Option (List Jz) := Bfs.go (Jj p) most n 0 [(m, -1, MZ)]
theorem Ol {N : Nat} (hN : N ≤ 1000000) (h20 : 100 ≤ N) {p : Ab} (hv : BK p = 0) {m : Ae} (hm : B4 p m) (hr : Bs p m = true) {most : Nat} (hmo : most ≤ 20000) (h1 : 1 ≤ most) (hfu : most < N ∨ ∃ l', IW p m most N = some l' ∧ l'.length < N) :
  De N p m (most : Int) = some (match IW p m most N with
   | none => ([], false)
   | some l' => (l'.map JJ, true)) := by
 unfold De
 have e := L4 hN h20 hv hmo (fun (v2 : (List AF)) => some (v2, true)) N 0 [(m, -1, MZ)] (zL _) (V9 hm hr) h1 (hfu.imp (fun h => ⟨h, by omega⟩) id)
 have e' : BZ N p (most : Int) (fun (v2 : (List AF)) => some (v2, true)) N (([(AF.mk m ((-1)) ((Af.mk 0 0 0)))] : List AF), 0) = _ := e
 rw [e']
 unfold IW
 cases Bfs.go (Jj p) most N 0 [(m, -1, MZ)] <;> rfl
structure aC (p : Ab) (m : Ae) (l : List Jz) (ws : List (List Af)) : Prop where
 inv : Bfs.Inv (Jj p) NB 100 m l.length [] l ws
 ok : ∀ (k : Nat) x f s, l[k]? = some (x, f, s) → B4 p x ∧ Bs p x = true
theorem Ts {p : Ab} (hp : Be p) {m : Ae} (hm : B4 p m) (hr : Bs p m = true) {most n : Nat} {l : List Jz} (h : IW p m most n = some l) : ∃ ws, aC p m l ws := by
 obtain ⟨ws, h1, h2⟩ := Bfs.inv_go (rk := NB) (K := 100) (fun x => B4 p x ∧ Bs p x = true) (fun x _ => cG hp x) (fun x hx q hq => by
  refine ⟨?_, Vb hp hx.1 hq⟩
  exact (Qg hp (Iw (ND.1 hq).1).1).2) ⟨hm, hr⟩ n 0 [(m, -1, MZ)] l [[]] (zL _) Bfs.inv_start (fun k x f s hk => by
   have := Bfs.lt_get hk
   simp at this; subst this
   cases hk; exact ⟨hm, hr⟩) h
 exact ⟨ws, h1, h2⟩
theorem ZD {p : Ab} (hp : Be p) {m : Ae} {l : List Jz} {ws : List (List Af)} (h : aC p m l ws) {k : Nat} {x : Ae} {f : Int} {s : Af} {w : List Af} (hx : l[k]? = some (x, f, s)) (hw : ws[k]? = some w) : PO p m w = some x :=
 (NN hp).2 (Bfs.way_run h.inv (k + 1) k (Nat.lt_succ_self k) hx hw)
theorem RE {p : Ab} (hp : Be p) {m x : Ae} {l : List Jz} {ws : List (List Af)} (h : aC p m l ws) {w : List Af} (hw : PO p m w = some x) : ∃ (k : Nat) (f : Int) (s : Af) (u : List Af), l[k]? = some (x, f, s) ∧ ws[k]? = some u ∧ Bfs.code NB 100 u ≤ Bfs.code NB 100 w :=
 Bfs.reach_node h.inv w.length rfl ((NN hp).1 hw)
theorem Tk {p : Ab} {m : Ae} {l : List Jz} {ws : List (List Af)} (h : aC p m l ws) : ∀ (n k : Nat) {w : List Af}, k < n → ws[k]? = some w → w.length ≤ k
 | 0, k, _, hk, _ => by omega
 | n + 1, k, w, hk, hw => by
  obtain ⟨⟨x, f, s⟩, hx⟩ := Bfs.get_ex (l := l) (k := k) (by rw [← h.inv.len]; exact Bfs.lt_get hw)
  rcases uO k with rfl | hk0
  ·rw [h.inv.root'] at hw; cases hw; exact zM _
  ·obtain ⟨j, y', g', t', w', e1, e2, e3, e4, e5, e6, e7⟩ := h.inv.par k _ _ _ hk0 hx
   rw [e6] at hw; cases hw
   have := Tk h n j (by omega) e5
   simp; omega
theorem Om {p : Ab} {m : Ae} {l : List Jz} {ws : List (List Af)} (h : aC p m l ws) (N : Nat) (j : List Af → Option (List Af)) : ∀ (n k : Nat) {w acc : List Af}, k < n → ws[k]? = some w → acc.length + k ≤ 20000 →
  Ec N (l.map JJ) j n ((k : Int), acc) = j (w ++ acc)
 | 0, k, _, _, hk, _, _ => by omega
 | n + 1, k, w, acc, hk, hw, ha => by
  obtain ⟨⟨x, f, s⟩, hx⟩ := Bfs.get_ex (l := l) (k := k) (by rw [← h.inv.len]; exact Bfs.lt_get hw)
  rw [Ec]
  simp only [AO, zF, hx, yC, oS, JJ]
  rcases uO k with rfl | hk0
  ·obtain ⟨s0, hs0⟩ := h.inv.root; rw [hs0] at hx; cases hx
   rw [h.inv.root'] at hw; cases hw
   rw [Av (by decide)]; rfl
  ·obtain ⟨i, y', g', t', w', e1, e2, e3, e4, e5, e6, e7⟩ := h.inv.par k _ _ _ hk0 hx
   rw [e6] at hw; cases hw
   subst e1
   rw [AB (zA1 i), Ap (by simp [CP]; omega)]
   have := Om h N j n i (w := w') (acc := [Af.mk s.gd s.gg s.gp] ++ acc) (by omega) e5 (by simp; omega)
   rw [this, yQ]
def Ll (p : Ab) (l : List Jz) : Option Nat := DP (fun i (n : Jz) => if II p n.1 = true then some i else none) 0 l
theorem R8 {p : Ab} {l : List Jz} {k : Nat} (h : Ll p l = some k) : (∃ x f s, l[k]? = some (x, f, s) ∧ II p x = true) ∧ ∀ j x f s, j < k → l[j]? = some (x, f, s) → II p x = false := by
 have : ∀ (xs : List Jz) (i k : Nat), DP (fun i (n : Jz) => if II p n.1 = true then some i else none) i xs = some (i + k) → (∃ x f s, xs[k]? = some (x, f, s) ∧ II p x = true) ∧ ∀ j x f s, j < k → xs[j]? = some (x, f, s) → II p x = false := by
  intro xs
  induction xs with
  | nil => intro i k h; cases h
  | cons n xs ih =>
   intro i k h
   rw [GR] at h
   cases hg : II p n.1
   ·rw [hg] at h
    simp only [vC, if_false] at h
    cases k with
    | zero =>
     exfalso
     obtain ⟨j, x, _, hj⟩ := Fp h
     split at hj
     ·have := Option.some.inj hj; omega
     ·cases hj
    | succ k =>
     obtain ⟨⟨x, f, s, h1, h2⟩, h3⟩ := ih (i + 1) k (by rw [show i + 1 + k = i + (k + 1) from by omega]; exact h)
     refine ⟨⟨x, f, s, by simpa using h1, h2⟩, ?_⟩
     intro j x f s hj hx
     cases j with
     | zero => simp at hx; subst hx; exact hg
     | succ j => exact h3 j x f s (by omega) (by simpa using hx)
   ·rw [hg] at h
    simp only [if_true, Option.some.injEq] at h
    have : k = 0 := by omega
    subst this
    exact ⟨⟨n.1, n.2.1, n.2.2, rfl, hg⟩, fun j _ _ _ hj => by omega⟩
 exact this l 0 k (by rw [zC]; exact h)
theorem WZ {p : Ab} {l : List Jz} (h : Ll p l = none) {k : Nat} {x : Ae} {f : Int} {s : Af} (hx : l[k]? = some (x, f, s)) : II p x = false := by
 have := FJ h k _ hx
 split at this
 ·cases this
 ·rename_i h; simpa using h
def MX (p : Ab) (l : List Jz) (ws : List (List Af)) : List Af × Int := match Ll p l with
 | none => ([], 14)
 | some k => (ws.getD k [], 0)
theorem TZ {N : Nat} (hN : N ≤ 1000000) (h20 : 100 ≤ N) {p : Ab} (hv : BK p = 0) {m : Ae} (hm : B4 p m) (hr : Bs p m = true) {l : List Jz} (hs : IW p m 20000 N = some l) (hl : l.length < N) {ws : List (List Af)} (h : aC p m l ws) :
  ET N p m = some (MX p l ws) := by
 obtain ⟨hp, _⟩ := Co hv
 have hl2 : l.length ≤ 20000 := Bfs.go_len _ _ _ _ (by simp) hs
 unfold ET
 rw [JC N p m hN (by omega), Jf hv hm]
 simp only [oS, bne_self_eq_false, An]
 rw [I6 N p m hN h20 hp hm, hr]
 simp only [oS, zV, An]
 have e := Ol hN h20 hv hm hr (most := 20000) (by omega) (by omega) (.inr ⟨l, hs, hl⟩)
 rw [hs] at e
 have e' : De N p m 20000 = some (l.map JJ, true) := e
 rw [e']
 simp only [oS, zV, An]
 have := CX (CJ N p (l.map JJ, true) fun _ => some (([] : List Af), 14)) l (some ([], 14)) (fun i n => (if II p n.1 = true then some i else none).map fun k => (ws.getD k [], 0))
  (fun n i nd hnd => by
   have hi := (lI.1 hnd).1
   rw [CJ, AB (by simp only [zI]; omega)]
   simp only [AO, zF, hnd, yC, oS, JJ]
   have hok := (h.ok _ _ _ _ (show l[i]? = some (nd.1, nd.2.1, nd.2.2) from hnd)).1
   rw [show (Ae.mk nd.1.gb nd.1.f7 nd.1.gc) = nd.1 from rfl, UM N p nd.1 hN h20 (M5 hok), Ay (by omega)]
   simp only [oS]
   cases hg : II p nd.1
   ·rfl
   ·rw [AN, if_pos rfl]
    obtain ⟨w, hw⟩ := Bfs.get_ex (l := ws) (k := i) (by rw [h.inv.len]; exact hi)
    have e2 := Om h N (fun v2 => some v2) N i (w := w) (acc := []) (by omega) hw (by simp; omega)
    unfold GY
    rw [e2, xM]
    simp only [oS, yC, BS]
    rw [lD, hw]; rfl)
  (fun n => by rw [CJ, Av (by simp)]) N 0 (zL _) (by omega)
 have e3 : CJ N p (l.map JJ, true) (fun _ => some (([] : List Af), 14)) N 0 = _ := this
 rw [e3, yM, Mj]
 unfold MX Ll
 cases DP (fun i (n : Jz) => if II p n.1 = true then some i else none) 0 l <;> rfl
def Fi (n : AG) : Jz := (n.gq, n.ge, n.gw)
def J7 (x : Ae) : List (Ae × Int) → Option Int
 | [] => none
 | e :: r => if x = e.1 then some e.2 else J7 x r
def MI (q : List (Ae × Int)) : List (ByteArray × Int) := q.map fun e => (C1 (LS e.1), e.2)
theorem Z1 {p : Ab} (hp : Be p) {x y : Ae} (hx : B4 p x) (hy : B4 p y) : (C1 (LS x) == C1 (LS y)) = decide (x = y) := by
 by_cases h : x = y
 ·rw [decide_eq_true h, h, SU]
 ·rw [decide_eq_false h]
  cases hb : C1 (LS x) == C1 (LS y)
  ·rfl
  ·exact absurd (au hp hx hy hb) h
theorem Qy {p : Ab} (hp : Be p) {x : Ae} (hx : B4 p x) : ∀ {q : List (Ae × Int)}, (∀ e, e ∈ q → B4 p e.1) → Mb (C1 (LS x)) (MI q) = J7 x q
 | [], _ => rfl
 | e :: q, h => by
  have ih := Qy hp hx (q := q) fun e he => h e (xR _ he)
  show (if (C1 (LS x) == C1 (LS e.1)) = true then some e.2 else Mb (C1 (LS x)) (MI q)) = if x = e.1 then some e.2 else J7 x q
  rw [Z1 hp hx (h e (by simp)), ih]
  by_cases h : x = e.1
  ·rw [decide_eq_true h, if_pos rfl, if_pos h]
  ·rw [decide_eq_false h, if_neg (by simp), if_neg h]
theorem LP (x y : Ae) (r : Int) : ∀ q : List (Ae × Int), J7 x (q ++ [(y, r)]) = match J7 x q with
  | some v => some v
  | none => if x = y then some r else none
 | [] => rfl
 | e :: q => by
  simp only [uT, J7]
  by_cases h : x = e.1
  ·rw [if_pos h, if_pos h]
  ·rw [if_neg h, if_neg h, LP x y r q]
theorem YG (q : List (Ae × Int)) (x : Ae) (r : Int) : MI (q ++ [(x, r)]) = MI q ++ [(C1 (LS x), r)] := by simp [MI]
structure PK (p : Ab) (q : List (Ae × Int)) (l : List Jz) : Prop where
 ok : ∀ e, e ∈ q → B4 p e.1
 none : ∀ x, B4 p x → J7 x q = none → ∀ n, n ∈ l → n.1 ≠ x
 some : ∀ x r, B4 p x → J7 x q = some r → (r = -1 ∧ Bs p x = false) ∨ ∃ (j : Nat) (f : Int) (s : Af), r = (j : Int) ∧ l[j]? = some (x, f, s)
structure Nr (p : Ab) (i : Nat) (done : List (Af × Ae)) (pl : List AG) : Prop where
 to : ∀ (b : Nat) nd, pl[b]? = some nd → ∀ r, r ∈ nd.f7 → ∃ s y, ((b < i ∧ (s, y) ∈ Jj p nd.gq) ∨ (b = i ∧ (s, y) ∈ done)) ∧ ∃ (a : Nat) (f : Int) (t : Af), r = (a : Int) ∧ (pl.map Fi)[a]? = some (y, f, t)
 of : ∀ (b : Nat) nd, pl[b]? = some nd → ∀ s y, ((b < i ∧ (s, y) ∈ Jj p nd.gq) ∨ (b = i ∧ (s, y) ∈ done)) → ∃ (a : Nat) (f : Int) (t : Af), ((a : Nat) : Int) ∈ nd.f7 ∧ (pl.map Fi)[a]? = some (y, f, t)
def MM (pl : List AG) (i : Nat) (nd : AG) (r : Int) : List AG := if 0 ≤ r then pl.set i ⟨nd.gq, nd.ge, nd.gw, nd.f7 ++ [r]⟩ else pl
theorem Oc {pl : List AG} {i : Nat} {nd : AG} {r : Int} (h : pl[i]? = some nd) : (MM pl i nd r).map Fi = pl.map Fi := by
 unfold MM
 split
 ·apply yX
  intro k
  rw [zF, zF, uA]
  by_cases hk : i = k
  ·subst hk
   rw [if_pos rfl, if_pos (Bfs.lt_get h), h]; rfl
  ·rw [if_neg hk]
 ·rfl
theorem Mq {pl : List AG} {i : Nat} {nd : AG} {r : Int} (h : pl[i]? = some nd) {b : Nat} {nb : AG} (hb : (MM pl i nd r)[b]? = some nb) : (b ≠ i ∧ pl[b]? = some nb) ∨ (b = i ∧ nb.gq = nd.gq ∧ nb.ge = nd.ge ∧ nb.gw = nd.gw ∧ nb.f7 = if 0 ≤ r then nd.f7 ++ [r] else nd.f7) := by
 unfold MM at hb
 split at hb
 ·rename_i hr
  rw [uA] at hb
  by_cases hk : i = b
  ·subst hk
   rw [if_pos rfl, if_pos (Bfs.lt_get h)] at hb
   cases hb
   exact .inr ⟨rfl, rfl, rfl, rfl, by rw [if_pos hr]⟩
  ·rw [if_neg hk] at hb
   exact .inl ⟨fun e => hk e.symm, hb⟩
 ·rename_i hr
  by_cases hk : b = i
  ·subst hk; rw [h] at hb; cases hb
   exact .inr ⟨rfl, rfl, rfl, rfl, by rw [if_neg hr]⟩
  ·exact .inl ⟨hk, hb⟩
theorem TE {p : Ab} {i : Nat} {done : List (Af × Ae)} {pl pl2 : List AG} {nd : AG} {s : Af} {x : Ae} {a : Nat} {f : Int} {t : Af} (h : Nr p i done pl)
  (hkeep : ∀ (b : Nat) nb, pl2[b]? = some nb → pl[b]? = some nb ∨ (i < b ∧ nb.f7 = [])) (hk2 : ∀ (b : Nat) n, (pl.map Fi)[b]? = some n → (pl2.map Fi)[b]? = some n) (hi : pl2[i]? = some nd) (ha : (pl2.map Fi)[a]? = some (x, f, t)) : Nr p i (done ++ [(s, x)]) (MM pl2 i nd (a : Int)) := by
 constructor
 ·intro b nb hb r hr
  rw [Oc hi]
  rcases Mq hi hb with ⟨h1, h2⟩ | ⟨h1, h2, h3, h4, h5⟩
  ·rcases hkeep b nb h2 with h3 | ⟨h3, h4⟩
   ·obtain ⟨s', y, g1, a', f', t', g2, g3⟩ := h.to b nb h3 r hr
    refine ⟨s', y, ?_, a', f', t', g2, hk2 _ _ g3⟩
    rcases g1 with g1 | g1
    ·exact .inl g1
    ·exact absurd g1.1 h1
   ·rw [h4] at hr; cases hr
  ·subst h1
   rw [h5, if_pos (zA1 a)] at hr
   rcases yA.1 hr with hr | hr
   ·rcases hkeep b nd hi with h6 | ⟨h6, _⟩
    ·obtain ⟨s', y, g1, a', f', t', g2, g3⟩ := h.to b nd h6 r hr
     refine ⟨s', y, ?_, a', f', t', g2, hk2 _ _ g3⟩
     rcases g1 with g1 | g1
     ·exact .inl ⟨g1.1, by rw [h2]; exact g1.2⟩
     ·exact .inr ⟨rfl, xJ _ g1.2⟩
    ·omega
   ·rw [yE.1 hr]
    exact ⟨s, x, .inr ⟨rfl, by simp⟩, a, f, t, rfl, ha⟩
 ·intro b nb hb s' y hs
  rw [Oc hi]
  rcases Mq hi hb with ⟨h1, h2⟩ | ⟨h1, h2, h3, h4, h5⟩
  ·rcases hkeep b nb h2 with h3 | ⟨h3, h4⟩
   ·obtain ⟨a', f', t', g2, g3⟩ := h.of b nb h3 s' y (by
     rcases hs with hs | hs
     ·exact .inl hs
     ·exact absurd hs.1 h1)
    exact ⟨a', f', t', g2, hk2 _ _ g3⟩
   ·rcases hs with hs | hs <;> omega
  ·subst h1
   rw [h5, if_pos (zA1 a)]
   rcases hkeep b nd hi with h6 | ⟨h6, _⟩
   ·rcases hs with hs | ⟨_, hs⟩
    ·omega
    ·rcases yA.1 hs with hs | hs
     ·obtain ⟨a', f', t', g2, g3⟩ := h.of b nd h6 s' y (.inr ⟨rfl, hs⟩)
      exact ⟨a', f', t', xJ _ g2, hk2 _ _ g3⟩
     ·cases yE.1 hs
      exact ⟨a, f, t, by simp, ha⟩
   ·omega
theorem H5 {N : Nat} (hN : N ≤ 1000000) (h20 : 100 ≤ N) {p : Ab} (hv : BK p = 0) {m : Ae} (hm : B4 p m) {most i : Nat} (hmo : most ≤ 20000) {v2 : List AG × List (ByteArray × Int) × Int} (hv2 : v2.2.2 = (i : Int)) (ss : List Af) (e0 : Int) (hss : ∀ s, s ∈ ss → s ∈ Gz p m) (hsl : ss.length ≤ 1000) (j : List AG × List (ByteArray × Int) → Option (List AG × Int)) :
  ∀ (n k : Nat) (pl : List AG) (q : List (Ae × Int)) (l' : List Jz), k ≤ ss.length → ss.length - k < n → (∃ nd, pl[i]? = some nd ∧ nd.gq = m) → (∀ n, n ∈ pl.map Fi → B4 p n.1 ∧ Bs p n.1 = true) → pl.length ≤ most → PK p q (pl.map Fi) → Nr p i (Sc p m (ss.take k)) pl →
   (∃ nd, pl[i]? = some nd ∧ nd.f7.length ≤ k) → Bfs.inner most i (Sc p m (ss.drop k)) (pl.map Fi) = some l' →
   ∃ pl' q', CI N p v2 (ss, e0) j n (pl, MI q, (k : Int)) = j (pl', MI q') ∧ pl'.map Fi = l' ∧ PK p q' l' ∧ Nr p i (Sc p m ss) pl' ∧ (∀ (b : Nat) nb, pl'[b]? = some nb → b ≠ i → pl[b]? = some nb ∨ nb.f7 = [])
 | 0, k, pl, q, l', _, h, _, _, _, _, _, _, _ => by omega
 | n + 1, k, pl, q, l', hk, h, hi, hA, hlm, hpl, hnx, hfl, hin => by
  obtain ⟨hp, _⟩ := Co hv
  obtain ⟨nd, hnd, hndm⟩ := hi
  obtain ⟨nd', hnd', hfl⟩ := hfl
  rw [hnd] at hnd'; cases hnd'
  by_cases h1 : k < ss.length
  ·have hs : ss[k]? = some ss[k] := by simp [h1]
   have hsm := hss _ (lM hs)
   have hstep := (Iw hsm).2
   have hxo := Ms hp hm hstep
   have hil := Bfs.lt_get hnd
   rw [CI, AB (by simp only; omega)]
   simp only [Ba, hv2, AO, hnd, hs, oS]
   rw [show (Ae.mk nd.gq.gb nd.gq.f7 nd.gq.gc) = m from hndm, Rs N hN h20 (M5 hm), if_pos (Jf hv hm)]
   simp only [oS]
   rw [hstep, bne_self_eq_false, An, YB N hN h20 hp hxo]
   simp only [oS]
   rw [Qy hp hxo hpl.ok]
   have htk : ss.take (k + 1) = ss.take k ++ [ss[k]] := by rw [yV, hs]; rfl
   have hgo : Sc p m (ss.take (k + 1)) = if Bs p (A7 p m ss[k]).1 = true then Sc p m (ss.take k) ++ [(ss[k], (A7 p m ss[k]).1)] else Sc p m (ss.take k) := by
    rw [htk]; unfold Sc; rw [List.filterMap_append]
    cases hr : Bs p (A7 p m ss[k]).1 <;> simp [hr]
   rw [GT hs, Ue] at hin
   -- what follows when the node's number is known
   have tail : ∀ (pl2 : List AG) (q2 : List (Ae × Int)) (r : Int) (nd2 : AG), pl2[i]? = some nd2 → nd2.gq = m → nd2.f7.length ≤ k → pl2.length ≤ most →
     AR (decide (0 ≤ r)) ((Bh pl2 (i : Int)).bind fun v26 => (Dt (v26.f7.length + (([r] : List Int)).length ≤ CP)).bind fun _ => (Bh pl2 (i : Int)).bind fun v28 =>
      AR (decide ((20000 : Int) < ((pl2.set ((i : Int)).toNat (AG.mk (Ae.mk v28.gq.gb v28.gq.f7 v28.gq.gc) v28.ge (Af.mk v28.gw.gd v28.gw.gg v28.gw.gp) (v26.f7 ++ ([r] : List Int)))).length : Int))) (some (([] : List AG), 3))
       (CI N p v2 (ss, e0) j n (pl2.set ((i : Int)).toNat (AG.mk (Ae.mk v28.gq.gb v28.gq.f7 v28.gq.gc) v28.ge (Af.mk v28.gw.gd v28.gw.gg v28.gw.gp) (v26.f7 ++ ([r] : List Int))), MI q2, (wI .i64 ((k : Int) + 1)))))
      (AR (decide ((20000 : Int) < (pl2.length : Int))) (some (([] : List AG), 3)) (CI N p v2 (ss, e0) j n (pl2, MI q2, (wI .i64 ((k : Int) + 1))))) =
     CI N p v2 (ss, e0) j n (MM pl2 i nd2 r, MI q2, ((k + 1 : Nat) : Int)) := by
    intro pl2 q2 r nd2 h2 h3 h4 h5
    by_cases hr : 0 ≤ r
    ·rw [AB hr]
     simp only [AO, h2, oS, zK]
     rw [Ap (by simp [CP]; omega), Av (by rw [yZ]; omega), Ay (by omega)]
     unfold MM; rw [if_pos hr]
    ·rw [Av hr, Av (by omega), Ay (by omega)]
     unfold MM; rw [if_neg hr]
   cases hlq : J7 (A7 p m ss[k]).1 q with
   | some r =>
    simp only [Option.isSome_some, zV, An, yL]
    have ht := tail pl q r nd hnd hndm hfl hlm
    simp only [AO, hnd, oS] at ht
    rw [show (Ae.mk nd.gq.gb nd.gq.f7 nd.gq.gc) = m from hndm] at ht
    rw [ht]
    rcases hpl.some _ _ hxo hlq with ⟨hr, hnr⟩ | ⟨a, f, t, hr, ha⟩
    ·subst hr
     rw [hnr, if_neg (by simp)] at hin
     rw [hnr, if_neg (by simp)] at hgo
     have hadd : MM pl i nd (-1) = pl := by unfold MM; rw [if_neg (by decide)]
     rw [hadd]
     exact H5 hN h20 hv hm hmo hv2 ss e0 hss hsl j n (k + 1) pl q l' (by omega) (by omega) ⟨nd, hnd, hndm⟩ hA hlm hpl (by rw [hgo]; exact hnx) ⟨nd, hnd, by omega⟩ hin
    ·subst hr
     have hrob : Bs p (A7 p m ss[k]).1 = true := (hA _ (lM ha)).2
     rw [hrob, if_pos rfl] at hin hgo
     have hput : Bfs.put i (pl.map Fi) (ss[k], (A7 p m ss[k]).1) = pl.map Fi := by
      unfold Bfs.put
      rw [if_pos]
      exact y7.2 ⟨_, lM ha, decide_eq_true rfl⟩
     simp only [Bfs.inner] at hin
     rw [hput, if_neg (by rw [zI]; omega)] at hin
     have hpr := Oc (r := (a : Int)) hnd
     have hnx2 := TE (s := ss[k]) hnx (pl2 := pl) (fun b nb hb => .inl hb) (fun b n hb => hb) hnd ha
     obtain ⟨nd3, hnd3⟩ := Bfs.get_ex (l := MM pl i nd (a : Int)) (k := i) (by
      have := congrArg xU hpr; simp only [zI] at this; omega)
     obtain ⟨g1, g2⟩ | ⟨_, g2, g3, g4, g5⟩ := Mq hnd hnd3
     ·exact absurd rfl g1
     obtain ⟨pl', q', r1, r2, r3, r4, r5⟩ := H5 hN h20 hv hm hmo hv2 ss e0 hss hsl j n (k + 1) (MM pl i nd (a : Int)) q l' (by omega) (by omega) ⟨nd3, hnd3, by rw [g2]; exact hndm⟩ (by rw [hpr]; exact hA) (by have := congrArg xU hpr; simp only [zI] at this; omega)  (by rw [hpr]; exact hpl) (by rw [hgo]; exact hnx2) ⟨nd3, hnd3, by rw [g5]; split <;> (try simp only [zT, zU]) <;> omega⟩ (by rw [hpr]; exact hin)
     refine ⟨pl', q', r1, r2, r3, r4, ?_⟩
     intro b nb hb hbi
     rcases r5 b nb hb hbi with h2 | h2
     ·rcases Mq hnd h2 with ⟨_, h3⟩ | ⟨h3, _⟩
      ·exact .inl h3
      ·exact absurd h3 hbi
     ·exact .inr h2
   | none =>
    simp only [Option.isSome_none, yT, AN]
    rw [KN N p _ hN h20 (M5 hxo) (Jf hv hxo)]
    simp only [oS, bne_self_eq_false, An]
    have hms : ∀ r, NR (C1 (LS (A7 p m ss[k]).1)) r (MI q) = MI (q ++ [((A7 p m ss[k]).1, r)]) := fun r => by
     rw [YG]; exact Mp _ _ (by rw [Qy hp hxo hpl.ok, hlq])
    have hok2 : ∀ r e, e ∈ q ++ [((A7 p m ss[k]).1, r)] → B4 p e.1 := fun r e he => by
     rcases yA.1 he with he | he
     ·exact hpl.ok e he
     ·rw [yE.1 he]; exact hxo
    cases hrob : Bs p (A7 p m ss[k]).1
    ·rw [yT, AN]
     rw [hrob, if_neg (by simp)] at hin hgo
     rw [hms]
     have ht := tail pl (q ++ [((A7 p m ss[k]).1, -1)]) (-1) nd hnd hndm hfl hlm
     simp only [AO, hnd, oS] at ht
     rw [show (Ae.mk nd.gq.gb nd.gq.f7 nd.gq.gc) = m from hndm] at ht
     rw [ht]
     have hadd : MM pl i nd (-1) = pl := by unfold MM; rw [if_neg (by decide)]
     rw [hadd]
     refine H5 hN h20 hv hm hmo hv2 ss e0 hss hsl j n (k + 1) pl _ l' (by omega) (by omega) ⟨nd, hnd, hndm⟩ hA hlm ⟨hok2 (-1), ?_, ?_⟩ (by rw [hgo]; exact hnx) ⟨nd, hnd, by omega⟩ hin
     ·intro x hx hq
      rw [LP] at hq
      cases hq2 : J7 x q with
      | none => exact hpl.none x hx hq2
      | some v => rw [hq2] at hq; cases hq
     ·intro x r hx hq
      rw [LP] at hq
      cases hq2 : J7 x q with
      | none =>
       rw [hq2] at hq
       simp only at hq
       split at hq
       ·rename_i he
        cases hq; left; exact ⟨rfl, by rw [he]; exact hrob⟩
       ·cases hq
      | some v => rw [hq2] at hq; cases hq; exact hpl.some x _ hx hq2
    ·rw [zV, An]
     rw [hrob, if_pos rfl] at hin hgo
     rw [hms]
     have hnew : ((pl.map Fi).any fun n => decide (n.1 = (A7 p m ss[k]).1)) = false := by
      rw [vT]
      intro n hn
      simpa using hpl.none _ hxo hlq n hn
     have hput : Bfs.put i (pl.map Fi) (ss[k], (A7 p m ss[k]).1) = (pl ++ [AG.mk (A7 p m ss[k]).1 (i : Int) ss[k] []]).map Fi := by
      unfold Bfs.put
      rw [hnew, if_neg (by simp), xH]; rfl
     simp only [Bfs.inner] at hin
     rw [hput] at hin
     split at hin
     ·cases hin
     rename_i hmm
     rw [zI, zT, zU] at hmm
     rw [Ap (by simp [CP]; omega)]
     have hnd2 : (pl ++ [AG.mk (A7 p m ss[k]).1 (i : Int) ss[k] []])[i]? = some nd := Bfs.get_app_of hnd
     have ht := tail (pl ++ [AG.mk (A7 p m ss[k]).1 (i : Int) ss[k] []]) (q ++ [((A7 p m ss[k]).1, (pl.length : Int))]) (pl.length : Int) nd hnd2 hndm hfl (by rw [zT, zU]; omega)
     simp only [AO] at ht
     rw [ht]
     have hpr := Oc (r := (pl.length : Int)) hnd2
     have hlast : ((pl ++ [AG.mk (A7 p m ss[k]).1 (i : Int) ss[k] []]).map Fi)[pl.length]? = some ((A7 p m ss[k]).1, (i : Int), ss[k]) := by
      rw [zF, Bfs.get_app_new]; rfl
     have hold : ∀ (b : Nat) n, (pl.map Fi)[b]? = some n → ((pl ++ [AG.mk (A7 p m ss[k]).1 (i : Int) ss[k] []]).map Fi)[b]? = some n := fun b n hb => by
      rw [xH]; exact Bfs.get_app_of hb
     have hkeep : ∀ (b : Nat) nb, (pl ++ [AG.mk (A7 p m ss[k]).1 (i : Int) ss[k] []])[b]? = some nb → pl[b]? = some nb ∨ (i < b ∧ nb.f7 = []) := fun b nb hb => by
      rcases Bfs.get_app hb with h2 | ⟨h2, h3⟩
      ·exact .inl h2
      ·exact .inr ⟨by omega, by rw [h3]⟩
     have hnx2 := TE (s := ss[k]) hnx hkeep hold hnd2 hlast
     have hpl2 : PK p (q ++ [((A7 p m ss[k]).1, (pl.length : Int))]) ((pl ++ [AG.mk (A7 p m ss[k]).1 (i : Int) ss[k] []]).map Fi) := by
      refine ⟨hok2 _, ?_, ?_⟩
      ·intro x hx hq n hn
       rw [LP] at hq
       cases hq2 : J7 x q with
       | none =>
        rw [hq2] at hq
        simp only at hq
        split at hq
        ·cases hq
        ·rename_i hne
         rw [xH] at hn
         rcases yA.1 hn with hn | hn
         ·exact hpl.none x hx hq2 n hn
         ·simp at hn; subst hn
          exact fun e => hne e.symm
       | some v => rw [hq2] at hq; cases hq
      ·intro x r hx hq
       rw [LP] at hq
       cases hq2 : J7 x q with
       | none =>
        rw [hq2] at hq
        simp only at hq
        split at hq
        ·rename_i he
         cases hq
         exact .inr ⟨pl.length, _, _, rfl, by rw [he]; exact hlast⟩
        ·cases hq
       | some v =>
        rw [hq2] at hq; cases hq
        rcases hpl.some x _ hx hq2 with g | ⟨a, f, t, g1, g2⟩
        ·exact .inl g
        ·exact .inr ⟨a, f, t, g1, hold _ _ g2⟩
     obtain ⟨nd3, hnd3⟩ := Bfs.get_ex (l := MM (pl ++ [AG.mk (A7 p m ss[k]).1 (i : Int) ss[k] []]) i nd (pl.length : Int)) (k := i) (by
      have := congrArg xU hpr; simp only [zI, zT, zU] at this; omega)
     obtain ⟨g1, g2⟩ | ⟨_, g2, g3, g4, g5⟩ := Mq hnd2 hnd3
     ·exact absurd rfl g1
     obtain ⟨pl', q', r1, r2, r3, r4, r5⟩ := H5 hN h20 hv hm hmo hv2 ss e0 hss hsl j n (k + 1) (MM (pl ++ [AG.mk (A7 p m ss[k]).1 (i : Int) ss[k] []]) i nd (pl.length : Int)) _ l' (by omega) (by omega) ⟨nd3, hnd3, by rw [g2]; exact hndm⟩ (by
       rw [hpr]
       intro n hn
       rw [xH] at hn
       rcases yA.1 hn with hn | hn
       ·exact hA n hn
       ·simp at hn; subst hn; exact ⟨hxo, hrob⟩) (by have := congrArg xU hpr; simp only [zI, zT, zU] at this; omega)  (by rw [hpr]; exact hpl2) (by rw [hgo]; exact hnx2) ⟨nd3, hnd3, by rw [g5]; split <;> (try simp only [zT, zU]) <;> omega⟩ (by rw [hpr]; exact hin)
     refine ⟨pl', q', r1, r2, r3, r4, ?_⟩
     intro b nb hb hbi
     rcases r5 b nb hb hbi with h2 | h2
     ·rcases Mq hnd2 h2 with ⟨_, h3⟩ | ⟨h3, _⟩
      ·rcases hkeep b nb h3 with h4 | ⟨_, h4⟩
       ·exact .inl h4
       ·exact .inr h4
      ·exact absurd h3 hbi
     ·exact .inr h2
  ·have : k = ss.length := by omega
   subst this
   rw [yP (zM _)] at hin
   have hin : some (pl.map Fi) = some l' := hin
   cases hin
   rw [uU] at hnx
   rw [CI, Av (by simp)]
   exact ⟨pl, q, rfl, rfl, hpl, hnx, fun b nb hb _ => .inl hb⟩
end Go.Lift
