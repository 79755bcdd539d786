/- Lemmas for UnblockMinimalSaid, which YtjpgllmfenogoaaGreatFinU4 proves. -/
import Derived.Test.YtjpgllmfenogoaaGreatDec
import Derived.KernelRfl
namespace Go.Lift
open IntKind renaming wrap → wI
open Option renaming bind_some → oS
open List renaming getElem?_eq_some_iff → lI
theorem AN {α : Type} (xs : List α) (i : Nat) : Br xs (i : Int) = xs[i]? := by
 unfold Br; simp
theorem Cx {n : Int} (h0 : -9223372036854775808 ≤ n) (h1 : n ≤ 9223372036854775807) : wI .i64 n = n := by
 simp [wI, IntKind.signed, IntKind.bits]; omega
theorem Az {i : Nat} (h : i < 1000000) : wI .i64 ((i : Int) + 1) = ((i + 1 : Nat) : Int) := by
 rw [Cx (by omega) (by omega)]; simp
@[simp] theorem AJ {α : Type} {a b : Option α} : AR true a b = a := rfl
@[simp] theorem Ap {α : Type} {a b : Option α} : AR false a b = b := rfl
theorem AB {α : Type} {p : Prop} [Decidable p] {a b : Option α} (h : p) : AR (decide p) a b = a := by simp [h]
theorem Aw {α : Type} {p : Prop} [Decidable p] {a b : Option α} (h : ¬ p) : AR (decide p) a b = b := by simp [h]
def Jd : List Int → List Int → Int
 | [], [] => 0
 | [], _ :: _ => -1
 | _ :: _, [] => 1
 | a :: as1, b :: bs => if a < b then -1 else if b < a then 1 else Jd as1 bs
theorem Gt {α : Type} {xs : List α} {i : Nat} {x : α} (h : xs[i]? = some x) : xs.drop i = x :: xs.drop (i + 1) := by
 obtain ⟨hi, rfl⟩ := lI.1 h
 exact List.drop_eq_getElem_cons hi
theorem VW (N : Nat) (a b : List Int) (hb : a.length < 1000000) : ∀ (n i : Nat), i ≤ a.length → i ≤ b.length → a.length - i < n →
  DR N a b (fun _ => AR (decide ((a.length : Int) < (b.length : Int))) (some (-1)) (AR (decide ((b.length : Int) < (a.length : Int))) (some 1) (some 0))) n (i : Int) = some (Jd (a.drop i) (b.drop i))
 | 0, i, _, _, h => by omega
 | n + 1, i, hi, hj, h => by
  unfold DR
  simp only [Bi]
  by_cases h1 : i < a.length
  ·rw [AB (p := (i : Int) < (a.length : Int)) (by omega)]
   have ha : a[i]? = some a[i] := by simp [h1]
   rw [Gt ha]
   by_cases h2 : i < b.length
   ·have hbb : b[i]? = some b[i] := by simp [h2]
    rw [show decide ((i : Int) < (b.length : Int)) = true from decide_eq_true (by omega), AJ, AN, AN, ha, hbb, Gt hbb]
    simp only [oS, Jd]
    rw [Az (by omega), VW N a b hb n (i + 1) (by omega) (by omega) (by omega)]
    by_cases h3 : a[i] < b[i]
    ·simp [h3]
    ·by_cases h4 : b[i] < a[i]
     ·simp [h3, h4]
     ·simp [h3, h4]
   ·rw [show decide ((i : Int) < (b.length : Int)) = false from decide_eq_false (by omega), Ap, Aw (by omega), AB (by omega), List.drop_eq_nil_of_le (by omega : b.length ≤ i)]
    simp [Jd]
  ·rw [Aw (p := (i : Int) < (a.length : Int)) (by omega), Ap, List.drop_eq_nil_of_le (by omega : a.length ≤ i)]
   by_cases h2 : a.length < b.length
   ·rw [AB (by omega)]
    have hbb : b[i]? = some b[i] := by simp [show i < b.length from by omega]
    rw [Gt hbb]; simp [Jd]
   ·rw [Aw (by omega), Aw (by omega), List.drop_eq_nil_of_le (by omega : b.length ≤ i)]
    simp [Jd]
theorem PU {N : Nat} {a b : List Int} (h : a.length < N) (hN : N ≤ 1000000) : DS N a b = some (Jd a b) := by
 have := VW N a b (by omega) N 0 (by omega) (by omega) (by omega)
 simpa [DS] using this
theorem RH : ∀ a : List Int, Jd a a = 0
 | [] => rfl
 | a :: as1 => by simp [Jd, RH as1]
theorem Pf : ∀ a b : List Int, Jd a b = 0 → a = b
 | [], [], _ => rfl
 | [], _ :: _, h => by simp [Jd] at h
 | _ :: _, [], h => by simp [Jd] at h
 | a :: as1, b :: bs, h => by
  unfold Jd at h
  split at h
  ·omega
  ·split at h
   ·omega
   ·rw [Pf as1 bs h, show a = b from by omega]
def UL : List Int → Int
 | [] => 0
 | x :: xs => if x = 0 then UL xs else x
theorem fB (N : Nat) (a : List Int) (hb : a.length < 1000000) : ∀ (n i : Nat), i ≤ a.length → a.length - i < n →
  FI N a (fun _ => some 0) n (i : Int) = some (UL (a.drop i))
 | 0, i, _, h => by omega
 | n + 1, i, hi, h => by
  unfold FI
  by_cases h1 : i < a.length
  ·have ha : a[i]? = some a[i] := by simp [h1]
   rw [AB (by omega), AN, ha, Gt ha]
   simp only [oS, UL]
   rw [Az (by omega), fB N a hb n (i + 1) (by omega) (by omega)]
   by_cases h3 : a[i] = 0
   ·simp [h3]
   ·have : (a[i] != 0) = true := by simpa using h3
    simp [h3, this]
  ·rw [Aw (by omega), List.drop_eq_nil_of_le (by omega : a.length ≤ i)]
   simp [UL]
theorem bM {N : Nat} {a : List Int} (h : a.length < N) (hN : N ≤ 1000000) : Hx N a = some (UL a) := by
 have := fB N a (by omega) N 0 (by omega) (by omega)
 simpa [Hx] using this
theorem dD (N : Nat) (a : List Int) (hb : a.length < 1000000) (hw : N9 Mn a) : ∀ (n i : Nat), i ≤ a.length → a.length - i < n →
  Db N a (fun v => some v) n (a.take i, (i : Int)) = some a
 | 0, i, _, h => by omega
 | n + 1, i, hi, h => by
  unfold Db
  by_cases h1 : i < a.length
  ·have ha : a[i]? = some a[i] := by simp [h1]
   rw [AB (by simpa using h1)]
   simp only
   rw [AN, ha]
   have hr : wI .i64 a[i] = a[i] := by
    have := hw a[i] (List.getElem_mem h1)
    unfold Mn at this
    have h2 : 0 ≤ a[i] ∧ a[i] ≤ 255 := by simpa [Lit.wf, IntKind.min, IntKind.max, IntKind.signed, IntKind.bits] using this
    exact Cx (by omega) (by omega)
   simp only [oS, hr]
   have hlen : (a.take i).length + ([a[i]] : List Int).length ≤ C2 := by
    simp [C2]; omega
   rw [show Dp ((a.take i).length + ([a[i]] : List Int).length ≤ C2) = some () from by unfold Dp; rw [if_pos hlen]]
   simp only [oS]
   rw [Az (by omega), show a.take i ++ [a[i]] = a.take (i + 1) from by rw [List.take_add_one, ha]; rfl]
   exact dD N a hb hw n (i + 1) (by omega) (by omega)
  ·rw [Aw (by simpa using h1)]
   simp only
   rw [List.take_of_length_le (by omega)]
theorem OU {N : Nat} {a : List Int} (h : a.length < N) (hN : N ≤ 1000000) (hw : N9 Mn a) : DM N a = some a := by
 have := dD N a (by omega) hw N 0 (by omega) (by omega)
 simpa [DM] using this
def fD (a : Ae) : Prop := a.fH.length ≤ 8 ∧ a.fE.length ≤ 8 ∧ a.fI.length ≤ 14
def U2 (a b : Ae) : Int := UL [Jd a.fH b.fH, Jd a.fE b.fE, Jd a.fI b.fI]
theorem RS (a : Ae) : U2 a a = 0 := by unfold U2; simp [RH, UL]
def DG {α R : Type} (f : Nat → α → Option R) : Nat → List α → Option R
 | _, [] => none
 | i, x :: xs => match f i x with
  | some r => some r
  | none => DG f (i + 1) xs
theorem Gn {α R : Type} (f : Nat → α → Option R) (i : Nat) (x : α) (xs : List α) : DG f i (x :: xs) = match f i x with
  | some r => some r
  | none => DG f (i + 1) xs := rfl
def BR {R : Type} (a : Option R) (b : Option R) : Option R := match a with
 | some r => some r
 | none => b
theorem CZ {α R : Type} (L : Nat → Int → Option R) (xs : List α) (j : Option R) (f : Nat → α → Option R)
  (hs : ∀ (n i : Nat) (x : α), xs[i]? = some x → L (n + 1) (i : Int) = BR (f i x) (L n ((i + 1 : Nat) : Int))) (he : ∀ n : Nat, L (n + 1) (xs.length : Int) = j) :
  ∀ n i : Nat, i ≤ xs.length → xs.length - i < n → L n (i : Int) = BR (DG f i (xs.drop i)) j
 | 0, i, _, h => by omega
 | n + 1, i, hi, h => by
  by_cases h1 : i < xs.length
  ·have hx : xs[i]? = some xs[i] := by simp [h1]
   rw [hs n i _ hx, Gt hx, CZ L xs j f hs he n (i + 1) (by omega) (by omega)]
   rw [Gn]
   cases f i xs[i] <;> rfl
  ·have : i = xs.length := by omega
   subst this
   rw [he n, List.drop_eq_nil_of_le (Nat.le_refl _)]
   rfl
theorem RM (N : Nat) (k n : Int) : EM N k n = some (decide (0 ≤ k) && decide (k < n)) := by
 unfold EM
 simp only [Bi]
 by_cases h : 0 ≤ k
 ·rw [AB h]; simp [h]
 ·rw [Aw h]; simp [h]
theorem OB (N : Nat) (t : Ao) : A8 N t = some (t.fJ == 3 || t.fJ == 4) := by
 unfold A8
 simp only [Bi]
 cases h : t.fJ == 3 <;> simp
def sq (l : List (List Bool)) (n m : Int) : Bool := decide ((l.length : Int) = n) && l.all fun r => decide ((r.length : Int) = m)
theorem Qf {α : Type} (p : α → Bool) {R : Type} (r : Nat → R) : ∀ (i : Nat) (xs : List α), (DG (fun i x => if p x then none else some (r i)) i xs).isNone = xs.all p
 | i, [] => rfl
 | i, x :: xs => by
  unfold DG
  cases h : p x <;> simp [h, Qf p r (i + 1) xs]
theorem Rl (N : Nat) (l : List (List Bool)) (n m : Int) (h : n < (N : Int)) (hN : N ≤ 1000000) : D2 N l n m = some (sq l n m) := by
 unfold D2 sq
 by_cases h1 : (l.length : Int) = n
 ·subst h1
  simp only [bne_self_eq_false, Ap, decide_true, Bool.true_and]
  have := CZ (CM N l (l.length : Int) m (fun _ => some true)) l (some true) (fun _ r => if decide ((r.length : Int) = m) then none else some false)
   (fun n i x hx => by
    have hi := (lI.1 hx).1
    rw [CM, AB (by omega), AN, hx]
    simp only [oS]
    rw [Az (by omega)]
    by_cases h2 : (x.length : Int) = m
    ·simp [h2, BR]
    ·have : ((x.length : Int) != m) = true := by simpa using h2
     simp [h2, this, BR])
   (fun n => by rw [CM, Aw (by omega)]) N 0 (by omega) (by omega)
  simp only [Int.ofNat_zero, List.drop_zero] at this
  rw [this]
  have h3 := Qf (fun r : List Bool => decide ((r.length : Int) = m)) (fun _ => false) 0 l
  cases hsc : DG (fun (_ : Nat) (r : List Bool) => if decide ((r.length : Int) = m) = true then none else some false) 0 l with
  | none => rw [hsc] at h3; rw [← h3]; rfl
  | some b =>
   rw [hsc] at h3
   rw [← h3]
   have : ∀ (i : Nat) (xs : List (List Bool)) b, DG (fun (_ : Nat) (r : List Bool) => if decide ((r.length : Int) = m) = true then none else some false) i xs = some b → b = false := by
    intro i xs
    induction xs generalizing i with
    | nil => intro b hb; cases hb
    | cons x xs ih =>
     intro b hb
     unfold DG at hb
     split at hb
     ·rename_i r hr; cases hb; split at hr <;> simp at hr; exact hr
     ·exact ih _ b hb
   rw [this 0 l b hsc]; rfl
 ·have : ((l.length : Int) != n) = true := by simpa using h1
  simp [this, h1]
theorem Rv (N : Nat) (l : List (List Bool)) (n m : Int) (h : n < (N : Int)) (hN : N ≤ 1000000) : FT N l n m = some (sq l n m) := by
 unfold FT sq
 simp only [Bi]
 by_cases h1 : (l.length : Int) = n
 ·subst h1
  simp only [beq_self_eq_true, AJ, decide_true, Bool.true_and]
  have := CZ (Bv N l (fun x => EB N x m) (fun _ => some (-1))) l (some (-1)) (fun i r => if decide ((r.length : Int) = m) then none else some (i : Int))
   (fun n i x hx => by
    have hi := (lI.1 hx).1
    rw [Bv, AB (by omega), AN, hx]
    simp only [oS, EB]
    rw [Az (by omega)]
    by_cases h2 : (x.length : Int) = m
    ·simp [h2, BR]
    ·have : ((x.length : Int) != m) = true := by simpa using h2
     simp [h2, this, BR])
   (fun n => by rw [Bv, Aw (by omega)]) N 0 (by omega) (by omega)
  simp only [Int.ofNat_zero, List.drop_zero] at this
  unfold Dq DX
  rw [this]
  have h3 := Qf (fun r : List Bool => decide ((r.length : Int) = m)) (fun i : Nat => (i : Int)) 0 l
  cases hsc : DG (fun (i : Nat) (r : List Bool) => if decide ((r.length : Int) = m) = true then none else some (i : Int)) 0 l with
  | none => rw [hsc] at h3; rw [← h3]; rfl
  | some b =>
   rw [hsc] at h3
   rw [← h3]
   have : ∀ (i : Nat) (xs : List (List Bool)) b, DG (fun (i : Nat) (r : List Bool) => if decide ((r.length : Int) = m) = true then none else some (i : Int)) i xs = some b → 0 ≤ b := by
    intro i xs
    induction xs generalizing i with
    | nil => intro b hb; cases hb
    | cons x xs ih =>
     intro b hb
     rw [Gn] at hb
     split at hb
     ·rename_i r hr
      cases hb
      split at hr
      ·cases hr
      ·cases hr; omega
     ·exact ih _ b hb
   have := this 0 l b hsc
   simp [BR, this]
 ·have : ((l.length : Int) == n) = false := by simpa using h1
  simp [this, h1]
open List renaming mem_of_getElem? → lM
open List renaming getD_eq_getElem?_getD → lD
def JH (l : List (List Bool)) : Option Int := DG (fun i row => if row.getD i false then none else some 1) 0 l
theorem Tp {row : List Bool} {i : Nat} (h : i < row.length) : Br row (i : Int) = some (row.getD i false) := by
 rw [AN, lD]; simp [h]
theorem Zf (N : Nat) (t : Ao) (h : t.fR.length < N) (hN : N ≤ 1000000) (hsq : ∀ row, row ∈ t.fR → row.length = t.fR.length) (j : Option Int) :
  Ce N t (fun _ => j) N 0 = BR (JH t.fR) j := by
 have := CZ (Ce N t (fun _ => j)) t.fR j (fun i row => if row.getD i false then none else some 1)
  (fun n i x hx => by
   have hi := (lI.1 hx).1
   have hl := hsq x (lM hx)
   rw [Ce, AB (by omega), AN, hx]
   simp only [oS]
   rw [Tp (by omega), Az (by omega)]
   simp only [oS]
   cases x.getD i false <;> rfl)
  (fun n => by rw [Ce, Aw (by omega)]) N 0 (by omega) (by omega)
 simpa [JH] using this
theorem Ru (N : Nat) (t : Ao) (h : t.fR.length < N) (hN : N ≤ 1000000) (hsq : ∀ row, row ∈ t.fR → row.length = t.fR.length) (j : Option Int) :
  DB N t (fun _ => j) N 0 = BR (JH t.fR) j := by
 have := CZ (DB N t (fun _ => j)) t.fR j (fun i row => if row.getD i false then none else some 1)
  (fun n i x hx => by
   have hi := (lI.1 hx).1
   have hl := hsq x (lM hx)
   rw [DB, AB (by omega), AN, hx]
   simp only [oS]
   rw [Tp (by omega), Az (by omega)]
   simp only [oS]
   cases x.getD i false <;> rfl)
  (fun n => by rw [DB, Aw (by omega)]) N 0 (by omega) (by omega)
 simpa [JH] using this
theorem Pk {l : List (List Bool)} {n m : Int} (h : sq l n m = true) : (l.length : Int) = n ∧ ∀ row, row ∈ l → (row.length : Int) = m := by
 unfold sq at h
 simp only [Bool.and_eq_true, decide_eq_true_eq, List.all_eq_true] at h
 exact h
def Ec (p : Ab) (t : Ao) : Int :=
 if t.fJ < 1 ∨ 4 < t.fJ ∨ (t.fS = true ∧ (t.fJ = 3 ∨ t.fJ = 4)) then 1
 else if t.fK < 0 ∨ (p.fF.length : Int) ≤ t.fK ∨ t.fP < 0 ∨ (p.fF.length : Int) ≤ t.fP then 4
 else
  let f := p.fF.getD t.fK.toNat 0
  let g := p.fF.getD t.fP.toNat 0
  if sq t.fO f g = false then 6
  else if t.fJ = 4 then (if sq t.fR f f = false then 6 else (JH t.fR).getD 0)
  else if t.fR.length = 0 then 0 else 6
theorem Fz {α : Type} {xs : List α} {i : Int} {d : α} (h0 : 0 ≤ i) (h1 : i < (xs.length : Int)) : Br xs i = some (xs.getD i.toNat d) := by
 obtain ⟨k, rfl⟩ := Int.eq_ofNat_of_zero_le h0
 rw [AN, lD, Int.toNat_natCast]
 simp [show k < xs.length from by omega]
theorem YA {t : Ao} (A B : Option Int) (hk : ¬ (t.fS = true ∧ (t.fJ = 3 ∨ t.fJ = 4))) : AR t.fS (AR (t.fJ == 3 || t.fJ == 4) A B) B = B := by
 cases ha : t.fS
 ·rfl
 ·have : (t.fJ == 3 || t.fJ == 4) = false := by
   rw [Bool.or_eq_false_iff]
   constructor
   ·simp only [beq_eq_false_iff_ne]; intro h; exact hk ⟨ha, .inl h⟩
   ·simp only [beq_eq_false_iff_ne]; intro h; exact hk ⟨ha, .inr h⟩
  rw [this]; rfl
theorem Ku {p : Ab} {i : Int} (hv : ∀ v, v ∈ p.fF → 1 ≤ v ∧ v ≤ 6) (h0 : 0 ≤ i) (h1 : i < (p.fF.length : Int)) : 1 ≤ p.fF.getD i.toNat 0 ∧ p.fF.getD i.toNat 0 ≤ 6 := by
 refine hv _ ?_
 rw [lD, List.getElem?_eq_getElem (by omega)]
 exact List.getElem_mem _
theorem W3 (N : Nat) (p : Ab) (t : Ao) (hN : N ≤ 1000000) (h6 : 7 ≤ N) (hv : ∀ v, v ∈ p.fF → 1 ≤ v ∧ v ≤ 6) : Fk N p t = some (Ec p t) := by
 unfold Fk Ec
 simp only [Bi, OB, oS]
 by_cases k1 : t.fJ < 1
 ·simp [k1]
 by_cases k2 : 4 < t.fJ
 ·simp [k1, k2]
 rw [Aw k1, Aw k2]
 by_cases hk : t.fS = true ∧ (t.fJ = 3 ∨ t.fJ = 4)
 ·obtain ⟨ha, k | k⟩ := hk <;> simp [ha, k]
 rw [Ap, YA _ _ hk, if_neg (fun h => h.elim k1 fun h => h.elim k2 hk)]
 by_cases f1 : t.fK < 0
 ·simp [f1]
 by_cases f2 : (p.fF.length : Int) ≤ t.fK
 ·simp [f1, f2]
 by_cases f3 : t.fP < 0
 ·simp [f1, f2, f3]
 by_cases f4 : (p.fF.length : Int) ≤ t.fP
 ·simp [f1, f2, f3, f4]
 rw [Aw f1, Aw f2, Aw f3, if_neg (fun h => h.elim f1 fun h => h.elim f2 fun h => h.elim f3 f4)]
 have hf := Ku hv (i := t.fK) (by omega) (by omega)
 rw [decide_eq_false f4, Ap, Fz (d := 0) (by omega : 0 ≤ t.fK) (by omega), Fz (d := 0) (by omega : 0 ≤ t.fP) (by omega)]
 simp only [oS]
 generalize p.fF.getD t.fK.toNat 0 = f at *
 generalize p.fF.getD t.fP.toNat 0 = g at *
 rw [Rl N t.fO f g (by omega) hN, Rl N t.fR f f (by omega) hN]
 simp only [oS]
 cases hq : sq t.fO f g
 ·rfl
 simp only [Bool.not_true, Ap]
 by_cases k4 : t.fJ = 4
 ·have : (t.fJ != 4) = false := by simp [k4]
  rw [this, Ap]
  simp only [k4, if_true]
  cases hr : sq t.fR f f
  ·rfl
  ·have h7 := Pk hr
   simp only [Bool.not_true, Ap]
   rw [Zf N t (by omega) hN (fun row hm => by have := h7.2 row hm; omega)]
   cases JH t.fR <;> simp [BR]
 ·have : (t.fJ != 4) = true := by simpa using k4
  rw [this, AJ]
  simp only [k4, if_false]
  by_cases hr : t.fR.length = 0
  ·simp [hr]
  ·have : ((t.fR.length : Int) != 0) = true := bne_iff_ne.2 (by omega)
   rw [this]; simp [hr]
theorem Zs (N : Nat) (k : Int) (a : Bool) : HK N k a = some (k == 1 || (k == 2 || ((k == 3 || k == 4) && !a))) := by
 unfold HK
 simp only [Bi]
 cases h1 : k == 1 <;> cases h2 : k == 2 <;> cases h3 : k == 3 <;> cases h4 : k == 4 <;> cases a <;> rfl
theorem Qc (N : Nat) (p : Ab) (t : Ao) (hN : N ≤ 1000000) (h6 : 7 ≤ N) (hv : ∀ v, v ∈ p.fF → 1 ≤ v ∧ v ≤ 6) : Hg N p t = some (Ec p t) := by
 unfold Hg Ec
 simp only [Bi, Zs, RM, oS]
 by_cases hb : t.fJ < 1 ∨ 4 < t.fJ ∨ (t.fS = true ∧ (t.fJ = 3 ∨ t.fJ = 4))
 ·have : (t.fJ == 1 || (t.fJ == 2 || ((t.fJ == 3 || t.fJ == 4) && !t.fS))) = false := by
   rcases hb with h | h | ⟨ha, h | h⟩
   ·rw [beq_eq_false_iff_ne.2 (by omega : t.fJ ≠ 1), beq_eq_false_iff_ne.2 (by omega : t.fJ ≠ 2), beq_eq_false_iff_ne.2 (by omega : t.fJ ≠ 3), beq_eq_false_iff_ne.2 (by omega : t.fJ ≠ 4)]; rfl
   ·rw [beq_eq_false_iff_ne.2 (by omega : t.fJ ≠ 1), beq_eq_false_iff_ne.2 (by omega : t.fJ ≠ 2), beq_eq_false_iff_ne.2 (by omega : t.fJ ≠ 3), beq_eq_false_iff_ne.2 (by omega : t.fJ ≠ 4)]; rfl
   ·simp [ha, h]
   ·simp [ha, h]
  rw [this, if_pos hb]; rfl
 ·have : (t.fJ == 1 || (t.fJ == 2 || ((t.fJ == 3 || t.fJ == 4) && !t.fS))) = true := by
   have hk : t.fJ = 1 ∨ t.fJ = 2 ∨ t.fJ = 3 ∨ t.fJ = 4 := by
    have h1 : ¬ t.fJ < 1 := fun h => hb (.inl h)
    have h2 : ¬ 4 < t.fJ := fun h => hb (.inr (.inl h))
    omega
   rcases hk with h | h | h | h
   ·simp [h]
   ·simp [h]
   ·cases ha : t.fS
    ·simp [h]
    ·exact (hb (.inr (.inr ⟨ha, .inl h⟩))).elim
   ·cases ha : t.fS
    ·simp [h]
    ·exact (hb (.inr (.inr ⟨ha, .inr h⟩))).elim
  rw [this, if_neg hb]
  simp only [Bool.not_true, Ap]
  by_cases f1 : t.fK < 0
  ·simp [f1, show ¬ (0 ≤ t.fK) from by omega]
  by_cases f2 : (p.fF.length : Int) ≤ t.fK
  ·simp [f2, show ¬ (t.fK < (p.fF.length : Int)) from by omega]
  by_cases f3 : t.fP < 0
  ·simp [f3, show 0 ≤ t.fK from by omega, show t.fK < (p.fF.length : Int) from by omega, show ¬ (0 ≤ t.fP) from by omega]
  by_cases f4 : (p.fF.length : Int) ≤ t.fP
  ·simp [f4, show 0 ≤ t.fK from by omega, show t.fK < (p.fF.length : Int) from by omega, show ¬ (t.fP < (p.fF.length : Int)) from by omega]
  rw [if_neg (fun h => h.elim f1 fun h => h.elim f2 fun h => h.elim f3 f4)]
  have hf := Ku hv (i := t.fK) (by omega) (by omega)
  have hg := Ku hv (i := t.fP) (by omega) (by omega)
  rw [decide_eq_true (by omega : 0 ≤ t.fK), decide_eq_true (by omega : t.fK < (p.fF.length : Int)), decide_eq_true (by omega : 0 ≤ t.fP), decide_eq_true (by omega : t.fP < (p.fF.length : Int)), Fz (d := 0) (by omega : 0 ≤ t.fK) (by omega), Fz (d := 0) (by omega : 0 ≤ t.fP) (by omega)]
  simp only [Bool.and_self, Bool.not_true, Ap, oS]
  generalize p.fF.getD t.fK.toNat 0 = f at *
  generalize p.fF.getD t.fP.toNat 0 = g at *
  rw [Rv N t.fO f g (by omega) hN, Rv N t.fR f f (by omega) hN]
  simp only [oS]
  cases hq : sq t.fO f g
  ·rfl
  simp only [Bool.not_true, Ap]
  by_cases k4 : t.fJ = 4
  ·simp only [k4, beq_self_eq_true, AJ, if_true]
   cases hr : sq t.fR f f
   ·rfl
   ·have h7 := Pk hr
    simp only [Bool.not_true, Ap]
    rw [Ru N t (by omega) hN (fun row hm => by have := h7.2 row hm; omega)]
    cases JH t.fR <;> simp [BR]
  ·have : (t.fJ == 4) = false := beq_eq_false_iff_ne.2 k4
   rw [this, Ap]
   simp only [k4, if_false, Bool.not_false, AJ]
   by_cases hr : t.fR.length = 0
   ·rw [Ru N t (by omega) hN (fun row hm => by rw [List.eq_nil_of_length_eq_zero hr] at hm; cases hm), List.eq_nil_of_length_eq_zero hr]
    simp [JH, DG, BR]
   ·rw [decide_eq_true (by omega : 0 < (t.fR.length : Int))]
    simp [hr]
def F6 (p : Ab) (i : Nat) (v : Int) : Option Int :=
 if v < 1 ∨ 6 < v ∨ p.fL.getD i 0 < 0 ∨ v ≤ p.fL.getD i 0 ∨ p.fQ.getD i 0 < 0 ∨ v ≤ p.fQ.getD i 0 then some 7 else none
def Lu (p : Ab) (_ : Nat) (t : Ao) : Option Int := if Ec p t = 0 then none else some (Ec p t)
def Bk (p : Ab) : Int :=
 if 6 < p.fF.length ∨ 12 < p.fG.length then 3
 else if p.fL.length ≠ p.fF.length ∨ p.fQ.length ≠ p.fF.length then 6
 else ((BR (DG (F6 p) 0 p.fF) (DG (Lu p) 0 p.fG)).getD 0)
theorem Fp {α R : Type} {f : Nat → α → Option R} : ∀ {i : Nat} {xs : List α}, DG f i xs = none → ∀ j x, xs[j]? = some x → f (i + j) x = none
 | _, [], _, j, x, hx => by simp at hx
 | i, y :: ys, h, j, x, hx => by
  rw [Gn] at h
  split at h
  ·cases h
  ·rename_i h0
   cases j with
   | zero => simp at hx; subst hx; exact h0
   | succ j =>
    have := Fp h j x (by simpa using hx)
    rwa [show i + 1 + j = i + (j + 1) from by omega] at this
theorem Ps {p : Ab} (h : DG (F6 p) 0 p.fF = none) : ∀ v, v ∈ p.fF → 1 ≤ v ∧ v ≤ 6 := by
 intro v hv
 obtain ⟨i, hi⟩ := List.mem_iff_getElem?.1 hv
 have := Fp h i v hi
 unfold F6 at this
 split at this
 ·cases this
 ·rename_i hn
  constructor
  ·exact Int.not_lt.1 fun h => hn (.inl h)
  ·exact Int.not_lt.1 fun h => hn (.inr (.inl h))
theorem Dw {α : Type} {xs : List α} {i : Nat} {d : α} (h : i < xs.length) : Br xs (i : Int) = some (xs.getD i d) := by
 rw [AN, lD]; simp [h]
theorem UY (N : Nat) (p : Ab) (hN : N ≤ 1000000) (h1 : p.fF.length < N) (h2 : p.fL.length = p.fF.length) (h3 : p.fQ.length = p.fF.length) (j : Option Int) :
  Bp N p (fun _ => j) N 0 = BR (DG (F6 p) 0 p.fF) j := by
 have := CZ (Bp N p (fun _ => j)) p.fF j (F6 p)
  (fun n i x hx => by
   have hi := (lI.1 hx).1
   rw [Bp, AB (by omega), AN, hx]
   simp only [oS, Bi]
   rw [Dw (d := 0) (by omega), Dw (d := 0) (by omega), Az (by omega)]
   simp only [oS]
   unfold F6
   generalize p.fL.getD i 0 = a
   generalize p.fQ.getD i 0 = b
   by_cases k1 : x < 1 <;> by_cases k2 : 6 < x <;> by_cases k3 : a < 0 <;> by_cases k4 : x ≤ a <;> by_cases k5 : b < 0 <;> by_cases k6 : x ≤ b <;> simp [k1, k2, k3, k4, k5, k6, BR])
  (fun n => by rw [Bp, Aw (by omega)]) N 0 (by omega) (by omega)
 simpa using this
theorem SE (N : Nat) (p : Ab) (hN : N ≤ 1000000) (h1 : p.fF.length < N) (h2 : p.fL.length = p.fF.length) (h3 : p.fQ.length = p.fF.length) (j : Option Int) :
  Ch N p (fun _ => j) N 0 = BR (DG (F6 p) 0 p.fF) j := by
 have := CZ (Ch N p (fun _ => j)) p.fF j (F6 p)
  (fun n i x hx => by
   have hi := (lI.1 hx).1
   rw [Ch, AB (by omega), AN, hx]
   simp only [oS, Bi, RM]
   rw [Dw (d := 0) (by omega), Dw (d := 0) (by omega), Az (by omega)]
   simp only [oS]
   unfold F6
   generalize p.fL.getD i 0 = a
   generalize p.fQ.getD i 0 = b
   have e1 : decide (0 ≤ a) = !decide (a < 0) := by rw [← decide_not]; congr 1; simp
   have e2 : decide (a < x) = !decide (x ≤ a) := by rw [← decide_not]; congr 1; simp
   have e3 : decide (0 ≤ b) = !decide (b < 0) := by rw [← decide_not]; congr 1; simp
   have e4 : decide (b < x) = !decide (x ≤ b) := by rw [← decide_not]; congr 1; simp
   rw [e1, e2, e3, e4]
   by_cases k1 : x < 1 <;> by_cases k2 : 6 < x <;> by_cases k3 : a < 0 <;> by_cases k4 : x ≤ a <;> by_cases k5 : b < 0 <;> by_cases k6 : x ≤ b <;> simp [k1, k2, k3, k4, k5, k6, BR])
  (fun n => by rw [Ch, Aw (by omega)]) N 0 (by omega) (by omega)
 simpa using this
theorem X5 (N : Nat) (p : Ab) (hN : N ≤ 1000000) (h6 : 7 ≤ N) (h1 : p.fG.length < N) (hv : ∀ v, v ∈ p.fF → 1 ≤ v ∧ v ≤ 6) (j : Option Int) :
  Be N p (fun _ => j) N 0 = BR (DG (Lu p) 0 p.fG) j := by
 have := CZ (Be N p (fun _ => j)) p.fG j (Lu p)
  (fun n i x hx => by
   have hi := (lI.1 hx).1
   rw [Be, AB (by omega), AN, hx]
   simp only [oS]
   rw [W3 N p x hN h6 hv, Az (by omega)]
   simp only [oS]
   unfold Lu
   by_cases k : Ec p x = 0
   ·simp [k, BR]
   ·rw [bne_iff_ne.2 k, if_neg k]; rfl)
  (fun n => by rw [Be, Aw (by omega)]) N 0 (by omega) (by omega)
 simpa using this
theorem U9 (N : Nat) (p : Ab) (hN : N ≤ 1000000) (h6 : 7 ≤ N) (h1 : p.fG.length < N) (hv : ∀ v, v ∈ p.fF → 1 ≤ v ∧ v ≤ 6) (j : Option Int) :
  BZ N p (fun _ => j) N 0 = BR (DG (Lu p) 0 p.fG) j := by
 have := CZ (BZ N p (fun _ => j)) p.fG j (Lu p)
  (fun n i x hx => by
   have hi := (lI.1 hx).1
   rw [BZ, AB (by omega), AN, hx]
   simp only [oS]
   rw [Qc N p x hN h6 hv, Az (by omega)]
   simp only [oS]
   unfold Lu
   by_cases k : Ec p x = 0
   ·simp [k, BR]
   ·rw [bne_iff_ne.2 k, if_neg k]; rfl)
  (fun n => by rw [BZ, Aw (by omega)]) N 0 (by omega) (by omega)
 simpa using this
theorem MN (N : Nat) (p : Ab) (hN : N ≤ 1000000) (h : 20 ≤ N) : Ca N p = some (Bk p) := by
 unfold Ca Bk
 simp only [Bi]
 by_cases k1 : 6 < p.fF.length
 ·rw [AB (by omega)]; simp [k1]
 rw [Aw (by omega)]
 by_cases k2 : 12 < p.fG.length
 ·rw [decide_eq_true (by omega : (12 : Int) < (p.fG.length : Int))]; simp [k2]
 rw [decide_eq_false (by omega : ¬ (12 : Int) < (p.fG.length : Int)), Ap, if_neg (by omega)]
 by_cases k3 : p.fL.length = p.fF.length
 ·by_cases k4 : p.fQ.length = p.fF.length
  ·rw [k3, k4]
   simp only [bne_self_eq_false, Ap, ne_eq, not_true_eq_false, or_self, if_false]
   rw [UY N p hN (by omega) k3 k4]
   cases hs : DG (F6 p) 0 p.fF with
   | some r => rfl
   | none =>
    simp only [BR]
    rw [X5 N p hN (by omega) (by omega) (Ps hs)]
    cases DG (Lu p) 0 p.fG <;> rfl
  ·have : ((p.fQ.length : Int) != (p.fF.length : Int)) = true := bne_iff_ne.2 (by omega)
   rw [this, k3]; simp [k4]
 ·have : ((p.fL.length : Int) != (p.fF.length : Int)) = true := bne_iff_ne.2 (by omega)
  rw [this]; simp [k3]
theorem Hj (N : Nat) (p : Ab) (hN : N ≤ 1000000) (h : 20 ≤ N) : BD N p = some (Bk p) := by
 unfold BD Bk
 simp only [Bi]
 by_cases k1 : 6 < p.fF.length
 ·rw [AB (by omega)]; simp [k1]
 rw [Aw (by omega)]
 by_cases k2 : 12 < p.fG.length
 ·rw [decide_eq_true (by omega : (12 : Int) < (p.fG.length : Int))]; simp [k2]
 rw [decide_eq_false (by omega : ¬ (12 : Int) < (p.fG.length : Int)), Ap, if_neg (by omega)]
 by_cases k3 : p.fL.length = p.fF.length
 ·by_cases k4 : p.fQ.length = p.fF.length
  ·rw [k3, k4]
   simp only [bne_self_eq_false, Ap, ne_eq, not_true_eq_false, or_self, if_false]
   rw [SE N p hN (by omega) k3 k4]
   cases hs : DG (F6 p) 0 p.fF with
   | some r => rfl
   | none =>
    simp only [BR]
    rw [U9 N p hN (by omega) (by omega) (Ps hs)]
    cases DG (Lu p) 0 p.fG <;> rfl
  ·have : ((p.fQ.length : Int) != (p.fF.length : Int)) = true := bne_iff_ne.2 (by omega)
   rw [this, k3]; simp [k4]
 ·have : ((p.fL.length : Int) != (p.fF.length : Int)) = true := bne_iff_ne.2 (by omega)
  rw [this]; simp [k3]
theorem JD {n : Int} (h : Mn n) : 0 ≤ n ∧ n ≤ 255 := by
 unfold Mn at h
 simpa [Lit.wf, IntKind.min, IntKind.max, IntKind.signed, IntKind.bits] using h
theorem QN : ∀ k : Fin 256, DL .u8 0 (k.val : Int) = 0 := by decide +kernel
theorem QU : ∀ k : Fin 256, DL .u8 (k.val : Int) 0 = (k.val : Int) := by decide +kernel
theorem Yi {n : Int} (h : Mn n) : DL .u8 0 n = 0 := by
 have := JD h
 obtain ⟨k, rfl⟩ := Int.eq_ofNat_of_zero_le this.1
 exact QN ⟨k, by omega⟩
theorem Xy {n : Int} (h : Mn n) : DL .u8 n 0 = n := by
 have := JD h
 obtain ⟨k, rfl⟩ := Int.eq_ofNat_of_zero_le this.1
 exact QU ⟨k, by omega⟩
theorem E3 {α R : Type} {f : Nat → α → Option R} : ∀ {i : Nat} {xs : List α} {r : R}, DG f i xs = some r → ∃ j x, xs[j]? = some x ∧ f (i + j) x = some r
 | _, [], _, h => by cases h
 | i, y :: ys, r, h => by
  rw [Gn] at h
  split at h
  ·rename_i r' h0
   cases h
   exact ⟨0, y, rfl, h0⟩
  ·obtain ⟨j, x, h1, h2⟩ := E3 h
   exact ⟨j + 1, x, by simpa using h1, by rwa [show i + (j + 1) = i + 1 + j from by omega]⟩
structure A9 (p : Ab) : Prop where
 nv : p.fF.length ≤ 6
 nt : p.fG.length ≤ 12
 now : p.fL.length = p.fF.length
 tgt : p.fQ.length = p.fF.length
 ver : ∀ v, v ∈ p.fF → 1 ≤ v ∧ v ≤ 6
 tab : ∀ t, t ∈ p.fG → Ec p t = 0
theorem VD (l : List (List Bool)) : (JH l).getD 0 = 0 ∨ (JH l).getD 0 = 1 := by
 cases h : JH l with
 | none => exact .inl rfl
 | some r =>
  obtain ⟨j, x, _, h⟩ := E3 h
  split at h
  ·cases h
  ·cases h; exact .inr rfl
theorem SB (p : Ab) (t : Ao) : Ec p t = 0 ∨ Ec p t = 1 ∨ Ec p t = 4 ∨ Ec p t = 6 := by
 unfold Ec
 split
 ·exact .inr (.inl rfl)
 split
 ·exact .inr (.inr (.inl rfl))
 simp only
 split
 ·exact .inr (.inr (.inr rfl))
 split
 ·split
  ·exact .inr (.inr (.inr rfl))
  ·rcases VD t.fR with h | h
   ·exact .inl h
   ·exact .inr (.inl h)
 ·split
  ·exact .inl rfl
  ·exact .inr (.inr (.inr rfl))
theorem Js (p : Ab) : (Bk p = 0 ∧ A9 p) ∨ (Bk p = 1 ∨ Bk p = 3 ∨ Bk p = 4 ∨ Bk p = 6 ∨ Bk p = 7) := by
 unfold Bk
 split
 ·simp
 rename_i k1
 split
 ·simp
 rename_i k2
 cases hs : DG (F6 p) 0 p.fF with
 | some r =>
  obtain ⟨j, x, _, h⟩ := E3 hs
  unfold F6 at h
  split at h
  ·cases h; simp [BR]
  ·cases h
 | none =>
  cases ht : DG (Lu p) 0 p.fG with
  | some r =>
   obtain ⟨j, t, _, h⟩ := E3 ht
   unfold Lu at h
   split at h
   ·cases h
   ·rename_i hne
    cases h
    simp only [BR, Option.getD_some]
    right
    rcases SB p t with h | h | h | h
    ·exact (hne h).elim
    ·exact .inl h
    ·exact .inr (.inr (.inl h))
    ·exact .inr (.inr (.inr (.inl h)))
  | none =>
   left
   refine ⟨rfl, by omega, by omega, by omega, by omega, Ps hs, fun t hm => ?_⟩
   obtain ⟨j, hj⟩ := List.mem_iff_getElem?.1 hm
   have := Fp ht j t hj
   unfold Lu at this
   split at this
   ·assumption
   ·cases this
def Hz (m : Ae) (s : Nat) : Int :=
 if 0 ≤ m.fE.getD s 0 then QD .u8 (Ex .u8 1 (m.fH.getD s 0)) (Ex .u8 1 (m.fE.getD s 0)) else Ex .u8 1 (m.fH.getD s 0)
def MQ (m : Ae) (i : Nat) (v : Int) : Option Int :=
 if m.fH.getD i 0 < 0 ∨ v ≤ m.fH.getD i 0 ∨ m.fE.getD i 0 < -1 ∨ v ≤ m.fE.getD i 0 then some 7
 else if m.fH.getD i 0 = m.fE.getD i 0 then some 1 else none
def B8 (t : Ao) : Bool := t.fJ == 3 || t.fJ == 4
def Y0 (p : Ab) (t : Ao) : Int := wI .u8 (Ex .u8 1 (p.fF.getD t.fK.toNat 0) - 1)
def J9 (p : Ab) (m : Ae) (i : Nat) (t : Ao) : Option Int :=
 if B8 t = true then (if DL .u8 (Hz m t.fK.toNat) (m.fI.getD i 0) ≠ 0 ∨ DL .u8 (m.fI.getD i 0) (Y0 p t) ≠ 0 then some 1 else none)
 else if m.fI.getD i 0 ≠ 0 then some 1 else none
def Gm (p : Ab) (m : Ae) : Int :=
 if Bk p ≠ 0 then Bk p
 else if m.fH.length ≠ p.fF.length ∨ m.fE.length ≠ p.fF.length ∨ m.fI.length ≠ p.fG.length then 6
 else (BR (DG (MQ m) 0 p.fF) (DG (J9 p m) 0 p.fG)).getD 0
theorem JT {p : Ab} {t : Ao} (h : Ec p t = 0) : 0 ≤ t.fK ∧ t.fK < (p.fF.length : Int) ∧ 0 ≤ t.fP ∧ t.fP < (p.fF.length : Int) := by
 unfold Ec at h
 split at h
 ·cases h
 ·split at h
  ·cases h
  ·omega
theorem MM (N : Nat) (m : Ae) (s : Int) (h0 : 0 ≤ s) (h1 : s < (m.fH.length : Int)) (h2 : s < (m.fE.length : Int)) (hb : 0 ≤ m.fH.getD s.toNat 0) : FN N m s = some (Hz m s.toNat) := by
 unfold FN Hz
 rw [Fz (d := 0) h0 h1, Fz (d := 0) h0 h2]
 simp only [oS, Bi]
 rw [show Dp (0 ≤ m.fH.getD s.toNat 0) = some () from by unfold Dp; rw [if_pos hb]]
 simp only [oS]
 by_cases h : 0 ≤ m.fE.getD s.toNat 0
 ·rw [AB h, if_pos h, show Dp (0 ≤ m.fE.getD s.toNat 0) = some () from by unfold Dp; rw [if_pos h]]; rfl
 ·rw [Aw h, if_neg h]
theorem KU (N : Nat) (m : Ae) (s : Int) (h0 : 0 ≤ s) (h1 : s < (m.fH.length : Int)) (h2 : s < (m.fE.length : Int)) (hb : 0 ≤ m.fH.getD s.toNat 0) : Cb N m s = some (Hz m s.toNat) := by
 unfold Cb Hz
 rw [Fz (d := 0) h0 h1, Fz (d := 0) h0 h2]
 simp only [oS, Bi]
 rw [show Dp (0 ≤ m.fH.getD s.toNat 0) = some () from by unfold Dp; rw [if_pos hb]]
 simp only [oS]
 by_cases h : 0 ≤ m.fE.getD s.toNat 0
 ·rw [AB h, if_pos h, show Dp (0 ≤ m.fE.getD s.toNat 0) = some () from by unfold Dp; rw [if_pos h]]; rfl
 ·rw [Aw h, if_neg h]
theorem RU (N : Nat) (p : Ab) (m : Ae) (hN : N ≤ 1000000) (h1 : p.fF.length < N) (h2 : m.fH.length = p.fF.length) (h3 : m.fE.length = p.fF.length) (j : Option Int) :
  EJ N p m (fun _ => j) N 0 = BR (DG (MQ m) 0 p.fF) j := by
 have := CZ (EJ N p m (fun _ => j)) p.fF j (MQ m)
  (fun n i x hx => by
   have hi := (lI.1 hx).1
   rw [EJ, AB (by omega), AN, hx]
   simp only [oS, Bi]
   rw [Dw (d := 0) (by omega), Dw (d := 0) (by omega), Az (by omega)]
   simp only [oS]
   unfold MQ
   generalize m.fH.getD i 0 = a
   generalize m.fE.getD i 0 = b
   by_cases k7 : a = b
   ·subst k7
    by_cases k3 : a < 0 <;> by_cases k4 : x ≤ a <;> by_cases k5 : a < -1 <;> simp [k3, k4, k5, BR]
   ·have k8 : (a == b) = false := beq_eq_false_iff_ne.2 k7
    by_cases k3 : a < 0 <;> by_cases k4 : x ≤ a <;> by_cases k5 : b < -1 <;> by_cases k6 : x ≤ b <;> simp [k3, k4, k5, k6, k7, k8, BR])
  (fun n => by rw [EJ, Aw (by omega)]) N 0 (by omega) (by omega)
 simpa using this
theorem R5 (N : Nat) (p : Ab) (m : Ae) (hN : N ≤ 1000000) (h1 : p.fF.length < N) (h2 : m.fH.length = p.fF.length) (h3 : m.fE.length = p.fF.length) (j : Option Int) :
  Co N p m (fun _ => j) N 0 = BR (DG (MQ m) 0 p.fF) j := by
 have := CZ (Co N p m (fun _ => j)) p.fF j (MQ m)
  (fun n i x hx => by
   have hi := (lI.1 hx).1
   rw [Co, AB (by omega), show Br p.fF (i : Int) = some x from by rw [AN, hx]]
   simp only [oS, Bi]
   rw [Dw (d := 0) (by omega), Dw (d := 0) (by omega), Az (by omega)]
   simp only [oS]
   unfold MQ
   generalize m.fH.getD i 0 = a
   generalize m.fE.getD i 0 = b
   by_cases k7 : a = b
   ·subst k7
    by_cases k3 : a < 0 <;> by_cases k4 : x ≤ a <;> by_cases k5 : a < -1 <;> simp [k3, k4, k5, BR]
   ·have k8 : (a == b) = false := beq_eq_false_iff_ne.2 k7
    by_cases k3 : a < 0 <;> by_cases k4 : x ≤ a <;> by_cases k5 : b < -1 <;> by_cases k6 : x ≤ b <;> simp [k3, k4, k5, k6, k7, k8, BR])
  (fun n => by rw [Co, Aw (by omega)]) N 0 (by omega) (by omega)
 simpa using this
structure MixServ (p : Ab) (m : Ae) : Prop where
 base : m.fH.length = p.fF.length
 next : m.fE.length = p.fF.length
 held : m.fI.length = p.fG.length
 b0 : ∀ i, i < p.fF.length → 0 ≤ m.fH.getD i 0 ∧ m.fH.getD i 0 < p.fF.getD i 0
 n0 : ∀ i, i < p.fF.length → -1 ≤ m.fE.getD i 0 ∧ m.fE.getD i 0 < p.fF.getD i 0
 ne : ∀ i, i < p.fF.length → m.fH.getD i 0 ≠ m.fE.getD i 0
theorem Sq {p : Ab} {m : Ae} (h2 : m.fH.length = p.fF.length) (h3 : m.fE.length = p.fF.length) (h4 : m.fI.length = p.fG.length) (h : DG (MQ m) 0 p.fF = none) : MixServ p m := by
 have key : ∀ i, i < p.fF.length → ¬ (m.fH.getD i 0 < 0 ∨ p.fF.getD i 0 ≤ m.fH.getD i 0 ∨ m.fE.getD i 0 < -1 ∨ p.fF.getD i 0 ≤ m.fE.getD i 0) ∧ ¬ m.fH.getD i 0 = m.fE.getD i 0 := by
  intro i hi
  have hx : p.fF[i]? = some (p.fF.getD i 0) := by rw [lD]; simp [hi]
  have := Fp h i _ hx
  rw [Nat.zero_add] at this
  unfold MQ at this
  split at this
  ·cases this
  ·split at this
   ·cases this
   ·rename_i k1 k2; exact ⟨k1, k2⟩
 exact ⟨h2, h3, h4, fun i hi => by have := (key i hi).1; omega, fun i hi => by have := (key i hi).1; omega, fun i hi => (key i hi).2⟩
theorem Uv {m : Ae} (hw : N9 Mn m.fI) {i : Nat} (h : i < m.fI.length) : Mn (m.fI.getD i 0) := by
 refine hw _ ?_
 rw [lD, List.getElem?_eq_getElem h]
 exact List.getElem_mem _
theorem Kq (N : Nat) (t : Ao) : F9 N t = some (B8 t) := by
 unfold F9 B8
 simp only [Bi]
 cases h : t.fJ == 3 <;> simp
theorem HI (N : Nat) (t : Ao) : A8 N t = some (B8 t) := OB N t
theorem VK (N : Nat) (p : Ab) (m : Ae) (hN : N ≤ 1000000) (h1 : p.fG.length < N) (hp : A9 p) (hm : MixServ p m) (hw : N9 Mn m.fI) (j : Option Int) :
  Ek N p m (fun _ => j) N 0 = BR (DG (J9 p m) 0 p.fG) j := by
 have := CZ (Ek N p m (fun _ => j)) p.fG j (J9 p m)
  (fun n i x hx => by
   have hi := (lI.1 hx).1
   have hin := JT (hp.tab x (lM hx))
   have hheld := Uv hw (show i < m.fI.length from by rw [hm.held]; exact hi)
   have hv := Ku hp.ver hin.1 hin.2.1
   rw [Ek, AB (by omega), AN, hx]
   simp only [oS, Bi, Kq]
   rw [MM N m x.fK hin.1 (by rw [hm.base]; exact hin.2.1) (by rw [hm.next]; exact hin.2.1) (hm.b0 _ (by omega)).1, Fz (d := 0) hin.1 hin.2.1, Dw (d := 0) (show i < m.fI.length from by rw [hm.held]; exact hi), Az (by omega)]
   simp only [oS]
   rw [show Dp (0 ≤ p.fF.getD x.fK.toNat 0) = some () from by unfold Dp; rw [if_pos (by omega)]]
   simp only [oS]
   unfold J9 Y0
   rw [Yi hheld, Xy hheld]
   generalize DL .u8 (Hz m x.fK.toNat) (m.fI.getD i 0) = A
   generalize DL .u8 (m.fI.getD i 0) (wI .u8 (Ex .u8 1 (p.fF.getD x.fK.toNat 0) - 1)) = B
   generalize m.fI.getD i 0 = H
   cases B8 x
   ·simp only [Ap, bne_self_eq_false]
    by_cases k : H = 0
    ·simp [k, BR]
    ·have : (H != 0) = true := bne_iff_ne.2 k
     simp [k, this, BR]
   ·simp only [AJ]
    by_cases k : A = 0
    ·by_cases k2 : B = 0
     ·simp [k, k2, BR]
     ·have : (B != 0) = true := bne_iff_ne.2 k2
      simp [k, k2, this, BR]
    ·have : (A != 0) = true := bne_iff_ne.2 k
     simp [k, this, BR])
  (fun n => by rw [Ek, Aw (by omega)]) N 0 (by omega) (by omega)
 simpa using this
theorem VM (N : Nat) (p : Ab) (m : Ae) (hN : N ≤ 1000000) (h1 : p.fG.length < N) (hp : A9 p) (hm : MixServ p m) (j : Option Int) :
  Cd N p m (fun _ => j) N 0 = BR (DG (J9 p m) 0 p.fG) j := by
 have := CZ (Cd N p m (fun _ => j)) p.fG j (J9 p m)
  (fun n i x hx => by
   have hi := (lI.1 hx).1
   have hin := JT (hp.tab x (lM hx))
   have hv := Ku hp.ver hin.1 hin.2.1
   rw [Cd, AB (by omega), AN, hx]
   simp only [oS, Bi, HI]
   rw [KU N m x.fK hin.1 (by rw [hm.base]; exact hin.2.1) (by rw [hm.next]; exact hin.2.1) (hm.b0 _ (by omega)).1, Fz (d := 0) hin.1 hin.2.1, Dw (d := 0) (show i < m.fI.length from by rw [hm.held]; exact hi), Az (by omega)]
   simp only [oS]
   rw [show Dp (0 ≤ p.fF.getD x.fK.toNat 0) = some () from by unfold Dp; rw [if_pos (by omega)]]
   simp only [oS]
   unfold J9 Y0
   generalize DL .u8 (Hz m x.fK.toNat) (m.fI.getD i 0) = A
   generalize DL .u8 (m.fI.getD i 0) (wI .u8 (Ex .u8 1 (p.fF.getD x.fK.toNat 0) - 1)) = B
   generalize m.fI.getD i 0 = H
   cases B8 x
   ·simp only [Bool.not_false, AJ, Ap]
    by_cases k : H = 0
    ·simp [k, BR]
    ·have : (H != 0) = true := bne_iff_ne.2 k
     simp [k, this, BR]
   ·simp only [Bool.not_true, Ap, AJ]
    by_cases k : A = 0
    ·by_cases k2 : B = 0
     ·simp [k, k2, BR]
     ·have : (B != 0) = true := bne_iff_ne.2 k2
      simp [k, k2, this, BR]
    ·have : (A != 0) = true := bne_iff_ne.2 k
     by_cases k2 : B = 0
     ·simp [k, k2, this, BR]
     ·have h5 : (B != 0) = true := bne_iff_ne.2 k2
      simp [k, h5, BR])
  (fun n => by rw [Cd, Aw (by omega)]) N 0 (by omega) (by omega)
 simpa using this
theorem Je (N : Nat) (p : Ab) (m : Ae) (hN : N ≤ 1000000) (h : 20 ≤ N) (hw : N9 Mn m.fI) : FX N p m = some (Gm p m) := by
 unfold FX Gm
 rw [Hj N p hN h]
 simp only [oS, Bi]
 by_cases k0 : Bk p = 0
 ·have hp : A9 p := by
   rcases Js p with h | h
   ·exact h.2
   ·omega
  have hnv := hp.nv
  have hnt := hp.nt
  rw [k0]
  simp only [bne_self_eq_false, Ap, ne_eq, not_true_eq_false, if_false]
  by_cases k1 : m.fH.length = p.fF.length
  ·by_cases k2 : m.fE.length = p.fF.length
   ·by_cases k3 : m.fI.length = p.fG.length
    ·rw [k1, k2, k3]
     simp only [bne_self_eq_false, Ap, not_true_eq_false, or_self, if_false]
     rw [RU N p m hN (by omega) k1 k2]
     cases hs : DG (MQ m) 0 p.fF with
     | some r => rfl
     | none =>
      simp only [BR]
      rw [VK N p m hN (by omega) hp (Sq k1 k2 k3 hs) hw]
      cases DG (J9 p m) 0 p.fG <;> rfl
    ·have : ((m.fI.length : Int) != (p.fG.length : Int)) = true := bne_iff_ne.2 (by omega)
     rw [this, k1, k2]; simp [k3]
   ·have : ((m.fE.length : Int) != (p.fF.length : Int)) = true := bne_iff_ne.2 (by omega)
    rw [this, k1]; simp [k2]
  ·have : ((m.fH.length : Int) != (p.fF.length : Int)) = true := bne_iff_ne.2 (by omega)
   rw [this]; simp [k1]
 ·rw [bne_iff_ne.2 k0]; simp [k0]
theorem Jl (N : Nat) (p : Ab) (m : Ae) (hN : N ≤ 1000000) (h : 20 ≤ N) : DE N p m = some (Gm p m) := by
 unfold DE Gm
 rw [MN N p hN h]
 simp only [oS, Bi]
 by_cases k0 : Bk p = 0
 ·have hp : A9 p := by
   rcases Js p with h | h
   ·exact h.2
   ·omega
  have hnv := hp.nv
  have hnt := hp.nt
  rw [k0]
  simp only [bne_self_eq_false, Ap, ne_eq, not_true_eq_false, if_false]
  by_cases k1 : m.fH.length = p.fF.length
  ·by_cases k2 : m.fE.length = p.fF.length
   ·by_cases k3 : m.fI.length = p.fG.length
    ·rw [k1, k2, k3]
     simp only [bne_self_eq_false, Ap, not_true_eq_false, or_self, if_false]
     rw [R5 N p m hN (by omega) k1 k2]
     cases hs : DG (MQ m) 0 p.fF with
     | some r => rfl
     | none =>
      simp only [BR]
      rw [VM N p m hN (by omega) hp (Sq k1 k2 k3 hs)]
      cases DG (J9 p m) 0 p.fG <;> rfl
    ·have : ((m.fI.length : Int) != (p.fG.length : Int)) = true := bne_iff_ne.2 (by omega)
     rw [this, k1, k2]; simp [k3]
   ·have : ((m.fE.length : Int) != (p.fF.length : Int)) = true := bne_iff_ne.2 (by omega)
    rw [this, k1]; simp [k2]
  ·have : ((m.fH.length : Int) != (p.fF.length : Int)) = true := bne_iff_ne.2 (by omega)
   rw [this]; simp [k1]
 ·rw [bne_iff_ne.2 k0]; simp [k0]
@[simp] theorem A5 {α β : Type} (k : α) (f : α → β) : Bi k f = f k := rfl
@[simp] theorem XQ {p : Prop} [Decidable p] (h : p) : Dp p = some () := by unfold Dp; rw [if_pos h]
theorem An {β : Type} {p : Prop} [Decidable p] (h : p) (f : Unit → Option β) : (Dp p).bind f = f () := by rw [XQ h]; rfl
def B1 {α β : Type} (g : Nat → α → List β) : Nat → List α → List β
 | _, [] => []
 | i, x :: xs => g i x ++ B1 g (i + 1) xs
def HY {α A : Type} (f : Nat → α → A → A) : Nat → List α → A → A
 | _, [], a => a
 | i, x :: xs, a => HY f (i + 1) xs (f i x a)
theorem NZ {α β : Type} (g : Nat → α → List β) : ∀ (i : Nat) (xs ys : List α), B1 g i (xs ++ ys) = B1 g i xs ++ B1 g (i + xs.length) ys
 | i, [], ys => by simp [B1]
 | i, x :: xs, ys => by
  rw [List.cons_append, B1, B1, NZ g (i + 1) xs ys, List.append_assoc, List.length_cons, Nat.add_assoc, Nat.add_comm 1]
theorem FH {α β : Type} {g : Nat → α → List β} {y : β} : ∀ {i : Nat} {xs : List α}, y ∈ B1 g i xs ↔ ∃ j x, xs[j]? = some x ∧ y ∈ g (i + j) x
 | _, [] => by simp [B1]
 | i, x :: xs => by
  rw [B1, List.mem_append, FH]
  constructor
  ·rintro (h | ⟨j, z, hz, h⟩)
   ·exact ⟨0, x, rfl, h⟩
   ·exact ⟨j + 1, z, by simpa using hz, by rwa [show i + (j + 1) = i + 1 + j from by omega]⟩
  ·rintro ⟨j, z, hz, h⟩
   cases j with
   | zero => simp at hz; subst hz; exact .inl h
   | succ j => exact .inr ⟨j, z, by simpa using hz, by rwa [show i + 1 + j = i + (j + 1) from by omega]⟩
theorem Kr {α β : Type} {g : Nat → α → List β} {i : Nat} {xs : List α} : B1 g i xs = [] ↔ ∀ j x, xs[j]? = some x → g (i + j) x = [] := by
 rw [List.eq_nil_iff_forall_not_mem]
 constructor
 ·intro h j x hx
  rw [List.eq_nil_iff_forall_not_mem]
  exact fun y hy => h y (FH.2 ⟨j, x, hx, hy⟩)
 ·intro h y hy
  obtain ⟨j, x, hx, hm⟩ := FH.1 hy
  rw [h j x hx] at hm; cases hm
theorem FG {α β : Type} {g : Nat → α → List β} {c : Nat} : ∀ {i : Nat} {xs : List α}, (∀ j x, xs[j]? = some x → (g (i + j) x).length ≤ c) → (B1 g i xs).length ≤ c * xs.length
 | _, [], _ => by simp [B1]
 | i, x :: xs, h => by
  have h1 := h 0 x rfl
  have h2 := FG (g := g) (c := c) (i := i + 1) (xs := xs) fun j y hy => by
   have := h (j + 1) y (by simpa using hy)
   rwa [show i + (j + 1) = i + 1 + j from by omega] at this
  rw [B1, List.length_append, List.length_cons, Nat.mul_add]
  simp only [Nat.add_zero] at h1
  omega
theorem HX {α A S R : Type} (L : Nat → S → Option R) (mk : A → Int → S) (xs : List α) (j : A → Option R) (f : Nat → α → A → A) (I : Nat → A → Prop)
  (hs : ∀ (n i : Nat) (x : α) (a : A), xs[i]? = some x → I i a → L (n + 1) (mk a (i : Int)) = L n (mk (f i x a) ((i + 1 : Nat) : Int)) ∧ I (i + 1) (f i x a))
  (he : ∀ (n : Nat) (a : A), I xs.length a → L (n + 1) (mk a (xs.length : Int)) = j a) :
  ∀ (n i : Nat) (a : A), i ≤ xs.length → xs.length - i < n → I i a → L n (mk a (i : Int)) = j (HY f i (xs.drop i) a) ∧ I xs.length (HY f i (xs.drop i) a)
 | 0, i, _, _, h, _ => by omega
 | n + 1, i, a, hi, h, ha => by
  by_cases h1 : i < xs.length
  ·have hx : xs[i]? = some xs[i] := by simp [h1]
   obtain ⟨e1, e2⟩ := hs n i _ a hx ha
   rw [e1, Gt hx, HY]
   exact HX L mk xs j f I hs he n (i + 1) _ (by omega) (by omega) e2
  ·have : i = xs.length := by omega
   subst this
   rw [List.drop_eq_nil_of_le (Nat.le_refl _), HY]
   exact ⟨he n a ha, ha⟩
theorem P2 {α β : Type} (g : Nat → α → List β) : ∀ (i : Nat) (xs : List α) (acc : List β), HY (fun i x a => a ++ g i x) i xs acc = acc ++ B1 g i xs
 | _, [], acc => by simp [HY, B1]
 | i, x :: xs, acc => by rw [HY, P2 g (i + 1) xs, B1, List.append_assoc]
theorem Dc {α β S R : Type} (L : Nat → S → Option R) (mk : List β → Int → S) (xs : List α) (j : List β → Option R) (g : Nat → α → List β) (c B : Nat)
  (hg : ∀ i x, xs[i]? = some x → (g i x).length ≤ c)
  (hs : ∀ (n i : Nat) (x : α) (a : List β), xs[i]? = some x → a.length + (g i x).length ≤ B → L (n + 1) (mk a (i : Int)) = L n (mk (a ++ g i x) ((i + 1 : Nat) : Int)))
  (he : ∀ (n : Nat) (a : List β), L (n + 1) (mk a (xs.length : Int)) = j a) (n : Nat) (a : List β) (hn : xs.length < n) (ha : a.length + c * xs.length ≤ B) :
  L n (mk a 0) = j (a ++ B1 g 0 xs) := by
 have := HX L mk xs j (fun i x a => a ++ g i x) (fun i b => i ≤ xs.length ∧ b.length ≤ a.length + c * i)
  (fun n i x b hx hb => by
   have h1 := hg i x hx
   have hi := (lI.1 hx).1
   have h2 : c * (i + 1) ≤ c * xs.length := Nat.mul_le_mul_left c hi
   have h3 : c * (i + 1) = c * i + c := Nat.mul_succ c i
   refine ⟨hs n i x b hx (by have := hb.2; omega), hi, ?_⟩
   rw [List.length_append]
   have := hb.2
   omega)
  (fun n b _ => he n b) n 0 a (Nat.zero_le _) (by omega) ⟨Nat.zero_le _, by omega⟩
 have h2 := this.1
 rw [List.drop_zero, P2] at h2
 exact h2
def Es (s : Int) (v : Nat) : Bool := s.toNat.testBit v
def Jn (m : Ae) (s v : Nat) : Bool := decide (m.fH.getD s 0 = (v : Int)) || decide (m.fE.getD s 0 = (v : Int))
theorem ZP : ∀ (s : Fin 256) (v : Fin 8), Hk .u8 (Gv .u8 (s.val : Int) (v.val : Int)) 1 = if Es (s.val : Int) v.val then 1 else 0 := by decide +kernel
theorem Sk {s : Int} {v : Nat} (h0 : 0 ≤ s) (h1 : s ≤ 255) (hv : v < 8) : Hk .u8 (Gv .u8 s (v : Int)) 1 = if Es s v then 1 else 0 := by
 obtain ⟨k, rfl⟩ := Int.eq_ofNat_of_zero_le h0
 exact ZP ⟨k, by omega⟩ ⟨v, hv⟩
theorem Tz {s : Int} {v : Nat} (h0 : 0 ≤ s) (h1 : s ≤ 255) (hv : v < 8) : (Hk .u8 (Gv .u8 s (v : Int)) 1 == 0) = !Es s v := by
 rw [Sk h0 h1 hv]; cases Es s v <;> rfl
theorem Us {s : Int} {v : Nat} (h0 : 0 ≤ s) (h1 : s ≤ 255) (hv : v < 8) : (Hk .u8 (Gv .u8 s (v : Int)) 1 == 1) = Es s v := by
 rw [Sk h0 h1 hv]; cases Es s v <;> rfl
theorem K2 {s : Int} {v : Nat} (h1 : s ≤ 255) (hv : 8 ≤ v) : Es s v = false := by
 unfold Es
 apply Nat.testBit_lt_two_pow
 have : (2 : Nat) ^ 8 ≤ 2 ^ v := Nat.pow_le_pow_right (by omega) hv
 omega
theorem KP : ∀ (b : Fin 8) (v : Fin 8), Es (Ex .u8 1 (b.val : Int)) v.val = decide (b.val = v.val) ∧ 0 ≤ Ex .u8 1 (b.val : Int) ∧ Ex .u8 1 (b.val : Int) ≤ 255 := by decide +kernel
theorem Zr : ∀ (b n : Fin 8) (v : Fin 8), Es (QD .u8 (Ex .u8 1 (b.val : Int)) (Ex .u8 1 (n.val : Int))) v.val = (decide (b.val = v.val) || decide (n.val = v.val))
  ∧ 0 ≤ QD .u8 (Ex .u8 1 (b.val : Int)) (Ex .u8 1 (n.val : Int)) ∧ QD .u8 (Ex .u8 1 (b.val : Int)) (Ex .u8 1 (n.val : Int)) ≤ 255 := by decide +kernel
theorem Yr {m : Ae} {s : Nat} (hb0 : 0 ≤ m.fH.getD s 0) (hb1 : m.fH.getD s 0 < 8) (hn1 : m.fE.getD s 0 < 8) :
  (∀ v, Es (Hz m s) v = Jn m s v) ∧ 0 ≤ Hz m s ∧ Hz m s ≤ 255 := by
 unfold Hz Jn
 obtain ⟨b, hb⟩ := Int.eq_ofNat_of_zero_le hb0
 rw [hb] at hb1 ⊢
 by_cases h : 0 ≤ m.fE.getD s 0
 ·obtain ⟨n, hn⟩ := Int.eq_ofNat_of_zero_le h
  rw [hn] at hn1 ⊢
  rw [if_pos (by omega)]
  have h1 := Zr ⟨b, by omega⟩ ⟨n, by omega⟩
  refine ⟨fun v => ?_, (h1 0).2⟩
  by_cases hv : v < 8
  ·rw [(h1 ⟨v, hv⟩).1]
   simp only [Int.ofNat_inj]
  ·rw [K2 (h1 0).2.2 (by omega)]
   simp; omega
 ·rw [if_neg h]
  have h1 := KP ⟨b, by omega⟩
  refine ⟨fun v => ?_, (h1 0).2⟩
  have h3 : decide (m.fE.getD s 0 = (v : Int)) = false := decide_eq_false (by omega)
  rw [h3, Bool.or_false]
  by_cases hv : v < 8
  ·rw [(h1 ⟨v, hv⟩).1]
   simp only [Int.ofNat_inj]
  ·rw [K2 (h1 0).2.2 (by omega)]
   simp; omega
theorem Yv {a : Nat} (h : a < 256) : (BitVec.ofInt 8 (a : Int)).toNat = a := by
 simp; omega
theorem Pn {a b : Int} (ha : 0 ≤ a ∧ a ≤ 255) (hb : 0 ≤ b ∧ b ≤ 255) : DL .u8 a b = 0 ↔ ∀ v, Es a v = true → Es b v = true := by
 obtain ⟨a, rfl⟩ := Int.eq_ofNat_of_zero_le ha.1
 obtain ⟨b, rfl⟩ := Int.eq_ofNat_of_zero_le hb.1
 have hA := Yv (a := a) (by omega)
 have hB := Yv (a := b) (by omega)
 unfold DL Es
 simp only [IntKind.bits, Int.toNat_natCast]
 have hx : ∀ x : BitVec 8, wI .u8 (x.toNat : Int) = (x.toNat : Int) := by
  intro x
  have := x.isLt
  simp [wI, IntKind.signed, IntKind.bits]
  omega
 rw [hx]
 constructor
 ·intro h v hv
  have h0 : (BitVec.ofInt 8 (a : Int) &&& ~~~BitVec.ofInt 8 (b : Int)) = (BitVec.ofNat 8 0) := by
   apply BitVec.eq_of_toNat_eq
   simp only [BitVec.toNat_ofNat, Nat.zero_mod]
   exact Int.ofNat_inj.1 h
  by_cases hv8 : v < 8
  ·have h1 : (BitVec.ofInt 8 (a : Int) &&& ~~~BitVec.ofInt 8 (b : Int)).getLsbD v = false := by rw [h0]; simp
   rw [BitVec.getLsbD_and, BitVec.getLsbD_not] at h1
   have e1 : (BitVec.ofInt 8 (a : Int)).getLsbD v = a.testBit v := by unfold BitVec.getLsbD; rw [hA]
   have e2 : (BitVec.ofInt 8 (b : Int)).getLsbD v = b.testBit v := by unfold BitVec.getLsbD; rw [hB]
   rw [e1, e2, hv] at h1
   simpa [hv8] using h1
  ·have := K2 (s := (a : Int)) (v := v) (by omega) (by omega)
   unfold Es at this
   rw [Int.toNat_natCast, hv] at this
   cases this
 ·intro h
  have h0 : (BitVec.ofInt 8 (a : Int) &&& ~~~BitVec.ofInt 8 (b : Int)) = (BitVec.ofNat 8 0) := by
   apply BitVec.eq_of_getLsbD_eq
   intro i hi
   rw [BitVec.getLsbD_and, BitVec.getLsbD_not]
   have e1 : (BitVec.ofInt 8 (a : Int)).getLsbD i = a.testBit i := by unfold BitVec.getLsbD; rw [hA]
   have e2 : (BitVec.ofInt 8 (b : Int)).getLsbD i = b.testBit i := by unfold BitVec.getLsbD; rw [hB]
   rw [e1, e2]
   have := h i
   cases h3 : a.testBit i
   ·simp
   ·rw [this h3]; simp
  have h2 : ∀ x : BitVec 8, x = (BitVec.ofNat 8 0) → (x.toNat : Int) = 0 := fun x hx => by rw [hx]; rfl
  exact h2 _ h0
theorem Y3 : ∀ n : Fin 9, (∀ v : Fin 8, Es (wI .u8 (Ex .u8 1 (n.val : Int) - 1)) v.val = decide (v.val < n.val)) ∧ 0 ≤ wI .u8 (Ex .u8 1 (n.val : Int) - 1) ∧ wI .u8 (Ex .u8 1 (n.val : Int) - 1) ≤ 255 := by decide +kernel
theorem Zn {n : Int} (h0 : 0 ≤ n) (h1 : n ≤ 8) : (∀ v, Es (wI .u8 (Ex .u8 1 n - 1)) v = decide ((v : Int) < n)) ∧ 0 ≤ wI .u8 (Ex .u8 1 n - 1) ∧ wI .u8 (Ex .u8 1 n - 1) ≤ 255 := by
 obtain ⟨n, rfl⟩ := Int.eq_ofNat_of_zero_le h0
 have h := Y3 ⟨n, by omega⟩
 refine ⟨fun v => ?_, h.2⟩
 by_cases hv : v < 8
 ·rw [h.1 ⟨v, hv⟩]; simp
 ·rw [K2 h.2.2 (by omega)]
  symm; apply decide_eq_false; omega
structure B0 (p : Ab) (m : Ae) : Prop extends MixServ p m where
 range : ∀ i, i < p.fG.length → 0 ≤ m.fI.getD i 0 ∧ m.fI.getD i 0 ≤ 255
 low : ∀ i t, p.fG[i]? = some t → B8 t = true → ∀ v, Jn m t.fK.toNat v = true → Es (m.fI.getD i 0) v = true
 high : ∀ i t, p.fG[i]? = some t → B8 t = true → ∀ v, Es (m.fI.getD i 0) v = true → (v : Int) < p.fF.getD t.fK.toNat 0
 none : ∀ i t, p.fG[i]? = some t → B8 t = false → m.fI.getD i 0 = 0
theorem I2 {p : Ab} (hp : A9 p) {i : Nat} (hi : i < p.fF.length) : 1 ≤ p.fF.getD i 0 ∧ p.fF.getD i 0 ≤ 6 := by
 have := Ku (i := (i : Int)) hp.ver (by omega) (by omega)
 simpa using this
theorem IV {p : Ab} {m : Ae} (hp : A9 p) (hm : MixServ p m) {s : Nat} (hs : s < p.fF.length) :
  (∀ v, Es (Hz m s) v = Jn m s v) ∧ 0 ≤ Hz m s ∧ Hz m s ≤ 255 := by
 have h1 := hm.b0 s hs
 have h2 := hm.n0 s hs
 have h3 := I2 hp hs
 exact Yr h1.1 (by omega) (by omega)
theorem TF {p : Ab} {m : Ae} (hp : A9 p) (hm : MixServ p m) {i : Nat} {t : Ao} (ht : p.fG[i]? = some t) (hr : 0 ≤ m.fI.getD i 0 ∧ m.fI.getD i 0 ≤ 255) :
  J9 p m i t = none ↔ ((B8 t = true → (∀ v, Jn m t.fK.toNat v = true → Es (m.fI.getD i 0) v = true) ∧ (∀ v, Es (m.fI.getD i 0) v = true → (v : Int) < p.fF.getD t.fK.toNat 0)) ∧ (B8 t = false → m.fI.getD i 0 = 0)) := by
 have hin := JT (hp.tab t (lM ht))
 have hrun := IV hp hm (s := t.fK.toNat) (by omega)
 have hver := I2 hp (i := t.fK.toNat) (by omega)
 have hall := Zn (n := p.fF.getD t.fK.toNat 0) (by omega) (by omega)
 unfold J9 Y0
 have e1 := Pn hrun.2 hr
 have e2 := Pn hr hall.2
 cases hst : B8 t
 ·simp
 ·simp only [if_true, true_implies, Bool.true_eq_false, false_implies, and_true, ite_eq_right_iff, reduceCtorEq, imp_false, not_or, Decidable.not_not]
  rw [e1, e2]
  simp only [hrun.1, hall.1, decide_eq_true_eq]
theorem KG {p : Ab} {m : Ae} (hw : N9 Mn m.fI) (h : Gm p m = 0) : A9 p ∧ B0 p m := by
 unfold Gm at h
 split at h
 ·rename_i k; exact (k h).elim
 ·rename_i k0
  have hp : A9 p := by
   rcases Js p with h | h
   ·exact h.2
   ·omega
  split at h
  ·cases h
  ·rename_i k1
   have b1 : m.fH.length = p.fF.length := Decidable.not_not.1 fun h => k1 (.inl h)
   have b2 : m.fE.length = p.fF.length := Decidable.not_not.1 fun h => k1 (.inr (.inl h))
   have b3 : m.fI.length = p.fG.length := Decidable.not_not.1 fun h => k1 (.inr (.inr h))
   cases hs : DG (MQ m) 0 p.fF with
   | some r =>
    obtain ⟨j, x, _, he⟩ := E3 hs
    rw [hs] at h
    unfold MQ at he
    simp only [BR, Option.getD_some] at h
    split at he
    ·cases he; cases h
    ·split at he
     ·cases he; cases h
     ·cases he
   | none =>
    have hm := Sq b1 b2 b3 hs
    rw [hs] at h
    simp only [BR] at h
    cases ht : DG (J9 p m) 0 p.fG with
    | some r =>
     obtain ⟨j, x, _, he⟩ := E3 ht
     rw [ht] at h
     simp only [Option.getD_some] at h
     subst h
     unfold J9 at he
     split at he
     ·split at he <;> cases he
     ·split at he <;> cases he
    | none =>
     have hr : ∀ i, i < p.fG.length → 0 ≤ m.fI.getD i 0 ∧ m.fI.getD i 0 ≤ 255 := fun i hi => JD (Uv hw (by omega))
     have key : ∀ i t, p.fG[i]? = some t → _ := fun i t hi => (TF hp hm hi (hr i (lI.1 hi).1)).1 (by have := Fp ht i t hi; rwa [Nat.zero_add] at this)
     exact ⟨hp, hm, hr, fun i t hi hst => ((key i t hi).1 hst).1, fun i t hi hst => ((key i t hi).1 hst).2, fun i t hi hst => (key i t hi).2 hst⟩
theorem F3 {α R : Type} {f : Nat → α → Option R} : ∀ {i : Nat} {xs : List α}, (∀ j x, xs[j]? = some x → f (i + j) x = none) → DG f i xs = none
 | _, [], _ => rfl
 | i, y :: ys, h => by
  rw [Gn, show f i y = none from h 0 y rfl]
  exact F3 fun j x hx => by
   have := h (j + 1) x (by simpa using hx)
   rwa [show i + (j + 1) = i + 1 + j from by omega] at this
theorem SN {p : Ab} (hp : A9 p) (hr : ∀ i, i < p.fF.length → 0 ≤ p.fL.getD i 0 ∧ p.fL.getD i 0 < p.fF.getD i 0 ∧ 0 ≤ p.fQ.getD i 0 ∧ p.fQ.getD i 0 < p.fF.getD i 0) : Bk p = 0 := by
 have := hp.nv
 have := hp.nt
 have := hp.now
 have := hp.tgt
 unfold Bk
 rw [if_neg (by omega), if_neg (by omega)]
 have h1 : DG (F6 p) 0 p.fF = none := F3 fun j x hx => by
  have hj := (lI.1 hx).1
  have h1 := hr j hj
  have h2 := I2 hp hj
  have e : p.fF.getD j 0 = x := by rw [lD, hx]; rfl
  rw [e] at h1 h2
  unfold F6
  rw [Nat.zero_add, if_neg (by omega)]
 have h2 : DG (Lu p) 0 p.fG = none := F3 fun j x hx => by
  unfold Lu
  rw [if_pos (hp.tab x (lM hx))]
 rw [h1, h2]; rfl
theorem BX {p : Ab} (h : Bk p = 0) : A9 p ∧ ∀ i, i < p.fF.length → 0 ≤ p.fL.getD i 0 ∧ p.fL.getD i 0 < p.fF.getD i 0 ∧ 0 ≤ p.fQ.getD i 0 ∧ p.fQ.getD i 0 < p.fF.getD i 0 := by
 have hp : A9 p := by
  rcases Js p with h | h
  ·exact h.2
  ·omega
 refine ⟨hp, fun i hi => ?_⟩
 have h1 := hp.nv
 have h2 := hp.nt
 have h3 := hp.now
 have h4 := hp.tgt
 unfold Bk at h
 rw [if_neg (by omega), if_neg (by omega)] at h
 cases hs : DG (F6 p) 0 p.fF with
 | some r =>
  obtain ⟨j, x, _, he⟩ := E3 hs
  rw [hs] at h
  unfold F6 at he
  split at he
  ·cases he; cases h
  ·cases he
 | none =>
  have hx : p.fF[i]? = some (p.fF.getD i 0) := by rw [lD]; simp [hi]
  have := Fp hs i _ hx
  rw [Nat.zero_add] at this
  unfold F6 at this
  split at this
  ·cases this
  ·rename_i hn; omega
theorem IQ {p : Ab} {m : Ae} (hv : Bk p = 0) (hm : B0 p m) : Gm p m = 0 := by
 obtain ⟨hp, _⟩ := BX hv
 unfold Gm
 rw [hv, if_neg (by simp), if_neg (by have := hm.base; have := hm.next; have := hm.held; omega)]
 have h1 : DG (MQ m) 0 p.fF = none := F3 fun j x hx => by
  have hj := (lI.1 hx).1
  have e : p.fF.getD j 0 = x := by rw [lD, hx]; rfl
  have h1 := hm.b0 j hj
  have h2 := hm.n0 j hj
  have h3 := hm.ne j hj
  rw [e] at h1 h2
  unfold MQ
  rw [Nat.zero_add, if_neg (by omega), if_neg h3]
 have h2 : DG (J9 p m) 0 p.fG = none := F3 fun j x hx => by
  have hj := (lI.1 hx).1
  rw [Nat.zero_add]
  exact (TF hp hm.toMixServ hx (hm.range j hj)).2 ⟨fun hst => ⟨hm.low j x hx hst, hm.high j x hx hst⟩, fun hst => hm.none j x hx hst⟩
 rw [h1, h2]; rfl
def Mm {α : Type} (g : Nat → α → Bool) : Nat → List α → Bool
 | _, [] => false
 | i, x :: xs => g i x || Mm g (i + 1) xs
theorem Qa {α : Type} {g : Nat → α → Bool} : ∀ {i : Nat} {xs : List α}, Mm g i xs = true ↔ ∃ j x, xs[j]? = some x ∧ g (i + j) x = true
 | _, [] => by simp [Mm]
 | i, x :: xs => by
  rw [Mm, Bool.or_eq_true, Qa]
  constructor
  ·rintro (h | ⟨j, z, hz, h⟩)
   ·exact ⟨0, x, rfl, h⟩
   ·exact ⟨j + 1, z, by simpa using hz, by rwa [show i + (j + 1) = i + 1 + j from by omega]⟩
  ·rintro ⟨j, z, hz, h⟩
   cases j with
   | zero => simp at hz; subst hz; exact .inl h
   | succ j => exact .inr ⟨j, z, by simpa using hz, by rwa [show i + 1 + j = i + (j + 1) from by omega]⟩
theorem M5 {α β : Type} (g : Nat → α → List β) (h : Nat → α → Bool) : ∀ (i : Nat) (xs : List α) (a : List β) (b : Bool),
  HY (fun i x (s : List β × Bool) => (s.1 ++ g i x, s.2 || h i x)) i xs (a, b) = (a ++ B1 g i xs, b || Mm h i xs)
 | _, [], a, b => by simp [HY, B1, Mm]
 | i, x :: xs, a, b => by rw [HY, M5 g h, B1, Mm, List.append_assoc, Bool.or_assoc]
def gC (i u : Nat) (m : Ae) (t : Ao) (v : Nat) (ok : Bool) : List Aa :=
 if Jn m t.fP.toNat v && (!ok && !t.fS) then [⟨(i : Int), (u : Int), (v : Int)⟩] else []
def hC (m : Ae) (t : Ao) (v : Nat) (ok : Bool) : Bool := Jn m t.fP.toNat v && ok
def Ks (i : Nat) (m : Ae) (t : Ao) (u : Nat) (row : List Bool) : List Aa :=
 B1 (gC i u m t) 0 row ++ if t.fS && !Mm (hC m t) 0 row then [⟨(i : Int), (u : Int), -1⟩] else []
def TZ (m : Ae) (i : Nat) (t : Ao) (u : Nat) : Bool := if B8 t then Es (m.fI.getD i 0) u else Jn m t.fK.toNat u
def J8 (m : Ae) (i : Nat) (t : Ao) : List Aa := B1 (fun u row => if TZ m i t u then Ks i m t u row else []) 0 t.fO
def Fr (p : Ab) (m : Ae) : List Aa := B1 (J8 m) 0 p.fG
structure NA (p : Ab) (t : Ao) : Prop where
 kind : 1 ≤ t.fJ ∧ t.fJ ≤ 4
 aware : t.fS = true → B8 t = false
 from0 : 0 ≤ t.fK ∧ t.fK < (p.fF.length : Int)
 to0 : 0 ≤ t.fP ∧ t.fP < (p.fF.length : Int)
 okL : (t.fO.length : Int) = p.fF.getD t.fK.toNat 0
 okR : ∀ row, row ∈ t.fO → (row.length : Int) = p.fF.getD t.fP.toNat 0
 reL : t.fJ = 4 → (t.fR.length : Int) = p.fF.getD t.fK.toNat 0
 reR : ∀ row, row ∈ t.fR → (row.length : Int) = p.fF.getD t.fK.toNat 0
 reD : t.fJ = 4 → JH t.fR = none
 reN : t.fJ ≠ 4 → t.fR = []
theorem IA {p : Ab} {t : Ao} (h : Ec p t = 0) : NA p t := by
 unfold Ec at h
 split at h
 ·cases h
 rename_i h1
 split at h
 ·cases h
 rename_i h2
 simp only at h
 split at h
 ·cases h
 rename_i h3
 have h3 : sq t.fO (p.fF.getD t.fK.toNat 0) (p.fF.getD t.fP.toNat 0) = true := by simpa using h3
 have h3 := Pk h3
 have ha : t.fS = true → B8 t = false := by
  intro ha
  unfold B8
  rw [Bool.or_eq_false_iff, beq_eq_false_iff_ne, beq_eq_false_iff_ne]
  exact ⟨fun hk => h1 (.inr (.inr ⟨ha, .inl hk⟩)), fun hk => h1 (.inr (.inr ⟨ha, .inr hk⟩))⟩
 split at h
 ·rename_i h4
  split at h
  ·cases h
  rename_i h5
  have h5 : sq t.fR (p.fF.getD t.fK.toNat 0) (p.fF.getD t.fK.toNat 0) = true := by simpa using h5
  have h5 := Pk h5
  refine ⟨by omega, ha, by omega, by omega, h3.1, h3.2, fun _ => h5.1, h5.2, fun _ => ?_, fun h => (h h4).elim⟩
  cases hd : JH t.fR with
  | none => rfl
  | some r =>
   obtain ⟨j, x, _, hx⟩ := E3 hd
   rw [hd] at h
   split at hx
   ·cases hx
   ·cases hx; cases h
 ·rename_i h4
  split at h
  ·rename_i h5
   have h5 := List.eq_nil_of_length_eq_zero h5
   refine ⟨by omega, ha, by omega, by omega, h3.1, h3.2, fun h => (h4 h).elim, fun row hr => ?_, fun h => (h4 h).elim, fun _ => h5⟩
   rw [h5] at hr; cases hr
  ·cases h
theorem Md {R : Type} (b : Bool) (acc : List Aa) (x : Aa) (j : List Aa → Option R) (h : acc.length + 1 ≤ C2) :
  AR b ((Dp (acc.length + ([x] : List Aa).length ≤ C2)).bind fun _ => j (acc ++ [x])) (j acc) = j (acc ++ if b then [x] else []) := by
 cases b
 ·simp
 ·rw [AJ, An (by simpa using h)]; rfl
theorem Ue (N : Nat) (m : Ae) (t : Ao) (i u : Nat) (row : List Bool) (R : Int) (b1 b2 acc : List Aa) (j : List Aa × Bool → Option (List Aa))
  (hN : N ≤ 1000000) (h8 : 8 ≤ N) (hrow : row.length ≤ 6) (hacc : acc.length + 6 ≤ C2) (hR0 : 0 ≤ R) (hR1 : R ≤ 255) (hRb : ∀ v, Es R v = Jn m t.fP.toNat v) :
  Cg N (b1, (i : Int)) t R (b2, (u : Int)) row j N (acc, false, 0) = j (acc ++ B1 (gC i u m t) 0 row, Mm (hC m t) 0 row) := by
 have := HX (A := List Aa × Bool) (Cg N (b1, (i : Int)) t R (b2, (u : Int)) row j) (fun a k => (a.1, a.2, k)) row (fun a => j a) (fun v ok s => (s.1 ++ gC i u m t v ok, s.2 || hC m t v ok))
  (fun v a => v ≤ row.length ∧ a.1.length ≤ acc.length + v)
  (fun n v ok a hx ha => by
   have hv := (lI.1 hx).1
   obtain ⟨c, f⟩ := a
   simp only at ha
   refine ⟨?_, by omega, ?_⟩
   ·rw [Cg]
    simp only [A5]
    rw [AB (by omega), AN, hx]
    simp only [oS]
    rw [An (by omega), Tz hR0 hR1 (by omega), hRb, Az (by omega), Md _ _ _ (fun l => Cg N (b1, (i : Int)) t R (b2, (u : Int)) row j n (l, true, ((v + 1 : Nat) : Int))) (by omega)]
    unfold gC hC
    rw [Md _ _ _ (fun l => Cg N (b1, (i : Int)) t R (b2, (u : Int)) row j n (l, ok, ((v + 1 : Nat) : Int))) (by omega)]
    cases Jn m t.fP.toNat v
    ·simp
    ·cases ok <;> cases f <;> cases t.fS <;> simp
   ·simp only [gC, List.length_append]
    split <;> simp <;> omega)
  (fun n a _ => by
   rw [Cg]
   simp only [A5]
   rw [Aw (by omega)]) N 0 (acc, false) (by omega) (by omega) ⟨by omega, by simp⟩
 have h2 := this.1
 rw [List.drop_zero, M5, Bool.false_or] at h2
 exact h2
theorem Jp {p : Ab} {t : Ao} (hp : A9 p) (ht : NA p t) : t.fO.length ≤ 6 ∧ ∀ row, row ∈ t.fO → row.length ≤ 6 := by
 have h1 := Ku hp.ver ht.from0.1 ht.from0.2
 have h2 := Ku hp.ver ht.to0.1 ht.to0.2
 have h3 := ht.okL
 exact ⟨by omega, fun row hr => by have := ht.okR row hr; omega⟩
theorem VA (i u : Nat) (m : Ae) (t : Ao) (v : Nat) (ok : Bool) : (gC i u m t v ok).length ≤ 1 := by
 unfold gC; split <;> simp
theorem Vu (i : Nat) (m : Ae) (t : Ao) (u : Nat) (row : List Bool) (h : row.length ≤ 6) : (Ks i m t u row).length ≤ 7 := by
 unfold Ks
 rw [List.length_append]
 have := FG (g := gC i u m t) (c := 1) (i := 0) (xs := row) (fun j x _ => VA _ _ _ _ _ _)
 split <;> simp <;> omega
theorem UR (i : Nat) (m : Ae) (t : Ao) (u : Nat) (row : List Bool) (h : row.length ≤ 6) : (if TZ m i t u = true then Ks i m t u row else []).length ≤ 7 := by
 have := Vu i m t u row h
 split <;> simp <;> omega
theorem OT {p : Ab} {t : Ao} (hp : A9 p) (ht : NA p t) (i : Nat) (m : Ae) : (J8 m i t).length ≤ 42 := by
 have h1 := Jp hp ht
 have := FG (g := fun u row => if TZ m i t u = true then Ks i m t u row else []) (c := 7) (i := 0) (xs := t.fO) (fun j x hx => UR i m t _ x (h1.2 x (lM hx)))
 unfold J8
 omega
theorem Ni (N : Nat) (p : Ab) (m : Ae) (t : Ao) (i : Nat) (W R : Int) (b1 acc : List Aa) (j : List Aa → Option (List Aa))
  (hN : N ≤ 1000000) (h8 : 8 ≤ N) (hp : A9 p) (ht : NA p t) (hacc : acc.length + 42 ≤ 10000) (hR0 : 0 ≤ R) (hR1 : R ≤ 255) (hRb : ∀ v, Es R v = Jn m t.fP.toNat v) (hW0 : 0 ≤ W) (hW1 : W ≤ 255) (hWb : ∀ v, Es W v = TZ m i t v) :
  CC N (b1, (i : Int)) t R W j N (acc, 0) = j (acc ++ J8 m i t) := by
 have hl := Jp hp ht
 exact Dc (CC N (b1, (i : Int)) t R W j) (fun a k => (a, k)) t.fO j (fun u row => if TZ m i t u then Ks i m t u row else []) 7 10000
  (fun u row hx => UR i m t u row (hl.2 row (lM hx)))
  (fun n u row a hx ha => by
   have hu := (lI.1 hx).1
   have hrow := hl.2 row (lM hx)
   rw [CC]
   simp only [A5]
   rw [AB (by omega), An (by omega), Tz hW0 hW1 (by omega), hWb, AN, hx]
   simp only [oS]
   rw [Ue N m t i u row R b1 a a _ hN h8 hrow (by unfold C2; omega) hR0 hR1 hRb, Az (by omega)]
   cases hw : TZ m i t u
   ·simp
   ·simp only [Bool.not_true, Ap, if_true, Ks]
    have h1 := FG (g := gC i u m t) (c := 1) (i := 0) (xs := row) (fun j x _ => VA _ _ _ _ _ _)
    have := Md (R := List Aa) (t.fS && !Mm (hC m t) 0 row) (a ++ B1 (gC i u m t) 0 row) ⟨(i : Int), (u : Int), -1⟩ (fun l => CC N (b1, (i : Int)) t R W j n (l, ((u + 1 : Nat) : Int))) (by rw [List.length_append]; unfold C2; rw [hw, if_pos rfl] at ha; omega)
    rw [← List.append_assoc, ← this]
    cases t.fS <;> cases Mm (hC m t) 0 row <;> rfl)
  (fun n a => by
   rw [CC]
   simp only [A5]
   rw [Aw (by omega)]) N acc (by omega) (by omega)
theorem T9 (N : Nat) (p : Ab) (m : Ae) (t : Ao) (i u : Nat) (row : List Bool) (b1 b2 acc : List Aa) (j : List Aa × Bool → Option (List Aa))
  (hN : N ≤ 1000000) (h8 : 8 ≤ N) (hp : A9 p) (hm : MixServ p m) (ht : NA p t) (hu : t.fO[u]? = some row) (hacc : acc.length + 6 ≤ C2) :
  Bu N p m (b1, (i : Int)) t (b2, (u : Int)) j N (acc, false, 0) = j (acc ++ B1 (gC i u m t) 0 row, Mm (hC m t) 0 row) := by
 have hrow := (Jp hp ht).2 row (lM hu)
 have hR := IV hp hm (s := t.fP.toNat) (by have := ht.to0; omega)
 have hlen := ht.okR row (lM hu)
 have hto := ht.to0
 have := HX (A := List Aa × Bool) (Bu N p m (b1, (i : Int)) t (b2, (u : Int)) j) (fun a k => (a.1, a.2, k)) row (fun a => j a) (fun v ok s => (s.1 ++ gC i u m t v ok, s.2 || hC m t v ok))
  (fun v a => v ≤ row.length ∧ a.1.length ≤ acc.length + v)
  (fun n v ok a hx ha => by
   have hv := (lI.1 hx).1
   obtain ⟨c, f⟩ := a
   simp only at ha
   refine ⟨?_, by omega, ?_⟩
   ·rw [Bu]
    simp only [A5]
    rw [Fz (d := 0) hto.1 hto.2, KU N m t.fP hto.1 (by rw [hm.base]; exact hto.2) (by rw [hm.next]; exact hto.2) (hm.b0 _ (by omega)).1, AN, hu]
    simp only [oS]
    unfold CN
    rw [AB (by omega), AN, hx, An (by omega), Us hR.2.1 hR.2.2 (by omega), hR.1]
    simp only [oS]
    rw [Az (by omega), Md _ _ _ (fun l => Bu N p m (b1, (i : Int)) t (b2, (u : Int)) j n (l, true, ((v + 1 : Nat) : Int))) (by omega)]
    unfold gC hC
    rw [Md _ _ _ (fun l => Bu N p m (b1, (i : Int)) t (b2, (u : Int)) j n (l, ok, ((v + 1 : Nat) : Int))) (by omega)]
    cases Jn m t.fP.toNat v
    ·simp
    ·cases ok <;> cases f <;> cases t.fS <;> simp
   ·simp only [gC, List.length_append]
    split <;> simp <;> omega)
  (fun n a _ => by
   rw [Bu]
   simp only [A5]
   rw [Fz (d := 0) hto.1 hto.2]
   simp only [oS]
   rw [Aw (by omega)]) N 0 (acc, false) (by omega) (by omega) ⟨by omega, by simp⟩
 have h2 := this.1
 rw [List.drop_zero, M5, Bool.false_or] at h2
 exact h2
theorem NM (N : Nat) (p : Ab) (m : Ae) (t : Ao) (i : Nat) (W : Int) (b1 acc : List Aa) (j : List Aa → Option (List Aa))
  (hN : N ≤ 1000000) (h8 : 8 ≤ N) (hp : A9 p) (hm : MixServ p m) (ht : NA p t) (hacc : acc.length + 42 ≤ 10000) (hW0 : 0 ≤ W) (hW1 : W ≤ 255) (hWb : ∀ v, Es W v = TZ m i t v) :
  BN N p m (b1, (i : Int)) t W j N (acc, 0) = j (acc ++ J8 m i t) := by
 have hl := Jp hp ht
 have hfr := ht.from0
 have hok := ht.okL
 exact Dc (BN N p m (b1, (i : Int)) t W j) (fun a k => (a, k)) t.fO j (fun u row => if TZ m i t u then Ks i m t u row else []) 7 10000
  (fun u row hx => UR i m t u row (hl.2 row (lM hx)))
  (fun n u row a hx ha => by
   have hu := (lI.1 hx).1
   have hrow := hl.2 row (lM hx)
   rw [BN]
   simp only [A5]
   rw [Fz (d := 0) hfr.1 hfr.2]
   simp only [oS]
   unfold CN
   rw [AB (by omega), An (by omega), Us hW0 hW1 (by omega), hWb]
   simp only [oS]
   rw [T9 N p m t i u row b1 a a _ hN h8 hp hm ht hx (by unfold C2; omega), Az (by omega)]
   cases hw : TZ m i t u
   ·simp
   ·simp only [Bool.not_true, Ap, if_true, Ks]
    have h1 := FG (g := gC i u m t) (c := 1) (i := 0) (xs := row) (fun j x _ => VA _ _ _ _ _ _)
    have := Md (R := List Aa) (t.fS && !Mm (hC m t) 0 row) (a ++ B1 (gC i u m t) 0 row) ⟨(i : Int), (u : Int), -1⟩ (fun l => BN N p m (b1, (i : Int)) t W j n (l, ((u + 1 : Nat) : Int))) (by rw [List.length_append]; unfold C2; rw [hw, if_pos rfl] at ha; omega)
    rw [← List.append_assoc, ← this]
    cases t.fS <;> cases Mm (hC m t) 0 row <;> rfl)
  (fun n a => by
   rw [BN]
   simp only [A5]
   rw [Fz (d := 0) hfr.1 hfr.2]
   simp only [oS]
   rw [Aw (by omega)]) N acc (by omega) (by omega)
theorem Oe (N : Nat) (p : Ab) (m : Ae) (hN : N ≤ 1000000) (h20 : 20 ≤ N) (hp : A9 p) (hm : B0 p m) : Gk N p m = some (Fr p m) := by
 unfold Gk
 have hnt := hp.nt
 rw [Dc (DT N p m _) (fun a k => (a, k)) p.fG some (J8 m) 42 9000
  (fun i t hx => OT hp (IA (hp.tab t (lM hx))) i m)
  (fun n i t a hx ha => by
   have hi := (lI.1 hx).1
   have ht := IA (hp.tab t (lM hx))
   have hto := ht.to0
   have hfr := ht.from0
   have hR := IV hp hm.toMixServ (s := t.fP.toNat) (by omega)
   have hF := IV hp hm.toMixServ (s := t.fK.toNat) (by omega)
   have hH := hm.range i hi
   rw [DT]
   simp only [A5]
   rw [AB (by omega), AN, hx]
   simp only [oS, Kq]
   rw [MM N m t.fK hfr.1 (by rw [hm.base]; exact hfr.2) (by rw [hm.next]; exact hfr.2) (hm.b0 _ (by omega)).1, MM N m t.fP hto.1 (by rw [hm.base]; exact hto.2) (by rw [hm.next]; exact hto.2) (hm.b0 _ (by omega)).1, Dw (d := 0) (by rw [hm.held]; exact hi), Az (by omega)]
   simp only [oS]
   cases hs : B8 t
   ·rw [Ap, Ni N p m t i _ _ a a _ hN (by omega) hp ht (by omega) hR.2.1 hR.2.2 hR.1 hF.2.1 hF.2.2 (fun v => by unfold TZ; rw [hs, hF.1]; rfl)]
   ·rw [AJ, Ni N p m t i _ _ a a _ hN (by omega) hp ht (by omega) hR.2.1 hR.2.2 hR.1 hH.1 hH.2 (fun v => by unfold TZ; rw [hs]; rfl)])
  (fun n a => by
   rw [DT]
   simp only [A5]
   rw [Aw (by omega)]) N [] (by omega) (by simp; omega)]
 rfl
theorem Ou (N : Nat) (p : Ab) (m : Ae) (hN : N ≤ 1000000) (h20 : 20 ≤ N) (hp : A9 p) (hm : B0 p m) : Fi N p m = some (Fr p m) := by
 unfold Fi
 have hnt := hp.nt
 rw [Dc (CV N p m _) (fun a k => (a, k)) p.fG some (J8 m) 42 9000
  (fun i t hx => OT hp (IA (hp.tab t (lM hx))) i m)
  (fun n i t a hx ha => by
   have hi := (lI.1 hx).1
   have ht := IA (hp.tab t (lM hx))
   have hto := ht.to0
   have hfr := ht.from0
   have hF := IV hp hm.toMixServ (s := t.fK.toNat) (by omega)
   have hH := hm.range i hi
   rw [CV]
   simp only [A5]
   rw [AB (by omega), AN, hx]
   simp only [oS, HI]
   rw [KU N m t.fK hfr.1 (by rw [hm.base]; exact hfr.2) (by rw [hm.next]; exact hfr.2) (hm.b0 _ (by omega)).1, Dw (d := 0) (by rw [hm.held]; exact hi), Az (by omega)]
   simp only [oS]
   cases hs : B8 t
   ·rw [Ap, NM N p m t i _ a a _ hN (by omega) hp hm.toMixServ ht (by omega) hF.2.1 hF.2.2 (fun v => by unfold TZ; rw [hs, hF.1]; rfl)]
   ·rw [AJ, NM N p m t i _ a a _ hN (by omega) hp hm.toMixServ ht (by omega) hH.1 hH.2 (fun v => by unfold TZ; rw [hs]; rfl)])
  (fun n a => by
   rw [CV]
   simp only [A5]
   rw [Aw (by omega)]) N [] (by omega) (by simp; omega)]
 rfl
theorem E9 {A S R : Type} (L : Nat → S → Option R) (mk : A → Int → S) (len : Nat) (j : A → Option R) (I : Nat → A → Prop)
  (hs : ∀ (n i : Nat) (a : A), i < len → I i a → ∃ a', L (n + 1) (mk a (i : Int)) = L n (mk a' ((i + 1 : Nat) : Int)) ∧ I (i + 1) a')
  (he : ∀ (n : Nat) (a : A), I len a → L (n + 1) (mk a (len : Int)) = j a) :
  ∀ (n i : Nat) (a : A), i ≤ len → len - i < n → I i a → ∃ a', L n (mk a (i : Int)) = j a' ∧ I len a'
 | 0, i, _, _, h, _ => by omega
 | n + 1, i, a, hi, h, ha => by
  by_cases h1 : i < len
  ·obtain ⟨a', e1, e2⟩ := hs n i a h1 ha
   rw [e1]
   exact E9 L mk len j I hs he n (i + 1) _ (by omega) (by omega) e2
  ·have : i = len := by omega
   subst this
   exact ⟨a, he n a ha, ha⟩
theorem Ke {α : Type} {xs ys : List α} {i : Nat} {d : α} (h : i < xs.length) : (xs ++ ys).getD i d = xs.getD i d := by
 rw [lD, lD, List.getElem?_append_left h]
theorem J3 {α : Type} {xs : List α} {y : α} {i : Nat} {d : α} (h : i = xs.length) : (xs ++ [y]).getD i d = y := by
 subst h; rw [lD, List.getElem?_append_right (Nat.le_refl _)]; simp
theorem Qx {α : Type} {P : Nat → α → Prop} {xs : List α} {y : α} {d : α} {n : Nat} (hn : xs.length = n) (h : ∀ k, k < n → P k (xs.getD k d)) (hy : P n y) : ∀ k, k < n + 1 → P k ((xs ++ [y]).getD k d) := by
 intro k hk
 by_cases h1 : k < n
 ·rw [Ke (by omega)]; exact h k h1
 ·have : k = n := by omega
  subst this
  rw [J3 hn.symm]; exact hy
theorem Wj {l : List Int} (hw : N9 Mn l) (i : Nat) : 0 ≤ l.getD i 0 ∧ l.getD i 0 ≤ 255 := by
 by_cases h : i < l.length
 ·have : l.getD i 0 ∈ l := by rw [lD, List.getElem?_eq_getElem h]; exact List.getElem_mem _
  exact JD (hw _ this)
 ·rw [lD, List.getElem?_eq_none (by omega)]
  exact ⟨by decide, by decide⟩
theorem Rz (N : Nat) {l : List Int} (hw : N9 Mn l) (i : Nat) : EE N l (i : Int) = some (l.getD i 0) := by
 unfold EE
 have h2 := Wj hw i
 by_cases h : i < l.length
 ·rw [AB (by omega), Dw (d := 0) h]
  simp only [oS]
  rw [Cx (by omega) (by omega)]
 ·rw [Aw (by omega), lD, List.getElem?_eq_none (by omega)]; rfl
theorem IC {a n : Int} (ha : 0 ≤ a) (hn : 0 < n) : 0 ≤ Int.tmod a n ∧ Int.tmod a n < n := ⟨Int.tmod_nonneg n ha, Int.tmod_lt_of_pos a hn⟩
theorem aJ {l : List (List Bool)} {n m : Int} (h1 : (l.length : Int) = n) (h2 : ∀ row, row ∈ l → (row.length : Int) = m) : sq l n m = true := by
 unfold sq
 simp only [Bool.and_eq_true, decide_eq_true_eq, List.all_eq_true]
 exact ⟨h1, h2⟩
theorem cc {p : Ab} {t : Ao} (h : NA p t) : Ec p t = 0 := by
 have hk := h.kind
 have hf := h.from0
 have ht := h.to0
 unfold Ec
 rw [if_neg, if_neg (by omega)]
 ·simp only [aJ h.okL h.okR]
  rw [if_neg (by simp)]
  by_cases h4 : t.fJ = 4
  ·rw [if_pos h4, aJ (h.reL h4) h.reR, if_neg (by simp), h.reD h4]; rfl
  ·rw [if_neg h4, h.reN h4]; rfl
 ·rintro (h1 | h1 | ⟨h1, h2⟩)
  ·omega
  ·omega
  ·have := h.aware h1
   unfold B8 at this
   rw [Bool.or_eq_false_iff, beq_eq_false_iff_ne, beq_eq_false_iff_ne] at this
   omega
theorem X8 (N : Nat) (m bad : Int) (diag : Bool) (i : Nat) (acc : List (List Bool)) {_R : Type} (j : List Bool → Option (List (List Bool))) (hN : N ≤ 1000000) (h20 : 20 ≤ N) (hm : 0 ≤ m ∧ m ≤ 6) (hi : i < 6) :
  ∃ row, CB N m bad diag (acc, (i : Int)) j N ([], 0) = j row ∧ (row.length : Int) = m ∧ (diag = true → (i : Int) < m → row.getD i false = true) := by
 obtain ⟨M, rfl⟩ := Int.eq_ofNat_of_zero_le hm.1
 obtain ⟨row, e, h1, h2⟩ := E9 (A := List Bool) (CB N (M : Int) bad diag (acc, (i : Int)) j) (fun a k => (a, k)) M j
  (fun k a => a.length = k ∧ ∀ q, q < k → diag = true → q = i → a.getD q false = true)
  (fun n k a hk ha => by
   refine ⟨a ++ [(diag && decide (i = k)) || (Int.tmod (Gv .u16 bad ((3 * i + k : Nat) : Int)) 2 == 0)], ?_, by simp [ha.1], Qx (P := fun q y => diag = true → q = i → y = true) ha.1 ha.2 (fun h1 h2 => by simp [h1, h2])⟩
   rw [CB]
   simp only [A5]
   rw [AB (by omega), Az (by omega), Cx (n := 3 * (i : Int)) (by omega) (by omega), Cx (n := 3 * (i : Int) + (k : Int)) (by omega) (by omega)]
   have l1 : ∀ y : Bool, a.length + ([y] : List Bool).length ≤ C2 := by intro y; rw [ha.1]; unfold C2; simp; omega
   simp only [An (l1 _), An (show (0 : Int) ≤ 3 * (i : Int) + (k : Int) by omega)]
   have e1 : ((3 * i + k : Nat) : Int) = 3 * (i : Int) + (k : Int) := by omega
   rw [e1]
   have e2 : (((i : Nat) : Int) == ((k : Nat) : Int)) = decide (i = k) := by
    by_cases h : i = k
    ·simp [h]
    ·rw [decide_eq_false h]; exact beq_eq_false_iff_ne.2 (by omega)
   rw [e2]
   cases diag <;> cases decide (i = k) <;> rfl)
  (fun n a _ => by
   rw [CB]
   simp only [A5]
   rw [Aw (by omega)]) N 0 [] (Nat.zero_le _) (by omega) ⟨rfl, fun q hq => by omega⟩
 exact ⟨row, e, by omega, fun hd hlt => h2 i (by omega) hd rfl⟩
theorem Wt (N : Nat) (n m bad : Int) (diag : Bool) (hN : N ≤ 1000000) (h20 : 20 ≤ N) (hn : 0 ≤ n ∧ n ≤ 6) (hm : 0 ≤ m ∧ m ≤ 6) :
  ∃ l, EH N n m bad diag = some l ∧ (l.length : Int) = n ∧ (∀ row, row ∈ l → (row.length : Int) = m) ∧ (diag = true → n = m → JH l = none) := by
 obtain ⟨M, rfl⟩ := Int.eq_ofNat_of_zero_le hn.1
 unfold EH
 obtain ⟨l, e, h1, h2⟩ := E9 (A := List (List Bool)) (CH N (M : Int) m bad diag (fun v => some v)) (fun a k => (a, k)) M some
  (fun k a => a.length = k ∧ ∀ q, q < k → (((a.getD q []).length : Nat) : Int) = m ∧ (diag = true → (q : Int) < m → (a.getD q []).getD q false = true))
  (fun n k a hk ha => by
   obtain ⟨row, e, h1, h2⟩ := X8 (_R := Unit) N m bad diag k a (fun (v5 : List Bool) =>
    (Dp (a.length + (([v5] : List (List Bool))).length ≤ C2)).bind fun _ =>
    CH N (M : Int) m bad diag (fun v => some v) n (a ++ (([v5] : List (List Bool))), (wI .i64 ((k : Int) + 1)))) hN h20 hm (by omega)
   refine ⟨a ++ [row], ?_, by simp [ha.1], Qx (P := fun q y => ((y.length : Nat) : Int) = m ∧ (diag = true → (q : Int) < m → y.getD q false = true)) ha.1 ha.2 ⟨h1, h2⟩⟩
   rw [CH]
   simp only
   rw [AB (by omega), e, An (by rw [ha.1]; unfold C2; simp; omega), Az (by omega)])
  (fun n a _ => by
   rw [CH]
   simp only
   rw [Aw (by omega)]) N 0 [] (Nat.zero_le _) (by omega) ⟨rfl, fun q hq => by omega⟩
 have key : ∀ q row, l[q]? = some row → l.getD q [] = row := fun q row hq => by rw [lD, hq]; rfl
 refine ⟨l, e, by omega, fun row hr => ?_, fun hd hnm => ?_⟩
 ·obtain ⟨q, hq⟩ := List.mem_iff_getElem?.1 hr
  have := (h2 q (by have := (lI.1 hq).1; omega)).1
  rwa [key q row hq] at this
 ·unfold JH
  refine F3 fun q row hq => ?_
  have hlt := (lI.1 hq).1
  have := (h2 q (by omega)).2 hd (by omega)
  rw [key q row hq] at this
  rw [Nat.zero_add, this]; rfl
structure al (p : Ab) : Prop where
 valid : Bk p = 0
 nv : p.fF.length ≤ 3
 nt : p.fG.length ≤ 4
 v3 : ∀ v, v ∈ p.fF → v ≤ 3
theorem WY {p q : Ab} (h : p.fF = q.fF) (t : Ao) : Ec p t = Ec q t := by
 unfold Ec; rw [h]
theorem fg (N : Nat) (d : BJ) (hN : N ≤ 1000000) (h20 : 20 ≤ N) (hw : F4 d) : ∃ p ok, F2 N d = some (p, ok) ∧ (ok = true → al p) := by
 obtain ⟨w1, w2, w3, w4, _⟩ := hw
 unfold F2
 simp only [A5]
 by_cases k1 : 3 < d.fF.length
 ·rw [AB (by omega)]; exact ⟨_, false, rfl, fun h => by cases h⟩
 by_cases k2 : 4 < d.f5.length
 ·rw [Aw (by omega), decide_eq_true (by omega : (4 : Int) < (d.f5.length : Int))]; exact ⟨_, false, rfl, fun h => by cases h⟩
 rw [Aw (by omega), decide_eq_false (by omega : ¬ (4 : Int) < (d.f5.length : Int)), Ap]
 obtain ⟨⟨vs, ns, ts⟩, e, h1, h2, h3, h4⟩ := E9 (A := List Int × List Int × List Int) (C7 N d fun v5 => BG N d v5 (fun v16 => some (Ab.mk v5.1 v5.2.1 v5.2.2 v16, true)) N ([], 0)) (fun a k => (a.1, a.2.1, a.2.2, k)) d.fF.length
  (fun v5 => BG N d v5 (fun v16 => some (Ab.mk v5.1 v5.2.1 v5.2.2 v16, true)) N ([], 0))
  (fun i a => a.1.length = i ∧ a.2.1.length = i ∧ a.2.2.length = i ∧ (∀ k, k < i → (1 ≤ a.1.getD k 0 ∧ a.1.getD k 0 ≤ 3) ∧ (0 ≤ a.2.1.getD k 0 ∧ a.2.1.getD k 0 < a.1.getD k 0) ∧ (0 ≤ a.2.2.getD k 0 ∧ a.2.2.getD k 0 < a.1.getD k 0)))
  (fun n i a hi ha => by
   obtain ⟨vs, ns, ts⟩ := a
   obtain ⟨h1, h2, h3, h4⟩ := ha
   simp only at h1 h2 h3 h4
   have hv := Wj w1 i
   have hb := Wj w2 i
   have hk := Wj w3 i
   have hm := IC (n := 3) hv.1 (by omega)
   obtain ⟨v, hvd⟩ : ∃ v, v = 1 + Int.tmod (d.fF.getD i 0) 3 := ⟨_, rfl⟩
   have m1 := IC (n := v) hb.1 (by omega)
   have m2 := IC (n := v) hk.1 (by omega)
   refine ⟨(vs ++ [v], ns ++ [Int.tmod (d.fL.getD i 0) v], ts ++ [Int.tmod (d.fQ.getD i 0) v]), ?_, by simp [h1], by simp [h2], by simp [h3], ?_⟩
   ·rw [C7]
    simp only
    rw [AB (by omega), Dw (d := 0) hi, Rz N w2, Rz N w3]
    simp only [oS]
    rw [Cx (n := Int.tmod _ _) (by omega) (by omega), Cx (n := 1 + _) (by omega) (by omega), ← hvd, Az (by omega)]
    have l1 : ∀ y : Int, vs.length + ([y] : List Int).length ≤ C2 := by intro y; rw [h1]; unfold C2; simp; omega
    have l2 : ∀ y : Int, ns.length + ([y] : List Int).length ≤ C2 := by intro y; rw [h2]; unfold C2; simp; omega
    have l3 : ∀ y : Int, ts.length + ([y] : List Int).length ≤ C2 := by intro y; rw [h3]; unfold C2; simp; omega
    simp only [An (l1 _), An (l2 _), An (l3 _), An (show v ≠ 0 by omega)]
   ·intro k hk
    simp only
    by_cases hki : k < i
    ·rw [Ke (by omega), Ke (by omega), Ke (by omega)]; exact h4 k hki
    ·have : k = i := by omega
     subst this
     rw [J3 h1.symm, J3 h2.symm, J3 h3.symm]
     omega)
  (fun n a _ => by
   rw [C7]
   simp only
   rw [Aw (by omega)]) N 0 ([], [], []) (Nat.zero_le _) (by omega) ⟨rfl, rfl, rfl, fun k hk => by omega⟩
 simp only at h1 h2 h3 h4
 have e' : C7 N d (fun v5 => BG N d v5 (fun v16 => some (Ab.mk v5.1 v5.2.1 v5.2.2 v16, true)) N ([], 0)) N ([], [], [], 0) = _ := e
 rw [e']
 have hvs : ∀ v, v ∈ vs → 1 ≤ v ∧ v ≤ 3 := by
  intro v hv
  obtain ⟨q, hq⟩ := List.mem_iff_getElem?.1 hv
  have := (h4 q (by have := (lI.1 hq).1; omega)).1
  rwa [lD, hq] at this
 have fin : ∀ QA : List Ao, QA.length ≤ 4 → (∀ t, t ∈ QA → Ec ⟨vs, ns, ts, []⟩ t = 0) → al ⟨vs, ns, ts, QA⟩ := by
  intro QA ht h
  have hp : A9 ⟨vs, ns, ts, QA⟩ := ⟨show vs.length ≤ 6 by omega, show QA.length ≤ 12 by omega, show ns.length = vs.length by omega, show ts.length = vs.length by omega, fun v hv => by have := hvs v hv; omega, fun t ht => by rw [← h t ht]; exact WY rfl t⟩
  exact ⟨SN hp fun i hi => by have := h4 i (by have : i < vs.length := hi; omega); simp only; omega, show vs.length ≤ 3 by omega, ht, fun v hv => (hvs v hv).2⟩
 by_cases k3 : vs.length = 0
 ·refine ⟨_, true, ?_, fun _ => fin [] (by simp) (fun t ht => by cases ht)⟩
  obtain ⟨M, rfl⟩ : ∃ M, N = M + 1 := ⟨N - 1, by omega⟩
  rw [BG]
  simp only [A5]
  rw [k3]
  by_cases k4 : (0 : Int) < (d.f5.length : Int)
  ·rw [AB k4]; rfl
  ·rw [Aw k4]; rfl
 obtain ⟨QA, e2, g1, g2⟩ := E9 (A := List Ao) (BG N d (vs, ns, ts) (fun v16 => some (Ab.mk vs ns ts v16, true))) (fun a k => (a, k)) d.f5.length (fun v16 => some (Ab.mk vs ns ts v16, true))
  (fun i a => a.length = i ∧ ∀ t, t ∈ a → Ec ⟨vs, ns, ts, []⟩ t = 0)
  (fun n i a hi ha => by
   have hx : d.f5[i]? = some d.f5[i] := by simp [hi]
   generalize d.f5[i] = l at hx
   obtain ⟨u1, u2, u3, _, u5, u6, _⟩ := w4 l (lM hx)
   have u1 := JD u1
   have u2 := JD u2
   have u3 := JD u3
   have mk := IC (n := 4) u1.1 (by omega)
   have hL : (0 : Int) < (vs.length : Int) := by omega
   have mf := IC (n := (vs.length : Int)) u2.1 hL
   have mt := IC (n := (vs.length : Int)) u3.1 hL
   rw [BG]
   simp only [A5]
   rw [AB (by omega), decide_eq_true hL, AJ, AN, hx]
   simp only [oS]
   rw [An (by omega), An (by omega), Cx (n := l.fK) (by omega) (by omega), Cx (n := l.fP) (by omega) (by omega), Cx (n := Int.tmod l.fJ 4) (by omega) (by omega), Cx (n := 1 + _) (by omega) (by omega), Az (by omega)]
   simp only [OB, oS]
   rw [Fz (d := 0) mf.1 mf.2, Fz (d := 0) mt.1 mt.2]
   simp only [oS]
   have hA : ∀ q : Int, 0 ≤ q → q < (vs.length : Int) → 1 ≤ vs.getD q.toNat 0 ∧ vs.getD q.toNat 0 ≤ 3 := fun q h0 h1 => (h4 q.toNat (by omega)).1
   have hf := hA _ mf.1 mf.2
   have ht := hA _ mt.1 mt.2
   obtain ⟨A, eA, a1, a2, _⟩ := Wt N (vs.getD (Int.tmod l.fK (vs.length : Int)).toNat 0) (vs.getD (Int.tmod l.fP (vs.length : Int)).toNat 0) l.f7 false hN h20 (by omega) (by omega)
   obtain ⟨B, eB, b1, b2, b3⟩ := Wt N (vs.getD (Int.tmod l.fK (vs.length : Int)).toNat 0) (vs.getD (Int.tmod l.fK (vs.length : Int)).toNat 0) l.f8 true hN h20 (by omega) (by omega)
   rw [eA, eB]
   simp only [oS]
   have l1 : ∀ y : Ao, a.length + ([y] : List Ao).length ≤ C2 := by intro y; rw [ha.1]; unfold C2; simp; omega
   simp only [An (l1 _)]
   obtain ⟨kd, hkd⟩ : ∃ kd, kd = 1 + Int.tmod l.fJ 4 := ⟨_, rfl⟩
   rw [← hkd]
   have fin2 : ∀ (aw : Bool) (re : List (List Bool)), (aw = true → (kd == 3 || kd == 4) = false) → ((kd = 4 → re = B) ∧ (kd ≠ 4 → re = [])) →
     Ec ⟨vs, ns, ts, []⟩ (Ao.mk kd (Int.tmod l.fK (vs.length : Int)) (Int.tmod l.fP (vs.length : Int)) aw A re) = 0 := by
    intro aw re haw hre
    refine cc ⟨show 1 ≤ kd ∧ kd ≤ 4 by omega, haw, mf, mt, a1, a2, fun h => by rw [hre.1 h]; exact b1, fun row hr => ?_, fun h => by rw [hre.1 h]; exact b3 rfl rfl, fun h => hre.2 h⟩
    by_cases h4 : kd = 4
    ·simp only at hr; rw [hre.1 h4] at hr; exact b2 row hr
    ·simp only at hr; rw [hre.2 h4] at hr; cases hr
   have app : ∀ t, Ec ⟨vs, ns, ts, []⟩ t = 0 → (a ++ [t]).length = i + 1 ∧ ∀ t', t' ∈ a ++ [t] → Ec ⟨vs, ns, ts, []⟩ t' = 0 := by
    intro t ht
    refine ⟨by simp [ha.1], fun t' ht' => ?_⟩
    rcases List.mem_append.1 ht' with h | h
    ·exact ha.2 t' h
    ·rw [List.mem_singleton.1 h]; exact ht
   by_cases h4 : kd = 4
   ·have e4 : (kd == 4) = true := beq_iff_eq.2 h4
    have hre : (kd = 4 → B = B) ∧ (kd ≠ 4 → B = []) := ⟨fun _ => rfl, fun h => (h h4).elim⟩
    rw [e4]
    simp only [AJ, Bool.or_true, Bool.not_true]
    cases l.fS
    ·exact ⟨_, rfl, app _ (fin2 false B (fun h => by cases h) hre)⟩
    ·exact ⟨_, rfl, app _ (fin2 false B (fun h => by cases h) hre)⟩
   ·have e4 : (kd == 4) = false := beq_eq_false_iff_ne.2 h4
    have hre : (kd = 4 → ([] : List (List Bool)) = B) ∧ (kd ≠ 4 → ([] : List (List Bool)) = []) := ⟨fun h => (h4 h).elim, fun _ => rfl⟩
    rw [e4]
    simp only [Ap, Bool.or_false]
    cases l.fS
    ·exact ⟨_, rfl, app _ (fin2 false [] (fun h => by cases h) hre)⟩
    ·cases e3 : kd == 3
     ·exact ⟨_, rfl, app _ (fin2 true [] (fun _ => by rw [e3, e4]; rfl) hre)⟩
     ·exact ⟨_, rfl, app _ (fin2 false [] (fun h => by cases h) hre)⟩)
  (fun n a _ => by
   rw [BG]
   simp only [A5]
   rw [Aw (by omega), Ap]) N 0 [] (Nat.zero_le _) (by omega) ⟨rfl, fun t ht => by cases ht⟩
 exact ⟨_, true, e2, fun _ => fin QA (by omega) g2⟩
def Jj : List Int → Nat → Nat
 | [], _ => 0
 | _, 0 => 0
 | n :: ns, q + 1 => (if 0 ≤ n then 1 else 0) + Jj ns q
theorem JV (l : List Int) : Jj l 0 = 0 := by cases l <;> rfl
theorem Id : ∀ (l : List Int) (q : Nat), q < l.length → Jj l (q + 1) = Jj l q + if 0 ≤ l.getD q 0 then 1 else 0
 | [], q, h => by simp at h
 | n :: ns, 0, _ => by simp [Jj, JV]
 | n :: ns, q + 1, h => by
  rw [Jj, Id ns q (by simpa using h), Jj, List.getD_cons_succ, Nat.add_assoc]
theorem Qi (l : List Int) {a b : Nat} (h : a ≤ b) (hb : b ≤ l.length) : Jj l a ≤ Jj l b := by
 induction b with
 | zero => rw [Nat.le_zero.1 h]; exact Nat.le_refl _
 | succ b ih =>
  by_cases h1 : a = b + 1
  ·rw [h1]; exact Nat.le_refl _
  ·have := ih (by omega) (by omega)
   rw [Id l b (by omega)]; omega
theorem LI (l : List Int) : ∀ q, q ≤ l.length → Jj l q ≤ q
 | 0, _ => by rw [JV]; exact Nat.le_refl _
 | q + 1, h => by
  have := LI l q (by omega)
  rw [Id l q h]
  split <;> omega
def OE (l : List Int) (k q : Nat) : Int := if 0 ≤ l.getD q 0 ∧ k.testBit (Jj l q) = true then -1 else l.getD q 0
def YX (l : List Int) (k : Nat) : List Int := (List.range l.length).map (OE l k)
def bH (m : Ae) (k : Nat) : Ae := ⟨m.fH, YX m.fE k, m.fI⟩
def GU (m : Ae) : List Ae := (List.range (2 ^ Jj m.fE m.fE.length)).map (bH m)
theorem NO (l : List Int) (k : Nat) : (YX l k).length = l.length := by simp [YX]
theorem R6 (l : List Int) (k q : Nat) (h : q < l.length) : (YX l k).getD q 0 = OE l k q := by
 unfold YX; rw [lD, List.getElem?_map, List.getElem?_range h]; rfl
theorem F7 {l1 l2 : List Int} (h1 : l1.length = l2.length) (h : ∀ q, q < l1.length → l1.getD q 0 = l2.getD q 0) : l1 = l2 := by
 apply List.ext_getElem h1
 intro q h2 h3
 have := h q h2
 rw [lD, lD, List.getElem?_eq_getElem h2, List.getElem?_eq_getElem h3] at this
 exact this
theorem Wm : ∀ (k : Fin 64) (b : Fin 7), Hk .i64 (Gv .i64 (k.val : Int) (b.val : Int)) 1 = (if k.val.testBit b.val then 1 else 0) ∧ Int.tmod (Gv .i64 (k.val : Int) (b.val : Int)) 2 = (if k.val.testBit b.val then 1 else 0) := by decide +kernel
theorem Zo : ∀ n : Fin 7, Ex .i64 1 (n.val : Int) = ((2 ^ n.val : Nat) : Int) := by decide +kernel
structure QE (m x : Ae) : Prop where
 base : x.fH = m.fH
 held : x.fI = m.fI
 len : x.fE.length = m.fE.length
 next : ∀ q, q < m.fE.length → x.fE.getD q 0 = m.fE.getD q 0 ∨ (0 ≤ m.fE.getD q 0 ∧ x.fE.getD q 0 = -1)
theorem QE.refl (m : Ae) : QE m m := ⟨rfl, rfl, rfl, fun _ _ => .inl rfl⟩
theorem QE.trans {a b c : Ae} (h1 : QE a b) (h2 : QE b c) : QE a c :=
 ⟨h2.base.trans h1.base, h2.held.trans h1.held, h2.len.trans h1.len, fun q hq => by
  have e1 := h1.next q hq
  have e2 := h2.next q (by rw [h1.len]; exact hq)
  omega⟩
theorem Yw (m : Ae) (k : Nat) : QE m (bH m k) :=
 ⟨rfl, rfl, NO _ _, fun q hq => by
  show (YX m.fE k).getD q 0 = _ ∨ _ ∧ (YX m.fE k).getD q 0 = _
  rw [R6 _ _ _ hq]; unfold OE
  split
  ·rename_i h; exact .inr ⟨h.1, rfl⟩
  ·exact .inl rfl⟩
theorem Wr : ∀ (l x : List Int), x.length = l.length → (∀ q, q < l.length → x.getD q 0 = l.getD q 0 ∨ (0 ≤ l.getD q 0 ∧ x.getD q 0 = -1)) → ∃ k, k < 2 ^ Jj l l.length ∧ ∀ q, q < l.length → x.getD q 0 = OE l k q
 | [], x, h, _ => ⟨0, by simp [Jj], fun q hq => by simp at hq⟩
 | n :: ns, [], h, _ => by simp at h
 | n :: ns, y :: ys, h, hq => by
  obtain ⟨k, hk, hk2⟩ := Wr ns ys (by simpa using h) (fun q hq' => by have := hq (q + 1) (by simpa using hq'); simpa using this)
  have h0 := hq 0 (by simp)
  simp only [List.getD_cons_zero] at h0
  by_cases hn : 0 ≤ n
  ·refine ⟨2 * k + if y = n then 0 else 1, ?_, ?_⟩
   ·rw [List.length_cons, Jj, if_pos hn, Nat.pow_add]
    split <;> omega
   ·intro q hq'
    cases q with
    | zero =>
     simp only [List.getD_cons_zero, OE, JV]
     by_cases hy : y = n
     ·simp [hy]
     ·rw [if_neg hy, if_pos ⟨hn, by simp⟩]; omega
    | succ q =>
     have := hk2 q (by simpa using hq')
     simp only [List.getD_cons_succ, OE, Jj, if_pos hn] at this ⊢
     rw [this, Nat.add_comm 1, Nat.testBit_succ]
     have : (2 * k + if y = n then 0 else 1) / 2 = k := by split <;> omega
     rw [this]
  ·refine ⟨k, ?_, ?_⟩
   ·rw [List.length_cons, Jj, if_neg hn, Nat.zero_add]; exact hk
   ·intro q hq'
    cases q with
    | zero =>
     simp only [List.getD_cons_zero, OE, JV]
     rw [if_neg (fun h => hn h.1)]
     omega
    | succ q =>
     have := hk2 q (by simpa using hq')
     simp only [List.getD_cons_succ, OE, Jj, if_neg hn, Nat.zero_add] at this ⊢
     exact this
theorem QB {m x : Ae} : x ∈ GU m ↔ QE m x := by
 unfold GU
 rw [List.mem_map]
 constructor
 ·rintro ⟨k, _, rfl⟩; exact Yw m k
 ·intro h
  obtain ⟨k, hk, hq⟩ := Wr m.fE x.fE h.len h.next
  refine ⟨k, List.mem_range.2 hk, ?_⟩
  have : YX m.fE k = x.fE := F7 (by rw [NO, h.len]) fun q hq' => by
   rw [NO] at hq'
   rw [R6 _ _ _ hq', hq q hq']
  unfold bH
  rw [this, ← h.base, ← h.held]
theorem bY {m x : Ae} (h : QE m x) {s : Nat} (hs : s < m.fE.length) {v : Nat} (hv : Jn x s v = true) : Jn m s v = true := by
 unfold Jn at hv ⊢
 rw [h.base] at hv
 have := h.next s hs
 simp only [Bool.or_eq_true, decide_eq_true_eq] at hv ⊢
 omega
theorem aq {p : Ab} {m x : Ae} (hp : A9 p) (hm : B0 p m) (h : QE m x) : B0 p x := by
 refine ⟨⟨by rw [h.base]; exact hm.base, by rw [h.len]; exact hm.next, by rw [h.held]; exact hm.held, fun i hi => by rw [h.base]; exact hm.b0 i hi, fun i hi => ?_, fun i hi => ?_⟩, fun i hi => by rw [h.held]; exact hm.range i hi, fun i t ht hs v hv => ?_, fun i t ht hs v hv => ?_, fun i t ht hs => by rw [h.held]; exact hm.none i t ht hs⟩
 ·have h1 := hm.n0 i hi
  have h2 := h.next i (by rw [hm.next]; exact hi)
  have h3 := I2 hp hi
  omega
 ·have h1 := hm.ne i hi
  have h2 := h.next i (by rw [hm.next]; exact hi)
  have h3 := hm.b0 i hi
  rw [h.base]
  omega
 ·have hin := (IA (hp.tab t (lM ht))).from0
  rw [h.held]
  exact hm.low i t ht hs v (bY h (by rw [hm.next]; omega) hv)
 ·rw [h.held] at hv
  exact hm.high i t ht hs v hv
theorem KF (N : Nat) (l : List Int) (h : l.length ≤ C2) : A0 N l = some l := by
 unfold A0
 rw [An (by simpa using h)]; rfl
theorem RC (N : Nat) (l : List Int) (h : l.length ≤ C2) : B5 N l = some l := by
 unfold B5
 rw [An (by simpa using h)]; rfl
theorem JR {l : List Int} {i q : Nat} {y : Int} (hi : i < l.length) : (l.set i y).getD q 0 = if q = i then y else l.getD q 0 := by
 rw [lD, lD, List.getElem?_set]
 by_cases h : i = q
 ·subst h; simp [hi]
 ·rw [if_neg h, if_neg (fun e => h e.symm)]
theorem Z9 {l : List Int} {a b : Nat} (ha : a < l.length) (hb : b < l.length) (h1 : 0 ≤ l.getD a 0) (h2 : 0 ≤ l.getD b 0) (h : Jj l a = Jj l b) : a = b := by
 rcases Nat.lt_trichotomy a b with h3 | h3 | h3
 ·have := Qi l (a := a + 1) (b := b) h3 (by omega)
  rw [Id l a ha, if_pos h1] at this; omega
 ·exact h3
 ·have := Qi l (a := b + 1) (b := a) h3 (by omega)
  rw [Id l b hb, if_pos h2] at this; omega
structure YO (l : List Int) (o : List Int) : Prop where
 len : o.length = Jj l l.length
 at_ : ∀ b, b < o.length → ∃ i : Nat, o.getD b 0 = (i : Int) ∧ i < l.length ∧ 0 ≤ l.getD i 0 ∧ Jj l i = b
theorem UE (N : Nat) (l o : List Int) (k : Nat) (acc : List Ae) (hN : N ≤ 1000000) (h20 : 20 ≤ N) (hl : l.length ≤ 6) (ho : YO l o) (hk : k < 64) (j : List Int → Option (List Ae × Int)) :
  Dr N o (acc, (k : Int)) j N (l, 0) = j (YX l k) := by
 have hol := LI l l.length (Nat.le_refl _)
 have hoL := ho.len
 obtain ⟨x, e, h1, h2⟩ := E9 (A := List Int) (Dr N o (acc, (k : Int)) j) (fun a k => (a, k)) o.length j
  (fun b a => a.length = l.length ∧ ∀ q, q < l.length → a.getD q 0 = if 0 ≤ l.getD q 0 ∧ Jj l q < b ∧ k.testBit (Jj l q) = true then -1 else l.getD q 0)
  (fun n b a hb ha => by
   obtain ⟨i, hi1, hi2, hi3, hi4⟩ := ho.at_ b hb
   have hbit := Wm ⟨k, hk⟩ ⟨b, by omega⟩
   rw [Dr]
   simp only [A5]
   rw [AB (by omega), Dw (d := 0) hb]
   simp only [oS]
   rw [An (by omega), hi1, hbit.1, Dw (d := 0) (show i < a.length by rw [ha.1]; exact hi2), Az (by omega)]
   simp only [oS, Int.toNat_natCast]
   cases hkb : k.testBit b
   ·refine ⟨a, rfl, ha.1, fun q hq => ?_⟩
    rw [ha.2 q hq]
    by_cases hqb : Jj l q = b
    ·rw [hqb, hkb]; simp
    ·by_cases h3 : Jj l q < b
     ·have : Jj l q < b + 1 := by omega
      simp [h3, this]
     ·have : ¬ Jj l q < b + 1 := by omega
      simp [h3, this]
   ·refine ⟨a.set i (-1), rfl, by simp [ha.1], fun q hq => ?_⟩
    rw [JR (by rw [ha.1]; exact hi2), ha.2 q hq]
    by_cases hqi : q = i
    ·subst hqi
     rw [if_pos rfl, if_pos ⟨hi3, by omega, by rw [hi4]; exact hkb⟩]
    ·rw [if_neg hqi]
     by_cases h0 : 0 ≤ l.getD q 0
     ·have hne : Jj l q ≠ b := fun h => hqi (Z9 hq hi2 h0 hi3 (by omega))
      by_cases h3 : Jj l q < b
      ·have : Jj l q < b + 1 := by omega
       simp [h3, this]
      ·have : ¬ Jj l q < b + 1 := by omega
       simp [h3, this]
     ·rw [if_neg (fun h => h0 h.1), if_neg (fun h => h0 h.1)])
  (fun n a _ => by
   rw [Dr]
   simp only [A5]
   rw [Aw (by omega)]) N 0 l (Nat.zero_le _) (by omega) ⟨rfl, fun q hq => by simp⟩
 have e' : Dr N o (acc, (k : Int)) j N (l, 0) = j x := e
 rw [e']
 congr 1
 refine F7 (by rw [NO, h1]) fun q hq => ?_
 rw [h1] at hq
 rw [h2 q hq, R6 _ _ _ hq, OE]
 by_cases h0 : 0 ≤ l.getD q 0
 ·have h3 := Qi l (a := q + 1) (b := l.length) hq (Nat.le_refl _)
  rw [Id l q hq, if_pos h0] at h3
  have : Jj l q < o.length := by omega
  simp [this]
 ·rw [if_neg (fun h => h0 h.1), if_neg (fun h => h0 h.1)]
theorem Tt (N : Nat) (m : Ae) (k : Nat) (acc : List Ae) (hN : N ≤ 1000000) (h20 : 20 ≤ N) (hl : m.fE.length ≤ 6) (hk : k < 64) (j : List Int → Option (List Ae)) :
  B9 N m (acc, (k : Int)) j N (m.fE, 0, 0) = j (YX m.fE k) := by
 obtain ⟨⟨x, pl⟩, e, h1, h2, h3⟩ := E9 (A := List Int × Nat) (B9 N m (acc, (k : Int)) j) (fun a k => (a.1, (a.2 : Int), k)) m.fE.length (fun a => j a.1)
  (fun i a => a.2 = Jj m.fE i ∧ a.1.length = m.fE.length ∧ ∀ q, q < m.fE.length → a.1.getD q 0 = if q < i then OE m.fE k q else m.fE.getD q 0)
  (fun n i a hi ha => by
   obtain ⟨a, pl⟩ := a
   obtain ⟨a1, a2, a3⟩ := ha
   simp only at a1 a2 a3
   have hple := LI m.fE i (by omega)
   have hbit := Wm ⟨k, hk⟩ ⟨pl, by omega⟩
   have hs := Id m.fE i hi
   rw [B9]
   simp only [A5]
   rw [AB (by omega), Dw (d := 0) hi]
   simp only [oS]
   rw [Az (by omega)]
   by_cases h0 : m.fE.getD i 0 < 0
   ·rw [AB h0]
    refine ⟨(a, pl), rfl, by simp only; rw [hs, if_neg (by omega), a1]; rfl, a2, fun q hq => ?_⟩
    simp only
    rw [a3 q hq]
    by_cases hqi : q = i
    ·subst hqi
     rw [if_neg (by omega), if_pos (by omega), OE, if_neg (by omega)]
    ·by_cases h4 : q < i
     ·rw [if_pos h4, if_pos (by omega)]
     ·rw [if_neg h4, if_neg (by omega)]
   ·rw [Aw h0, An (by omega), Dw (d := 0) (show i < a.length by omega), hbit.2, Az (by omega)]
    simp only [oS, Int.toNat_natCast]
    cases hkb : k.testBit pl
    ·refine ⟨(a, pl + 1), rfl, by simp only; rw [hs, if_pos (by omega), a1], a2, fun q hq => ?_⟩
     simp only
     rw [a3 q hq]
     by_cases hqi : q = i
     ·subst hqi
      rw [if_neg (by omega), if_pos (by omega), OE, ← a1, hkb]; simp
     ·by_cases h4 : q < i
      ·rw [if_pos h4, if_pos (by omega)]
      ·rw [if_neg h4, if_neg (by omega)]
    ·refine ⟨(a.set i (-1), pl + 1), rfl, by simp only; rw [hs, if_pos (by omega), a1], by simp [a2], fun q hq => ?_⟩
     simp only
     rw [JR (by omega), a3 q hq]
     by_cases hqi : q = i
     ·subst hqi
      rw [if_pos rfl, if_pos (by omega), OE, ← a1, if_pos ⟨by omega, hkb⟩]
     ·rw [if_neg hqi]
      by_cases h4 : q < i
      ·rw [if_pos h4, if_pos (by omega)]
      ·rw [if_neg h4, if_neg (by omega)])
  (fun n a _ => by
   rw [B9]
   simp only [A5]
   rw [Aw (by omega)]) N 0 (m.fE, 0) (Nat.zero_le _) (by omega) ⟨(JV _).symm, rfl, fun q hq => by simp⟩
 have e' : B9 N m (acc, (k : Int)) j N (m.fE, 0, 0) = j x := e
 rw [e']
 congr 1
 simp only at h2 h3
 refine F7 (by rw [NO, h2]) fun q hq => ?_
 rw [h2] at hq
 rw [h3 q hq, if_pos hq, R6 _ _ _ hq]
theorem X9 (N : Nat) (m : Ae) (hN : N ≤ 1000000) (h20 : 20 ≤ N) (hl : m.fE.length ≤ 6) (j : List Int → Option (List Ae × Int)) :
  ∃ o, Ep N m j N ([], 0) = j o ∧ YO m.fE o := by
 obtain ⟨o, e, h1, h2⟩ := E9 (A := List Int) (Ep N m j) (fun a k => (a, k)) m.fE.length j
  (fun i o => o.length = Jj m.fE i ∧ ∀ b, b < o.length → ∃ q : Nat, o.getD b 0 = (q : Int) ∧ q < m.fE.length ∧ 0 ≤ m.fE.getD q 0 ∧ Jj m.fE q = b)
  (fun n i o hi ho => by
   have hple := LI m.fE i (by omega)
   have hs := Id m.fE i hi
   rw [Ep]
   simp only [A5]
   rw [AB (by omega), Dw (d := 0) hi]
   simp only [oS]
   rw [Az (by omega)]
   by_cases h0 : 0 ≤ m.fE.getD i 0
   ·rw [AB h0, An (by rw [ho.1]; unfold C2; simp; omega)]
    refine ⟨o ++ [(i : Int)], rfl, by rw [hs, if_pos h0, ← ho.1]; simp, ?_⟩
    rw [List.length_append]
    exact Qx (P := fun b y => ∃ q : Nat, y = (q : Int) ∧ q < m.fE.length ∧ 0 ≤ m.fE.getD q 0 ∧ Jj m.fE q = b) rfl ho.2 ⟨i, rfl, hi, h0, ho.1.symm⟩
   ·rw [Aw h0]
    exact ⟨o, rfl, by rw [hs, if_neg h0, ho.1]; rfl, ho.2⟩)
  (fun n a _ => by
   rw [Ep]
   simp only [A5]
   rw [Aw (by omega)]) N 0 [] (Nat.zero_le _) (by omega) ⟨(JV _).symm, fun b hb => by simp at hb⟩
 exact ⟨o, e, h1, h2⟩
theorem MR {n : Nat} (h : n ≤ 6) : 2 ^ n ≤ 64 := Nat.pow_le_pow_right (n := 2) (by omega) h
theorem Ph {n : Nat} (h : n ≤ 6) : Ex .i64 1 (n : Int) = ((2 ^ n : Nat) : Int) := Zo ⟨n, by omega⟩
theorem LU {β : Type} (f : Nat → β) (n : Nat) : (List.range (n + 1)).map f = (List.range n).map f ++ [f n] := by
 rw [List.range_succ, List.map_append]; rfl
theorem QP (N : Nat) (p : Ab) (m : Ae) (hN : N ≤ 1000000) (h20 : 100 ≤ N) (hw : N9 Mn m.fI) (hv : Gm p m = 0) : HF N p m = some (GU m, 0) := by
 obtain ⟨hp, hm⟩ := KG hw hv
 have hnv := hp.nv
 have hnt := hp.nt
 have hl : m.fE.length ≤ 6 := by rw [hm.next]; omega
 unfold HF
 rw [Je N p m hN (by omega) hw, hv]
 simp only [oS, bne_self_eq_false, Ap]
 obtain ⟨o, e, ho⟩ := X9 N m hN (by omega) hl (fun (v4 : (List Int)) =>
   (Dp (0 ≤ (v4.length : Int))).bind fun _ =>
   Dv N m v4 (fun (v12 : (List Ae)) =>
    some (v12, 0)) N (([] : List Ae), 0))
 rw [e, An (by omega)]
 have hoL := ho.len
 have hol := LI m.fE m.fE.length (Nat.le_refl _)
 have hpow := MR (show Jj m.fE m.fE.length ≤ 6 by omega)
 obtain ⟨a, e2, h1⟩ := E9 (A := List Ae) (Dv N m o fun v12 => some (v12, 0)) (fun a k => (a, k)) (2 ^ Jj m.fE m.fE.length) (fun v12 => some (v12, 0))
  (fun i a => a = (List.range i).map (bH m))
  (fun n i a hi ha => by
   refine ⟨a ++ [bH m i], ?_, by rw [LU, ha]⟩
   have hal : a.length = i := by rw [ha]; simp
   rw [Dv]
   rw [hoL, Ph (n := Jj m.fE m.fE.length) (by omega), AB (by omega), KF N m.fH (by have := hm.base; unfold C2; omega), KF N m.fE (by unfold C2; omega), RC N m.fI (by have := hm.held; unfold C2; omega)]
   simp only [oS]
   rw [UE N m.fE o i a hN (by omega) hl ho (by omega), An (by rw [hal]; unfold C2; simp; omega), Az (by omega)]
   rfl)
  (fun n a _ => by
   rw [Dv]
   rw [hoL, Ph (n := Jj m.fE m.fE.length) (by omega), Aw (by simp)]) N 0 [] (Nat.zero_le _) (by omega) rfl
 have e2' : Dv N m o (fun v12 => some (v12, 0)) N ([], 0) = some (a, 0) := e2
 rw [e2', h1]; rfl
theorem UW (N : Nat) (m : Ae) (h1 : m.fH.length ≤ C2) (h2 : m.fE.length ≤ C2) (h3 : m.fI.length ≤ C2) : EW N m = some m := by
 unfold EW
 rw [An (by simpa using h1), An (by simpa using h2), An (by simpa using h3)]; rfl
theorem US (N : Nat) (m : Ae) (hN : N ≤ 1000000) (h20 : 100 ≤ N) (h1 : m.fH.length ≤ 100) (hl : m.fE.length ≤ 6) (h3 : m.fI.length ≤ 100) : E2 N m = some (GU m) := by
 unfold E2
 obtain ⟨c, e, hc⟩ := E9 (A := Nat) (CT N m (fun (v2 : Int) =>
  BE N m v2 (fun (v8 : (List Ae)) => some v8) N (([] : List Ae), 0))) (fun a k => ((a : Int), k)) m.fE.length (fun a => BE N m (a : Int) (fun (v8 : (List Ae)) => some v8) N (([] : List Ae), 0))
  (fun i a => a = Jj m.fE i)
  (fun n i a hi ha => by
   have hple := LI m.fE i (by omega)
   have hs := Id m.fE i hi
   rw [CT]
   simp only [A5]
   rw [AB (by omega), Dw (d := 0) hi]
   simp only [oS]
   rw [Az (by omega), Az (by omega)]
   by_cases h0 : 0 ≤ m.fE.getD i 0
   ·rw [AB h0]
    exact ⟨a + 1, rfl, by rw [hs, if_pos h0, ha]⟩
   ·rw [Aw h0]
    exact ⟨a, rfl, by rw [hs, if_neg h0, ha]; rfl⟩)
  (fun n a _ => by
   rw [CT]
   simp only [A5]
   rw [Aw (by omega)]) N 0 0 (Nat.zero_le _) (by omega) (JV _).symm
 have e' : CT N m (fun (v2 : Int) => BE N m v2 (fun (v8 : (List Ae)) => some v8) N (([] : List Ae), 0)) N (0, 0) = _ := e
 rw [e', hc]
 have hol := LI m.fE m.fE.length (Nat.le_refl _)
 have hpow := MR (show Jj m.fE m.fE.length ≤ 6 by omega)
 obtain ⟨a, e2, h1⟩ := E9 (A := List Ae) (BE N m (Jj m.fE m.fE.length : Int) fun v8 => some v8) (fun a k => (a, k)) (2 ^ Jj m.fE m.fE.length) some
  (fun i a => a = (List.range i).map (bH m))
  (fun n i a hi ha => by
   refine ⟨a ++ [bH m i], ?_, by rw [LU, ha]⟩
   have hal : a.length = i := by rw [ha]; simp
   rw [BE]
   rw [An (by omega), Ph (n := Jj m.fE m.fE.length) (by omega), AB (by omega), UW N m (by unfold C2; omega) (by unfold C2; omega) (by unfold C2; omega)]
   simp only [oS]
   rw [Tt N m i a hN (by omega) hl (by omega), An (by rw [hal]; unfold C2; simp; omega), Az (by omega)]
   rfl)
  (fun n a _ => by
   rw [BE]
   rw [An (by omega), Ph (n := Jj m.fE m.fE.length) (by omega), Aw (by simp)]) N 0 [] (Nat.zero_le _) (by omega) rfl
 have e2' : BE N m (Jj m.fE m.fE.length : Int) (fun v8 => some v8) N ([], 0) = some a := e2
 rw [e2', h1]; rfl
theorem UM (N : Nat) (p : Ab) (m : Ae) (hN : N ≤ 1000000) (h20 : 100 ≤ N) (hp : A9 p) (hm : B0 p m) : E2 N m = some (GU m) := by
 have := hp.nv
 have := hp.nt
 exact US N m hN h20 (by rw [hm.base]; omega) (by rw [hm.next]; omega) (by rw [hm.held]; omega)
theorem MA {p : Ab} {m : Ae} (hm : B0 p m) : N9 Mn m.fI := by
 intro x hx
 obtain ⟨q, hq⟩ := List.mem_iff_getElem?.1 hx
 have h1 := (lI.1 hq).1
 have := hm.range q (by rw [← hm.held]; exact h1)
 rw [lD, hq] at this
 unfold Mn
 simp only [Option.getD_some] at this
 simp [Lit.wf, IntKind.min, IntKind.max, IntKind.signed, IntKind.bits]
 omega
def K3 (p : Ab) (x : Ae) : Option (Ae × Aa) := match Fr p x with
 | [] => none
 | c :: _ => some (x, c)
def Ox (p : Ab) (m : Ae) : Option (Ae × Aa) := DG (fun _ x => K3 p x) 0 (GU m)
def Ih : Ae := ⟨[], [], []⟩
def XJ : Aa := ⟨0, 0, 0⟩
def Vp (p : Ab) (m : Ae) : Ae × Aa × Int := match Ox p m with
 | some (x, c) => (x, c, 0)
 | none => (Ih, XJ, 15)
def Bq (p : Ab) (m : Ae) : Bool := (Ox p m).isNone
theorem Px {m : Ae} (hl : m.fE.length ≤ 6) : (GU m).length ≤ 64 := by
 unfold GU
 have hol := LI m.fE m.fE.length (Nat.le_refl _)
 have hpow := MR (show Jj m.fE m.fE.length ≤ 6 by omega)
 simpa using hpow
theorem Lt {α R R' : Type} (f : Nat → α → Option R) (g : R → R') : ∀ (i : Nat) (xs : List α), DG (fun i x => (f i x).map g) i xs = (DG f i xs).map g
 | _, [] => rfl
 | i, x :: xs => by
  rw [Gn, Gn]
  cases f i x
  ·exact Lt f g (i + 1) xs
  ·rfl
theorem SU (N : Nat) (p : Ab) (m : Ae) (hN : N ≤ 1000000) (h20 : 100 ≤ N) (hw : N9 Mn m.fI) (hv : Gm p m = 0) : H8 N p m = some (Vp p m) := by
 obtain ⟨hp, hm⟩ := KG hw hv
 have hnv := hp.nv
 unfold H8
 rw [QP N p m hN h20 hw hv]
 simp only [oS, bne_self_eq_false, Ap]
 have hal := Px (m := m) (by rw [hm.next]; omega)
 have := CZ (Fq N p (GU m, 0) fun _ => some (Ih, XJ, 15)) (GU m) (some (Ih, XJ, 15)) (fun _ x => (K3 p x).map fun y => (y.1, y.2, 0))
  (fun n i x hx => by
   have hi := (lI.1 hx).1
   have hx2 := aq hp hm (QB.1 (lM hx))
   rw [Fq, AB (by simp only; omega)]
   simp only [AN, hx, oS]
   rw [Oe N p x hN (by omega) hp hx2, Az (by omega)]
   simp only [oS, K3]
   cases Fr p x with
   | nil => rfl
   | cons c cs => rw [AB (by simp only [List.length_cons]; omega)]; rfl)
  (fun n => by rw [Fq, Aw (by simp)]) N 0 (Nat.zero_le _) (by omega)
 rw [List.drop_zero, Lt] at this
 exact this.trans (by
  unfold Vp Ox
  cases DG (fun _ x => K3 p x) 0 (GU m) <;> rfl)
theorem Kl (N : Nat) (p : Ab) (m : Ae) (hN : N ≤ 1000000) (h20 : 100 ≤ N) (hw : N9 Mn m.fI) (hv : Gm p m = 0) : GP N p m = some (Bq p m, 0) := by
 unfold GP
 rw [SU N p m hN h20 hw hv]
 unfold Bq Vp
 cases Ox p m <;> rfl
theorem TX {α R : Type} {f : Nat → α → Option R} {i : Nat} {xs : List α} : (DG f i xs).isNone = true ↔ ∀ j x, xs[j]? = some x → f (i + j) x = none := by
 constructor
 ·intro h
  exact Fp (Option.isNone_iff_eq_none.1 h)
 ·intro h
  rw [F3 h]; rfl
theorem S9 {p : Ab} {x : Ae} : K3 p x = none ↔ Fr p x = [] := by
 unfold K3
 cases Fr p x <;> simp
theorem Uj (N : Nat) (p : Ab) (m : Ae) (hN : N ≤ 1000000) (h20 : 100 ≤ N) (hp : A9 p) (hm : B0 p m) : EV N p m = some (Fr p m).isEmpty := by
 unfold EV
 rw [Ou N p m hN (by omega) hp hm]
 simp only [oS]
 cases Fr p m with
 | nil => rfl
 | cons c cs =>
  rw [beq_eq_false_iff_ne.2 (by simp only [List.length_cons]; omega)]; rfl
theorem IJ (N : Nat) (p : Ab) (m : Ae) (hN : N ≤ 1000000) (h20 : 100 ≤ N) (hp : A9 p) (hm : B0 p m) : C0 N p m = some (Bq p m) := by
 have hnv := hp.nv
 unfold C0
 rw [UM N p m hN h20 hp hm]
 simp only [oS]
 have hal := Px (m := m) (by rw [hm.next]; omega)
 have := CZ (Cl N p (GU m) fun _ => some true) (GU m) (some true) (fun _ x => (K3 p x).map fun _ => false)
  (fun n i x hx => by
   have hi := (lI.1 hx).1
   have hx2 := aq hp hm (QB.1 (lM hx))
   rw [Cl, AB (by omega)]
   simp only [AN, hx, oS]
   rw [Uj N p x hN h20 hp hx2, Az (by omega)]
   simp only [oS, K3]
   cases Fr p x with
   | nil => rfl
   | cons c cs => rfl)
  (fun n => by rw [Cl, Aw (by simp)]) N 0 (Nat.zero_le _) (by omega)
 rw [List.drop_zero, Lt] at this
 refine Eq.trans this ?_
 unfold Bq Ox
 cases DG (fun _ x => K3 p x) 0 (GU m) <;> rfl
theorem Ts {N : Nat} {a b : Ae} (hN : N ≤ 1000000) (h1 : a.fH.length < N) (h2 : a.fE.length < N) (h3 : a.fI.length < N) (h4 : b.fI.length < N) (wa : N9 Mn a.fI) (wb : N9 Mn b.fI) : ED N a b = some (U2 a b) := by
 unfold ED
 rw [PU h1 hN, PU h2 hN, OU h3 hN wa, OU h4 hN wb]
 simp only [oS]
 rw [PU h3 hN]
 unfold U2 UL
 by_cases h1 : Jd a.fH b.fH = 0
 ·simp only [h1, UL]
  by_cases h2 : Jd a.fE b.fE = 0
  ·simp only [h2]
   by_cases h3 : Jd a.fI b.fI = 0 <;> simp [h3]
  ·have : (Jd a.fE b.fE != 0) = true := by simpa using h2
   simp [h2, this]
 ·have : (Jd a.fH b.fH != 0) = true := by simpa using h1
  simp [h1, this]
theorem Sr (N : Nat) (a b : List Int) (hN : N ≤ 1000000) (h : a.length < N) : Eo N a b = some (a == b) := by
 unfold Eo
 by_cases hl : a.length = b.length
 ·rw [hl, bne_self_eq_false, Ap]
  have := CZ (Cj N a b fun _ => some true) a (some true) (fun i x => if x = b.getD i 0 then none else some false)
   (fun n i x hx => by
    have hi := (lI.1 hx).1
    rw [Cj, AB (by omega), AN, hx, Dw (d := 0) (by omega)]
    simp only [oS]
    rw [Az (by omega)]
    by_cases h : x = b.getD i 0
    ·rw [if_pos h, h, bne_self_eq_false]; rfl
    ·rw [if_neg h, bne_iff_ne.2 h]; rfl)
   (fun n => by rw [Cj, Aw (by simp)]) N 0 (Nat.zero_le _) (by omega)
  refine this.trans ?_
  rw [List.drop_zero]
  cases hs : DG (fun i x => if x = b.getD i 0 then none else some false) 0 a with
  | none =>
   have : a = b := F7 hl fun q hq => by
    have hx : a[q]? = some (a.getD q 0) := by rw [lD]; simp [hq]
    have := Fp hs q _ hx
    rw [Nat.zero_add] at this
    split at this
    ·assumption
    ·cases this
   rw [this, beq_self_eq_true]; rfl
  | some r =>
   obtain ⟨j, x, hx, hf⟩ := E3 hs
   rw [Nat.zero_add] at hf
   split at hf
   ·cases hf
   ·rename_i hne
    cases hf
    have : (a == b) = false := beq_eq_false_iff_ne.2 fun e => hne (by rw [← e, lD, hx]; rfl)
    rw [this]; rfl
 ·have h1 : ((a.length : Int) != (b.length : Int)) = true := bne_iff_ne.2 (by omega)
  have h2 : (a == b) = false := beq_eq_false_iff_ne.2 fun e => hl (by rw [e])
  rw [h1, h2]; rfl
theorem Sf (N : Nat) (a : List Int) (f : Int → Option Bool) (g : Int → Bool) (hN : N ≤ 1000000) (h : a.length < N) (hf : ∀ x, x ∈ a → f x = some (g x)) : CW N a f = some (a.any g) := by
 unfold CW Eu
 have := CZ (Bo N a f fun _ => some (-1)) a (some (-1)) (fun i x => if g x then some (i : Int) else none)
  (fun n i x hx => by
   have hi := (lI.1 hx).1
   rw [Bo, AB (by omega), AN, hx]
   simp only [oS]
   rw [hf x (lM hx), Az (by omega)]
   simp only [oS]
   cases g x <;> rfl)
  (fun n => by rw [Bo, Aw (by simp)]) N 0 (Nat.zero_le _) (by omega)
 have e : Bo N a f (fun _ => some (-1)) N 0 = _ := this
 rw [e, List.drop_zero]
 cases hs : DG (fun i x => if g x then some (i : Int) else none) 0 a with
 | none =>
  have : a.any g = false := by
   rw [List.any_eq_false]
   intro x hx
   obtain ⟨j, hj⟩ := List.mem_iff_getElem?.1 hx
   have := Fp hs j x hj
   intro hg
   rw [hg] at this; cases this
  rw [this]; rfl
 | some r =>
  obtain ⟨j, x, hx, hf⟩ := E3 hs
  split at hf
  ·rename_i hg
   cases hf
   have : a.any g = true := List.any_eq_true.2 ⟨x, lM hx, hg⟩
   rw [this]
   simp only [BR, oS]
   rw [decide_eq_true (by omega)]
  ·cases hf
def Ie (p : Ab) (m : Ae) : Bool := Gm p m == 0 && (m.fH == p.fQ && m.fE.all (fun n => decide (n < 0)))
theorem Tj (N : Nat) (p : Ab) (m : Ae) (hN : N ≤ 1000000) (h20 : 100 ≤ N) (hw : N9 Mn m.fI) : IX N p m = some (Ie p m) := by
 unfold IX Ie
 rw [Je N p m hN (by omega) hw]
 simp only [A5, oS]
 by_cases hv : Gm p m = 0
 ·obtain ⟨hp, hm⟩ := KG hw hv
  have := hp.nv
  rw [hv, Sr N _ _ hN (by rw [hm.base]; omega), Sf N m.fE (fun x => Hy N x) (fun n => decide (0 ≤ n)) hN (by rw [hm.next]; omega) (fun x _ => rfl)]
  simp only [oS, beq_self_eq_true, AJ, Bool.true_and]
  have : m.fE.all (fun n => decide (n < 0)) = !m.fE.any (fun n => decide (0 ≤ n)) := by
   rw [List.not_any_eq_all_not]
   congr 1; funext n
   by_cases h : 0 ≤ n
   ·rw [decide_eq_true h, decide_eq_false (by omega)]; rfl
   ·rw [decide_eq_false h, decide_eq_true (by omega)]; rfl
  rw [this]
  cases m.fH == p.fQ <;> simp
 ·rw [beq_eq_false_iff_ne.2 hv]; rfl
theorem TU (N : Nat) (p : Ab) (m : Ae) (hN : N ≤ 1000000) (h20 : 100 ≤ N) (hw : N9 Mn m.fI) : Fu N p m = some (Ie p m) := by
 unfold Fu Ie
 rw [Jl N p m hN (by omega)]
 simp only [oS]
 by_cases hv : Gm p m = 0
 ·obtain ⟨hp, hm⟩ := KG hw hv
  have h1 := hp.nv
  have h2 := hp.tgt
  have h3 := hm.base
  have h4 := hm.next
  rw [hv]
  simp only [bne_self_eq_false, Ap, beq_self_eq_true, Bool.true_and]
  have := CZ (Dg N p m fun _ => some true) m.fH (some true) (fun i x => if 0 ≤ m.fE.getD i 0 ∨ x ≠ p.fQ.getD i 0 then some false else none)
   (fun n i x hx => by
    have hi := (lI.1 hx).1
    rw [Dg, AB (by omega)]
    simp only [A5]
    rw [show Br m.fH (i : Int) = some x from by rw [AN, hx], Dw (d := 0) (by omega), Dw (d := 0) (by omega)]
    simp only [oS]
    rw [Az (by omega)]
    by_cases k1 : 0 ≤ m.fE.getD i 0
    ·rw [AB k1, if_pos (.inl k1)]; rfl
    ·rw [Aw k1]
     by_cases k2 : x = p.fQ.getD i 0
     ·rw [if_neg (fun h => h.elim k1 (fun h => h k2)), k2, bne_self_eq_false]; rfl
     ·rw [if_pos (.inr k2), bne_iff_ne.2 k2]; rfl)
   (fun n => by rw [Dg, Aw (by simp)]) N 0 (Nat.zero_le _) (by omega)
  refine this.trans ?_
  rw [List.drop_zero]
  cases hs : DG (fun i x => if 0 ≤ m.fE.getD i 0 ∨ x ≠ p.fQ.getD i 0 then some false else none) 0 m.fH with
  | none =>
   have key : ∀ q, q < m.fH.length → m.fH.getD q 0 = p.fQ.getD q 0 ∧ ¬ 0 ≤ m.fE.getD q 0 := by
    intro q hq
    have hx : m.fH[q]? = some (m.fH.getD q 0) := by rw [lD]; simp [hq]
    have := Fp hs q _ hx
    rw [Nat.zero_add] at this
    split at this
    ·cases this
    ·rename_i h; exact ⟨Decidable.not_not.1 fun h' => h (.inr h'), fun h' => h (.inl h')⟩
   have e1 : m.fH = p.fQ := F7 (by omega) fun q hq => (key q hq).1
   have e2 : m.fE.all (fun n => decide (n < 0)) = true := by
    rw [List.all_eq_true]
    intro n hn
    obtain ⟨q, hq⟩ := List.mem_iff_getElem?.1 hn
    have hl := (lI.1 hq).1
    have := (key q (by omega)).2
    rw [lD, hq] at this
    simp only [Option.getD_some] at this
    simp only [decide_eq_true_eq]
    omega
   rw [e2, e1]; simp [BR]
  | some r =>
   obtain ⟨j, x, hx, hf⟩ := E3 hs
   rw [Nat.zero_add] at hf
   have hj := (lI.1 hx).1
   split at hf
   ·rename_i h
    cases hf
    have : (m.fH == p.fQ && m.fE.all (fun n => decide (n < 0))) = false := by
     rw [Bool.and_eq_false_iff]
     rcases h with h | h
     ·right
      rw [List.all_eq_false]
      refine ⟨m.fE.getD j 0, ?_, ?_⟩
      ·rw [lD, List.getElem?_eq_getElem (by omega)]; exact List.getElem_mem _
      ·simp only [decide_eq_true_eq]; omega
     ·left
      exact beq_eq_false_iff_ne.2 fun e => h (by rw [← e, lD, hx]; rfl)
    rw [this]; rfl
   ·cases hf
 ·rw [bne_iff_ne.2 hv, beq_eq_false_iff_ne.2 hv]; rfl
open Go
structure aN (x y : Ao) : Prop where
 k : y.fJ = x.fJ
 f : y.fK = x.fK
 t : y.fP = x.fP
 a : y.fS = x.fS
 r : y.fR = x.fR
 l : y.fO.length = x.fO.length
 o : ∀ (u : Nat) (row : List Bool), x.fO[u]? = some row → ∃ row', y.fO[u]? = some row' ∧ row'.length = row.length ∧ ∀ v : Nat, row[v]? = some true → row'[v]? = some true
structure Xj (p q : Ab) : Prop where
 v : q.fF = p.fF
 n : q.fL = p.fL
 t : q.fQ = p.fQ
 l : q.fG.length = p.fG.length
 o : ∀ (i : Nat) (x : Ao), p.fG[i]? = some x → ∃ y, q.fG[i]? = some y ∧ aN x y
theorem aN.st {x y : Ao} (h : aN x y) : B8 y = B8 x := by unfold B8; rw [h.k]
theorem Up {α R : Type} {f g : Nat → α → Option R} : ∀ {i : Nat} {xs ys : List α}, ys.length = xs.length → (∀ (j : Nat) x, xs[j]? = some x → ∃ y, ys[j]? = some y ∧ g (i + j) y = f (i + j) x) → DG g i ys = DG f i xs
 | _, [], [], _, _ => rfl
 | _, [], y :: ys, h, _ => by simp at h
 | _, x :: xs, [], h, _ => by simp at h
 | i, x :: xs, y :: ys, h, hh => by
  obtain ⟨y', e1, e2⟩ := hh 0 x rfl
  simp only [List.getElem?_cons_zero, Option.some.injEq] at e1
  subst e1
  rw [Gn, Gn, show g i y = f i x from e2, Up (by simpa using h) fun j x' hx => by
   obtain ⟨y', e1, e2⟩ := hh (j + 1) x' (by simpa using hx)
   exact ⟨y', by simpa using e1, by rwa [show i + (j + 1) = i + 1 + j from by omega] at e2⟩]
theorem Zz {x y : Ao} (h : aN x y) (m : Int) : (y.fO.all fun r => decide ((r.length : Int) = m)) = (x.fO.all fun r => decide ((r.length : Int) = m)) := by
 rw [Bool.eq_iff_iff, List.all_eq_true, List.all_eq_true]
 constructor
 ·intro hy r hr
  obtain ⟨u, hu⟩ := List.mem_iff_getElem?.1 hr
  obtain ⟨r', e1, e2, _⟩ := h.o u r hu
  have := hy r' (lM e1)
  rwa [e2] at this
 ·intro hx r hr
  obtain ⟨u, hu⟩ := List.mem_iff_getElem?.1 hr
  have hl := (lI.1 hu).1
  have hz : x.fO[u]? = some (x.fO[u]'(by rw [← h.l]; exact hl)) := by simp [show u < x.fO.length by rw [← h.l]; exact hl]
  obtain ⟨r', e1, e2, _⟩ := h.o u _ hz
  rw [hu] at e1; cases e1
  rw [e2]
  exact hx _ (lM hz)
theorem ca {x y : Ao} (h : aN x y) (n m : Int) : sq y.fO n m = sq x.fO n m := by
 unfold sq; rw [h.l, Zz h]
theorem U4 {p q : Ab} (h : Xj p q) {x y : Ao} (hx : aN x y) : Ec q y = Ec p x := by
 unfold Ec
 simp only [h.v, hx.k, hx.f, hx.t, hx.a, hx.r, ca hx]
theorem Pr {p q : Ab} (h : Xj p q) : Bk q = Bk p := by
 unfold Bk
 have e1 : DG (Lu q) 0 q.fG = DG (Lu p) 0 p.fG := Up h.l fun j x hx => by
  obtain ⟨y, hy, ht⟩ := h.o j x hx
  exact ⟨y, hy, by unfold Lu; rw [U4 h ht]⟩
 have e2 : F6 q = F6 p := by unfold F6; rw [h.n, h.t]
 rw [e1, e2, h.v, h.n, h.t, h.l]
theorem VG {p q : Ab} (h : Xj p q) {m : Ae} (hc : Fr p m = []) : Fr q m = [] := by
 unfold Fr at hc ⊢
 rw [Kr] at hc ⊢
 intro i y hy
 have hi : i < p.fG.length := by rw [← h.l]; exact (lI.1 hy).1
 have hx : p.fG[i]? = some p.fG[i] := by simp [hi]
 obtain ⟨y', hy', ht⟩ := h.o i _ hx
 rw [hy] at hy'; cases hy'
 have hci := hc i _ hx
 unfold J8 at hci ⊢
 rw [Kr] at hci ⊢
 intro u row' hu'
 have hu : u < (p.fG[i]).fO.length := by rw [← ht.l]; exact (lI.1 hu').1
 have hr : (p.fG[i]).fO[u]? = some (p.fG[i]).fO[u] := by simp [hu]
 obtain ⟨r2, e1, e2, e3⟩ := ht.o u _ hr
 rw [hu'] at e1; cases e1
 have hcu := hci u _ hr
 have hw : TZ m (0 + i) y (0 + u) = TZ m (0 + i) p.fG[i] (0 + u) := by unfold TZ; rw [ht.st, ht.f]
 rw [hw]
 cases hwb : TZ m (0 + i) p.fG[i] (0 + u)
 ·rfl
 ·rw [hwb, if_pos rfl] at hcu
  rw [if_pos rfl]
  unfold Ks at hcu ⊢
  rw [List.append_eq_nil_iff] at hcu ⊢
  have hfalse : ∀ (v : Nat), row'[v]? = some false → (p.fG[i]).fO[u][v]? = some false := fun v hv => by
   have hvl : v < (p.fG[i]).fO[u].length := by rw [← e2]; exact (lI.1 hv).1
   have hz : (p.fG[i]).fO[u][v]? = some (p.fG[i]).fO[u][v] := by simp [hvl]
   cases hb : (p.fG[i]).fO[u][v]
   ·rw [hz, hb]
   ·rw [hb] at hz
    have := e3 v hz
    rw [hv] at this; cases this
  refine ⟨?_, ?_⟩
  ·have h1 := hcu.1
   rw [Kr] at h1 ⊢
   intro v ok hv
   cases ok
   ·have := h1 v false (hfalse v hv)
    unfold gC at this ⊢
    rw [ht.t, ht.a]; exact this
   ·unfold gC; simp
  ·have h2 := hcu.2
   rw [ht.a]
   cases ha : (p.fG[i]).fS
   ·simp
   ·rw [ha] at h2
    cases hb : Mm (hC m p.fG[i]) 0 (p.fG[i]).fO[u]
    ·rw [hb] at h2; simp at h2
    ·obtain ⟨v, ok, hv, hh⟩ := Qa.1 hb
     unfold hC at hh
     rw [Bool.and_eq_true] at hh
     have hok : ok = true := hh.2
     subst hok
     have : Mm (hC m y) 0 row' = true := Qa.2 ⟨v, true, e3 v hv, by unfold hC; rw [ht.t, hh.1]; rfl⟩
     rw [this]; simp
theorem NV {p q : Ab} (h : Xj p q) {m : Ae} (hr : Bq p m = true) : Bq q m = true := by
 unfold Bq Ox at hr ⊢
 rw [TX] at hr ⊢
 intro j x hx
 have := hr j x hx
 rw [S9] at this ⊢
 exact VG h this
structure cA (p : Ab) (m x : Ae) : Prop where
 base : m.fH = x.fH
 next : m.fE = x.fE
 held : ∀ i, i < p.fG.length → ∀ v, Es (m.fI.getD i 0) v = true → Es (x.fI.getD i 0) v = true
theorem cA.refl (p : Ab) (m : Ae) : cA p m m := ⟨rfl, rfl, fun _ _ _ h => h⟩
theorem cA.trans {p : Ab} {a b c : Ae} (h : cA p a b) (g : cA p b c) : cA p a c := ⟨h.base.trans g.base, h.next.trans g.next, fun i hi v hv => g.held i hi v (h.held i hi v hv)⟩
def FW (p : Ab) (t : Ao) : Int := if B8 t = true then Ex .u8 1 (p.fL.getD t.fK.toNat 0) else 0
def EZ (p : Ab) : Ae := ⟨p.fL, List.replicate p.fL.length (-1), p.fG.map (FW p)⟩
theorem WB (N : Nat) (h : 100 ≤ N) (n : Nat) (hn : n ≤ 6) : E7 N [(-1)] (n : Int) = some (List.replicate n (-1)) := by
 obtain ⟨k, rfl⟩ : ∃ k, N = k + 100 := ⟨N - 100, by omega⟩
 have : n = 0 ∨ n = 1 ∨ n = 2 ∨ n = 3 ∨ n = 4 ∨ n = 5 ∨ n = 6 := by omega
 rcases this with rfl | rfl | rfl | rfl | rfl | rfl | rfl
 all_goals (show _ = _; kernel_rfl)
theorem Ug (T : List Int) (i : Nat) (hi : i < T.length) : (T.take i ++ List.replicate (T.length - i) 0).set i (T.getD i 0) = T.take (i + 1) ++ List.replicate (T.length - (i + 1)) 0 := by
 have hl : (T.take i).length = i := by simp; omega
 rw [List.set_append_right _ _ (by omega), hl, Nat.sub_self, show T.length - i = (T.length - (i + 1)) + 1 from by omega, List.replicate_succ, List.set_cons_zero, List.take_add_one, List.append_assoc]
 have : T[i]? = some (T.getD i 0) := by rw [lD]; simp [hi]
 rw [this]; rfl
theorem WR (T : List Int) (i : Nat) (hi : i < T.length) (h0 : T.getD i 0 = 0) : T.take i ++ List.replicate (T.length - i) 0 = T.take (i + 1) ++ List.replicate (T.length - (i + 1)) 0 := by
 rw [← Ug T i hi, h0, List.set_append_right _ _ (by rw [List.length_take]; omega)]
 congr 1
 have hl : (T.take i).length = i := by simp; omega
 rw [hl, Nat.sub_self, show T.length - i = (T.length - (i + 1)) + 1 from by omega, List.replicate_succ, List.set_cons_zero]
theorem U3 {p : Ab} (hv : Bk p = 0) {t : Ao} (ht : t ∈ p.fG) : 0 ≤ t.fK ∧ t.fK.toNat < p.fL.length ∧ 0 ≤ p.fL.getD t.fK.toNat 0 ∧ p.fL.getD t.fK.toNat 0 < 6 ∧ p.fL.getD t.fK.toNat 0 < p.fF.getD t.fK.toNat 0 ∧ t.fK.toNat < p.fF.length := by
 obtain ⟨hp, hr⟩ := BX hv
 have h1 := JT (hp.tab t ht)
 have h2 := hr t.fK.toNat (by omega)
 have h3 := I2 hp (i := t.fK.toNat) (by omega)
 have := hp.now
 refine ⟨h1.1, by omega, h2.1, by omega, h2.2.1, by omega⟩
theorem KL {p : Ab} {i : Nat} {t : Ao} (ht : p.fG[i]? = some t) : (p.fG.map (FW p)).getD i 0 = FW p t := by
 rw [lD, List.getElem?_map, ht]; rfl
theorem R2 (N : Nat) (p : Ab) (hN : N ≤ 1000000) (h20 : 100 ≤ N) : Ir N p = some (if Bk p = 0 then EZ p else ⟨[], [], []⟩, Bk p) := by
 unfold Ir
 rw [Hj N p hN (by omega)]
 simp only [oS]
 by_cases hv : Bk p = 0
 ·rw [if_pos hv, hv]
  obtain ⟨hp, _⟩ := BX hv
  have hnv := hp.nv
  have hnt := hp.nt
  have hnow := hp.now
  rw [bne_self_eq_false, Ap, KF N _ (by simp only [C2]; omega)]
  simp only [oS]
  rw [WB N h20 _ (by omega)]
  simp only [oS]
  rw [An (by simp only [C2]; omega)]
  obtain ⟨a', e, ha⟩ := E9 (EL N p fun v7 => some (Ae.mk p.fL (List.replicate p.fL.length (-1)) v7, 0)) (fun a i => (a, i)) p.fG.length (fun v7 => some (Ae.mk p.fL (List.replicate p.fL.length (-1)) v7, 0))
   (fun i a => a = (p.fG.map (FW p)).take i ++ List.replicate ((p.fG.map (FW p)).length - i) 0)
   (fun n i a hi ha => by
    have hx : p.fG[i]? = some p.fG[i] := by simp [hi]
    have hm : p.fG[i] ∈ p.fG := List.getElem_mem hi
    obtain ⟨n1, n2, n3, n4, _⟩ := U3 hv hm
    rw [EL, AB (by simp only; omega)]
    simp only [A5, AN, hx, oS, Kq, Az (show i < 1000000 by omega)]
    have hal : i < (p.fG.map (FW p)).length := by simpa using hi
    cases hs : B8 p.fG[i]
    ·rw [Ap]
     refine ⟨a, rfl, ?_⟩
     rw [ha]
     exact WR _ _ hal (by rw [KL hx]; unfold FW; rw [hs]; rfl)
    ·rw [AJ]
     have e1 : Br p.fL p.fG[i].fK = some (p.fL.getD p.fG[i].fK.toNat 0) := by
      obtain ⟨q, hq⟩ := Int.eq_ofNat_of_zero_le n1
      rw [hq]; exact Dw (by rw [hq] at n2; simpa using n2)
     rw [e1]
     simp only [oS]
     rw [An n3]
     have hl : i < a.length := by rw [ha]; simp; omega
     have e2 : a[i]? = some a[i] := by simp [hl]
     rw [e2]
     simp only [oS]
     refine ⟨_, rfl, ?_⟩
     rw [← Ug _ _ hal, KL hx, ha]
     unfold FW; rw [hs]; rfl)
   (fun n a ha => by rw [EL, Aw (by simp)]) N 0 (List.replicate p.fG.length 0) (Nat.zero_le _) (by omega) (by simp)
  have e' : EL N p (fun v7 => some (Ae.mk p.fL (List.replicate p.fL.length (-1)) v7, 0)) N (List.replicate ((p.fG.length : Int)).toNat (0 : Int), 0) = _ := e
  rw [e', ha]
  have e5 : (p.fG.map (FW p)).take p.fG.length = p.fG.map (FW p) := List.take_of_length_le (by simp)
  simp [EZ, e5]
 ·rw [if_neg hv, bne_iff_ne.2 hv, AJ]
theorem NX (N : Nat) (p : Ab) (hN : N ≤ 1000000) (h20 : 100 ≤ N) : Er N p = some (if Bk p = 0 then EZ p else ⟨[], [], []⟩, Bk p) := by
 unfold Er
 rw [MN N p hN (by omega)]
 simp only [oS]
 by_cases hv : Bk p = 0
 ·rw [if_pos hv, hv]
  obtain ⟨hp, _⟩ := BX hv
  have hnv := hp.nv
  have hnt := hp.nt
  have hnow := hp.now
  rw [bne_self_eq_false, Ap]
  obtain ⟨a', e, ha⟩ := E9 (Cp N p fun v4 => Bn N p (fun v10 => some (Ae.mk v4.1 v4.2 v10, 0)) N (([] : List Int), 0)) (fun a i => (a.1, a.2, i)) p.fF.length (fun v4 => Bn N p (fun v10 => some (Ae.mk v4.1 v4.2 v10, 0)) N (([] : List Int), 0))
   (fun i a => a = (p.fL.take i, List.replicate i (-1)))
   (fun n i a hi ha => by
    subst ha
    rw [Cp, AB (by simp only; omega)]
    have hx : p.fL[i]? = some p.fL[i] := by simp [show i < p.fL.length from by omega]
    simp only [AN, hx, oS, Az (show i < 1000000 by omega)]
    rw [An (by simp [C2]; omega), An (by simp [C2]; omega)]
    refine ⟨(p.fL.take i ++ [p.fL[i]], List.replicate i (-1) ++ [-1]), rfl, ?_⟩
    rw [List.take_add_one, hx, List.replicate_succ']; rfl)
   (fun n a ha => by rw [Cp, Aw (by simp)]) N 0 ([], []) (Nat.zero_le _) (by omega) rfl
  have e' : Cp N p (fun v4 => Bn N p (fun v10 => some (Ae.mk v4.1 v4.2 v10, 0)) N (([] : List Int), 0)) N (([] : List Int), ([] : List Int), 0) = _ := e
  rw [e', ha]
  simp only
  obtain ⟨b', e2, hb⟩ := E9 (Bn N p fun v10 => some (Ae.mk (p.fL.take p.fF.length) (List.replicate p.fF.length (-1)) v10, 0)) (fun a i => (a, i)) p.fG.length (fun v10 => some (Ae.mk (p.fL.take p.fF.length) (List.replicate p.fF.length (-1)) v10, 0))
   (fun i a => a = (p.fG.map (FW p)).take i)
   (fun n i a hi ha => by
    subst ha
    have hx : p.fG[i]? = some p.fG[i] := by simp [hi]
    have hm : p.fG[i] ∈ p.fG := List.getElem_mem hi
    obtain ⟨n1, n2, n3, n4, _⟩ := U3 hv hm
    rw [Bn, AB (by simp only; omega)]
    simp only [A5, AN, hx, oS, HI, Az (show i < 1000000 by omega)]
    have hT : (p.fG.map (FW p))[i]? = some (FW p p.fG[i]) := by rw [List.getElem?_map, hx]; rfl
    have hlen : ((p.fG.map (FW p)).take i).length + 1 ≤ C2 := by simp [C2]; omega
    cases hs : B8 p.fG[i]
    ·rw [Ap, An (by simpa using hlen)]
     refine ⟨_, rfl, ?_⟩
     rw [List.take_add_one, hT]
     unfold FW; rw [hs]; rfl
    ·rw [AJ]
     have e1 : Br p.fL p.fG[i].fK = some (p.fL.getD p.fG[i].fK.toNat 0) := by
      obtain ⟨q, hq⟩ := Int.eq_ofNat_of_zero_le n1
      rw [hq]; exact Dw (by rw [hq] at n2; simpa using n2)
     rw [e1]
     simp only [oS]
     rw [An n3, An (by simpa using hlen)]
     refine ⟨_, rfl, ?_⟩
     rw [List.take_add_one, hT]
     unfold FW; rw [hs]; rfl)
   (fun n a ha => by rw [Bn, Aw (by simp)]) N 0 [] (Nat.zero_le _) (by omega) rfl
  have e3 : Bn N p (fun v10 => some (Ae.mk (p.fL.take p.fF.length) (List.replicate p.fF.length (-1)) v10, 0)) N (([] : List Int), 0) = _ := e2
  rw [e3, hb]
  simp only [EZ, ← hnow, List.take_length]
  rw [show p.fG.length = (p.fG.map (FW p)).length from by simp, List.take_length]
 ·rw [if_neg hv, bne_iff_ne.2 hv, AJ]
theorem NI {p : Ab} (hv : Bk p = 0) : B0 p (EZ p) := by
 obtain ⟨hp, hr⟩ := BX hv
 have hnow := hp.now
 have hnx : ∀ i, i < p.fF.length → (List.replicate p.fL.length (-1 : Int)).getD i 0 = -1 := fun i hi => by
  rw [lD, List.getElem?_replicate, if_pos (by omega)]; rfl
 have hone : ∀ (i : Nat) (t : Ao), p.fG[i]? = some t → ∃ b : Nat, b < 6 ∧ p.fL.getD t.fK.toNat 0 = (b : Int) ∧ (b : Int) < p.fF.getD t.fK.toNat 0 ∧ t.fK.toNat < p.fF.length := fun i t ht => by
  obtain ⟨n1, n2, n3, n4, n5, n6⟩ := U3 hv (lM ht)
  obtain ⟨b, hb⟩ := Int.eq_ofNat_of_zero_le n3
  exact ⟨b, by omega, hb, by omega, n6⟩
 have hbit : ∀ b : Nat, b < 8 → ∀ v, Es (Ex .u8 1 (b : Int)) v = decide (b = v) := fun b hb v => by
  by_cases h : v < 8
  ·exact (KP ⟨b, hb⟩ ⟨v, h⟩).1
  ·rw [K2 (KP ⟨b, hb⟩ ⟨0, by omega⟩).2.2 (by omega)]
   symm; apply decide_eq_false; omega
 refine { base := hnow, next := by simp [EZ, hnow], held := by simp [EZ], b0 := fun i hi => ⟨(hr i hi).1, (hr i hi).2.1⟩, n0 := fun i hi => ?_, ne := fun i hi => ?_, range := fun i hi => ?_, low := fun i t ht hs v hv' => ?_, high := fun i t ht hs v hb => ?_, none := fun i t ht hs => ?_ }
 ·show -1 ≤ (List.replicate p.fL.length (-1 : Int)).getD i 0 ∧ (List.replicate p.fL.length (-1 : Int)).getD i 0 < _
  rw [hnx i hi]
  have := I2 hp hi
  omega
 ·show p.fL.getD i 0 ≠ (List.replicate p.fL.length (-1 : Int)).getD i 0
  rw [hnx i hi]
  have := hr i hi
  omega
 ·have hx : p.fG[i]? = some p.fG[i] := by simp [hi]
  show 0 ≤ (p.fG.map (FW p)).getD i 0 ∧ (p.fG.map (FW p)).getD i 0 ≤ 255
  rw [KL hx]
  unfold FW
  split
  ·obtain ⟨b, h1, h2, _⟩ := hone i _ hx
   rw [h2]
   exact (KP ⟨b, by omega⟩ ⟨0, by omega⟩).2
  ·omega
 ·show Es ((p.fG.map (FW p)).getD i 0) v = true
  obtain ⟨b, h1, h2, h3, h4⟩ := hone i t ht
  rw [KL ht]
  unfold FW
  rw [if_pos hs, h2, hbit b (by omega)]
  unfold Jn at hv'
  have h5 : (EZ p).fH.getD t.fK.toNat 0 = (b : Int) := h2
  have h6 : (EZ p).fE.getD t.fK.toNat 0 = -1 := hnx _ h4
  rw [h5, h6, Bool.or_eq_true, decide_eq_true_iff, decide_eq_true_iff] at hv'
  apply decide_eq_true; omega
 ·have hb : Es ((p.fG.map (FW p)).getD i 0) v = true := hb
  obtain ⟨b, h1, h2, h3, h4⟩ := hone i t ht
  rw [KL ht] at hb
  unfold FW at hb
  rw [if_pos hs, h2, hbit b (by omega), decide_eq_true_iff] at hb
  omega
 ·show (p.fG.map (FW p)).getD i 0 = 0
  rw [KL ht]; unfold FW; rw [hs]; rfl
theorem O0 (x : BitVec 8) : wI .u8 (x.toNat : Int) = (x.toNat : Int) := by
 have := x.isLt
 simp [wI, IntKind.signed, IntKind.bits]
 omega
theorem TE (x : BitVec 8) : 0 ≤ (x.toNat : Int) ∧ (x.toNat : Int) ≤ 255 := by
 have := x.isLt
 omega
theorem XP (x : BitVec 8) (v : Nat) : Es (x.toNat : Int) v = x.getLsbD v := by
 unfold Es; rw [Int.toNat_natCast]; rfl
theorem S6 {a : Int} (ha : 0 ≤ a ∧ a ≤ 255) (v : Nat) : (BitVec.ofInt 8 a).getLsbD v = Es a v := by
 obtain ⟨a, rfl⟩ := Int.eq_ofNat_of_zero_le ha.1
 unfold BitVec.getLsbD Es
 rw [Yv (by omega), Int.toNat_natCast]
theorem UT {a b : Int} (ha : 0 ≤ a ∧ a ≤ 255) (hb : 0 ≤ b ∧ b ≤ 255) : (∀ v, Es (DL .u8 a b) v = (Es a v && !Es b v)) ∧ 0 ≤ DL .u8 a b ∧ DL .u8 a b ≤ 255 := by
 have e : DL .u8 a b = ((BitVec.ofInt 8 a &&& ~~~BitVec.ofInt 8 b).toNat : Int) := O0 (BitVec.ofInt 8 a &&& ~~~BitVec.ofInt 8 b)
 rw [e]
 refine ⟨fun v => ?_, TE _⟩
 rw [XP, BitVec.getLsbD_and, BitVec.getLsbD_not, S6 ha, S6 hb]
 by_cases h : v < 8
 ·simp [h]
 ·rw [K2 ha.2 (by omega)]; simp
theorem VE {a b : Int} (ha : 0 ≤ a ∧ a ≤ 255) (hb : 0 ≤ b ∧ b ≤ 255) : (∀ v, Es (QD .u8 a b) v = (Es a v || Es b v)) ∧ 0 ≤ QD .u8 a b ∧ QD .u8 a b ≤ 255 := by
 have e : QD .u8 a b = ((BitVec.ofInt 8 a ||| BitVec.ofInt 8 b).toNat : Int) := O0 (BitVec.ofInt 8 a ||| BitVec.ofInt 8 b)
 rw [e]
 refine ⟨fun v => ?_, TE _⟩
 rw [XP, BitVec.getLsbD_or, S6 ha, S6 hb]
theorem Zv {b : Nat} (hb : b < 8) : (∀ v, Es (Ex .u8 1 (b : Int)) v = decide (b = v)) ∧ 0 ≤ Ex .u8 1 (b : Int) ∧ Ex .u8 1 (b : Int) ≤ 255 := by
 refine ⟨fun v => ?_, (KP ⟨b, hb⟩ ⟨0, by omega⟩).2⟩
 by_cases h : v < 8
 ·exact (KP ⟨b, hb⟩ ⟨v, h⟩).1
 ·rw [K2 (KP ⟨b, hb⟩ ⟨0, by omega⟩).2.2 (by omega)]
  symm; apply decide_eq_false; omega
theorem Yo (N : Nat) {s : Int} {v : Nat} (hs : 0 ≤ s ∧ s ≤ 255) (hv : v < 8) : CN N s (v : Int) = some (Es s v) := by
 unfold CN
 rw [An (by omega), Sk hs.1 hs.2 hv]
 cases Es s v <;> rfl
def ay (v : Nat) : Nat := ((List.range 8).find? fun u => v.testBit u).getD 8
def cL (v : Nat) : Nat := ((List.range 8).filter fun u => v.testBit u).length
theorem bV : ∀ v : Fin 256, Du 0 (v.val : Int) = some (ay v.val : Int) := by decide +kernel
theorem du (N : Nat) {v : Nat} (h : v < 256) : Du N (v : Int) = some (ay v : Int) := bV ⟨v, h⟩
theorem ZZ : ∀ v : Fin 256, v.val ≠ 0 → ay v.val < 8 ∧ Es (v.val : Int) (ay v.val) = true ∧ 0 ≤ Hk .u8 (v.val : Int) (wI .u8 ((v.val : Int) - 1)) ∧ Hk .u8 (v.val : Int) (wI .u8 ((v.val : Int) - 1)) ≤ 255 ∧
  cL (Hk .u8 (v.val : Int) (wI .u8 ((v.val : Int) - 1))).toNat + 1 = cL v.val ∧
  ∀ u : Fin 8, Es (Hk .u8 (v.val : Int) (wI .u8 ((v.val : Int) - 1))) u.val = (Es (v.val : Int) u.val && decide (u.val ≠ ay v.val)) := by decide +kernel
theorem cW (v : Nat) : cL v ≤ 8 := by
 have := List.length_filter_le (fun u => v.testBit u) (List.range 8)
 simpa [cL] using this
theorem Td (N : Nat) (t : Ao) (b : Int) (rw_ : Nat → Bool) : ∀ (k n v : Nat), cL v ≤ k → k < n → v < 256 →
  (∀ u, u < 8 → Es (v : Int) u = true → ∃ row, Br t.fR (u : Int) = some row ∧ Br row b = some (rw_ u)) →
  D0 N t b (fun _ => some true) n (v : Int) = some ((List.range 8).all fun u => !Es (v : Int) u || rw_ u)
 | k, 0, v, _, h, _, _ => by omega
 | k, n + 1, v, hk, hn, hv, hr => by
  rw [D0]
  by_cases h0 : v = 0
  ·subst h0
   have : (((0 : Nat) : Int) != 0) = false := rfl
   rw [this, Ap]
   congr 1
  ·have h1 : ((v : Int) != 0) = true := bne_iff_ne.2 (by omega)
   obtain ⟨l1, l2, l3, l4, l5, l6⟩ := ZZ ⟨v, hv⟩ h0
   simp only at l1 l2 l3 l4 l5 l6
   obtain ⟨row, e1, e2⟩ := hr _ l1 l2
   rw [h1, AJ, du N hv]
   simp only [oS, e1, e2]
   obtain ⟨w, hw⟩ := Int.eq_ofNat_of_zero_le l3
   rw [hw] at l4 l5 l6 ⊢
   rw [Int.toNat_natCast] at l5
   cases hq : rw_ (ay v)
   ·rw [Bool.not_false, AJ]
    congr 1
    symm
    rw [List.all_eq_false]
    exact ⟨ay v, by simpa using l1, by rw [l2, hq]; simp⟩
   ·rw [Bool.not_true, Ap]
    match k, hk with
    | 0, hk => exfalso; omega
    | k + 1, hk =>
    rw [Td N t b rw_ k n w (by omega) (by omega) (by omega) (fun u hu hb => hr u hu (by have := l6 ⟨u, hu⟩; simp only at this; rw [hb] at this; simpa using (Bool.and_eq_true_iff.1 this.symm).1))]
    congr 1
    rw [Bool.eq_iff_iff, List.all_eq_true, List.all_eq_true]
    refine ⟨fun h u hu => ?_, fun h u hu => ?_⟩
    ·have hu8 : u < 8 := by simpa using hu
     have h3 := h u hu
     have h4 := l6 ⟨u, hu8⟩
     simp only at h4
     rw [h4] at h3
     by_cases e : u = ay v
     ·rw [e, hq]; simp
     ·simpa [e] using h3
    ·have hu8 : u < 8 := by simpa using hu
     have h3 := h u hu
     have h4 := l6 ⟨u, hu8⟩
     simp only at h4
     rw [h4]
     cases hb : Es (v : Int) u
     ·simp
     ·rw [hb] at h3; simp at h3; simp [h3]
theorem Uy (N : Nat) (m : Ae) (s : Int) (h0 : 0 ≤ s) (h1 : s < (m.fH.length : Int)) (h2 : s < (m.fE.length : Int)) (hb : 0 ≤ m.fH.getD s.toNat 0) : GM N m s = some (Hz m s.toNat) := by
 unfold GM Hz
 rw [Fz (d := 0) h0 h1, Fz (d := 0) h0 h2]
 simp only [oS, Bi]
 rw [show Dp (0 ≤ m.fH.getD s.toNat 0) = some () from by unfold Dp; rw [if_pos hb]]
 simp only [oS]
 by_cases h : 0 ≤ m.fE.getD s.toNat 0
 ·rw [AB h, if_pos h, show Dp (0 ≤ m.fE.getD s.toNat 0) = some () from by unfold Dp; rw [if_pos h]]; rfl
 ·rw [Aw h, if_neg h]
theorem LE (N : Nat) (t : Ao) : Gi N t = some (B8 t) := by
 unfold Gi B8
 simp only [Bi]
 cases h : t.fJ == 3 <;> simp
def G5 (s : Af) : Bool := decide (1 ≤ s.fJ ∧ s.fJ ≤ 4 ∧ 0 ≤ s.fN ∧ 0 ≤ s.fT) && (s.fJ == 1 || s.fT == 0)
def Gg (p : Ab) (s : Af) : Bool :=
 if s.fJ = 3 then decide (s.fN < (p.fG.length : Int)) else decide (s.fN < (p.fF.length : Int)) && (s.fJ != 1 || decide (s.fT < p.fF.getD s.fN.toNat 0))
theorem QL (N : Nat) (s : Af) : HL N s = some (G5 s) := by
 unfold HL G5 Xq
 simp only [Bi]
 by_cases h1 : (if s.fT < s.fN then s.fT else s.fN) < 0
 ·rw [AB h1, AJ, decide_eq_false (by split at h1 <;> omega)]; rfl
 ·rw [Aw h1]
  by_cases h2 : s.fJ < 1
  ·rw [AB h2, AJ, decide_eq_false (by omega)]; rfl
  ·rw [Aw h2]
   by_cases h3 : 4 < s.fJ
   ·rw [decide_eq_true h3, AJ, decide_eq_false (by omega)]; rfl
   ·rw [decide_eq_false h3, Ap, decide_eq_true (by split at h1 <;> omega), Bool.true_and]
    cases h4 : s.fJ == 1 <;> simp
theorem SK (N : Nat) (s : Af) : Fc N s = some (G5 s) := by
 unfold Fc G5
 simp only [Bi]
 by_cases h1 : 1 ≤ s.fJ
 ·rw [AB h1]
  by_cases h2 : s.fJ ≤ 4
  ·rw [AB h2]
   by_cases h3 : 0 ≤ s.fN
   ·rw [AB h3]
    by_cases h4 : 0 ≤ s.fT
    ·rw [AB h4, decide_eq_true (by omega), Bool.true_and]
     cases h5 : s.fJ == 1 <;> simp
    ·rw [Aw h4, decide_eq_false (by omega)]; rfl
   ·rw [Aw h3, decide_eq_false (by omega)]; rfl
  ·rw [Aw h2, decide_eq_false (by omega)]; rfl
 ·rw [Aw h1, decide_eq_false (by omega)]; rfl
theorem PP (N : Nat) (p : Ab) (s : Af) (hv : G5 s = true) : G9 N p s = some (Gg p s) := by
 have h0 : 0 ≤ s.fN := by
  unfold G5 at hv
  rw [Bool.and_eq_true, decide_eq_true_iff] at hv
  exact hv.1.2.2.1
 unfold G9 Gg
 simp only [Bi]
 by_cases h1 : s.fJ = 3
 ·rw [if_pos h1, beq_iff_eq.2 h1, AJ]
 ·rw [if_neg h1, beq_eq_false_iff_ne.2 h1, Ap]
  by_cases h2 : s.fN < (p.fF.length : Int)
  ·rw [AB h2, decide_eq_true h2, Bool.true_and]
   cases h3 : s.fJ != 1
   ·rw [Ap, Fz (d := 0) h0 h2, Bool.false_or]; rfl
   ·rw [AJ]; rfl
  ·rw [Aw h2, decide_eq_false h2]; rfl
def Vk (s : Af) (t : Ao) : Bool := t.fK == s.fN && B8 t
def T2 (s : Af) (i : Nat) (t : Ao) (a : List Int) : List Int := if Vk s t = true then a.set i (QD .u8 (a.getD i 0) (Ex .u8 1 s.fT)) else a
def Io (p : Ab) (s : Af) (held : List Int) : List Int := HY (T2 s) 0 p.fG held
theorem Pc {_R : Type} (N : Nat) (p : Ab) (s : Af) (held : List Int) (hv : 0 ≤ s.fT) (hl : held.length = p.fG.length) (h12 : p.fG.length < N) (hN : N ≤ 1000000) (j : List Int → Option (Bool × List Int × List Int)) :
  Ei N p s j N (held, 0) = j (Io p s held) ∧ (Io p s held).length = p.fG.length := by
 have := HX (Ei N p s j) (fun a i => (a, i)) p.fG j (T2 s) (fun i a => a.length = p.fG.length)
  (fun n i x a hx ha => by
   have hi := (lI.1 hx).1
   rw [Ei, AB (by simp only; omega)]
   simp only [A5, AN, hx, oS, LE, Az (show i < 1000000 by omega)]
   have e2 : a[i]? = some (a.getD i 0) := by rw [lD]; simp [show i < a.length from by omega]
   unfold T2 Vk
   cases h1 : x.fK == s.fN
   ·rw [Ap, Ap, Bool.false_and, if_neg (by simp)]; exact ⟨rfl, ha⟩
   ·rw [AJ, Bool.true_and]
    cases h2 : B8 x
    ·rw [Ap, if_neg (by simp)]; exact ⟨rfl, ha⟩
    ·rw [AJ, e2, if_pos rfl]
     simp only [oS]
     rw [An hv]
     exact ⟨rfl, by simpa using ha⟩)
  (fun n a ha => by rw [Ei, Aw (by simp)]) N 0 held (Nat.zero_le _) (by omega) hl
 rw [List.drop_zero] at this
 exact this
theorem Pp (N : Nat) (p : Ab) (s : Af) (held : List Int) (hv : 0 ≤ s.fT) (hl : held.length = p.fG.length) (h12 : p.fG.length < N) (hN : N ≤ 1000000) (j : List Int → Option (Ae × Bool)) :
  Cf N p s j N (held, 0) = j (Io p s held) := by
 have := HX (Cf N p s j) (fun a i => (a, i)) p.fG j (T2 s) (fun i a => a.length = p.fG.length)
  (fun n i x a hx ha => by
   have hi := (lI.1 hx).1
   rw [Cf, AB (by simp only; omega)]
   simp only [A5, AN, hx, oS, HI, Az (show i < 1000000 by omega)]
   have e2 : a[i]? = some (a.getD i 0) := by rw [lD]; simp [show i < a.length from by omega]
   unfold T2 Vk
   cases h1 : x.fK == s.fN
   ·rw [Ap, Ap, Bool.false_and, if_neg (by simp)]; exact ⟨rfl, ha⟩
   ·rw [AJ, Bool.true_and]
    cases h2 : B8 x
    ·rw [Ap, if_neg (by simp)]; exact ⟨rfl, ha⟩
    ·rw [AJ, e2, if_pos rfl]
     simp only [oS]
     rw [An hv]
     exact ⟨rfl, by simpa using ha⟩)
  (fun n a ha => by rw [Cf, Aw (by simp)]) N 0 held (Nat.zero_le _) (by omega) hl
 rw [List.drop_zero] at this
 exact this.1
def LZ (m : Ae) (t : Ao) (u : Nat) : Bool := (t.fR.getD u []).getD (m.fH.getD t.fK.toNat 0).toNat false
def O9 (m : Ae) (i : Nat) (t : Ao) (u : Nat) : Bool := Es (m.fI.getD i 0) u && !Jn m t.fK.toNat u
def HS (_p : Ab) (m : Ae) (i : Nat) (t : Ao) : Bool := t.fJ == 4 && (List.range 8).any fun u => O9 m i t u && !LZ m t u
def FQ (p : Ab) (m : Ae) (s : Af) : Option Ae :=
 let i := s.fN.toNat
 if s.fJ = 1 then (if 0 ≤ m.fE.getD i 0 ∨ m.fH.getD i 0 = s.fT then none else some ⟨m.fH, m.fE.set i s.fT, Io p s m.fI⟩)
 else if s.fJ = 3 then match p.fG[i]? with
  | none => none
  | some t => if B8 t = false ∨ m.fI.getD i 0 = Hz m t.fK.toNat ∨ HS p m i t = true then none else some ⟨m.fH, m.fE, m.fI.set i (Hz m t.fK.toNat)⟩
 else if m.fE.getD i 0 < 0 then none
 else some ⟨if s.fJ = 2 then m.fH.set i (m.fE.getD i 0) else m.fH, m.fE.set i (-1), m.fI⟩
def A3 (p : Ab) (m : Ae) (s : Af) : Ae × Int :=
 if G5 s = false then (Ih, 1) else if Gg p s = false then (Ih, 4) else match FQ p m s with
  | none => (Ih, 11)
  | some x => (x, 0)
end Go.Lift
namespace Go.Lift
open Option renaming bind_some → oS
open List renaming mem_of_getElem? → lM
open List renaming getElem?_eq_some_iff → lI
open List renaming getD_eq_getElem?_getD → lD
open Go
section clear
variable {p : Ab} {m : Ae} {i : Nat} {t : Ao}
theorem YI (hp : A9 p) (hm : B0 p m) (ht : p.fG[i]? = some t) (hs : B8 t = true) {u : Nat} (h : Es (m.fI.getD i 0) u = true) : (u : Int) < p.fF.getD t.fK.toNat 0 ∧ u < 6 ∧ t.fK.toNat < p.fF.length := by
 have h1 := hm.high i t ht hs u h
 have hin := JT (hp.tab t (lM ht))
 have h2 := I2 hp (i := t.fK.toNat) (by omega)
 exact ⟨h1, by omega, by omega⟩
theorem Yy (hp : A9 p) (hm : B0 p m) (ht : p.fG[i]? = some t) (hs : B8 t = true) (h4 : t.fJ = 4) {u : Nat} (h : Es (m.fI.getD i 0) u = true) :
  Br t.fR (u : Int) = some (t.fR.getD u []) ∧ Br (t.fR.getD u []) (m.fH.getD t.fK.toNat 0) = some (LZ m t u) := by
 have hT := IA (hp.tab t (lM ht))
 obtain ⟨h1, h2, h3⟩ := YI hp hm ht hs h
 have hl := hT.reL h4
 have e : t.fR[u]? = some (t.fR.getD u []) := by rw [lD]; simp [show u < t.fR.length from by omega]
 have hr := hT.reR _ (lM e)
 have hb := hm.b0 t.fK.toNat h3
 refine ⟨by rw [AN, e], ?_⟩
 unfold LZ
 obtain ⟨b, hb'⟩ := Int.eq_ofNat_of_zero_le hb.1
 rw [hb'] at hb ⊢
 rw [Int.toNat_natCast]
 exact Dw (by omega)
theorem QH (N : Nat) (hN : N ≤ 1000000) (h20 : 100 ≤ N) (hp : A9 p) (hm : B0 p m) (ht : p.fG[i]? = some t) :
  HA N p m (i : Int) = some (if B8 t = false ∨ m.fI.getD i 0 = Hz m t.fK.toNat ∨ HS p m i t = true then (false, m.fI) else (true, m.fI.set i (Hz m t.fK.toNat))) := by
 have hi := (lI.1 ht).1
 have hin := JT (hp.tab t (lM ht))
 have hb := hm.base
 have hnx := hm.next
 have hh := hm.held
 have hr := IV hp hm.toMixServ (s := t.fK.toNat) (by omega)
 have hrg := hm.range i hi
 have eh : Br m.fI (i : Int) = some (m.fI.getD i 0) := Dw (by omega)
 unfold HA
 simp only [A5, AN, ht, oS, LE]
 have eh' : m.fI[i]? = some (m.fI.getD i 0) := by rw [← AN, eh]
 cases hs : B8 t
 ·rw [Bool.not_false, AJ, if_pos (.inl rfl)]
 ·rw [Bool.not_true, Ap, Uy N m _ hin.1 (by omega) (by omega) (hm.b0 _ (by omega)).1]
  simp only [oS, eh']
  by_cases h1 : m.fI.getD i 0 = Hz m t.fK.toNat
  ·rw [beq_iff_eq.2 h1, AJ, AJ, if_pos (.inr (.inl h1))]
  ·rw [beq_eq_false_iff_ne.2 h1, Ap]
   by_cases h4 : t.fJ = 4
   ·rw [beq_iff_eq.2 h4, AJ, Fz (d := 0) hin.1 (by omega)]
    simp only [oS]
    obtain ⟨a1, a2, a3⟩ := UT hrg hr.2
    obtain ⟨w, hw⟩ := Int.eq_ofNat_of_zero_le a2
    unfold GD
    rw [hw] at a1 a3 ⊢
    rw [Td N t _ (LZ m t) 8 N w (cW _) (by omega) (by omega) (fun u hu hbu => by
     have := a1 u; rw [hbu] at this
     exact ⟨_, Yy hp hm ht hs h4 (Bool.and_eq_true_iff.1 this.symm).1⟩)]
    simp only [oS]
    have e : (!(List.range 8).all fun u => !Es (w : Int) u || LZ m t u) = HS p m i t := by
     unfold HS
     rw [beq_iff_eq.2 h4, Bool.true_and, List.not_all_eq_any_not]
     congr 1
     funext u
     rw [a1 u, hr.1 u]
     unfold O9
     cases Es (m.fI.getD i 0) u <;> cases Jn m t.fK.toNat u <;> cases LZ m t u <;> rfl
    rw [e]
    cases hst : HS p m i t
    ·rw [Ap, if_neg (by rintro (h | h | h); cases h; exact h1 h; cases h)]; rfl
    ·rw [AJ, if_pos (.inr (.inr rfl))]
   ·have e : HS p m i t = false := by unfold HS; rw [beq_eq_false_iff_ne.2 h4]; rfl
    rw [beq_eq_false_iff_ne.2 h4, Ap, Ap, e, if_neg (by rintro (h | h | h); cases h; exact h1 h; cases h)]; rfl
theorem PR (N : Nat) (hN : N ≤ 1000000) (h20 : 100 ≤ N) (hp : A9 p) (hm : B0 p m) (ht : p.fG[i]? = some t) (hs : B8 t = true) (s : Af) (hsi : s.fN = (i : Int)) (j : Option (Ae × Bool)) :
  BO N p m s t (Hz m t.fK.toNat) (fun _ => j) N 0 = if HS p m i t = true then some (Ih, false) else j := by
 have hi := (lI.1 ht).1
 have hin := JT (hp.tab t (lM ht))
 have hb := hm.base
 have hh := hm.held
 have hr := IV hp hm.toMixServ (s := t.fK.toNat) (by omega)
 have hrg := hm.range i hi
 have hver := I2 hp (i := t.fK.toNat) (by omega)
 obtain ⟨nv, hnv⟩ := Int.eq_ofNat_of_zero_le (show 0 ≤ p.fF.getD t.fK.toNat 0 by omega)
 have eh' : m.fI[i]? = some (m.fI.getD i 0) := by rw [lD]; simp [show i < m.fI.length from by omega]
 have := CZ (BO N p m s t (Hz m t.fK.toNat) fun _ => j) (List.range nv) j (fun u _ => if (O9 m i t u && (t.fJ == 4 && !LZ m t u)) = true then some (Ih, false) else none)
  (fun n u x hx => by
   have hu : u < nv := by
    have := (lI.1 hx).1
    simpa using this
   rw [BO, Fz (d := 0) hin.1 (by omega), hnv]
   simp only [oS]
   rw [AB (by omega)]
   simp only [A5, hsi, AN, eh', oS]
   rw [Yo N hrg (by omega), Az (by omega)]
   simp only [oS]
   cases h1 : Es (m.fI.getD i 0) u
   ·have e : O9 m i t u = false := by unfold O9; rw [h1]; rfl
    rw [Ap, Ap, Ap, e]; rfl
   ·rw [AJ, Yo N hr.2 (by omega), hr.1 u]
    simp only [oS]
    have e : O9 m i t u = !Jn m t.fK.toNat u := by unfold O9; rw [h1]; rfl
    rw [← e]
    cases h2 : O9 m i t u
    ·rw [Ap, Ap]; rfl
    ·rw [AJ]
     by_cases h4 : t.fJ = 4
     ·obtain ⟨e1, e2⟩ := Yy hp hm ht hs h4 h1
      rw [AN] at e1
      rw [beq_iff_eq.2 h4, AJ, e1, Fz (d := 0) hin.1 (by omega)]
      simp only [oS]
      rw [e2]
      simp only [oS]
      cases LZ m t u <;> rfl
     ·rw [beq_eq_false_iff_ne.2 h4, Ap, Ap]; rfl)
  (fun n => by
   rw [BO, Fz (d := 0) hin.1 (by omega), hnv]
   simp only [oS, List.length_range]
   rw [Aw (by omega)]) N 0 (Nat.zero_le _) (by simp; omega)
 have e0 : BO N p m s t (Hz m t.fK.toNat) (fun _ => j) N 0 = _ := this
 rw [e0, List.drop_zero]
 by_cases hst : HS p m i t = true
 ·rw [if_pos hst]
  unfold HS at hst
  rw [Bool.and_eq_true, List.any_eq_true] at hst
  obtain ⟨h4, u, hu, h5⟩ := hst
  rw [Bool.and_eq_true] at h5
  have h6 : Es (m.fI.getD i 0) u = true := by have := h5.1; unfold O9 at this; exact (Bool.and_eq_true_iff.1 this).1
  have h7 := YI hp hm ht hs h6
  cases hsc : DG (fun u (_ : Nat) => if (O9 m i t u && (t.fJ == 4 && !LZ m t u)) = true then some (Ih, false) else none) 0 (List.range nv) with
  | some r =>
   obtain ⟨q, x, hx, hf⟩ := E3 hsc
   split at hf
   ·cases hf; rfl
   ·cases hf
  | none =>
   exfalso
   have hx : (List.range nv)[u]? = some u := List.getElem?_range (by omega)
   have := Fp hsc u u hx
   rw [Nat.zero_add, h5.1, h4, h5.2] at this
   cases this
 ·rw [if_neg hst]
  have : DG (fun u (_ : Nat) => if (O9 m i t u && (t.fJ == 4 && !LZ m t u)) = true then some (Ih, false) else none) 0 (List.range nv) = none := F3 fun q x hx => by
   rw [Nat.zero_add]
   split
   ·rename_i h5
    exfalso; apply hst
    rw [Bool.and_eq_true, Bool.and_eq_true] at h5
    unfold HS
    rw [h5.2.1, Bool.true_and, List.any_eq_true]
    have hq : q < nv := by
     have := (lI.1 hx).1
     simpa using this
    exact ⟨q, List.mem_range.2 (by omega), by rw [h5.1, h5.2.2]; rfl⟩
   ·rfl
  rw [this]; rfl
end clear
end Go.Lift
namespace Go.Lift
open Option renaming bind_some → oS
open List renaming mem_of_getElem? → lM
open Go
theorem IB {s : Af} (h : G5 s = true) : 1 ≤ s.fJ ∧ s.fJ ≤ 4 ∧ 0 ≤ s.fN ∧ 0 ≤ s.fT ∧ (s.fJ ≠ 1 → s.fT = 0) := by
 unfold G5 at h
 rw [Bool.and_eq_true, decide_eq_true_iff, Bool.or_eq_true, beq_iff_eq, beq_iff_eq] at h
 exact ⟨h.1.1, h.1.2.1, h.1.2.2.1, h.1.2.2.2, fun hk => h.2.elim (fun e => (hk e).elim) id⟩
theorem Jx {p : Ab} {s : Af} (h : Gg p s = true) : (s.fJ = 3 → s.fN < (p.fG.length : Int)) ∧ (s.fJ ≠ 3 → s.fN < (p.fF.length : Int)) ∧ (s.fJ = 1 → s.fT < p.fF.getD s.fN.toNat 0) := by
 unfold Gg at h
 split at h
 ·rename_i hk
  rw [decide_eq_true_iff] at h
  exact ⟨fun _ => h, fun hn => (hn hk).elim, fun h1 => by omega⟩
 ·rename_i hk
  rw [Bool.and_eq_true, decide_eq_true_iff, Bool.or_eq_true, decide_eq_true_iff, bne_iff_ne] at h
  exact ⟨fun h3 => (hk h3).elim, fun _ => h.1, fun h1 => h.2.elim (fun hn => (hn h1).elim) id⟩
theorem WX (N : Nat) {p : Ab} {m : Ae} (hp : A9 p) (hm : B0 p m) : Hc N m = some m := by
 have hnv := hp.nv
 have hnt := hp.nt
 have h1 := hm.base
 have h2 := hm.next
 have h3 := hm.held
 unfold Hc
 rw [KF N _ (by simp only [C2]; omega), KF N _ (by simp only [C2]; omega), RC N _ (by simp only [C2]; omega)]
 rfl
theorem Mr (N : Nat) (hN : N ≤ 1000000) (h20 : 100 ≤ N) {p : Ab} {m : Ae} (hp : A9 p) (hm : B0 p m) {s : Af} (hv : G5 s = true) (hx : Gg p s = true) :
  ∃ o, F8 N p m s = some (o, (FQ p m s).isSome) ∧ ∀ x, FQ p m s = some x → o = x := by
 obtain ⟨k1, k4, i0, v0, vk⟩ := IB hv
 obtain ⟨x3, xn, x1⟩ := Jx hx
 have hnv := hp.nv
 have hnt := hp.nt
 have hb := hm.base
 have hn := hm.next
 have hh := hm.held
 obtain ⟨i, hi⟩ := Int.eq_ofNat_of_zero_le i0
 unfold F8 FQ
 rw [WX N hp hm]
 simp only [oS, A5]
 by_cases hk1 : s.fJ = 1
 ·have hi1 : (i : Int) < p.fF.length := by have := xn (by omega); omega
  rw [beq_iff_eq.2 hk1, AJ, if_pos hk1]
  unfold IG
  simp only [A5, hi, Int.toNat_natCast]
  rw [Dw (d := 0) (show i < m.fE.length by omega)]
  simp only [oS]
  by_cases c1 : 0 ≤ m.fE.getD i 0
  ·rw [AB c1, AJ, if_pos (.inl c1)]
   exact ⟨_, rfl, fun x hx => by cases hx⟩
  ·rw [Aw c1, Dw (d := 0) (show i < m.fH.length by omega)]
   simp only [oS]
   by_cases c2 : m.fH.getD i 0 = s.fT
   ·rw [beq_iff_eq.2 c2, AJ, if_pos (.inr c2)]
    exact ⟨_, rfl, fun x hx => by cases hx⟩
   ·rw [beq_eq_false_iff_ne.2 c2, Ap, (Pc (_R := Unit) N p s m.fI v0 hh (by omega) hN _).1, if_neg (by rintro (h | h); exact c1 h; exact c2 h)]
    exact ⟨_, rfl, fun x hx => by cases hx; rfl⟩
 ·rw [beq_eq_false_iff_ne.2 hk1, Ap, if_neg hk1]
  by_cases hk3 : s.fJ = 3
  ·have hi3 : i < p.fG.length := by have := x3 hk3; omega
   have ht : p.fG[i]? = some p.fG[i] := by simp [hi3]
   rw [beq_iff_eq.2 hk3, AJ, if_pos hk3, hi, QH N hN h20 hp hm ht]
   simp only [oS, Int.toNat_natCast, ht]
   split
   ·exact ⟨_, rfl, fun x hx => by cases hx⟩
   ·exact ⟨_, rfl, fun x hx => by cases hx; rfl⟩
  ·have hi1 : (i : Int) < p.fF.length := by have := xn hk3; omega
   rw [beq_eq_false_iff_ne.2 hk3, Ap, if_neg hk3, hi, Dw (d := 0) (show i < m.fE.length by omega)]
   simp only [oS, Int.toNat_natCast]
   by_cases c1 : m.fE.getD i 0 < 0
   ·rw [AB c1, if_pos c1]
    exact ⟨_, rfl, fun x hx => by cases hx⟩
   ·rw [Aw c1, if_neg c1]
    by_cases hk2 : s.fJ = 2
    ·rw [beq_iff_eq.2 hk2, AJ, Dw (d := 0) (show i < m.fH.length by omega), if_pos hk2]
     exact ⟨_, rfl, fun x hx => by cases hx; rfl⟩
    ·rw [beq_eq_false_iff_ne.2 hk2, Ap, if_neg hk2]
     exact ⟨_, rfl, fun x hx => by cases hx; rfl⟩
theorem QJ (N : Nat) (hN : N ≤ 1000000) (h20 : 100 ≤ N) {p : Ab} {m : Ae} (hp : A9 p) (hm : B0 p m) (s : Af) : HE N p m s = some (A3 p m s) := by
 unfold HE A3
 rw [QL]
 simp only [oS]
 cases hv : G5 s
 ·rw [Bool.not_false, AJ, if_pos rfl]; rfl
 ·rw [Bool.not_true, Ap, if_neg (by simp), PP N p s hv]
  simp only [oS]
  cases hx : Gg p s
  ·rw [Bool.not_false, AJ, if_pos rfl]; rfl
  ·rw [Bool.not_true, Ap, if_neg (by simp)]
   obtain ⟨o, e, ho⟩ := Mr N hN h20 hp hm hv hx
   rw [e]
   simp only [oS]
   cases ha : FQ p m s with
   | none => rfl
   | some x => rw [ho x ha]; rfl
theorem NH (N : Nat) (hN : N ≤ 1000000) (h20 : 100 ≤ N) {p : Ab} {m : Ae} (hp : A9 p) (hm : B0 p m) {s : Af} (hv : G5 s = true) (hx : Gg p s = true) :
  C6 N p m s = some (match FQ p m s with | none => (Ih, false) | some x => (x, true)) := by
 obtain ⟨k1, k4, i0, v0, vk⟩ := IB hv
 obtain ⟨x3, xn, x1⟩ := Jx hx
 have hnv := hp.nv
 have hnt := hp.nt
 have hb := hm.base
 have hn := hm.next
 have hh := hm.held
 obtain ⟨i, hi⟩ := Int.eq_ofNat_of_zero_le i0
 unfold C6 FQ
 rw [An (by simp [C2]; omega), An (by simp [C2]; omega), An (by simp [C2]; omega)]
 simp only [A5, List.nil_append]
 by_cases hk1 : s.fJ = 1
 ·have hi1 : (i : Int) < p.fF.length := by have := xn (by omega); omega
  rw [beq_iff_eq.2 hk1, AJ, if_pos hk1]
  simp only [hi, Int.toNat_natCast]
  rw [Dw (d := 0) (show i < m.fE.length by omega)]
  simp only [oS]
  by_cases c1 : 0 ≤ m.fE.getD i 0
  ·rw [AB c1, AJ, if_pos (.inl c1)]; rfl
  ·rw [Aw c1, Dw (d := 0) (show i < m.fH.length by omega)]
   simp only [oS]
   by_cases c2 : m.fH.getD i 0 = s.fT
   ·rw [beq_iff_eq.2 c2.symm, AJ, if_pos (.inr c2)]; rfl
   ·rw [beq_eq_false_iff_ne.2 (fun h => c2 h.symm), Ap, Pp N p s m.fI v0 hh (by omega) hN _, if_neg (by rintro (h | h); exact c1 h; exact c2 h)]
 ·rw [beq_eq_false_iff_ne.2 hk1, Ap, if_neg hk1]
  by_cases hk3 : s.fJ = 3
  ·have hi3 : i < p.fG.length := by have := x3 hk3; omega
   have ht : p.fG[i]? = some p.fG[i] := by simp [hi3]
   have hin := JT (hp.tab _ (lM ht))
   have eh' : Br m.fI (i : Int) = some (m.fI.getD i 0) := Dw (by omega)
   rw [beq_eq_false_iff_ne.2 (show s.fJ ≠ 2 by omega), Ap, beq_iff_eq.2 hk3, AJ, if_pos hk3, hi, AN, ht]
   simp only [oS, HI, Int.toNat_natCast, ht]
   cases hs : B8 p.fG[i]
   ·rw [Bool.not_false, AJ, if_pos (.inl rfl)]; rfl
   ·rw [Bool.not_true, Ap, KU N m _ hin.1 (by omega) (by omega) (hm.b0 _ (by omega)).1, eh']
    simp only [oS]
    by_cases h1 : m.fI.getD i 0 = Hz m (p.fG[i]).fK.toNat
    ·rw [beq_iff_eq.2 h1, AJ, if_pos (.inr (.inl h1))]; rfl
    ·rw [beq_eq_false_iff_ne.2 h1, Ap]
     rw [PR N hN h20 hp hm ht hs s hi]
     cases hst : HS p m i p.fG[i]
     ·rw [if_neg (by simp), if_neg (by rintro (h | h | h); cases h; exact h1 h; cases h)]
     ·rw [if_pos rfl, if_pos (.inr (.inr rfl))]
  ·have hi1 : (i : Int) < p.fF.length := by have := xn hk3; omega
   rw [if_neg hk3, hi, Dw (d := 0) (show i < m.fE.length by omega)]
   simp only [oS, Int.toNat_natCast]
   by_cases hk2 : s.fJ = 2
   ·rw [beq_iff_eq.2 hk2, AJ, if_pos hk2]
    by_cases c1 : m.fE.getD i 0 < 0
    ·rw [AB c1, if_pos c1]; rfl
    ·rw [Aw c1, if_neg c1, Dw (d := 0) (show i < m.fH.length by omega)]; rfl
   ·rw [beq_eq_false_iff_ne.2 hk2, Ap, beq_eq_false_iff_ne.2 hk3, Ap, if_neg hk2]
    by_cases c1 : m.fE.getD i 0 < 0
    ·rw [AB c1, if_pos c1]; rfl
    ·rw [Aw c1, if_neg c1]
end Go.Lift
namespace Go.Lift
open Option renaming bind_some → oS
open List renaming mem_of_getElem? → lM
open List renaming getElem?_eq_some_iff → lI
open Go
theorem UJ (s : Af) : ∀ (xs : List Ao) (i : Nat) (a : List Int), i + xs.length ≤ a.length → (HY (T2 s) i xs a).length = a.length ∧ ∀ q, (HY (T2 s) i xs a).getD q 0 = match (if i ≤ q then xs[q - i]? else none) with
  | some t => if Vk s t = true then QD .u8 (a.getD q 0) (Ex .u8 1 s.fT) else a.getD q 0
  | none => a.getD q 0
 | [], i, a, _ => by
  refine ⟨rfl, fun q => ?_⟩
  split
  ·rename_i h; split at h
   ·simp at h
   ·cases h
  ·rfl
 | x :: xs, i, a, hl => by
  have hl' : i + (xs.length + 1) ≤ a.length := by simpa using hl
  have ha : (T2 s i x a).length = a.length := by unfold T2; split <;> simp
  obtain ⟨ih1, ih2⟩ := UJ s xs (i + 1) (T2 s i x a) (by omega)
  refine ⟨by rw [HY, ih1, ha], fun q => ?_⟩
  rw [HY, ih2 q]
  have hu : (T2 s i x a).getD q 0 = if q = i ∧ Vk s x = true then QD .u8 (a.getD q 0) (Ex .u8 1 s.fT) else a.getD q 0 := by
   unfold T2
   by_cases hc : Vk s x = true
   ·rw [if_pos hc, JR (by omega)]
    by_cases hq : q = i
    ·subst hq; rw [if_pos rfl, if_pos ⟨rfl, hc⟩]
    ·rw [if_neg hq, if_neg (fun h => hq h.1)]
   ·rw [if_neg hc, if_neg (fun h => hc h.2)]
  by_cases h1 : i + 1 ≤ q
  ·rw [if_pos h1, if_pos (show i ≤ q by omega), hu, if_neg (by omega)]
   rw [show (x :: xs)[q - i]? = xs[q - (i + 1)]? from by rw [show q - i = (q - (i + 1)) + 1 from by omega, List.getElem?_cons_succ]]
  ·rw [if_neg h1]
   by_cases h2 : q = i
   ·subst h2
    rw [if_pos (Nat.le_refl _), Nat.sub_self, hu]
    simp
   ·rw [if_neg (show ¬ i ≤ q by omega), hu, if_neg (by omega)]
theorem WU {p : Ab} {s : Af} {held : List Int} (hl : held.length = p.fG.length) : (Io p s held).length = p.fG.length ∧ ∀ q t, p.fG[q]? = some t → (Io p s held).getD q 0 = if Vk s t = true then QD .u8 (held.getD q 0) (Ex .u8 1 s.fT) else held.getD q 0 := by
 obtain ⟨h1, h2⟩ := UJ s p.fG 0 held (by omega)
 refine ⟨h1.trans hl, fun q t ht => ?_⟩
 have := h2 q
 rw [if_pos (Nat.zero_le _), Nat.sub_zero, ht] at this
 exact this
theorem Qd {m : Ae} {s v : Nat} : Jn m s v = true ↔ m.fH.getD s 0 = (v : Int) ∨ m.fE.getD s 0 = (v : Int) := by
 unfold Jn; rw [Bool.or_eq_true, decide_eq_true_iff, decide_eq_true_iff]
theorem Xs {p : Ab} {m x : Ae} (hp : A9 p) (hm : B0 p m) {s : Af} (hv : G5 s = true) (hx : Gg p s = true) (h : FQ p m s = some x) : B0 p x := by
 obtain ⟨k1, k4, i0, v0, vk⟩ := IB hv
 obtain ⟨x3, xn, x1⟩ := Jx hx
 obtain ⟨i, hi⟩ := Int.eq_ofNat_of_zero_le i0
 have hb := hm.base
 have hn := hm.next
 have hh := hm.held
 unfold FQ at h
 simp only [hi, Int.toNat_natCast] at h
 rw [hi, Int.toNat_natCast] at x1
 split at h
 ·rename_i hk1
  have hi1 : i < p.fF.length := by have := xn (by omega); omega
  have hx1 := x1 hk1
  have hvi := I2 hp hi1
  split at h
  ·cases h
  rename_i hc
  cases h
  obtain ⟨u1, u2⟩ := WU (s := s) hh
  obtain ⟨b, hbv⟩ := Int.eq_ofNat_of_zero_le v0
  have hob := Zv (b := b) (by omega)
  have hN : ∀ q, (m.fE.set i s.fT).getD q 0 = if q = i then s.fT else m.fE.getD q 0 := fun q => JR (by omega)
  refine { base := hb, next := by simpa using hn, held := u1, b0 := hm.b0, n0 := fun q hq => ?_, ne := fun q hq => ?_, range := fun q hq => ?_, low := fun q t ht hs v hr => ?_, high := fun q t ht hs v hbit => ?_, none := fun q t ht hs => ?_ }
  ·show -1 ≤ (m.fE.set i s.fT).getD q 0 ∧ (m.fE.set i s.fT).getD q 0 < _
   rw [hN q]
   split
   ·rename_i e; subst e; omega
   ·exact hm.n0 q hq
  ·show m.fH.getD q 0 ≠ (m.fE.set i s.fT).getD q 0
   rw [hN q]
   split
   ·rename_i e; subst e; exact fun h => hc (.inr h)
   ·exact hm.ne q hq
  ·have ht : p.fG[q]? = some p.fG[q] := by simp [hq]
   show 0 ≤ (Io p s m.fI).getD q 0 ∧ (Io p s m.fI).getD q 0 ≤ 255
   rw [u2 q _ ht, hbv]
   split
   ·exact (VE (hm.range q hq) hob.2).2
   ·exact hm.range q hq
  ·have hq := (lI.1 ht).1
   show Es ((Io p s m.fI).getD q 0) v = true
   have hin := JT (hp.tab t (lM ht))
   rw [Qd] at hr
   have hr : m.fH.getD t.fK.toNat 0 = (v : Int) ∨ (m.fE.set i s.fT).getD t.fK.toNat 0 = (v : Int) := hr
   rw [hN] at hr
   rw [u2 q t ht, hbv]
   have hlow := hm.low q t ht hs v
   rw [Qd] at hlow
   by_cases hf : t.fK.toNat = i
   ·have hup : Vk s t = true := by unfold Vk; rw [hs, Bool.and_true, beq_iff_eq, hi]; omega
    rw [if_pos hup, (VE (hm.range q hq) hob.2).1, hob.1 v, Bool.or_eq_true, decide_eq_true_iff]
    rw [if_pos hf] at hr
    rcases hr with h | h
    ·exact .inl (hlow (.inl h))
    ·right; omega
   ·rw [if_neg hf] at hr
    have hup : Vk s t = false := by unfold Vk; rw [hs, Bool.and_true, beq_eq_false_iff_ne, hi]; omega
    rw [hup, if_neg (by simp)]
    exact hlow hr
  ·have hq := (lI.1 ht).1
   have hbit : Es ((Io p s m.fI).getD q 0) v = true := hbit
   have hin := JT (hp.tab t (lM ht))
   rw [u2 q t ht, hbv] at hbit
   split at hbit
   ·rename_i hup
    rw [(VE (hm.range q hq) hob.2).1, hob.1 v, Bool.or_eq_true, decide_eq_true_iff] at hbit
    rcases hbit with h | h
    ·exact hm.high q t ht hs v h
    ·unfold Vk at hup
     rw [hs, Bool.and_true, beq_iff_eq, hi] at hup
     rw [hup, Int.toNat_natCast]; omega
   ·exact hm.high q t ht hs v hbit
  ·show (Io p s m.fI).getD q 0 = 0
   have hup : Vk s t = false := by unfold Vk; rw [hs, Bool.and_false]
   rw [u2 q t ht, hup, if_neg (by simp)]
   exact hm.none q t ht hs
 ·rename_i hk1
  split at h
  ·rename_i hk3
   have hi3 : i < p.fG.length := by have := x3 hk3; omega
   have ht0 : p.fG[i]? = some p.fG[i] := by simp [hi3]
   rw [ht0] at h
   simp only at h
   split at h
   ·cases h
   rename_i hc
   cases h
   have hin0 := JT (hp.tab _ (lM ht0))
   have hr0 := IV hp hm.toMixServ (s := (p.fG[i]).fK.toNat) (by omega)
   have hs0 : B8 p.fG[i] = true := by
    cases hs : B8 p.fG[i]
    ·exact (hc (.inl hs)).elim
    ·rfl
   have hH : ∀ q, (m.fI.set i (Hz m (p.fG[i]).fK.toNat)).getD q 0 = if q = i then Hz m (p.fG[i]).fK.toNat else m.fI.getD q 0 := fun q => JR (by omega)
   refine { base := hb, next := hn, held := by simpa using hh, b0 := hm.b0, n0 := hm.n0, ne := hm.ne, range := fun q hq => ?_, low := fun q t ht hs v hr => ?_, high := fun q t ht hs v hbit => ?_, none := fun q t ht hs => ?_ }
   ·show 0 ≤ (m.fI.set i (Hz m (p.fG[i]).fK.toNat)).getD q 0 ∧ (m.fI.set i (Hz m (p.fG[i]).fK.toNat)).getD q 0 ≤ 255
    rw [hH q]
    split
    ·exact hr0.2
    ·exact hm.range q hq
   ·show Es ((m.fI.set i (Hz m (p.fG[i]).fK.toNat)).getD q 0) v = true
    have hr : Jn m t.fK.toNat v = true := hr
    rw [hH q]
    split
    ·rename_i e; subst e
     rw [ht0] at ht; cases ht
     rw [hr0.1]; exact hr
    ·exact hm.low q t ht hs v hr
   ·have hbit : Es ((m.fI.set i (Hz m (p.fG[i]).fK.toNat)).getD q 0) v = true := hbit
    rw [hH q] at hbit
    split at hbit
    ·rename_i e; subst e
     rw [ht0] at ht; cases ht
     rw [hr0.1] at hbit
     exact hm.high q _ ht0 hs0 v (hm.low q _ ht0 hs0 v hbit)
    ·exact hm.high q t ht hs v hbit
   ·show (m.fI.set i (Hz m (p.fG[i]).fK.toNat)).getD q 0 = 0
    rw [hH q, if_neg (fun e => by subst e; rw [ht0] at ht; cases ht; rw [hs0] at hs; cases hs)]
    exact hm.none q t ht hs
  ·rename_i hk3
   have hi1 : i < p.fF.length := by have := xn hk3; omega
   have hvi := I2 hp hi1
   split at h
   ·cases h
   rename_i hc
   cases h
   have hN : ∀ q, (m.fE.set i (-1)).getD q 0 = if q = i then -1 else m.fE.getD q 0 := fun q => JR (by omega)
   have hB : ∀ q, (if s.fJ = 2 then m.fH.set i (m.fE.getD i 0) else m.fH).getD q 0 = if s.fJ = 2 ∧ q = i then m.fE.getD i 0 else m.fH.getD q 0 := fun q => by
    by_cases hk2 : s.fJ = 2
    ·rw [if_pos hk2, JR (by omega)]
     by_cases e : q = i
     ·rw [if_pos e, if_pos ⟨hk2, e⟩]
     ·rw [if_neg e, if_neg (fun h => e h.2)]
    ·rw [if_neg hk2, if_neg (fun h => hk2 h.1)]
   have hrun : ∀ q v, Jn ⟨if s.fJ = 2 then m.fH.set i (m.fE.getD i 0) else m.fH, m.fE.set i (-1), m.fI⟩ q v = true → Jn m q v = true := fun q v hr => by
    rw [Qd] at hr ⊢
    simp only [hN q, hB q] at hr
    by_cases e : q = i
    ·subst e
     rw [if_pos rfl] at hr
     by_cases hk2 : s.fJ = 2
     ·rw [if_pos ⟨hk2, rfl⟩] at hr; omega
     ·rw [if_neg (fun h => hk2 h.1)] at hr; omega
    ·rw [if_neg e, if_neg (fun h => e h.2)] at hr; exact hr
   refine { base := by simp only; split <;> simp [hb], next := by simpa using hn, held := hh, b0 := fun q hq => ?_, n0 := fun q hq => ?_, ne := fun q hq => ?_, range := hm.range, low := fun q t ht hs v hr => hm.low q t ht hs v (hrun _ _ hr), high := hm.high, none := hm.none }
   ·simp only [hB q]
    split
    ·rename_i e; obtain ⟨_, e⟩ := e; subst e
     have := hm.n0 q hq
     omega
    ·exact hm.b0 q hq
   ·simp only [hN q]
    split
    ·rename_i e; subst e; omega
    ·exact hm.n0 q hq
   ·simp only [hB q, hN q]
    have h1 := hm.b0 q hq
    by_cases e : q = i
    ·rw [if_pos e]
     split
     ·rename_i e2; obtain ⟨_, e2⟩ := e2; subst e2; omega
     ·omega
    ·rw [if_neg e, if_neg (fun h => e h.2)]; exact hm.ne q hq
theorem Sn (N : Nat) (hN : N ≤ 1000000) (h20 : 100 ≤ N) {p : Ab} {m : Ae} (hw : N9 Mn m.fI) (s : Af) : Fh N p m s = some (if Gm p m = 0 then A3 p m s else (Ih, Gm p m)) := by
 unfold Fh A3
 rw [Jl N p m hN (by omega)]
 simp only [oS, A5]
 by_cases hval : Gm p m = 0
 ·obtain ⟨hp, hm⟩ := KG hw hval
  rw [if_pos hval, hval, bne_self_eq_false, Ap, SK]
  simp only [oS]
  cases hv : G5 s
  ·rw [Bool.not_false, AJ, if_pos rfl]; rfl
  ·rw [Bool.not_true, Ap, if_neg (by simp)]
   obtain ⟨k1, k4, i0, v0, vk⟩ := IB hv
   have key : ∀ b : Bool, Gg p s = b → (if b = false then (Ih, (4 : Int)) else match FQ p m s with | none => (Ih, 11) | some x => (x, 0)) = (if b = false then (Ih, (4 : Int)) else match FQ p m s with | none => (Ih, 11) | some x => (x, 0)) := fun _ _ => rfl
   have tail : Gg p s = true → ((C6 N p m s).bind fun v15 => AR (!v15.2) (some (Ae.mk [] [] [], (11 : Int))) (some (v15.1, 0))) = some (match FQ p m s with | none => (Ih, 11) | some x => (x, 0)) := fun hx => by
    rw [NH N hN h20 hp hm hv hx]
    cases FQ p m s <;> rfl
   have zz : (Ae.mk [] [] [], (4 : Int)) = (Ih, 4) := rfl
   by_cases hk3 : s.fJ = 3
   ·rw [beq_iff_eq.2 hk3, AJ, show (s.fJ != 3) = false from by rw [hk3]; rfl]
    have hX : Gg p s = decide (s.fN < (p.fG.length : Int)) := by unfold Gg; rw [if_pos hk3]
    by_cases c : (p.fG.length : Int) ≤ s.fN
    ·rw [AB c, AJ, hX, decide_eq_false (by omega), if_pos rfl]; rfl
    ·have hx : Gg p s = true := by rw [hX, decide_eq_true (by omega)]
     rw [Aw c, Ap, Ap, beq_eq_false_iff_ne.2 (show s.fJ ≠ 1 by omega), Ap, Ap, hx, if_neg (by simp)]
     exact tail hx
   ·rw [beq_eq_false_iff_ne.2 hk3, Ap, bne_iff_ne.2 hk3, AJ]
    have hX : Gg p s = (decide (s.fN < (p.fF.length : Int)) && (s.fJ != 1 || decide (s.fT < p.fF.getD s.fN.toNat 0))) := by unfold Gg; rw [if_neg hk3]
    by_cases c : (p.fF.length : Int) ≤ s.fN
    ·rw [decide_eq_true c, AJ, hX, decide_eq_false (show ¬ s.fN < (p.fF.length : Int) by omega), Bool.false_and, if_pos rfl]; rfl
    ·rw [decide_eq_false c, Ap]
     by_cases hk1 : s.fJ = 1
     ·rw [beq_iff_eq.2 hk1, AJ, Fz (d := 0) i0 (by omega)]
      simp only [oS]
      by_cases c2 : p.fF.getD s.fN.toNat 0 ≤ s.fT
      ·rw [decide_eq_true c2, AJ, hX, decide_eq_false (show ¬ s.fT < p.fF.getD s.fN.toNat 0 by omega), show (s.fJ != 1) = false from by rw [hk1]; rfl, Bool.false_or, Bool.and_false, if_pos rfl]; rfl
      ·have hx : Gg p s = true := by rw [hX, decide_eq_true (by omega), decide_eq_true (by omega), Bool.or_true]; rfl
       rw [decide_eq_false c2, Ap, hx, if_neg (by simp)]
       exact tail hx
     ·have hx : Gg p s = true := by rw [hX, decide_eq_true (by omega), bne_iff_ne.2 hk1]; rfl
      rw [beq_eq_false_iff_ne.2 hk1, Ap, Ap, hx, if_neg (by simp)]
      exact tail hx
 ·rw [if_neg hval, bne_iff_ne.2 hval, AJ]; rfl
theorem QS (N : Nat) (hN : N ≤ 1000000) (h20 : 100 ≤ N) {p : Ab} {m : Ae} (hw : N9 Mn m.fI) (s : Af) : Hv N p m s = some (if Gm p m = 0 then A3 p m s else (Ih, Gm p m)) := by
 unfold Hv
 rw [Je N p m hN (by omega) hw]
 simp only [oS]
 by_cases hval : Gm p m = 0
 ·obtain ⟨hp, hm⟩ := KG hw hval
  rw [if_pos hval, hval, bne_self_eq_false, Ap, QJ N hN h20 hp hm s]; rfl
 ·rw [if_neg hval, bne_iff_ne.2 hval, AJ]; rfl
theorem L5 {p : Ab} {m : Ae} (hp : A9 p) (hm : B0 p m) {s : Af} (h : (A3 p m s).2 = 0) : B0 p (A3 p m s).1 := by
 unfold A3 at h ⊢
 split at h
 ·cases h
 rename_i h1
 rw [if_neg h1]
 split at h
 ·cases h
 rename_i h2
 rw [if_neg h2]
 cases ha : FQ p m s with
 | none => rw [ha] at h; cases h
 | some x => exact Xs hp hm (by simpa using h1) (by simpa using h2) ha
end Go.Lift
namespace Go.Lift
open Go
section
variable {N : Nat} {p : Ab} {l : List Af}
end
end Go.Lift
namespace Go.Lift
open Go
theorem Qe {α : Type} (l : List α) (i : Nat) : l.eraseIdx i = l.take i ++ l.drop (i + 1) := List.eraseIdx_eq_take_drop_succ ..
def N2 (p : Ab) (m : Ae) (s : Af) : Option Ae := if (A3 p m s).2 = 0 ∧ s.fJ ≠ 4 ∧ Bq p (A3 p m s).1 = true then some (A3 p m s).1 else none
def P0 (p : Ab) : Ae → List Af → Option Ae
 | m, [] => some m
 | m, s :: l => (N2 p m s).bind fun x => P0 p x l
def Nc (p : Ab) (m : Ae) (l : List Af) : Bool := match P0 p m l with
 | some x => Ie p x
 | none => false
theorem W9 {p : Ab} {m x : Ae} {s : Af} : N2 p m s = some x ↔ G5 s = true ∧ Gg p s = true ∧ FQ p m s = some x ∧ s.fJ ≠ 4 ∧ Bq p x = true := by
 unfold N2 A3
 cases h1 : G5 s
 ·simp
 cases h2 : Gg p s
 ·simp
 cases h3 : FQ p m s with
 | none => simp
 | some y =>
  simp only [Bool.true_eq_false, if_false, true_and, Option.some.injEq]
  constructor
  ·intro h
   split at h
   ·rename_i hc; cases h; exact ⟨rfl, hc.1, hc.2⟩
   ·cases h
  ·rintro ⟨rfl, h4, h5⟩
   rw [if_pos ⟨h4, h5⟩]
theorem RE {p : Ab} {m : Ae} {l : List Af} (h : Nc p m l = true) : ∃ x, P0 p m l = some x ∧ Ie p x = true := by
 unfold Nc at h
 cases hr : P0 p m l with
 | none => rw [hr] at h; cases h
 | some x => rw [hr] at h; exact ⟨x, rfl, h⟩
end Go.Lift
namespace Go.Lift
open IntKind renaming wrap → wI
open Option renaming bind_some → oS
open List renaming getElem?_eq_some_iff → lI
open List renaming getD_eq_getElem?_getD → lD
open Go
def GW (m : Ae) (i : Nat) (b : Int) : List Int := [wI .u8 b, wI .u8 (wI .i64 (m.fE.getD i 0 + 1))]
def LN (m : Ae) : List Int := B1 (GW m) 0 m.fH ++ m.fI
theorem YV (N : Nat) (hN : N ≤ 1000000) (h20 : 100 ≤ N) {p : Ab} {m : Ae} (hp : A9 p) (hm : B0 p m) : HW N m = some (CU (LN m)) := by
 have hnv := hp.nv
 have hnt := hp.nt
 have hb := hm.base
 have hn := hm.next
 have hh := hm.held
 unfold HW
 have e1 : wI .i64 (2 * (m.fH.length : Int)) = 2 * (m.fH.length : Int) := Cx (by omega) (by omega)
 rw [e1, Cx (n := 2 * (m.fH.length : Int) + (m.fI.length : Int)) (by omega) (by omega), An ⟨Int.le_refl 0, by omega, by simp only [C2]; omega⟩]
 have l1 := Dc (Fg N m fun v3 => D6 N m (fun v9 => some (CU v9)) N (v3, 0)) (fun a i => (a, i)) m.fH (fun v3 => D6 N m (fun v9 => some (CU v9)) N (v3, 0)) (GW m) 2 100
  (fun i x hx => by simp [GW])
  (fun n i x a hx hl => by
   have hi := (lI.1 hx).1
   rw [Fg, AB (by simp only; omega)]
   simp only [AN, hx, oS, Az (show i < 1000000 by omega)]
   have e2 : m.fE[i]? = some (m.fE.getD i 0) := by rw [lD]; simp [show i < m.fE.length by omega]
   rw [e2]
   simp only [oS]
   rw [An (by simp [C2]; simp [GW] at hl; omega)]
   rfl)
  (fun n a => by rw [Fg, Aw (by simp)]) N [] (by omega) (by simp; omega)
 have l1' : Fg N m (fun v3 => D6 N m (fun v9 => some (CU v9)) N (v3, 0)) N (List.replicate (0 : Int).toNat (0 : Int), 0) = _ := l1
 rw [l1', List.nil_append]
 have hfl : (B1 (GW m) 0 m.fH).length ≤ 2 * m.fH.length := FG fun j x hx => by simp [GW]
 have l2 := Dc (D6 N m fun v9 => some (CU v9)) (fun a i => (a, i)) m.fI (fun v9 => some (CU v9)) (fun _ x => [x]) 1 100
  (fun i x hx => by simp)
  (fun n i x a hx hl => by
   have hi := (lI.1 hx).1
   rw [D6, AB (by simp only; omega)]
   simp only [AN, hx, oS, Az (show i < 1000000 by omega)]
   rw [An (by simp [C2]; simp at hl; omega)])
  (fun n a => by rw [D6, Aw (by simp)]) N (B1 (GW m) 0 m.fH) (by omega) (by omega)
 have e3 : ∀ (i : Nat) (l : List Int), B1 (fun _ (x : Int) => [x]) i l = l := by
  intro i l
  induction l generalizing i with
  | nil => rfl
  | cons x l ih => rw [B1, ih]; rfl
 refine l2.trans ?_
 rw [e3]; rfl
theorem Vq (xs : List Int) : ∀ b : ByteArray, (xs.foldl (fun s n => s.push (UInt8.ofNat n.toNat)) b).data.toList = b.data.toList ++ xs.map fun n => UInt8.ofNat n.toNat := by
 induction xs with
 | nil => intro b; simp
 | cons x xs ih => intro b; rw [List.foldl_cons, ih]; simp [ByteArray.push]
theorem Nw (xs : List Int) : (CU xs).data.toList = xs.map fun n => UInt8.ofNat n.toNat := by
 unfold CU
 rw [Vq]; rfl
theorem cm {a b : Int} (ha : 0 ≤ a ∧ a ≤ 255) (hb : 0 ≤ b ∧ b ≤ 255) (h : UInt8.ofNat a.toNat = UInt8.ofNat b.toNat) : a = b := by
 have := congrArg UInt8.toNat h
 simp at this
 omega
theorem PC : ∀ {xs ys : List Int}, (∀ x, x ∈ xs → 0 ≤ x ∧ x ≤ 255) → (∀ x, x ∈ ys → 0 ≤ x ∧ x ≤ 255) → (xs.map fun n => UInt8.ofNat n.toNat) = (ys.map fun n => UInt8.ofNat n.toNat) → xs = ys
 | [], [], _, _, _ => rfl
 | [], _ :: _, _, _, h => by cases h
 | _ :: _, [], _, _, h => by cases h
 | x :: xs, y :: ys, hx, hy, h => by
  rw [List.map_cons, List.map_cons, List.cons.injEq] at h
  rw [cm (hx x (by simp)) (hy y (by simp)) h.1, PC (fun z hz => hx z (List.mem_cons_of_mem _ hz)) (fun z hz => hy z (List.mem_cons_of_mem _ hz)) h.2]
theorem To {xs ys : List Int} (hx : ∀ x, x ∈ xs → 0 ≤ x ∧ x ≤ 255) (hy : ∀ x, x ∈ ys → 0 ≤ x ∧ x ≤ 255) (h : (CU xs == CU ys) = true) : xs = ys := by
 rw [Kt, beq_iff_eq] at h
 have h := congrArg Array.toList h
 rw [Nw, Nw] at h
 exact PC hx hy h
theorem SH (xs : List Int) : (CU xs == CU xs) = true := by rw [Kt]; simp
theorem Rp {α β : Type} {g h : Nat → α → List β} {c : Nat} : ∀ {i : Nat} {xs ys : List α}, xs.length = ys.length → (∀ i x, (g i x).length = c) → (∀ i x, (h i x).length = c) → B1 g i xs = B1 h i ys → ∀ j x y, xs[j]? = some x → ys[j]? = some y → g (i + j) x = h (i + j) y
 | i, [], ys, _, _, _, _, j, x, y, hx, _ => by simp at hx
 | i, x :: xs, [], hl, _, _, _, _, _, _, _, _ => by simp at hl
 | i, x :: xs, y :: ys, hl, hg, hh, e, j, x', y', hx, hy => by
  rw [B1, B1] at e
  have e1 := List.append_inj e ((hg i x).trans (hh i y).symm)
  cases j with
  | zero => simp at hx hy; subst hx; subst hy; exact e1.1
  | succ j =>
   have := Rp (i := i + 1) (by simpa using hl) hg hh e1.2 j x' y' (by simpa using hx) (by simpa using hy)
   rwa [show i + 1 + j = i + (j + 1) from by omega] at this
theorem Rk {p : Ab} {m : Ae} (_hp : A9 p) (hm : B0 p m) : ∀ x, x ∈ LN m → 0 ≤ x ∧ x ≤ 255 := by
 intro x hx
 unfold LN at hx
 rcases List.mem_append.1 hx with h | h
 ·obtain ⟨j, b, hb, hk⟩ := FH.1 h
  have hw : ∀ n : Int, 0 ≤ wI .u8 n ∧ wI .u8 n ≤ 255 := fun n => by
   simp [wI, IntKind.signed, IntKind.bits]; omega
  unfold GW at hk
  rcases List.mem_cons.1 hk with e | e
  ·subst e; exact hw _
  ·rcases List.mem_cons.1 e with e | e
   ·subst e; exact hw _
   ·cases e
 ·obtain ⟨j, hj⟩ := List.mem_iff_getElem?.1 h
  have hl := (lI.1 hj).1
  have := hm.range j (by rw [← hm.held]; exact hl)
  rw [lD, hj] at this
  exact this
theorem IH {n : Int} (h : 0 ≤ n ∧ n ≤ 255) : wI .u8 n = n := by
 simp [wI, IntKind.signed, IntKind.bits]; omega
theorem Zg {p : Ab} {m x : Ae} (hp : A9 p) (hm : B0 p m) (hx : B0 p x) (h : (CU (LN m) == CU (LN x)) = true) : m = x := by
 have e := To (Rk hp hm) (Rk hp hx) h
 unfold LN at e
 have hbl : m.fH.length = x.fH.length := hm.base.trans hx.base.symm
 have hfl : ∀ y : Ae, (B1 (GW y) 0 y.fH).length = 2 * y.fH.length := fun y => by
  have : ∀ (i : Nat) (l : List Int), (B1 (GW y) i l).length = 2 * l.length := by
   intro i l
   induction l generalizing i with
   | nil => rfl
   | cons b l ih => rw [B1, List.length_append, ih, List.length_cons]; simp [GW]; omega
  exact this 0 _
 obtain ⟨e1, e2⟩ := List.append_inj e (by rw [hfl, hfl, hbl])
 have key : ∀ j, j < p.fF.length → m.fH.getD j 0 = x.fH.getD j 0 ∧ m.fE.getD j 0 = x.fE.getD j 0 := fun j hj => by
  have h1 : m.fH[j]? = some (m.fH.getD j 0) := by rw [lD]; simp [hm.base, hj]
  have h2 : x.fH[j]? = some (x.fH.getD j 0) := by rw [lD]; simp [hx.base, hj]
  have h3 := Rp (c := 2) hbl (fun _ _ => by simp [GW]) (fun _ _ => by simp [GW]) e1 j _ _ h1 h2
  rw [Nat.zero_add] at h3
  have v := I2 hp hj
  have b1 := hm.b0 j hj
  have b2 := hx.b0 j hj
  have n1 := hm.n0 j hj
  have n2 := hx.n0 j hj
  unfold GW at h3
  rw [Cx (n := m.fE.getD j 0 + 1) (by omega) (by omega), Cx (n := x.fE.getD j 0 + 1) (by omega) (by omega), IH (n := m.fH.getD j 0) (by omega), IH (n := x.fH.getD j 0) (by omega), IH (n := m.fE.getD j 0 + 1) (by omega), IH (n := x.fE.getD j 0 + 1) (by omega), List.cons.injEq, List.cons.injEq] at h3
  exact ⟨h3.1, by omega⟩
 have hB : m.fH = x.fH := F7 hbl fun q hq => (key q (by rw [← hm.base]; exact hq)).1
 have hN : m.fE = x.fE := F7 (hm.next.trans hx.next.symm) fun q hq => (key q (by rw [← hm.next]; exact hq)).2
 cases m; cases x
 simp only at hB hN e2
 rw [hB, hN, e2]
end Go.Lift
namespace Go.Lift
open Option renaming bind_some → oS
open List renaming mem_of_getElem? → lM
open List renaming getElem?_eq_some_iff → lI
open Go
def J1 (i : Nat) (n : Int) : List Af := (List.range n.toNat).map fun v => ⟨1, (i : Int), ((v : Nat) : Int), ⟩
def En (p : Ab) : List Af := B1 J1 0 p.fF ++ ((List.range p.fF.length).map fun i => (⟨2, ((i : Nat) : Int), 0⟩ : Af)) ++ ((List.range p.fG.length).map fun i => (⟨3, ((i : Nat) : Int), 0⟩ : Af))
def Ga (p : Ab) (m : Ae) : List Af := (En p).filter fun s => (A3 p m s).2 == 0
theorem V0 {p : Ab} (hp : A9 p) : (En p).length ≤ 54 := by
 have h1 : (B1 J1 0 p.fF).length ≤ 6 * p.fF.length := FG fun j x hx => by
  have := hp.ver x (lM hx)
  simp [J1]; omega
 have := hp.nv
 have := hp.nt
 unfold En
 simp only [List.length_append, List.length_map, List.length_range]
 omega
theorem Uz (N : Nat) (hN : N ≤ 1000000) (h20 : 100 ≤ N) {p : Ab} (hp : A9 p) : IT N p = some (En p) := by
 have hnv := hp.nv
 have hnt := hp.nt
 unfold IT
 have l1 := Dc (Dz N p fun v2 => Cz N p (fun v10 => By N p (fun v14 => some v14) N (v10, 0)) N (v2, 0)) (fun a i => (a, i)) p.fF (fun v2 => Cz N p (fun v10 => By N p (fun v14 => some v14) N (v10, 0)) N (v2, 0)) J1 6 100
  (fun i x hx => by have := hp.ver x (lM hx); simp [J1]; omega)
  (fun n i x a hx hl => by
   have hi := (lI.1 hx).1
   have hx6 := hp.ver x (lM hx)
   obtain ⟨k, hk⟩ := Int.eq_ofNat_of_zero_le (show 0 ≤ x by omega)
   rw [Dz, AB (by simp only; omega)]
   simp only [AN, hx, oS, Az (show i < 1000000 by omega)]
   subst hk
   obtain ⟨a', e, ha⟩ := E9 (Fm N (a, (i : Int)) (k : Int) fun v6 => Dz N p (fun v2 => Cz N p (fun v10 => By N p (fun v14 => some v14) N (v10, 0)) N (v2, 0)) n (v6, ((i + 1 : Nat) : Int))) (fun b v => (b, v)) k (fun v6 => Dz N p (fun v2 => Cz N p (fun v10 => By N p (fun v14 => some v14) N (v10, 0)) N (v2, 0)) n (v6, ((i + 1 : Nat) : Int)))
    (fun v b => b = a ++ (List.range v).map fun v => (⟨1, (i : Int), ((v : Nat) : Int)⟩ : Af))
    (fun n v b hv hb => by
     subst hb
     rw [Fm, AB (by simp only; omega), An (by simp [C2]; simp [J1] at hl; omega), Az (by omega)]
     exact ⟨_, rfl, by rw [List.range_succ, List.map_append, List.append_assoc]; rfl⟩)
    (fun n b hb => by rw [Fm, Aw (by simp)]) N 0 a (Nat.zero_le _) (by omega) (by simp)
   have e' : Fm N (a, (i : Int)) (k : Int) (fun v6 => Dz N p (fun v2 => Cz N p (fun v10 => By N p (fun v14 => some v14) N (v10, 0)) N (v2, 0)) n (v6, ((i + 1 : Nat) : Int))) N (a, 0) = _ := e
   rw [e', ha]; rfl)
  (fun n a => by rw [Dz, Aw (by simp)]) N [] (by omega) (by simp; omega)
 have l1' : Dz N p (fun v2 => Cz N p (fun v10 => By N p (fun v14 => some v14) N (v10, 0)) N (v2, 0)) N (([] : List Af), 0) = _ := l1
 rw [l1', List.nil_append]
 have hA : (B1 J1 0 p.fF).length ≤ 6 * p.fF.length := FG fun j x hx => by
  have := hp.ver x (lM hx)
  simp [J1]; omega
 generalize hAe : B1 J1 0 p.fF = A at hA
 obtain ⟨b', e2, hb⟩ := E9 (Cz N p fun v10 => By N p (fun v14 => some v14) N (v10, 0)) (fun b v => (b, v)) p.fF.length (fun v10 => By N p (fun v14 => some v14) N (v10, 0))
  (fun v b => b = A ++ (List.range v).map fun i => (⟨2, ((i : Nat) : Int), 0⟩ : Af))
  (fun n v b hv hb => by
   subst hb
   rw [Cz, AB (by simp only; omega), An (by simp [C2]; omega), Az (by omega)]
   exact ⟨_, rfl, by rw [List.range_succ, List.map_append, List.append_assoc]; rfl⟩)
  (fun n b hb => by rw [Cz, Aw (by simp)]) N 0 A (Nat.zero_le _) (by omega) (by simp)
 have e2' : Cz N p (fun v10 => By N p (fun v14 => some v14) N (v10, 0)) N (A, 0) = _ := e2
 rw [e2', hb]
 generalize hBe : A ++ (List.range p.fF.length).map (fun i => (⟨2, ((i : Nat) : Int), 0⟩ : Af)) = B
 have hB : B.length ≤ 50 := by rw [← hBe]; simp; omega
 obtain ⟨c', e3, hc⟩ := E9 (By N p fun v14 => some v14) (fun b v => (b, v)) p.fG.length (fun v14 => some v14)
  (fun v b => b = B ++ (List.range v).map fun i => (⟨3, ((i : Nat) : Int), 0⟩ : Af))
  (fun n v b hv hb => by
   subst hb
   rw [By, AB (by simp only; omega), An (by simp [C2]; omega), Az (by omega)]
   exact ⟨_, rfl, by rw [List.range_succ, List.map_append, List.append_assoc]; rfl⟩)
  (fun n b hb => by rw [By, Aw (by simp)]) N 0 B (Nat.zero_le _) (by omega) (by simp)
 have e3' : By N p (fun v14 => some v14) N (B, 0) = _ := e3
 rw [e3', hc, ← hBe, ← hAe]; rfl
end Go.Lift
namespace Go.Lift
open Option renaming bind_some → oS
open List renaming mem_of_getElem? → lM
open List renaming getElem?_eq_some_iff → lI
open List renaming getD_eq_getElem?_getD → lD
open Go
theorem OA {p : Ab} (hp : A9 p) {s : Af} (h : s ∈ En p) : G5 s = true ∧ Gg p s = true := by
 have hnv := hp.nv
 unfold En at h
 rcases List.mem_append.1 h with h | h
 ·rcases List.mem_append.1 h with h | h
  ·obtain ⟨j, x, hx, hk⟩ := FH.1 h
   rw [Nat.zero_add] at hk
   unfold J1 at hk
   obtain ⟨v, hv, rfl⟩ := List.mem_map.1 hk
   have hx6 := hp.ver x (lM hx)
   have hv := List.mem_range.1 hv
   have hj := (lI.1 hx).1
   refine ⟨by unfold G5; simp, ?_⟩
   unfold Gg
   have e : p.fF.getD j 0 = x := by rw [lD, hx]; rfl
   simp only
   rw [if_neg (by omega), decide_eq_true (by omega), Int.toNat_natCast, e, decide_eq_true (by omega), Bool.or_true]; rfl
  ·obtain ⟨v, hv, rfl⟩ := List.mem_map.1 h
   have hv := List.mem_range.1 hv
   refine ⟨by unfold G5; simp, ?_⟩
   unfold Gg
   simp only
   rw [if_neg (by omega), decide_eq_true (by omega)]; rfl
 ·obtain ⟨v, hv, rfl⟩ := List.mem_map.1 h
  have hv := List.mem_range.1 hv
  refine ⟨by unfold G5; simp, ?_⟩
  unfold Gg
  simp only
  rw [if_pos trivial, decide_eq_true (by omega)]
theorem YL {p : Ab} {m : Ae} {s : Af} (hv : G5 s = true) (hx : Gg p s = true) : ((A3 p m s).2 == 0) = (FQ p m s).isSome := by
 unfold A3
 rw [hv, hx, if_neg (by simp), if_neg (by simp)]
 cases FQ p m s <;> rfl
theorem Te (N : Nat) (hN : N ≤ 1000000) (h20 : 100 ≤ N) {p : Ab} {m : Ae} (hp : A9 p) (hm : B0 p m) {s : Af} (h : s ∈ En p) :
  DW N s p.fF p.fL p.fQ p.fG m.fH m.fE m.fI = some (!((A3 p m s).2 == 0)) := by
 obtain ⟨hv, hx⟩ := OA hp h
 unfold DW
 obtain ⟨o, e, _⟩ := Mr N hN h20 hp hm hv hx
 have e' : F8 N ⟨p.fF, p.fL, p.fQ, p.fG⟩ ⟨m.fH, m.fE, m.fI⟩ s = some (o, (FQ p m s).isSome) := e
 rw [e', YL hv hx]; rfl
theorem Vs (N : Nat) (hN : N ≤ 1000000) (a : List Af) (f : Af → Option Bool) (g : Af → Bool) (h : a.length < N) (hf : ∀ x, x ∈ a → f x = some (g x)) :
  BV N a f = some ((DG (fun i x => if g x = true then some (i : Int) else none) 0 a).getD (-1)) := by
 unfold BV
 have := CZ (A4 N a f fun _ => some (-1)) a (some (-1)) (fun i x => if g x = true then some (i : Int) else none)
  (fun n i x hx => by
   have hi := (lI.1 hx).1
   rw [A4, AB (by omega), AN, hx]
   simp only [oS]
   rw [hf x (lM hx), Az (by omega)]
   simp only [oS]
   cases g x <;> rfl)
  (fun n => by rw [A4, Aw (by simp)]) N 0 (Nat.zero_le _) (by omega)
 refine this.trans ?_
 rw [List.drop_zero]
 cases DG (fun i x => if g x = true then some (i : Int) else none) 0 a <;> rfl
theorem QG {α : Type} {l : List α} {i : Nat} {v : α} (h : i < l.length) : (l.set i v).take (i + 1) = l.take i ++ [v] := by
 rw [List.take_add_one, List.take_set_of_le (Nat.le_refl i)]
 congr 1
 simp [h]
theorem UG (N : Nat) (hN : N ≤ 1000000) (a : List Af) (f : Af → Option Bool) (g : Af → Bool) (h : a.length < N) (h9 : a.length ≤ 1000) (hf : ∀ x, x ∈ a → f x = some (g x)) :
  ∃ X n, BQ N a f = some (n, X) ∧ n ≤ X.length ∧ X.take n = a.filter fun x => !g x := by
 unfold BQ
 rw [Vs N hN a f g h hf]
 simp only [oS]
 cases hs : DG (fun i x => if g x = true then some (i : Int) else none) 0 a with
 | none =>
  refine ⟨a, a.length, rfl, Nat.le_refl _, ?_⟩
  rw [List.take_length]
  symm
  rw [List.filter_eq_self]
  intro x hx
  obtain ⟨j, hj⟩ := List.mem_iff_getElem?.1 hx
  have := Fp hs j x hj
  cases hg : g x
  ·rfl
  ·rw [hg] at this; cases this
 | some r =>
  obtain ⟨j, x, hx, hr⟩ := E3 hs
  rw [Nat.zero_add] at hr
  split at hr
  ·rename_i hg
   cases hr
   have hj := (lI.1 hx).1
   have e0 : ((some (j : Int)).getD (-1) == (-1 : Int)) = false := beq_eq_false_iff_ne.2 (by simp only [Option.getD_some]; omega)
   rw [e0, Ap]
   simp only [Option.getD_some]
   rw [Az (by omega)]
   -- what lies before the first that goes is kept
   have hpre : (a.take (j + 1)).filter (fun x => !g x) = a.take j := by
    rw [List.take_add_one, hx, List.filter_append]
    have h1 : (a.take j).filter (fun x => !g x) = a.take j := by
     rw [List.filter_eq_self]
     intro y hy
     obtain ⟨q, hq⟩ := List.mem_iff_getElem?.1 hy
     have hql := (lI.1 hq).1
     simp at hql
     rw [List.getElem?_take_of_lt (by omega)] at hq
     cases hgy : g y
     ·rfl
     ·exfalso
      have : ∀ (xs : List Af) (i j q : Nat) (y : Af), DG (fun i x => if g x = true then some (i : Int) else none) i xs = some ((i + j : Nat) : Int) → q < j → xs[q]? = some y → g y = true → False := by
       intro xs
       induction xs with
       | nil => intro i j q y _ _ hq; simp at hq
       | cons z zs ih =>
        intro i j q y hs hqj hq hgy
        rw [Gn] at hs
        cases hz : g z
        ·rw [hz] at hs
         cases q with
         | zero => simp at hq; subst hq; rw [hz] at hgy; cases hgy
         | succ q =>
          cases j with
          | zero => omega
          | succ j => exact ih (i + 1) j q y (by rw [show i + 1 + j = i + (j + 1) from by omega]; exact hs) (by omega) (by simpa using hq) hgy
        ·rw [hz] at hs
         have hs : (some (i : Int)) = some ((i + j : Nat) : Int) := hs
         have := Option.some.inj hs
         omega
      exact this a 0 j q y (by rw [Nat.zero_add]; exact hs) (by omega) hq hgy
    rw [h1]
    simp [hg]
   obtain ⟨b, e, hb⟩ := E9 (AW N f fun v4 => (Dp ((0 : Int) ≤ v4.2 ∧ (v4.2).toNat ≤ v4.1.length ∧ v4.1.length ≤ v4.1.length)).bind fun _ =>
     (Dp ((0 : Int) ≤ v4.2 ∧ 0 ≤ (v4.2).toNat ∧ (v4.2).toNat ≤ (Gx v4.1 ((v4.2).toNat) (List.replicate ((v4.1.length - (v4.2).toNat)) ((Af.mk 0 0 0)))).length)).bind fun _ =>
     some ((v4.2).toNat, Gx v4.1 ((v4.2).toNat) (List.replicate ((v4.1.length - (v4.2).toNat)) ((Af.mk 0 0 0)))))
    (fun (b : List Af × Nat) i => (b.1, ((b.2 : Nat) : Int), i)) a.length (fun b => (Dp ((0 : Int) ≤ ((b.2 : Nat) : Int) ∧ (((b.2 : Nat) : Int)).toNat ≤ b.1.length ∧ b.1.length ≤ b.1.length)).bind fun _ =>
     (Dp ((0 : Int) ≤ ((b.2 : Nat) : Int) ∧ 0 ≤ (((b.2 : Nat) : Int)).toNat ∧ (((b.2 : Nat) : Int)).toNat ≤ (Gx b.1 ((((b.2 : Nat) : Int)).toNat) (List.replicate ((b.1.length - (((b.2 : Nat) : Int)).toNat)) ((Af.mk 0 0 0)))).length)).bind fun _ =>
     some ((((b.2 : Nat) : Int)).toNat, Gx b.1 ((((b.2 : Nat) : Int)).toNat) (List.replicate ((b.1.length - (((b.2 : Nat) : Int)).toNat)) ((Af.mk 0 0 0)))))
    (fun i b => b.1.length = a.length ∧ b.2 ≤ i ∧ b.1.drop i = a.drop i ∧ b.1.take b.2 = (a.take i).filter fun x => !g x)
    (fun n i b hi hb => by
     obtain ⟨b1, b2, b3, b4⟩ := hb
     rw [AW, AB (by simp only; omega)]
     have hai : a[i]? = some a[i] := by simp [hi]
     have hbi : b.1[i]? = some a[i] := by
      have := congrArg (fun l => l[0]?) b3
      simp only [List.getElem?_drop, Nat.add_zero] at this
      rw [this, hai]
     simp only [A5, AN, hbi, oS]
     rw [hf a[i] (List.getElem_mem hi), Az (i := i) (by omega)]
     simp only [oS]
     have hnext : b.1.drop (i + 1) = a.drop (i + 1) := by
      have := congrArg (List.drop 1) b3
      rwa [List.drop_drop, List.drop_drop] at this
     cases hgi : g a[i]
     ·rw [Bool.not_false, AJ]
      have hbj : b.1[b.2]? = some b.1[b.2] := by simp [show b.2 < b.1.length from by omega]
      rw [hbj, Az (i := b.2) (by omega)]
      refine ⟨(b.1.set b.2 a[i], b.2 + 1), rfl, by simpa using b1, by simp only; omega, ?_, ?_⟩
      ·simp only
       rw [List.drop_set_of_lt (by omega), hnext]
      ·simp only
       rw [QG (by omega), b4, List.take_add_one, hai, List.filter_append]
       simp [hgi]
     ·rw [Bool.not_true, Ap]
      refine ⟨b, rfl, b1, by omega, hnext, ?_⟩
      rw [b4, List.take_add_one, hai, List.filter_append]
      simp [hgi])
    (fun n b hb => by rw [AW, Aw (by simp [hb.1])]) N (j + 1) (a, j) (by omega) (by omega) ⟨rfl, by simp only; omega, rfl, hpre.symm⟩
   obtain ⟨b1, b2, b3, b4⟩ := hb
   have e' : AW N f (fun v4 => (Dp ((0 : Int) ≤ v4.2 ∧ (v4.2).toNat ≤ v4.1.length ∧ v4.1.length ≤ v4.1.length)).bind fun _ =>
     (Dp ((0 : Int) ≤ v4.2 ∧ 0 ≤ (v4.2).toNat ∧ (v4.2).toNat ≤ (Gx v4.1 ((v4.2).toNat) (List.replicate ((v4.1.length - (v4.2).toNat)) ((Af.mk 0 0 0)))).length)).bind fun _ =>
     some ((v4.2).toNat, Gx v4.1 ((v4.2).toNat) (List.replicate ((v4.1.length - (v4.2).toNat)) ((Af.mk 0 0 0))))) N (a, (j : Int), ((j + 1 : Nat) : Int)) = _ := e
   rw [e']
   have hsl : (Gx b.1 b.2 (List.replicate (b.1.length - b.2) (Af.mk 0 0 0))).length = b.1.length := GI (by rw [List.length_replicate]; omega)
   simp only [Int.toNat_natCast]
   rw [An ⟨by omega, by omega, Nat.le_refl _⟩, An ⟨by omega, by omega, by rw [hsl]; omega⟩]
   refine ⟨_, _, rfl, by rw [hsl]; omega, ?_⟩
   unfold Gx
   rw [List.append_assoc, List.take_append_of_le_length (by simp; omega), List.take_take, Nat.min_self, b4, List.take_length]
  ·cases hr
theorem Vr (N : Nat) (hN : N ≤ 1000000) (h20 : 100 ≤ N) {p : Ab} {m : Ae} (hv : Bk p = 0) (hm : B0 p m) : GJ N p m = some (Ga p m, 0) := by
 obtain ⟨hp, _⟩ := BX hv
 unfold GJ
 rw [Je N p m hN (by omega) (MA hm), IQ hv hm]
 simp only [oS, bne_self_eq_false, Ap]
 rw [Uz N hN h20 hp]
 simp only [oS]
 have hl := V0 hp
 obtain ⟨X, n, e, h1, h2⟩ := UG N hN (En p) (fun x => DW N x p.fF p.fL p.fQ p.fG m.fH m.fE m.fI) (fun s => !((A3 p m s).2 == 0)) (by omega) (by omega) (fun x hx => Te N hN h20 hp hm hx)
 rw [e]
 simp only [oS]
 rw [An h1, h2]
 unfold Ga
 simp
theorem IZ {β : Type} (g : Nat → List β) : ∀ n : Nat, B1 (fun i (_ : Nat) => g i) 0 (List.range n) = (List.range n).flatMap g
 | 0 => rfl
 | n + 1 => by rw [List.range_succ, NZ, IZ g n, List.flatMap_append]; simp [B1]
def YY (p : Ab) (m : Ae) (s : Af) : Bool := (A3 p m s).2 == 0
def gS (p : Ab) (m : Ae) (k : Int) (i v : Nat) : List Af := if YY p m ⟨k, (i : Int), (v : Int)⟩ = true then [⟨k, (i : Int), (v : Int)⟩] else []
def bS (p : Ab) (m : Ae) (k : Int) (i : Nat) : List Af := (List.range 6).flatMap (gS p m k i)
def Vj (p : Ab) : Nat := max p.fF.length p.fG.length
def kS (p : Ab) (m : Ae) (k : Int) : List Af := (List.range (Vj p)).flatMap (bS p m k)
theorem Lw {β : Type} (f : Nat → β) (q : β → Bool) : ∀ n : Nat, ((List.range n).flatMap fun v => if q (f v) = true then [f v] else []) = ((List.range n).map f).filter q
 | 0 => rfl
 | n + 1 => by
  rw [List.range_succ, List.flatMap_append, Lw f q n, List.map_append, List.filter_append]
  cases h : q (f n) <;> simp [h]
theorem Lo {β : Type} (g : Nat → List β) (a : Nat) (h : ∀ v, a ≤ v → g v = []) : ∀ n, a ≤ n → (List.range n).flatMap g = (List.range a).flatMap g
 | 0, hn => by rw [Nat.le_zero.1 hn]
 | n + 1, hn => by
  by_cases h1 : a = n + 1
  ·rw [h1]
  ·rw [List.range_succ, List.flatMap_append, Lo g a h n (by omega)]
   simp [h n (by omega)]
theorem YQ (p : Ab) (m : Ae) (k : Int) (i v : Nat) : (gS p m k i v).length ≤ 1 := by unfold gS; split <;> simp
theorem YW (p : Ab) (m : Ae) (k : Int) (i : Nat) : (bS p m k i).length ≤ 6 := by
 unfold bS
 rw [← IZ]
 have := FG (g := fun i' (_ : Nat) => gS p m k i i') (c := 1) (i := 0) (xs := List.range 6) fun j x _ => YQ p m k i _
 simpa using this
theorem bB {p : Ab} (hp : A9 p) (m : Ae) (k : Int) : (kS p m k).length ≤ 72 := by
 have h1 := hp.nv
 have h2 := hp.nt
 unfold kS
 rw [← IZ]
 have := FG (g := fun i' (_ : Nat) => bS p m k i') (c := 6) (i := 0) (xs := List.range (Vj p)) fun j x _ => YW p m k _
 simp only [List.length_range] at this
 have h3 : Vj p ≤ 12 := by unfold Vj; omega
 omega
theorem bU {p : Ab} {m : Ae} {s : Af} (h : YY p m s = true) : G5 s = true ∧ Gg p s = true := by
 unfold YY A3 at h
 split at h
 ·cases h
 ·rename_i h1
  split at h
  ·cases h
  ·rename_i h2
   exact ⟨by simpa using h1, by simpa using h2⟩
theorem Ng {p : Ab} {m : Ae} {k : Int} {i v : Nat} (h : YY p m ⟨k, (i : Int), (v : Int)⟩ = true) : (k = 3 → i < p.fG.length) ∧ (k ≠ 3 → i < p.fF.length) ∧ (k = 1 → (v : Int) < p.fF.getD i 0) ∧ (k ≠ 1 → v = 0) := by
 obtain ⟨h1, h2⟩ := bU h
 obtain ⟨a1, a2, a3, a4, a5⟩ := IB h1
 obtain ⟨b1, b2, b3⟩ := Jx h2
 simp only [Int.toNat_natCast] at *
 exact ⟨fun e => by have := b1 e; omega, fun e => by have := b2 e; omega, b3, fun e => by have := a5 e; omega⟩
theorem XS {p : Ab} (hp : A9 p) (m : Ae) : kS p m 1 ++ kS p m 2 ++ kS p m 3 = Ga p m := by
 have hnv := hp.nv
 have hnt := hp.nt
 unfold Ga En
 rw [List.filter_append, List.filter_append]
 have e1 : kS p m 1 = (B1 J1 0 p.fF).filter fun s => (A3 p m s).2 == 0 := by
  unfold kS
  rw [Lo (bS p m 1) p.fF.length (fun i hi => by
   unfold bS
   rw [List.flatMap_eq_nil_iff]
   intro v _
   unfold gS
   rw [if_neg]
   intro h
   have := (Ng h).2.1 (by decide)
   omega) (Vj p) (by unfold Vj; omega)]
  have e : ∀ (xs : List Int) (i : Nat), (∀ j x, xs[j]? = some x → 1 ≤ x ∧ x ≤ 6 ∧ p.fF.getD (i + j) 0 = x) → ((List.range xs.length).flatMap fun j => bS p m 1 (i + j)) = (B1 J1 i xs).filter fun s => (A3 p m s).2 == 0 := by
   intro xs
   induction xs with
   | nil => intro i _; rfl
   | cons x xs ih =>
    intro i hx
    rw [List.length_cons, List.range_succ_eq_map, List.flatMap_cons, List.flatMap_map, B1, List.filter_append]
    have ih' := ih (i + 1) (fun j y hy => by
     have := hx (j + 1) y (by simpa using hy)
     rw [show i + 1 + j = i + (j + 1) from by omega]; exact this)
    have hx0 := hx 0 x rfl
    rw [Nat.add_zero] at hx0
    congr 1
    ·rw [Nat.add_zero]
     unfold bS J1
     rw [Lo (gS p m 1 i) x.toNat (fun v hv => by
      unfold gS
      rw [if_neg]
      intro h
      have := (Ng h).2.2.1 rfl
      rw [hx0.2.2] at this
      omega) 6 (by omega)]
     exact Lw (fun v => (⟨1, (i : Int), ((v : Nat) : Int)⟩ : Af)) (YY p m) x.toNat
    ·rw [← ih']
     congr 1
     funext j
     rw [show i + (j + 1) = i + 1 + j from by omega]
  have := e p.fF 0 (fun j x hx => by
   have h1 := hp.ver x (lM hx)
   refine ⟨h1.1, h1.2, ?_⟩
   rw [Nat.zero_add, lD, hx]; rfl)
  simp only [Nat.zero_add] at this
  exact this
 have e23 : ∀ (k : Int) (n : Nat), k ≠ 1 → n ≤ Vj p → (∀ i v, YY p m ⟨k, ((i : Nat) : Int), ((v : Nat) : Int)⟩ = true → i < n) → kS p m k = (((List.range n).map fun i => (⟨k, ((i : Nat) : Int), 0⟩ : Af)).filter fun s => (A3 p m s).2 == 0) := by
  intro k n hk hn hi
  unfold kS
  rw [Lo (bS p m k) n (fun i hi' => by
   unfold bS
   rw [List.flatMap_eq_nil_iff]
   intro v _
   unfold gS
   rw [if_neg]
   intro h
   have := hi i v h
   omega) (Vj p) hn]
  show _ = List.filter (YY p m) _
  rw [← Lw (fun i => (⟨k, ((i : Nat) : Int), 0⟩ : Af)) (YY p m) n]
  congr 1
  funext i
  unfold bS
  rw [Lo (gS p m k i) 1 (fun v hv => by
   unfold gS
   rw [if_neg]
   intro h
   have := (Ng h).2.2.2 hk
   omega) 6 (by omega)]
  simp [gS]
 rw [e1, e23 2 p.fF.length (by decide) (by unfold Vj; omega) (fun i v h => (Ng h).2.1 (by decide)), e23 3 p.fG.length (by decide) (by unfold Vj; omega) (fun i v h => (Ng h).1 rfl)]
theorem Ul (a b : Nat) : WQ (a : Int) (b : Int) = ((max a b : Nat) : Int) := by
 unfold WQ
 omega
theorem SZ (N : Nat) (hN : N ≤ 1000000) (h20 : 100 ≤ N) {p : Ab} {m : Ae} (hv : Bk p = 0) (hm : B0 p m) : Fj N p m = some (Ga p m) := by
 obtain ⟨hp, _⟩ := BX hv
 have hnv := hp.nv
 have hnt := hp.nt
 have hmx : Vj p ≤ 12 := by unfold Vj; omega
 unfold Fj
 have hmix := IQ hv hm
 -- one number
 have inn : ∀ (k : Int) (c0 a : List Af) (i : Nat) (d0 : List Af) (j : List Af → Option (List Af)), a.length ≤ 1000 →
   Cq N p m (c0, k) (d0, (i : Int)) j N (a, 0) = j (a ++ bS p m k i) := by
  intro k c0 a i d0 j ha
  have := Dc (Cq N p m (c0, k) (d0, (i : Int)) j) (fun a i => (a, i)) (List.range 6) j (fun v _ => gS p m k i v) 1 2000
   (fun v x _ => YQ _ _ _ _ _)
   (fun n v x a hx hl => by
    have hi := (lI.1 hx).1
    simp only [List.length_range] at hi
    rw [Cq, AB (by simp only; omega)]
    simp only [A5]
    rw [Sn N hN h20 (MA hm), if_pos hmix]
    simp only [oS, Az (show v < 1000000 by omega)]
    unfold gS YY
    cases hq : (A3 p m ⟨k, (i : Int), (v : Int)⟩).2 == 0
    ·rw [Ap, if_neg (by simp), List.append_nil]
    ·rw [AJ, if_pos rfl, An (by simp [C2]; unfold gS YY at hl; rw [hq] at hl; simp at hl; omega)])
   (fun n a => by rw [Cq, Aw (by simp)]) N a (by simp; omega) (by simp; omega)
  rw [IZ] at this
  exact this
 have mid : ∀ (k : Int) (c0 a : List Af) (j : List Af → Option (List Af)), a.length ≤ 500 →
   Cs N p m (c0, k) j N (a, 0) = j (a ++ kS p m k) := by
  intro k c0 a j ha
  have := Dc (Cs N p m (c0, k) j) (fun a i => (a, i)) (List.range (Vj p)) j (fun i _ => bS p m k i) 6 900
   (fun v x _ => YW _ _ _ _)
   (fun n i x a hx hl => by
    have hi := (lI.1 hx).1
    simp only [List.length_range] at hi
    rw [Cs, AB (by simp only; rw [Ul]; unfold Vj at hi; omega)]
    rw [inn k c0 a i a _ (by omega)]
    simp only [Az (show i < 1000000 by omega)])
   (fun n a => by rw [Cs, Aw (by simp [Ul, Vj])]) N a (by simp; omega) (by simp; omega)
  rw [IZ] at this
  exact this
 have hk := bB hp m
 have go : ∀ (k : Int) (n : Nat) (a : List Af), k ≤ 3 → 1 ≤ k → a.length ≤ 300 → BA N p m (fun v2 => some v2) (n + 1) (a, k) = BA N p m (fun v2 => some v2) n (a ++ kS p m k, k + 1) := by
  intro k n a h1 h2 ha
  rw [BA, AB h1]
  rw [mid k a a _ (by omega), Cx (by omega) (by omega)]
 obtain ⟨N', hN'⟩ : ∃ q, N = q + 4 := ⟨N - 4, by omega⟩
 have e0 : BA N p m (fun v2 => some v2) N ([], 1) = BA N p m (fun v2 => some v2) (N' + 4) ([], 1) := by rw [hN']
 rw [e0, go 1 (N' + 3) [] (by decide) (by decide) (by simp), List.nil_append]
 rw [show (1 : Int) + 1 = 2 from rfl, go 2 (N' + 2) _ (by decide) (by decide) (by have := hk 1; omega)]
 rw [show (2 : Int) + 1 = 3 from rfl, go 3 (N' + 1) _ (by decide) (by decide) (by have h1 := hk 1; have h2 := hk 2; rw [List.length_append]; omega)]
 rw [BA, Aw (by simp), XS hp]
end Go.Lift
namespace Go.Lift
open List renaming mem_of_getElem? → lM
open List renaming getElem?_eq_some_iff → lI
namespace Bfs
section
variable {α σ : Type}
def code (rk : σ → Nat) (K : Nat) (w : List σ) : Nat := w.foldl (fun c s => c * K + rk s) 0
theorem Jy (rk : σ → Nat) (K : Nat) (w : List σ) (s : σ) : code rk K (w ++ [s]) = code rk K w * K + rk s := by
 simp [code]
theorem Uc (rk : σ → Nat) (K : Nat) : code rk K ([] : List σ) = 0 := rfl
def Dig (rk : σ → Nat) (K : Nat) (w : List σ) : Prop := ∀ s, s ∈ w → 1 ≤ rk s ∧ rk s ≤ K
theorem Dig.snoc {rk : σ → Nat} {K : Nat} {w : List σ} {s : σ} (h : Dig rk K w) (hs : 1 ≤ rk s ∧ rk s ≤ K) : Dig rk K (w ++ [s]) := by
 intro x hx; rcases List.mem_append.1 hx with h1 | h1
 ·exact h x h1
 ·rw [List.mem_singleton.1 h1]; exact hs
theorem V7 {c d K a b : Nat} (h : c < d) (_ : 1 ≤ b) (ha : a ≤ K) : c * K + a < d * K + b := by
 have : c * K + K ≤ d * K := by rw [← Nat.succ_mul]; exact Nat.mul_le_mul_right K h
 omega
theorem ZI {c d K a : Nat} (h : c ≤ d) : c * K + a ≤ d * K + a := Nat.add_le_add_right (Nat.mul_le_mul_right K h) a
theorem list_snoc {β : Type} (l : List β) : l = [] ∨ ∃ u s, l = u ++ [s] := by
 cases h : l.reverse with
 | nil => exact .inl (List.reverse_eq_nil_iff.1 h)
 | cons s r => exact .inr ⟨r.reverse, s, by rw [← List.reverse_cons, ← h, List.reverse_reverse]⟩
abbrev Nd (α σ : Type) := α × Int × σ
def put [DecidableEq α] (i : Nat) (l : List (Nd α σ)) (q : σ × α) : List (Nd α σ) := if (l.any fun n => decide (n.1 = q.2)) = true then l else l ++ [(q.2, (i : Int), q.1)]
def inner [DecidableEq α] (most i : Nat) : List (σ × α) → List (Nd α σ) → Option (List (Nd α σ))
 | [], l => some l
 | q :: qs, l => if most < (put i l q).length then none else inner most i qs (put i l q)
def go [DecidableEq α] (nxt : α → List (σ × α)) (most : Nat) : Nat → Nat → List (Nd α σ) → Option (List (Nd α σ))
 | 0, _, _ => none
 | n + 1, i, l => match l[i]? with
  | none => some l
  | some nd => (inner most i (nxt nd.1) l).bind fun l' => go nxt most n (i + 1) l'
structure Inv (nxt : α → List (σ × α)) (rk : σ → Nat) (K : Nat) (root : α) (i : Nat) (done : List (σ × α)) (l : List (Nd α σ)) (ws : List (List σ)) : Prop where
 len : ws.length = l.length
 root : ∃ s, l[0]? = some (root, -1, s)
 root' : ws[0]? = some []
 par : ∀ (k : Nat) x f s, 0 < k → l[k]? = some (x, f, s) → ∃ (j : Nat) (y : α) (g : Int) (t : σ) (w : List σ), f = (j : Int) ∧ j < k ∧ l[j]? = some (y, g, t) ∧ (s, x) ∈ nxt y ∧ ws[j]? = some w ∧ ws[k]? = some (w ++ [s]) ∧ (j < i ∨ (j = i ∧ (s, x) ∈ done))
 nodup : ∀ (a b : Nat) x f s g t, l[a]? = some (x, f, s) → l[b]? = some (x, g, t) → a = b
 inc : ∀ (a b : Nat) u w, ws[a]? = some u → ws[b]? = some w → a < b → code rk K u < code rk K w
 dig : ∀ (k : Nat) w, ws[k]? = some w → Dig rk K w
 closed : ∀ (j : Nat) x f s w, l[j]? = some (x, f, s) → ws[j]? = some w → ∀ q, (j < i ∧ q ∈ nxt x) ∨ (j = i ∧ q ∈ done) → ∃ (k : Nat) (f' : Int) (s' : σ) (w' : List σ), l[k]? = some (q.2, f', s') ∧ ws[k]? = some w' ∧ code rk K w' ≤ code rk K (w ++ [q.1])
theorem get_app {β : Type} {l : List β} {y x : β} {k : Nat} (h : (l ++ [y])[k]? = some x) : l[k]? = some x ∨ (k = l.length ∧ x = y) := by
 rcases Nat.lt_trichotomy k l.length with h1 | h1 | h1
 ·rw [List.getElem?_append_left h1] at h; exact .inl h
 ·subst h1; simp at h; exact .inr ⟨rfl, h.symm⟩
 ·rw [List.getElem?_eq_none (by simp; omega)] at h; cases h
theorem get_app_of {β : Type} {l : List β} {y x : β} {k : Nat} (h : l[k]? = some x) : (l ++ [y])[k]? = some x := by
 rw [List.getElem?_append_left ((lI.1 h).1)]; exact h
theorem get_app_new {β : Type} {l : List β} {y : β} : (l ++ [y])[l.length]? = some y := by simp
theorem lt_get {β : Type} {l : List β} {k : Nat} {x : β} (h : l[k]? = some x) : k < l.length := (lI.1 h).1
theorem get_ex {β : Type} {l : List β} {k : Nat} (h : k < l.length) : ∃ x, l[k]? = some x := ⟨l[k], List.getElem?_eq_getElem h⟩
theorem Zt [DecidableEq α] {nxt : α → List (σ × α)} {rk : σ → Nat} {K : Nat} {root : α} {i : Nat} {done : List (σ × α)} {l : List (Nd α σ)} {ws : List (List σ)} {x : α} {f : Int} {s : σ} {q : σ × α}
  (hI : Inv nxt rk K root i done l ws) (hx : l[i]? = some (x, f, s)) (hq : q ∈ nxt x) (hd : ∀ r, r ∈ done → rk r.1 < rk q.1) (hr : 1 ≤ rk q.1 ∧ rk q.1 ≤ K) :
  ∃ ws', Inv nxt rk K root i (done ++ [q]) (put i l q) ws' ∧ (∀ (k : Nat) w, ws[k]? = some w → ws'[k]? = some w) ∧ (∀ (k : Nat) n, l[k]? = some n → (put i l q)[k]? = some n) := by
 obtain ⟨w0, hw0⟩ := get_ex (l := ws) (k := i) (by rw [hI.len]; exact lt_get hx)
 unfold put
 by_cases hin : (l.any fun n => decide (n.1 = q.2)) = true
 ·rw [if_pos hin]
  refine ⟨ws, ⟨hI.len, hI.root, hI.root', ?_, hI.nodup, hI.inc, hI.dig, ?_⟩, fun _ _ h => h, fun _ _ h => h⟩
  ·intro k y g t hk hy
   obtain ⟨j, y', g', t', w, h1, h2, h3, h4, h5, h6, h7⟩ := hI.par k y g t hk hy
   exact ⟨j, y', g', t', w, h1, h2, h3, h4, h5, h6, h7.imp id fun h => ⟨h.1, List.mem_append_left _ h.2⟩⟩
  ·intro j y g t w hy hw r hr'
   by_cases hold : (j < i ∧ r ∈ nxt y) ∨ (j = i ∧ r ∈ done)
   ·exact hI.closed j y g t w hy hw r hold
   ·have hjr : j = i ∧ r = q := by
     rcases hr' with h | ⟨h1, h2⟩
     ·exact absurd (.inl h) hold
     ·rcases List.mem_append.1 h2 with h3 | h3
      ·exact absurd (.inr ⟨h1, h3⟩) hold
      ·exact ⟨h1, List.mem_singleton.1 h3⟩
    obtain ⟨rfl, rfl⟩ := hjr
    rw [hw0] at hw; cases hw
    obtain ⟨n, hn1, hn2⟩ := List.any_eq_true.1 hin
    obtain ⟨k, hk⟩ := List.mem_iff_getElem?.1 hn1
    obtain ⟨nx, nf, ns⟩ := n
    have hn2 : nx = r.2 := of_decide_eq_true hn2
    subst hn2
    obtain ⟨wk, hwk⟩ := get_ex (l := ws) (k := k) (by rw [hI.len]; exact lt_get hk)
    refine ⟨k, nf, ns, wk, hk, hwk, ?_⟩
    rw [Jy]
    rcases Nat.eq_zero_or_pos k with rfl | hk0
    ·rw [hI.root'] at hwk; cases hwk; rw [Uc]; omega
    ·obtain ⟨j', y', g', t', w, h1, h2, h3, h4, h5, h6, h7⟩ := hI.par k _ _ _ hk0 hk
     rw [h6] at hwk; cases hwk
     rw [Jy]
     have hdg : 1 ≤ rk ns ∧ rk ns ≤ K := hI.dig k _ h6 ns (by simp)
     rcases h7 with h7 | ⟨h7, h8⟩
     ·exact Nat.le_of_lt (V7 (hI.inc _ _ _ _ h5 hw0 h7) hr.1 hdg.2)
     ·subst h7; rw [hw0] at h5; cases h5
      have := hd _ h8
      simp only at this; omega
 ·rw [if_neg hin]
  have hnew : ∀ (k : Nat) y g t, l[k]? = some (y, g, t) → y ≠ q.2 := fun k y g t hy e => hin (List.any_eq_true.2 ⟨_, lM hy, decide_eq_true e⟩)
  have hbig : ∀ (k : Nat) u, ws[k]? = some u → code rk K u < code rk K (w0 ++ [q.1]) := by
   intro k u hu
   rw [Jy]
   obtain ⟨⟨nx, nf, ns⟩, hk⟩ := get_ex (l := l) (k := k) (by rw [← hI.len]; exact lt_get hu)
   rcases Nat.eq_zero_or_pos k with rfl | hk0
   ·rw [hI.root'] at hu; cases hu; rw [Uc]; omega
   ·obtain ⟨j', y', g', t', w, h1, h2, h3, h4, h5, h6, h7⟩ := hI.par k _ _ _ hk0 hk
    rw [h6] at hu; cases hu
    rw [Jy]
    have hdg : 1 ≤ rk ns ∧ rk ns ≤ K := hI.dig k _ h6 ns (by simp)
    rcases h7 with h7 | ⟨h7, h8⟩
    ·exact V7 (hI.inc _ _ _ _ h5 hw0 h7) hr.1 hdg.2
    ·subst h7; rw [hw0] at h5; cases h5
     have := hd _ h8
     simp only at this; omega
  refine ⟨ws ++ [w0 ++ [q.1]], ⟨by simp [hI.len], ?_, get_app_of hI.root', ?_, ?_, ?_, ?_, ?_⟩, fun _ _ h => get_app_of h, fun _ _ h => get_app_of h⟩
  ·obtain ⟨s0, hs0⟩ := hI.root; exact ⟨s0, get_app_of hs0⟩
  ·intro k y g t hk hy
   rcases get_app hy with hy | ⟨hk1, hy⟩
   ·obtain ⟨j, y', g', t', w, h1, h2, h3, h4, h5, h6, h7⟩ := hI.par k y g t hk hy
    exact ⟨j, y', g', t', w, h1, h2, get_app_of h3, h4, get_app_of h5, get_app_of h6, h7.imp id fun h => ⟨h.1, List.mem_append_left _ h.2⟩⟩
   ·cases hy
    refine ⟨i, x, f, s, w0, rfl, by rw [hk1]; exact lt_get hx, get_app_of hx, hq, get_app_of hw0, by rw [hk1, ← hI.len]; exact get_app_new, .inr ⟨rfl, by simp⟩⟩
  ·intro a b y g t g' t' ha hb
   rcases get_app ha with ha | ⟨ha1, ha⟩ <;> rcases get_app hb with hb | ⟨hb1, hb⟩
   ·exact hI.nodup a b y g t g' t' ha hb
   ·cases hb; exact absurd rfl (hnew _ _ _ _ ha)
   ·cases ha; exact absurd rfl (hnew _ _ _ _ hb)
   ·omega
  ·intro a b u w ha hb hab
   rcases get_app ha with ha | ⟨ha1, ha⟩ <;> rcases get_app hb with hb | ⟨hb1, hb⟩
   ·exact hI.inc a b u w ha hb hab
   ·rw [hb]; exact hbig _ _ ha
   ·have := lt_get hb; omega
   ·omega
  ·intro k w hw
   rcases get_app hw with hw | ⟨hw1, hw⟩
   ·exact hI.dig k w hw
   ·rw [hw]; exact (hI.dig _ _ hw0).snoc hr
  ·intro j y g t w hy hw r hr'
   rcases get_app hy with hy1 | ⟨hy1, hy2⟩
   ·have hw1 : ws[j]? = some w := by
     rcases get_app hw with h | ⟨h, _⟩
     ·exact h
     ·have := lt_get hy1; rw [← hI.len] at this; omega
    by_cases hold : (j < i ∧ r ∈ nxt y) ∨ (j = i ∧ r ∈ done)
    ·obtain ⟨k, f', s', w', h1, h2, h3⟩ := hI.closed j y g t w hy1 hw1 r hold
     exact ⟨k, f', s', w', get_app_of h1, get_app_of h2, h3⟩
    ·have hjr : j = i ∧ r = q := by
      rcases hr' with h | ⟨h1, h2⟩
      ·exact absurd (.inl h) hold
      ·rcases List.mem_append.1 h2 with h3 | h3
       ·exact absurd (.inr ⟨h1, h3⟩) hold
       ·exact ⟨h1, List.mem_singleton.1 h3⟩
     obtain ⟨rfl, rfl⟩ := hjr
     rw [hw0] at hw1; cases hw1
     exact ⟨l.length, _, _, _, get_app_new, by rw [← hI.len]; exact get_app_new, Nat.le_refl _⟩
   ·have := lt_get hx
    rcases hr' with h | h <;> omega
theorem RJ [DecidableEq α] {nxt : α → List (σ × α)} {rk : σ → Nat} {K : Nat} {root : α} {i most : Nat} {x : α} {f : Int} {s : σ} (hP : (nxt x).Pairwise fun a b => rk a.1 < rk b.1) (hD : ∀ q, q ∈ nxt x → 1 ≤ rk q.1 ∧ rk q.1 ≤ K) :
  ∀ (qs done : List (σ × α)) (l l' : List (Nd α σ)) (ws : List (List σ)), done ++ qs = nxt x → Inv nxt rk K root i done l ws → l[i]? = some (x, f, s) → inner most i qs l = some l' →
   ∃ ws', Inv nxt rk K root i (nxt x) l' ws' ∧ (∀ (k : Nat) w, ws[k]? = some w → ws'[k]? = some w) ∧ (∀ (k : Nat) n, l[k]? = some n → l'[k]? = some n)
 | [], done, l, l', ws, he, hI, hx, h => by
  cases h; rw [List.append_nil] at he; subst he; exact ⟨ws, hI, fun _ _ h => h, fun _ _ h => h⟩
 | q :: qs, done, l, l', ws, he, hI, hx, h => by
  have hqm : q ∈ nxt x := by rw [← he]; simp
  have hlt : ∀ r, r ∈ done → rk r.1 < rk q.1 := fun r hr => by
   rw [← he] at hP
   exact (List.pairwise_append.1 hP).2.2 r hr q (by simp)
  obtain ⟨ws1, h1, h2, h3⟩ := Zt hI hx hqm hlt (hD q hqm)
  simp only [inner] at h
  split at h
  ·cases h
  ·obtain ⟨ws2, g1, g2, g3⟩ := RJ hP hD qs (done ++ [q]) _ l' ws1 (by rw [List.append_assoc]; exact he) h1 (h3 _ _ hx) h
   exact ⟨ws2, g1, fun k w hw => g2 k w (h2 k w hw), fun k n hn => g3 k n (h3 k n hn)⟩
theorem XB {nxt : α → List (σ × α)} {rk : σ → Nat} {K : Nat} {root : α} {i : Nat} {x : α} {f : Int} {s : σ} {l : List (Nd α σ)} {ws : List (List σ)} (h : Inv nxt rk K root i (nxt x) l ws) (hx : l[i]? = some (x, f, s)) : Inv nxt rk K root (i + 1) [] l ws := by
 refine ⟨h.len, h.root, h.root', ?_, h.nodup, h.inc, h.dig, ?_⟩
 ·intro k y g t hk hy
  obtain ⟨j, y', g', t', w, h1, h2, h3, h4, h5, h6, h7⟩ := h.par k y g t hk hy
  exact ⟨j, y', g', t', w, h1, h2, h3, h4, h5, h6, .inl (by rcases h7 with h7 | h7 <;> omega)⟩
 ·intro j y g t w hy hw r hr
  rcases hr with ⟨h1, h2⟩ | ⟨_, h2⟩
  ·refine h.closed j y g t w hy hw r ?_
   by_cases hj : j < i
   ·exact .inl ⟨hj, h2⟩
   ·have : j = i := by omega
    subst this; rw [hx] at hy; cases hy; exact .inr ⟨rfl, h2⟩
  ·cases h2
theorem inv_go [DecidableEq α] {nxt : α → List (σ × α)} {rk : σ → Nat} {K : Nat} {root : α} {most : Nat} (P : α → Prop) (hP : ∀ x, P x → (nxt x).Pairwise fun a b => rk a.1 < rk b.1) (hD : ∀ x, P x → ∀ q, q ∈ nxt x → (1 ≤ rk q.1 ∧ rk q.1 ≤ K) ∧ P q.2) (hroot : P root) :
  ∀ (n i : Nat) (l l' : List (Nd α σ)) (ws : List (List σ)), i ≤ l.length → Inv nxt rk K root i [] l ws → (∀ (k : Nat) x f s, l[k]? = some (x, f, s) → P x) → go nxt most n i l = some l' → ∃ ws', Inv nxt rk K root l'.length [] l' ws' ∧ (∀ (k : Nat) x f s, l'[k]? = some (x, f, s) → P x)
 | 0, i, l, l', ws, _, _, _, h => by cases h
 | n + 1, i, l, l', ws, hi, hI, hA, h => by
  simp only [go] at h
  split at h
  ·rename_i hn
   cases h
   have : i = l.length := by
    have := List.getElem?_eq_none_iff.1 hn; omega
   subst this
   exact ⟨ws, hI, hA⟩
  ·rename_i nd hn
   obtain ⟨x, f, s⟩ := nd
   cases hin : inner most i (nxt x) l with
   | none => rw [hin] at h; cases h
   | some l1 =>
    rw [hin] at h
    have hx := hA _ _ _ _ hn
    obtain ⟨ws1, h1, h2, h3⟩ := RJ (hP x hx) (fun q hq => (hD x hx q hq).1) (nxt x) [] l l1 ws rfl hI hn hin
    have hA1 : ∀ (k : Nat) y g t, l1[k]? = some (y, g, t) → P y := fun k y g t hy => by
     rcases Nat.eq_zero_or_pos k with rfl | hk
     ·obtain ⟨s0, hs0⟩ := h1.root; rw [hs0] at hy; cases hy; exact hroot
     ·obtain ⟨j, y', g', t', w, e1, e2, e3, e4, e5, e6, e7⟩ := h1.par k y g t hk hy
      have hj : P y' := by
       have hjl : j < l.length := by rcases e7 with h | h <;> have := lt_get hn <;> omega
       obtain ⟨⟨z, zf, zs⟩, hz⟩ := get_ex hjl
       have := h3 _ _ hz
       rw [e3] at this; cases this
       exact hA _ _ _ _ hz
      exact (hD y' hj _ e4).2
    exact inv_go P hP hD hroot n (i + 1) l1 l' ws1 (by have := lt_get (h3 _ _ hn); omega) (XB h1 (h3 _ _ hn)) hA1 h
theorem inv_start {nxt : α → List (σ × α)} {rk : σ → Nat} {K : Nat} {root : α} {s : σ} : Inv nxt rk K root 0 [] [(root, -1, s)] [[]] := by
 refine ⟨rfl, ⟨s, rfl⟩, rfl, ?_, ?_, ?_, ?_, ?_⟩
 ·intro k x f s hk h; rw [List.getElem?_eq_none (by simp; omega)] at h; cases h
 ·intro a b x f s g t ha hb; have := lt_get ha; have := lt_get hb; simp at *; omega
 ·intro a b u w ha hb hab; have := lt_get hb; simp at this; omega
 ·intro k w hw
  have := lt_get hw; simp at this; subst this; simp at hw; subst hw
  intro s hs; cases hs
 ·intro j x f s w _ _ q h
  rcases h with h | h
  ·omega
  ·cases h.2
def run (nxt : α → List (σ × α)) (x : α) : List σ → α → Prop
 | [], y => y = x
 | s :: w, y => ∃ z, (s, z) ∈ nxt x ∧ run nxt z w y
theorem GB {nxt : α → List (σ × α)} : ∀ {u w : List σ} {x y : α}, run nxt x (u ++ w) y ↔ ∃ z, run nxt x u z ∧ run nxt z w y
 | [], w, x, y => by simp [run]
 | s :: u, w, x, y => by
  simp only [List.cons_append, run]
  constructor
  ·rintro ⟨z, h1, h2⟩
   obtain ⟨z', h3, h4⟩ := GB.1 h2
   exact ⟨z', ⟨z, h1, h3⟩, h4⟩
  ·rintro ⟨z', ⟨z, h1, h3⟩, h4⟩
   exact ⟨z, h1, GB.2 ⟨z', h3, h4⟩⟩
theorem way_run {nxt : α → List (σ × α)} {rk : σ → Nat} {K : Nat} {root : α} {i : Nat} {l : List (Nd α σ)} {ws : List (List σ)} (h : Inv nxt rk K root i [] l ws) : ∀ (n k : Nat) {x : α} {f : Int} {s : σ} {w : List σ}, k < n → l[k]? = some (x, f, s) → ws[k]? = some w → run nxt root w x
 | 0, k, _, _, _, _, hk, _, _ => by omega
 | n + 1, k, x, f, s, w, hk, hx, hw => by
  rcases Nat.eq_zero_or_pos k with rfl | hk0
  ·obtain ⟨s0, hs0⟩ := h.root; rw [hs0] at hx; cases hx
   rw [h.root'] at hw; cases hw; rfl
  ·obtain ⟨j, y', g', t', w', e1, e2, e3, e4, e5, e6, e7⟩ := h.par k _ _ _ hk0 hx
   rw [e6] at hw; cases hw
   exact GB.2 ⟨y', way_run h n j (by omega) e3 e5, x, e4, rfl⟩
theorem reach_node {nxt : α → List (σ × α)} {rk : σ → Nat} {K : Nat} {root : α} {l : List (Nd α σ)} {ws : List (List σ)} (h : Inv nxt rk K root l.length [] l ws) : ∀ (n : Nat) {w : List σ} {y : α}, w.length = n → run nxt root w y → ∃ (k : Nat) (f : Int) (s : σ) (u : List σ), l[k]? = some (y, f, s) ∧ ws[k]? = some u ∧ code rk K u ≤ code rk K w
 | 0, w, y, hn, hr => by
  rw [List.length_eq_zero_iff.1 hn] at hr ⊢
  simp only [run] at hr; subst hr
  obtain ⟨s, hs⟩ := h.root
  exact ⟨0, _, _, _, hs, h.root', Nat.le_refl _⟩
 | n + 1, w, y, hn, hr => by
  rcases list_snoc w with rfl | ⟨w', s, rfl⟩
  ·simp at hn
  obtain ⟨z, h1, h2⟩ := GB.1 hr
  simp only [run] at h2
  obtain ⟨z', h2, rfl⟩ := h2
  simp only [List.length_append, List.length_singleton] at hn
  obtain ⟨k, f, t, u, g1, g2, g3⟩ := reach_node h n (by omega) h1
  obtain ⟨k', f', s', u', e1, e2, e3⟩ := h.closed k z f t u g1 g2 (s, y) (.inl ⟨lt_get g1, h2⟩)
  refine ⟨k', f', s', u', e1, e2, Nat.le_trans e3 ?_⟩
  rw [Jy, Jy]
  exact ZI g3
theorem Qw [DecidableEq α] {most more i : Nat} (hm : most ≤ more) : ∀ (qs : List (σ × α)) (l l' : List (Nd α σ)), inner most i qs l = some l' → inner more i qs l = some l'
 | [], l, l', h => h
 | q :: qs, l, l', h => by
  simp only [inner] at h ⊢
  split at h
  ·cases h
  ·rw [if_neg (by omega)]; exact Qw hm qs _ _ h
theorem go_more [DecidableEq α] {nxt : α → List (σ × α)} {most more : Nat} (hm : most ≤ more) : ∀ (n m i : Nat) (l l' : List (Nd α σ)), n ≤ m → go nxt most n i l = some l' → go nxt more m i l = some l'
 | 0, m, i, l, l', _, h => by cases h
 | n + 1, m, i, l, l', hnm, h => by
  obtain ⟨m, rfl⟩ : ∃ k, m = k + 1 := ⟨m - 1, by omega⟩
  simp only [go] at h ⊢
  cases hl : l[i]? with
  | none => rw [hl] at h; exact h
  | some nd =>
   rw [hl] at h
   simp only at h ⊢
   cases hin : inner most i (nxt nd.1) l with
   | none => rw [hin] at h; cases h
   | some l1 =>
    rw [hin] at h
    rw [Qw hm _ _ _ hin]
    exact go_more hm n m (i + 1) l1 l' (by omega) h
theorem inner_len [DecidableEq α] {most i : Nat} : ∀ (qs : List (σ × α)) (l l' : List (Nd α σ)), l.length ≤ most → inner most i qs l = some l' → l'.length ≤ most
 | [], l, l', h0, h => by cases h; exact h0
 | q :: qs, l, l', h0, h => by
  simp only [inner] at h
  split at h
  ·cases h
  ·exact inner_len qs _ _ (by omega) h
theorem go_len [DecidableEq α] {nxt : α → List (σ × α)} {most : Nat} : ∀ (n i : Nat) (l l' : List (Nd α σ)), l.length ≤ most → go nxt most n i l = some l' → l'.length ≤ most
 | 0, i, l, l', _, h => by cases h
 | n + 1, i, l, l', h0, h => by
  simp only [go] at h
  split at h
  ·cases h; exact h0
  ·rename_i nd hn
   cases hin : inner most i (nxt nd.1) l with
   | none => rw [hin] at h; cases h
   | some l1 => rw [hin] at h; exact go_len n (i + 1) l1 l' (inner_len _ _ _ h0 hin) h
end
end Bfs
end Go.Lift
namespace Go.Lift
open IntKind renaming wrap → wI
open Option renaming bind_some → oS
open List renaming mem_of_getElem? → lM
open List renaming getElem?_eq_some_iff → lI
open List renaming getD_eq_getElem?_getD → lD
open Go
theorem PB : ∀ {l : List Int}, UL l = 0 → ∀ x, x ∈ l → x = 0
 | [], _, x, hx => by cases hx
 | y :: ys, h, x, hx => by
  unfold UL at h
  split at h
  ·rename_i hy
   rcases List.mem_cons.1 hx with rfl | hx
   ·exact hy
   ·exact PB h x hx
  ·rename_i hy; exact absurd h hy
theorem RK {a b : Ae} (h : U2 a b = 0) : a = b := by
 have := PB h
 have h1 := Pf _ _ (this (Jd a.fH b.fH) (by simp))
 have h2 := Pf _ _ (this (Jd a.fE b.fE) (by simp))
 have h3 := Pf _ _ (this (Jd a.fI b.fI) (by simp))
 cases a; cases b; simp only at h1 h2 h3; subst h1; subst h2; subst h3; rfl
instance ez : DecidableEq Ae := fun a b => if h : U2 a b = 0 then isTrue (RK h) else isFalse (fun e => h (by rw [e]; exact RS b))
theorem XL (a b : Ae) : (U2 a b == 0) = decide (a = b) := by
 by_cases h : a = b
 ·rw [decide_eq_true h, h, RS]; rfl
 ·rw [decide_eq_false h]
  exact beq_eq_false_iff_ne.2 fun e => h (RK e)
def Q1 (p : Ab) (m : Ae) (ss : List Af) : List (Af × Ae) := ss.filterMap fun s => if Bq p (A3 p m s).1 = true then some (s, (A3 p m s).1) else none
def IN (p : Ab) (m : Ae) : List (Af × Ae) := Q1 p m (Ga p m)
def M7 (s : Af) : Nat := if s.fJ = 1 then 1 + 8 * s.fN.toNat + s.fT.toNat else if s.fJ = 2 then 60 + s.fN.toNat else 70 + s.fN.toNat
theorem Ij {p : Ab} {m : Ae} {s : Af} (h : s ∈ Ga p m) : s ∈ En p ∧ (A3 p m s).2 = 0 := by
 unfold Ga at h
 have := List.mem_filter.1 h
 exact ⟨this.1, by simpa using this.2⟩
theorem Pg {p : Ab} {m : Ae} {ss : List Af} {q : Af × Ae} : q ∈ Q1 p m ss ↔ q.1 ∈ ss ∧ q.2 = (A3 p m q.1).1 ∧ Bq p q.2 = true := by
 unfold Q1
 rw [List.mem_filterMap]
 constructor
 ·rintro ⟨s, h1, h2⟩
  split at h2
  ·rename_i h3; cases h2; exact ⟨h1, rfl, h3⟩
  ·cases h2
 ·rintro ⟨h1, h2, h3⟩
  refine ⟨q.1, h1, ?_⟩
  rw [← h2, if_pos h3]
theorem N8 {p : Ab} {m : Ae} {q : Af × Ae} : q ∈ IN p m ↔ q.1 ∈ Ga p m ∧ q.2 = (A3 p m q.1).1 ∧ Bq p q.2 = true := Pg
theorem Vf {p : Ab} {m : Ae} (hp : A9 p) (hm : B0 p m) {q : Af × Ae} (h : q ∈ IN p m) : B0 p q.2 ∧ Bq p q.2 = true := by
 obtain ⟨h1, h2, h3⟩ := N8.1 h
 exact ⟨by rw [h2]; exact L5 hp hm (Ij h1).2, h3⟩
theorem P7 {p : Ab} (hp : A9 p) {s : Af} (h : s ∈ En p) : s.fJ ≤ 3 ∧ 1 ≤ M7 s ∧ M7 s ≤ 100 := by
 obtain ⟨h1, h2⟩ := OA hp h
 obtain ⟨a1, a2, a3, a4, a5⟩ := IB h1
 obtain ⟨b1, b2, b3⟩ := Jx h2
 have hnv := hp.nv
 have hnt := hp.nt
 have hk : s.fJ ≤ 3 := by
  unfold En at h
  rcases List.mem_append.1 h with h | h
  ·rcases List.mem_append.1 h with h | h
   ·obtain ⟨j, x, hx, hk⟩ := FH.1 h
    unfold J1 at hk
    obtain ⟨v, hv, rfl⟩ := List.mem_map.1 hk
    exact (by decide : (1 : Int) ≤ 3)
   ·obtain ⟨v, hv, rfl⟩ := List.mem_map.1 h
    exact (by decide : (2 : Int) ≤ 3)
  ·obtain ⟨v, hv, rfl⟩ := List.mem_map.1 h
   exact (by decide : (3 : Int) ≤ 3)
 refine ⟨hk, ?_⟩
 unfold M7
 by_cases h1 : s.fJ = 1
 ·rw [if_pos h1]
  have := b2 (by omega)
  have h3 := b3 h1
  have h4 := (I2 hp (i := s.fN.toNat) (by omega)).2
  omega
 ·rw [if_neg h1]
  by_cases h2 : s.fJ = 2
  ·rw [if_pos h2]
   have := b2 (by omega)
   omega
  ·rw [if_neg h2]
   have := b1 (by omega)
   omega
theorem Zx (i : Nat) (n : Int) : (J1 i n).Pairwise fun a b => M7 a < M7 b := by
 unfold J1
 rw [List.pairwise_map]
 refine List.Pairwise.imp ?_ List.pairwise_lt_range
 intro a b h
 simp [M7]; omega
theorem Y2 {p : Ab} (hp : A9 p) : (En p).Pairwise fun a b => M7 a < M7 b := by
 have hnv := hp.nv
 have hnt := hp.nt
 have e1 : ∀ (xs : List Int) (i : Nat), (∀ x, x ∈ xs → x ≤ 6) → (B1 J1 i xs).Pairwise fun a b => M7 a < M7 b := by
  intro xs
  induction xs with
  | nil => intro i _; exact List.Pairwise.nil
  | cons x xs ih =>
   intro i hx
   rw [B1, List.pairwise_append]
   refine ⟨Zx i x, ih (i + 1) fun y hy => hx y (List.mem_cons_of_mem _ hy), ?_⟩
   intro a ha b hb
   unfold J1 at ha
   obtain ⟨v, hv, rfl⟩ := List.mem_map.1 ha
   obtain ⟨j, y, hy, hb⟩ := FH.1 hb
   unfold J1 at hb
   obtain ⟨w, hw, rfl⟩ := List.mem_map.1 hb
   have := hx x (by simp)
   have := List.mem_range.1 hv
   simp [M7]; omega
 unfold En
 rw [List.pairwise_append, List.pairwise_append]
 refine ⟨⟨e1 _ 0 fun x hx => (hp.ver x hx).2, ?_, ?_⟩, ?_, ?_⟩
 ·rw [List.pairwise_map]
  refine List.Pairwise.imp ?_ List.pairwise_lt_range
  intro a b h
  simp [M7]; omega
 ·intro a ha b hb
  obtain ⟨w, hw, rfl⟩ := List.mem_map.1 hb
  obtain ⟨j, y, hy, ha⟩ := FH.1 ha
  unfold J1 at ha
  obtain ⟨v, hv, rfl⟩ := List.mem_map.1 ha
  have := List.mem_range.1 hv
  have := (hp.ver y (lM hy)).2
  have := (lI.1 hy).1
  simp [M7]; omega
 ·rw [List.pairwise_map]
  refine List.Pairwise.imp ?_ List.pairwise_lt_range
  intro a b h
  simp [M7]; omega
 ·intro a ha b hb
  obtain ⟨w, hw, rfl⟩ := List.mem_map.1 hb
  have hw := List.mem_range.1 hw
  rcases List.mem_append.1 ha with ha | ha
  ·obtain ⟨j, y, hy, ha⟩ := FH.1 ha
   unfold J1 at ha
   obtain ⟨v, hv, rfl⟩ := List.mem_map.1 ha
   have := List.mem_range.1 hv
   have := (hp.ver y (lM hy)).2
   have := (lI.1 hy).1
   simp [M7]; omega
  ·obtain ⟨v, hv, rfl⟩ := List.mem_map.1 ha
   have := List.mem_range.1 hv
   simp [M7]; omega
theorem co {p : Ab} {m : Ae} {ss : List Af} (h : ss.Pairwise fun a b => M7 a < M7 b) : (Q1 p m ss).Pairwise fun a b => M7 a.1 < M7 b.1 := by
 unfold Q1
 rw [List.pairwise_filterMap]
 refine List.Pairwise.imp ?_ h
 intro a b hab x hx y hy
 split at hx
 ·cases hx
  split at hy
  ·cases hy; exact hab
  ·cases hy
 ·cases hx
theorem bA {p : Ab} (hp : A9 p) (m : Ae) : (IN p m).Pairwise fun a b => M7 a.1 < M7 b.1 := co ((Y2 hp).filter _)
theorem ZB {p : Ab} {s : Af} (hv : G5 s = true) (hx : Gg p s = true) (hk : s.fJ ≠ 4) : s ∈ En p := by
 obtain ⟨a1, a2, a3, a4, a5⟩ := IB hv
 obtain ⟨b1, b2, b3⟩ := Jx hx
 obtain ⟨k, i, v⟩ := s
 simp only at *
 unfold En
 obtain ⟨i, rfl⟩ := Int.eq_ofNat_of_zero_le a3
 by_cases h1 : k = 1
 ·subst h1
  have h2 := b2 (by decide)
  have h3 := b3 rfl
  obtain ⟨v, rfl⟩ := Int.eq_ofNat_of_zero_le a4
  refine List.mem_append_left _ (List.mem_append_left _ (FH.2 ⟨i, p.fF.getD i 0, ?_, ?_⟩))
  ·rw [lD]
   have hi : i < p.fF.length := by omega
   simp [hi]
  ·unfold J1
   refine List.mem_map.2 ⟨v, List.mem_range.2 ?_, by simp⟩
   simp only [Int.toNat_natCast] at h3
   omega
 ·have hv0 := a5 h1
  subst hv0
  by_cases h2 : k = 2
  ·subst h2
   have := b2 (by decide)
   exact List.mem_append_left _ (List.mem_append_right _ (List.mem_map.2 ⟨i, List.mem_range.2 (by omega), rfl⟩))
  ·have h3 : k = 3 := by omega
   subst h3
   have := b1 rfl
   exact List.mem_append_right _ (List.mem_map.2 ⟨i, List.mem_range.2 (by omega), rfl⟩)
theorem Q6 {p : Ab} {m x : Ae} {s : Af} : N2 p m s = some x → (s, x) ∈ IN p m := by
 intro h
 obtain ⟨h1, h2, h3, h4, h5⟩ := W9.1 h
 unfold N2 at h
 split at h
 ·rename_i h6
  cases h
  refine N8.2 ⟨?_, rfl, h6.2.2⟩
  unfold Ga
  exact List.mem_filter.2 ⟨ZB h1 h2 h4, by simpa using h6.1⟩
 ·cases h
theorem WT {p : Ab} (hp : A9 p) {m x : Ae} {s : Af} (h : (s, x) ∈ IN p m) : N2 p m s = some x := by
 obtain ⟨h1, h2, h3⟩ := N8.1 h
 have h1 : s ∈ Ga p m := h1
 obtain ⟨h4, h5⟩ := Ij h1
 have := (P7 hp h4).1
 have h2 : x = (A3 p m s).1 := h2
 have h3 : Bq p x = true := h3
 unfold N2
 rw [if_pos ⟨h5, by omega, by rw [← h2]; exact h3⟩, h2]
theorem Nf {p : Ab} (hp : A9 p) : ∀ {w : List Af} {m x : Ae}, P0 p m w = some x ↔ Bfs.run (IN p) m w x
 | [], m, x => by simp only [P0, Bfs.run, Option.some.injEq]; exact eq_comm
 | s :: w, m, x => by
  simp only [P0, Bfs.run]
  constructor
  ·intro h
   cases hs : N2 p m s with
   | none => rw [hs] at h; cases h
   | some z => rw [hs] at h; exact ⟨z, Q6 hs, (Nf hp).1 h⟩
  ·rintro ⟨z, h1, h2⟩
   rw [WT hp h1]
   exact (Nf hp).2 h2
abbrev Jt := Bfs.Nd Ae Af
def Jg (n : Jt) : AE := ⟨n.1, n.2.1, n.2.2⟩
def MC : Af := ⟨0, 0, 0⟩
theorem XF {N : Nat} {p : Ab} {a b : Ae} (hN : N ≤ 1000000) (h20 : 100 ≤ N) (hp : A9 p) (ha : B0 p a) (hb : B0 p b) : Fl N a b = some (decide (a = b)) := by
 have hnv := hp.nv
 have hnt := hp.nt
 unfold Fl
 rw [Ts hN (by rw [ha.base]; omega) (by rw [ha.next]; omega) (by rw [ha.held]; omega) (by rw [hb.held]; omega) (MA ha) (MA hb)]
 simp only [oS]
 rw [XL]
theorem TN {N : Nat} (hN : N ≤ 1000000) (h20 : 100 ≤ N) {p : Ab} (hp : A9 p) {x : Ae} (hx : B0 p x) {l : List Jt} (hl : l.length < N) (hA : ∀ n, n ∈ l → B0 p n.1) :
  ∃ r, EG N (l.map Jg) x = some r ∧ decide (r < 0) = !(l.any fun n => decide (n.1 = x)) := by
 unfold EG
 have := CZ (CI N (l.map Jg) x fun _ => some (-1)) l (some (-1)) (fun i n => if n.1 = x then some (i : Int) else none)
  (fun n i nd hnd => by
   have hi := (lI.1 hnd).1
   rw [CI, AB (by rw [List.length_map]; omega), AN, List.getElem?_map, hnd]
   simp only [Option.map_some, oS, Jg]
   have e := XF hN h20 hp (hA nd (lM hnd)) hx
   rw [show (Ae.mk nd.1.fH nd.1.fE nd.1.fI) = nd.1 from rfl, e, Az (by omega)]
   simp only [oS]
   by_cases h : nd.1 = x
   ·rw [decide_eq_true h, if_pos h]; rfl
   ·rw [decide_eq_false h, if_neg h]; rfl)
  (fun n => by rw [CI, Aw (by simp)]) N 0 (Nat.zero_le _) (by omega)
 have e' : CI N (l.map Jg) x (fun _ => some (-1)) N 0 = _ := this
 rw [e', List.drop_zero]
 cases hs : DG (fun i (n : Jt) => if n.1 = x then some (i : Int) else none) 0 l with
 | none =>
  refine ⟨_, rfl, ?_⟩
  have : (l.any fun n => decide (n.1 = x)) = false := by
   rw [List.any_eq_false]
   intro n hn
   obtain ⟨j, hj⟩ := List.mem_iff_getElem?.1 hn
   have := Fp hs j n hj
   split at this
   ·cases this
   ·rename_i h; simpa using h
  rw [this]; rfl
 | some r =>
  refine ⟨_, rfl, ?_⟩
  obtain ⟨j, n, hj, hr⟩ := E3 hs
  split at hr
  ·rename_i h
   cases hr
   have : (l.any fun n => decide (n.1 = x)) = true := List.any_eq_true.2 ⟨n, lM hj, decide_eq_true h⟩
   rw [this]
   exact decide_eq_false (by omega)
  ·cases hr
theorem UA {i : Nat} {l : List Jt} {q : Af × Ae} {k : Nat} {n : Jt} (h : l[k]? = some n) : (Bfs.put i l q)[k]? = some n := by
 unfold Bfs.put
 split
 ·exact h
 ·exact Bfs.get_app_of h
theorem Wc {i : Nat} {l : List Jt} {q : Af × Ae} {n : Jt} (h : n ∈ Bfs.put i l q) : n ∈ l ∨ n.1 = q.2 := by
 unfold Bfs.put at h
 split at h
 ·exact .inl h
 ·rcases List.mem_append.1 h with h | h
  ·exact .inl h
  ·rw [List.mem_singleton.1 h]; exact .inr rfl
theorem TD {p : Ab} {m : Ae} {s : Af} {ss : List Af} : Q1 p m (s :: ss) = if Bq p (A3 p m s).1 = true then (s, (A3 p m s).1) :: Q1 p m ss else Q1 p m ss := by
 unfold Q1
 rw [List.filterMap_cons]
 split <;> rename_i h
 ·split at h
  ·cases h
  ·rename_i h2; rw [if_neg h2]
 ·split at h
  ·rename_i h2; cases h; rw [if_pos h2]
  ·cases h
theorem K8 {p : Ab} {most i : Nat} : ∀ {qs : List (Af × Ae)} {l l' : List Jt}, Bfs.inner most i qs l = some l' → (∀ q, q ∈ qs → B0 p q.2 ∧ Bq p q.2 = true) → (∀ n, n ∈ l → B0 p n.1 ∧ Bq p n.1 = true) → (∀ n, n ∈ l' → B0 p n.1 ∧ Bq p n.1 = true) ∧ (∀ (k : Nat) n, l[k]? = some n → l'[k]? = some n)
 | [], l, l', h, _, hA => by cases h; exact ⟨hA, fun _ _ h => h⟩
 | q :: qs, l, l', h, hq, hA => by
  simp only [Bfs.inner] at h
  split at h
  ·cases h
  ·obtain ⟨h1, h2⟩ := K8 h (fun q hq' => hq q (List.mem_cons_of_mem _ hq')) (fun n hn => by
    rcases Wc hn with h | h
    ·exact hA n h
    ·rw [h]; exact hq q (by simp))
   exact ⟨h1, fun k n hn => h2 k n (UA hn)⟩
theorem So (N : Nat) (hN : N ≤ 1000000) (h20 : 100 ≤ N) {p : Ab} {m : Ae} (hp : A9 p) (hm : B0 p m) {s : Af} (hs : s ∈ Ga p m) : ∃ b, C6 N p m s = some ((A3 p m s).1, b) := by
 obtain ⟨h1, h2⟩ := Ij hs
 obtain ⟨h3, h4⟩ := OA hp h1
 rw [NH N hN h20 hp hm h3 h4]
 unfold A3 at h2 ⊢
 rw [h3, h4, if_neg (by simp), if_neg (by simp)] at h2 ⊢
 cases h : FQ p m s with
 | none => rw [h] at h2; cases h2
 | some x => exact ⟨true, rfl⟩
theorem KS {N : Nat} (hN : N ≤ 1000000) (h20 : 100 ≤ N) {p : Ab} (hp : A9 p) {m : Ae} (hm : B0 p m) {f : Int} {t : Af} {most i : Nat} (hmo : most ≤ 20000) {v1 : List AE × Int} (hv1 : v1.2 = (i : Int)) (ss : List Af) (hss : ∀ s, s ∈ ss → s ∈ Ga p m) (hsl : ss.length ≤ 1000) (j : List AE → Option (List AE × Bool)) :
  ∀ (n k : Nat) (l : List Jt), k ≤ ss.length → ss.length - k < n → l[i]? = some (m, f, t) → (∀ n, n ∈ l → B0 p n.1 ∧ Bq p n.1 = true) → l.length ≤ most → (l.length < N ∧ most < N ∨ ∃ l', Bfs.inner most i (Q1 p m (ss.drop k)) l = some l' ∧ l'.length < N) →
   BU N p (most : Int) v1 ss j n (l.map Jg, (k : Int)) = match Bfs.inner most i (Q1 p m (ss.drop k)) l with
    | none => some ([], false)
    | some l' => j (l'.map Jg)
 | 0, k, l, _, h, _, _, _, _ => by omega
 | n + 1, k, l, hk, h, hi, hA, hlm, hfu => by
  by_cases h1 : k < ss.length
  ·have hs : ss[k]? = some ss[k] := by simp [h1]
   have hsm := hss _ (lM hs)
   have hl1 : l.length < N := by
    rcases hfu with h | ⟨l', h, h2⟩
    ·exact h.1
    ·have hk := (K8 (p := p) h (fun q hq => by
      obtain ⟨g1, g2, g3⟩ := Pg.1 hq
      exact ⟨by rw [g2]; exact L5 hp hm (Ij (hss _ (List.mem_of_mem_drop g1))).2, g3⟩) hA).2
     by_cases h0 : l.length = 0
     ·omega
     ·have := hk (l.length - 1) l[l.length - 1] (by simp)
      have := (lI.1 this).1
      omega
   rw [BU, AB (by simp only; omega)]
   simp only [A5, hv1, AN, List.getElem?_map, hi, hs, Option.map_some, oS, Jg]
   obtain ⟨b, ea⟩ := So N hN h20 hp hm hsm
   rw [show (Ae.mk m.fH m.fE m.fI) = m from rfl, ea]
   simp only [oS]
   have hxo := L5 hp hm (Ij hsm).2
   rw [IJ N p _ hN h20 hp hxo]
   simp only [oS]
   rw [Gt hs, TD] at hfu ⊢
   cases hr : Bq p (A3 p m ss[k]).1
   ·rw [hr] at hfu
    rw [Ap, Ap, if_neg (by simp), Aw (by rw [List.length_map]; omega), Az (by omega)]
    rw [if_neg (by simp)] at hfu
    exact KS hN h20 hp hm hmo hv1 ss hss hsl j n (k + 1) l (by omega) (by omega) hi hA hlm hfu
   ·rw [hr] at hfu
    rw [AJ, if_pos rfl]
    rw [if_pos rfl] at hfu
    obtain ⟨r, er, hr2⟩ := TN hN h20 hp hxo hl1 (fun n hn => (hA n hn).1)
    have er' : EG N (l.map fun n => AE.mk n.1 n.2.1 n.2.2) (A3 p m ss[k]).1 = some r := er
    have em : (l.map fun n : Jt => AE.mk n.1 n.2.1 n.2.2) = l.map Jg := rfl
    rw [← em, er']
    simp only [oS]
    rw [hr2]
    have hput : Bfs.put i l (ss[k], (A3 p m ss[k]).1) = if (l.any fun n => decide (n.1 = (A3 p m ss[k]).1)) = true then l else l ++ [((A3 p m ss[k]).1, (i : Int), ss[k])] := rfl
    simp only [Bfs.inner] at hfu ⊢
    have hA2 : ∀ n, n ∈ Bfs.put i l (ss[k], (A3 p m ss[k]).1) → B0 p n.1 ∧ Bq p n.1 = true := fun n hn => by
     rcases Wc hn with h | h
     ·exact hA n h
     ·rw [h]; exact ⟨hxo, hr⟩
    have hi2 : (Bfs.put i l (ss[k], (A3 p m ss[k]).1))[i]? = some (m, f, t) := UA hi
    have main : (AR (decide ((most : Int) < (((Bfs.put i l (ss[k], (A3 p m ss[k]).1)).map Jg).length : Int))) (some (([] : List AE), false)) (BU N p (most : Int) v1 ss j n ((Bfs.put i l (ss[k], (A3 p m ss[k]).1)).map Jg, (wI .i64 ((k : Int) + 1))))) =
      match (if most < (Bfs.put i l (ss[k], (A3 p m ss[k]).1)).length then none else Bfs.inner most i (Q1 p m (ss.drop (k + 1))) (Bfs.put i l (ss[k], (A3 p m ss[k]).1))) with
      | none => some ([], false)
      | some l' => j (l'.map Jg) := by
     by_cases hb : most < (Bfs.put i l (ss[k], (A3 p m ss[k]).1)).length
     ·rw [if_pos hb, AB (by rw [List.length_map]; omega)]
     ·rw [if_neg hb] at hfu
      rw [if_neg hb, Aw (by rw [List.length_map]; omega), Az (by omega)]
      exact KS hN h20 hp hm hmo hv1 ss hss hsl j n (k + 1) _ (by omega) (by omega) hi2 hA2 (by omega) (hfu.imp (fun h => ⟨by omega, h.2⟩) id)
    cases hin : (l.any fun n => decide (n.1 = (A3 p m ss[k]).1))
    ·rw [hin] at hput
     rw [Bool.not_false, AJ, An (by simp [C2]; omega)]
     rw [if_neg (by simp)] at hput
     rw [hput, List.map_append] at main
     rw [hput]
     exact main
    ·rw [hin] at hput
     rw [Bool.not_true, Ap]
     rw [if_pos rfl] at hput
     rw [hput] at main
     rw [hput]
     exact main
  ·have : k = ss.length := by omega
   subst this
   rw [BU, Aw (by simp), List.drop_eq_nil_of_le (Nat.le_refl _)]
   rfl
theorem We {p : Ab} {m : Ae} (hm : B0 p m) (hr : Bq p m = true) : ∀ n, n ∈ ([(m, -1, MC)] : List Jt) → B0 p n.1 ∧ Bq p n.1 = true := fun n hn => by
 rw [List.mem_singleton.1 hn]; exact ⟨hm, hr⟩
theorem Rq {p : Ab} (hp : A9 p) (m : Ae) : (Ga p m).length ≤ 54 := Nat.le_trans (List.length_filter_le _ _) (V0 hp)
theorem LO {N : Nat} (hN : N ≤ 1000000) (h20 : 100 ≤ N) {p : Ab} (hv : Bk p = 0) {most : Nat} (hmo : most ≤ 20000) (j : List AE → Option (List AE × Bool)) :
  ∀ (n i : Nat) (l : List Jt), i ≤ l.length → (∀ n, n ∈ l → B0 p n.1 ∧ Bq p n.1 = true) → l.length ≤ most → (most < N ∧ most < n + i ∨ ∃ l', Bfs.go (IN p) most n i l = some l' ∧ l'.length < N) →
   BT N p (most : Int) j n (l.map Jg, (i : Int)) = match Bfs.go (IN p) most n i l with
    | none => some ([], false)
    | some l' => j (l'.map Jg)
 | 0, i, l, hi, _, hlm, hfu => by
  rcases hfu with h | ⟨l', h, _⟩
  ·omega
  ·cases h
 | n + 1, i, l, hi, hA, hlm, hfu => by
  obtain ⟨hp, _⟩ := BX hv
  simp only [Bfs.go] at hfu ⊢
  rw [BT]
  by_cases h1 : i < l.length
  ·obtain ⟨⟨m, f, t⟩, hx⟩ := Bfs.get_ex h1
   have hm := (hA _ (lM hx)).1
   rw [hx] at hfu ⊢
   simp only at hfu ⊢
   rw [AB (by rw [List.length_map]; omega)]
   simp only [AN, List.getElem?_map, hx, Option.map_some, oS, Jg]
   rw [show (Ae.mk m.fH m.fE m.fI) = m from rfl, SZ N hN h20 hv hm]
   simp only [oS]
   have hgo : Q1 p m ((Ga p m).drop 0) = IN p m := rfl
   have hsl := Rq hp m
   have e := KS hN h20 hp hm hmo (v1 := (l.map Jg, (i : Int))) rfl (Ga p m) (fun s hs => hs) (by omega) (fun (v7 : (List AE)) =>
    BT N p (most : Int) j n (v7, (wI .i64 ((i : Int) + 1)))) N 0 l (Nat.zero_le _) (by omega) hx hA hlm (by
     rcases hfu with ⟨g1, g2⟩ | ⟨l', h, hl'⟩
     ·exact .inl ⟨by omega, g1⟩
     ·right
      rw [hgo]
      cases hin : Bfs.inner most i (IN p m) l with
      | none => rw [hin] at h; cases h
      | some l1 =>
       rw [hin] at h
       refine ⟨l1, rfl, ?_⟩
       have : l1.length ≤ l'.length := by
        have : ∀ (n i : Nat) (l l' : List Jt), Bfs.go (IN p) most n i l = some l' → l.length ≤ l'.length := by
         intro n
         induction n with
         | zero => intro i l l' h; cases h
         | succ n ih =>
          intro i l l' h
          simp only [Bfs.go] at h
          split at h
          ·cases h; exact Nat.le_refl _
          ·rename_i nd _
           cases hin : Bfs.inner most i (IN p nd.1) l with
           | none => rw [hin] at h; cases h
           | some l1 =>
            rw [hin] at h
            refine Nat.le_trans ?_ (ih _ _ _ h)
            have : ∀ (qs : List (Af × Ae)) (l l1 : List Jt), Bfs.inner most i qs l = some l1 → l.length ≤ l1.length := by
             intro qs
             induction qs with
             | nil => intro l l1 h; cases h; exact Nat.le_refl _
             | cons q qs ih =>
              intro l l1 h
              simp only [Bfs.inner] at h
              split at h
              ·cases h
              ·refine Nat.le_trans ?_ (ih _ _ h)
               unfold Bfs.put; split
               ·exact Nat.le_refl _
               ·simp
            exact this _ _ _ hin
        exact this _ _ _ _ h
       omega)
   have e' : BU N p (most : Int) (l.map Jg, (i : Int)) (Ga p m) (fun (v7 : (List AE)) => BT N p (most : Int) j n (v7, (wI .i64 ((i : Int) + 1)))) N (l.map Jg, 0) = _ := e
   rw [e', hgo]
   cases hin : Bfs.inner most i (IN p m) l with
   | none => rfl
   | some l1 =>
    rw [hin] at hfu
    obtain ⟨k1, k2⟩ := K8 hin (fun q hq => Vf hp hm hq) hA
    have := (lI.1 (k2 _ _ hx)).1
    simp only [oS] at hfu ⊢
    rw [Az (by omega)]
    exact LO hN h20 hv hmo j n (i + 1) l1 (by omega) k1 (Bfs.inner_len _ _ _ hlm hin) (hfu.imp (fun h => ⟨h.1, by omega⟩) id)
  ·have hi' : i = l.length := by omega
   subst hi'
   rw [List.getElem?_eq_none (Nat.le_refl _)]
   rw [Aw (by simp)]
def Iz (p : Ab) (m : Ae) (most n : Nat) : Option (List Jt) := Bfs.go (IN p) most n 0 [(m, -1, MC)]
theorem Nj {N : Nat} (hN : N ≤ 1000000) (h20 : 100 ≤ N) {p : Ab} (hv : Bk p = 0) {m : Ae} (hm : B0 p m) (hr : Bq p m = true) {most : Nat} (hmo : most ≤ 20000) (h1 : 1 ≤ most) (hfu : most < N ∨ ∃ l', Iz p m most N = some l' ∧ l'.length < N) :
  C5 N p m (most : Int) = some (match Iz p m most N with
   | none => ([], false)
   | some l' => (l'.map Jg, true)) := by
 unfold C5
 have e := LO hN h20 hv hmo (fun (v2 : (List AE)) => some (v2, true)) N 0 [(m, -1, MC)] (Nat.zero_le _) (We hm hr) h1 (hfu.imp (fun h => ⟨h, by omega⟩) id)
 have e' : BT N p (most : Int) (fun (v2 : (List AE)) => some (v2, true)) N (([(AE.mk m ((-1)) ((Af.mk 0 0 0)))] : List AE), 0) = _ := e
 rw [e']
 unfold Iz
 cases Bfs.go (IN p) most N 0 [(m, -1, MC)] <;> rfl
structure ZH (p : Ab) (m : Ae) (l : List Jt) (ws : List (List Af)) : Prop where
 inv : Bfs.Inv (IN p) M7 100 m l.length [] l ws
 ok : ∀ (k : Nat) x f s, l[k]? = some (x, f, s) → B0 p x ∧ Bq p x = true
theorem Sg {p : Ab} (hp : A9 p) {m : Ae} (hm : B0 p m) (hr : Bq p m = true) {most n : Nat} {l : List Jt} (h : Iz p m most n = some l) : ∃ ws, ZH p m l ws := by
 obtain ⟨ws, h1, h2⟩ := Bfs.inv_go (rk := M7) (K := 100) (fun x => B0 p x ∧ Bq p x = true) (fun x _ => bA hp x) (fun x hx q hq => by
  refine ⟨?_, Vf hp hx.1 hq⟩
  exact (P7 hp (Ij (N8.1 hq).1).1).2) ⟨hm, hr⟩ n 0 [(m, -1, MC)] l [[]] (Nat.zero_le _) Bfs.inv_start (fun k x f s hk => by
   have := Bfs.lt_get hk
   simp at this; subst this
   cases hk; exact ⟨hm, hr⟩) h
 exact ⟨ws, h1, h2⟩
theorem Zl {p : Ab} (hp : A9 p) {m : Ae} {l : List Jt} {ws : List (List Af)} (h : ZH p m l ws) {k : Nat} {x : Ae} {f : Int} {s : Af} {w : List Af} (hx : l[k]? = some (x, f, s)) (hw : ws[k]? = some w) : P0 p m w = some x :=
 (Nf hp).2 (Bfs.way_run h.inv (k + 1) k (Nat.lt_succ_self k) hx hw)
theorem Rc {p : Ab} (hp : A9 p) {m x : Ae} {l : List Jt} {ws : List (List Af)} (h : ZH p m l ws) {w : List Af} (hw : P0 p m w = some x) : ∃ (k : Nat) (f : Int) (s : Af) (u : List Af), l[k]? = some (x, f, s) ∧ ws[k]? = some u ∧ Bfs.code M7 100 u ≤ Bfs.code M7 100 w :=
 Bfs.reach_node h.inv w.length rfl ((Nf hp).1 hw)
theorem SG {p : Ab} {m : Ae} {l : List Jt} {ws : List (List Af)} (h : ZH p m l ws) : ∀ (n k : Nat) {w : List Af}, k < n → ws[k]? = some w → w.length ≤ k
 | 0, k, _, hk, _ => by omega
 | n + 1, k, w, hk, hw => by
  obtain ⟨⟨x, f, s⟩, hx⟩ := Bfs.get_ex (l := l) (k := k) (by rw [← h.inv.len]; exact Bfs.lt_get hw)
  rcases Nat.eq_zero_or_pos k with rfl | hk0
  ·rw [h.inv.root'] at hw; cases hw; exact Nat.le_refl _
  ·obtain ⟨j, y', g', t', w', e1, e2, e3, e4, e5, e6, e7⟩ := h.inv.par k _ _ _ hk0 hx
   rw [e6] at hw; cases hw
   have := SG h n j (by omega) e5
   simp; omega
theorem Nr {p : Ab} {m : Ae} {l : List Jt} {ws : List (List Af)} (h : ZH p m l ws) (N : Nat) (j : List Af → Option (List Af)) : ∀ (n k : Nat) {w acc : List Af}, k < n → ws[k]? = some w → acc.length + k ≤ 20000 →
  D3 N (l.map Jg) j n ((k : Int), acc) = j (w ++ acc)
 | 0, k, _, _, hk, _, _ => by omega
 | n + 1, k, w, acc, hk, hw, ha => by
  obtain ⟨⟨x, f, s⟩, hx⟩ := Bfs.get_ex (l := l) (k := k) (by rw [← h.inv.len]; exact Bfs.lt_get hw)
  rw [D3]
  simp only [AN, List.getElem?_map, hx, Option.map_some, oS, Jg]
  rcases Nat.eq_zero_or_pos k with rfl | hk0
  ·obtain ⟨s0, hs0⟩ := h.inv.root; rw [hs0] at hx; cases hx
   rw [h.inv.root'] at hw; cases hw
   rw [Aw (by decide)]; rfl
  ·obtain ⟨i, y', g', t', w', e1, e2, e3, e4, e5, e6, e7⟩ := h.inv.par k _ _ _ hk0 hx
   rw [e6] at hw; cases hw
   subst e1
   rw [AB (Int.natCast_nonneg i), An (by simp [C2]; omega)]
   have := Nr h N j n i (w := w') (acc := [Af.mk s.fJ s.fN s.fT] ++ acc) (by omega) e5 (by simp; omega)
   rw [this, List.append_assoc]
def Ld (p : Ab) (l : List Jt) : Option Nat := DG (fun i (n : Jt) => if Ie p n.1 = true then some i else none) 0 l
theorem Ry {p : Ab} {l : List Jt} {k : Nat} (h : Ld p l = some k) : (∃ x f s, l[k]? = some (x, f, s) ∧ Ie p x = true) ∧ ∀ j x f s, j < k → l[j]? = some (x, f, s) → Ie p x = false := by
 have : ∀ (xs : List Jt) (i k : Nat), DG (fun i (n : Jt) => if Ie p n.1 = true then some i else none) i xs = some (i + k) → (∃ x f s, xs[k]? = some (x, f, s) ∧ Ie p x = true) ∧ ∀ j x f s, j < k → xs[j]? = some (x, f, s) → Ie p x = false := by
  intro xs
  induction xs with
  | nil => intro i k h; cases h
  | cons n xs ih =>
   intro i k h
   rw [Gn] at h
   cases hg : Ie p n.1
   ·rw [hg] at h
    simp only [Bool.false_eq_true, if_false] at h
    cases k with
    | zero =>
     exfalso
     obtain ⟨j, x, _, hj⟩ := E3 h
     split at hj
     ·have := Option.some.inj hj; omega
     ·cases hj
    | succ k =>
     obtain ⟨⟨x, f, s, h1, h2⟩, h3⟩ := ih (i + 1) k (by rw [show i + 1 + k = i + (k + 1) from by omega]; exact h)
     refine ⟨⟨x, f, s, by simpa using h1, h2⟩, ?_⟩
     intro j x f s hj hx
     cases j with
     | zero => simp at hx; subst hx; exact hg
     | succ j => exact h3 j x f s (by omega) (by simpa using hx)
   ·rw [hg] at h
    simp only [if_true, Option.some.injEq] at h
    have : k = 0 := by omega
    subst this
    exact ⟨⟨n.1, n.2.1, n.2.2, rfl, hg⟩, fun j _ _ _ hj => by omega⟩
 exact this l 0 k (by rw [Nat.zero_add]; exact h)
theorem WN {p : Ab} {l : List Jt} (h : Ld p l = none) {k : Nat} {x : Ae} {f : Int} {s : Af} (hx : l[k]? = some (x, f, s)) : Ie p x = false := by
 have := Fp h k _ hx
 split at this
 ·cases this
 ·rename_i h; simpa using h
def Mv (p : Ab) (l : List Jt) (ws : List (List Af)) : List Af × Int := match Ld p l with
 | none => ([], 14)
 | some k => (ws.getD k [], 0)
theorem Uh {N : Nat} (hN : N ≤ 1000000) (h20 : 100 ≤ N) {p : Ab} (hv : Bk p = 0) {m : Ae} (hm : B0 p m) (hr : Bq p m = true) {l : List Jt} (hs : Iz p m 20000 N = some l) (hl : l.length < N) {ws : List (List Af)} (h : ZH p m l ws) :
  EI N p m = some (Mv p l ws) := by
 obtain ⟨hp, _⟩ := BX hv
 have hl2 : l.length ≤ 20000 := Bfs.go_len _ _ _ _ (by simp) hs
 unfold EI
 rw [Jl N p m hN (by omega), IQ hv hm]
 simp only [oS, bne_self_eq_false, Ap]
 rw [IJ N p m hN h20 hp hm, hr]
 simp only [oS, Bool.not_true, Ap]
 have e := Nj hN h20 hv hm hr (most := 20000) (by omega) (by omega) (.inr ⟨l, hs, hl⟩)
 rw [hs] at e
 have e' : C5 N p m 20000 = some (l.map Jg, true) := e
 rw [e']
 simp only [oS, Bool.not_true, Ap]
 have := CZ (CF N p (l.map Jg, true) fun _ => some (([] : List Af), 14)) l (some ([], 14)) (fun i n => (if Ie p n.1 = true then some i else none).map fun k => (ws.getD k [], 0))
  (fun n i nd hnd => by
   have hi := (lI.1 hnd).1
   rw [CF, AB (by simp only [List.length_map]; omega)]
   simp only [AN, List.getElem?_map, hnd, Option.map_some, oS, Jg]
   have hok := (h.ok _ _ _ _ (show l[i]? = some (nd.1, nd.2.1, nd.2.2) from hnd)).1
   rw [show (Ae.mk nd.1.fH nd.1.fE nd.1.fI) = nd.1 from rfl, TU N p nd.1 hN h20 (MA hok), Az (by omega)]
   simp only [oS]
   cases hg : Ie p nd.1
   ·rfl
   ·rw [AJ, if_pos rfl]
    obtain ⟨w, hw⟩ := Bfs.get_ex (l := ws) (k := i) (by rw [h.inv.len]; exact hi)
    have e2 := Nr h N (fun v2 => some v2) N i (w := w) (acc := []) (by omega) hw (by simp; omega)
    unfold Gz
    rw [e2, List.append_nil]
    simp only [oS, Option.map_some, BR]
    rw [lD, hw]; rfl)
  (fun n => by rw [CF, Aw (by simp)]) N 0 (Nat.zero_le _) (by omega)
 have e3 : CF N p (l.map Jg, true) (fun _ => some (([] : List Af), 14)) N 0 = _ := this
 rw [e3, List.drop_zero, Lt]
 unfold Mv Ld
 cases DG (fun i (n : Jt) => if Ie p n.1 = true then some i else none) 0 l <;> rfl
def ET (n : AF) : Jt := (n.fU, n.fK, n.fY)
def JA (x : Ae) : List (Ae × Int) → Option Int
 | [] => none
 | e :: r => if x = e.1 then some e.2 else JA x r
def Mo (q : List (Ae × Int)) : List (ByteArray × Int) := q.map fun e => (CU (LN e.1), e.2)
theorem ZF {p : Ab} (hp : A9 p) {x y : Ae} (hx : B0 p x) (hy : B0 p y) : (CU (LN x) == CU (LN y)) = decide (x = y) := by
 by_cases h : x = y
 ·rw [decide_eq_true h, h, SH]
 ·rw [decide_eq_false h]
  cases hb : CU (LN x) == CU (LN y)
  ·rfl
  ·exact absurd (Zg hp hx hy hb) h
theorem PF {p : Ab} (hp : A9 p) {x : Ae} (hx : B0 p x) : ∀ {q : List (Ae × Int)}, (∀ e, e ∈ q → B0 p e.1) → LJ (CU (LN x)) (Mo q) = JA x q
 | [], _ => rfl
 | e :: q, h => by
  have ih := PF hp hx (q := q) fun e he => h e (List.mem_cons_of_mem _ he)
  show (if (CU (LN x) == CU (LN e.1)) = true then some e.2 else LJ (CU (LN x)) (Mo q)) = if x = e.1 then some e.2 else JA x q
  rw [ZF hp hx (h e (by simp)), ih]
  by_cases h : x = e.1
  ·rw [decide_eq_true h, if_pos rfl, if_pos h]
  ·rw [decide_eq_false h, if_neg (by simp), if_neg h]
theorem LP (x y : Ae) (r : Int) : ∀ q : List (Ae × Int), JA x (q ++ [(y, r)]) = match JA x q with
  | some v => some v
  | none => if x = y then some r else none
 | [] => rfl
 | e :: q => by
  simp only [List.cons_append, JA]
  by_cases h : x = e.1
  ·rw [if_pos h, if_pos h]
  ·rw [if_neg h, if_neg h, LP x y r q]
theorem Yx (q : List (Ae × Int)) (x : Ae) (r : Int) : Mo (q ++ [(x, r)]) = Mo q ++ [(CU (LN x), r)] := by simp [Mo]
structure Pj (p : Ab) (q : List (Ae × Int)) (l : List Jt) : Prop where
 ok : ∀ e, e ∈ q → B0 p e.1
 none : ∀ x, B0 p x → JA x q = none → ∀ n, n ∈ l → n.1 ≠ x
 some : ∀ x r, B0 p x → JA x q = some r → (r = -1 ∧ Bq p x = false) ∨ ∃ (j : Nat) (f : Int) (s : Af), r = (j : Int) ∧ l[j]? = some (x, f, s)
structure MV (p : Ab) (i : Nat) (done : List (Af × Ae)) (pl : List AF) : Prop where
 to : ∀ (b : Nat) nd, pl[b]? = some nd → ∀ r, r ∈ nd.fE → ∃ s y, ((b < i ∧ (s, y) ∈ IN p nd.fU) ∨ (b = i ∧ (s, y) ∈ done)) ∧ ∃ (a : Nat) (f : Int) (t : Af), r = (a : Int) ∧ (pl.map ET)[a]? = some (y, f, t)
 of : ∀ (b : Nat) nd, pl[b]? = some nd → ∀ s y, ((b < i ∧ (s, y) ∈ IN p nd.fU) ∨ (b = i ∧ (s, y) ∈ done)) → ∃ (a : Nat) (f : Int) (t : Af), ((a : Nat) : Int) ∈ nd.fE ∧ (pl.map ET)[a]? = some (y, f, t)
def Ml (pl : List AF) (i : Nat) (nd : AF) (r : Int) : List AF := if 0 ≤ r then pl.set i ⟨nd.fU, nd.fK, nd.fY, nd.fE ++ [r]⟩ else pl
theorem NC {pl : List AF} {i : Nat} {nd : AF} {r : Int} (h : pl[i]? = some nd) : (Ml pl i nd r).map ET = pl.map ET := by
 unfold Ml
 split
 ·apply List.ext_getElem?
  intro k
  rw [List.getElem?_map, List.getElem?_map, List.getElem?_set]
  by_cases hk : i = k
  ·subst hk
   rw [if_pos rfl, if_pos (Bfs.lt_get h), h]; rfl
  ·rw [if_neg hk]
 ·rfl
theorem Mb {pl : List AF} {i : Nat} {nd : AF} {r : Int} (h : pl[i]? = some nd) {b : Nat} {nb : AF} (hb : (Ml pl i nd r)[b]? = some nb) : (b ≠ i ∧ pl[b]? = some nb) ∨ (b = i ∧ nb.fU = nd.fU ∧ nb.fK = nd.fK ∧ nb.fY = nd.fY ∧ nb.fE = if 0 ≤ r then nd.fE ++ [r] else nd.fE) := by
 unfold Ml at hb
 split at hb
 ·rename_i hr
  rw [List.getElem?_set] at hb
  by_cases hk : i = b
  ·subst hk
   rw [if_pos rfl, if_pos (Bfs.lt_get h)] at hb
   cases hb
   exact .inr ⟨rfl, rfl, rfl, rfl, by rw [if_pos hr]⟩
  ·rw [if_neg hk] at hb
   exact .inl ⟨fun e => hk e.symm, hb⟩
 ·rename_i hr
  by_cases hk : b = i
  ·subst hk; rw [h] at hb; cases hb
   exact .inr ⟨rfl, rfl, rfl, rfl, by rw [if_neg hr]⟩
  ·exact .inl ⟨hk, hb⟩
theorem Tu {p : Ab} {i : Nat} {done : List (Af × Ae)} {pl pl2 : List AF} {nd : AF} {s : Af} {x : Ae} {a : Nat} {f : Int} {t : Af} (h : MV p i done pl)
  (hkeep : ∀ (b : Nat) nb, pl2[b]? = some nb → pl[b]? = some nb ∨ (i < b ∧ nb.fE = [])) (hk2 : ∀ (b : Nat) n, (pl.map ET)[b]? = some n → (pl2.map ET)[b]? = some n) (hi : pl2[i]? = some nd) (ha : (pl2.map ET)[a]? = some (x, f, t)) : MV p i (done ++ [(s, x)]) (Ml pl2 i nd (a : Int)) := by
 constructor
 ·intro b nb hb r hr
  rw [NC hi]
  rcases Mb hi hb with ⟨h1, h2⟩ | ⟨h1, h2, h3, h4, h5⟩
  ·rcases hkeep b nb h2 with h3 | ⟨h3, h4⟩
   ·obtain ⟨s', y, g1, a', f', t', g2, g3⟩ := h.to b nb h3 r hr
    refine ⟨s', y, ?_, a', f', t', g2, hk2 _ _ g3⟩
    rcases g1 with g1 | g1
    ·exact .inl g1
    ·exact absurd g1.1 h1
   ·rw [h4] at hr; cases hr
  ·subst h1
   rw [h5, if_pos (Int.natCast_nonneg a)] at hr
   rcases List.mem_append.1 hr with hr | hr
   ·rcases hkeep b nd hi with h6 | ⟨h6, _⟩
    ·obtain ⟨s', y, g1, a', f', t', g2, g3⟩ := h.to b nd h6 r hr
     refine ⟨s', y, ?_, a', f', t', g2, hk2 _ _ g3⟩
     rcases g1 with g1 | g1
     ·exact .inl ⟨g1.1, by rw [h2]; exact g1.2⟩
     ·exact .inr ⟨rfl, List.mem_append_left _ g1.2⟩
    ·omega
   ·rw [List.mem_singleton.1 hr]
    exact ⟨s, x, .inr ⟨rfl, by simp⟩, a, f, t, rfl, ha⟩
 ·intro b nb hb s' y hs
  rw [NC hi]
  rcases Mb hi hb with ⟨h1, h2⟩ | ⟨h1, h2, h3, h4, h5⟩
  ·rcases hkeep b nb h2 with h3 | ⟨h3, h4⟩
   ·obtain ⟨a', f', t', g2, g3⟩ := h.of b nb h3 s' y (by
     rcases hs with hs | hs
     ·exact .inl hs
     ·exact absurd hs.1 h1)
    exact ⟨a', f', t', g2, hk2 _ _ g3⟩
   ·rcases hs with hs | hs <;> omega
  ·subst h1
   rw [h5, if_pos (Int.natCast_nonneg a)]
   rcases hkeep b nd hi with h6 | ⟨h6, _⟩
   ·rcases hs with hs | ⟨_, hs⟩
    ·omega
    ·rcases List.mem_append.1 hs with hs | hs
     ·obtain ⟨a', f', t', g2, g3⟩ := h.of b nd h6 s' y (.inr ⟨rfl, hs⟩)
      exact ⟨a', f', t', List.mem_append_left _ g2, hk2 _ _ g3⟩
     ·cases List.mem_singleton.1 hs
      exact ⟨a, f, t, by simp, ha⟩
   ·omega
theorem HC {N : Nat} (hN : N ≤ 1000000) (h20 : 100 ≤ N) {p : Ab} (hv : Bk p = 0) {m : Ae} (hm : B0 p m) {most i : Nat} (hmo : most ≤ 20000) {v2 : List AF × List (ByteArray × Int) × Int} (hv2 : v2.2.2 = (i : Int)) (ss : List Af) (e0 : Int) (hss : ∀ s, s ∈ ss → s ∈ Ga p m) (hsl : ss.length ≤ 1000) (j : List AF × List (ByteArray × Int) → Option (List AF × Int)) :
  ∀ (n k : Nat) (pl : List AF) (q : List (Ae × Int)) (l' : List Jt), k ≤ ss.length → ss.length - k < n → (∃ nd, pl[i]? = some nd ∧ nd.fU = m) → (∀ n, n ∈ pl.map ET → B0 p n.1 ∧ Bq p n.1 = true) → pl.length ≤ most → Pj p q (pl.map ET) → MV p i (Q1 p m (ss.take k)) pl →
   (∃ nd, pl[i]? = some nd ∧ nd.fE.length ≤ k) → Bfs.inner most i (Q1 p m (ss.drop k)) (pl.map ET) = some l' →
   ∃ pl' q', CJ N p v2 (ss, e0) j n (pl, Mo q, (k : Int)) = j (pl', Mo q') ∧ pl'.map ET = l' ∧ Pj p q' l' ∧ MV p i (Q1 p m ss) pl' ∧ (∀ (b : Nat) nb, pl'[b]? = some nb → b ≠ i → pl[b]? = some nb ∨ nb.fE = [])
 | 0, k, pl, q, l', _, h, _, _, _, _, _, _, _ => by omega
 | n + 1, k, pl, q, l', hk, h, hi, hA, hlm, hpl, hnx, hfl, hin => by
  obtain ⟨hp, _⟩ := BX hv
  obtain ⟨nd, hnd, hndm⟩ := hi
  obtain ⟨nd', hnd', hfl⟩ := hfl
  rw [hnd] at hnd'; cases hnd'
  by_cases h1 : k < ss.length
  ·have hs : ss[k]? = some ss[k] := by simp [h1]
   have hsm := hss _ (lM hs)
   have hstep := (Ij hsm).2
   have hxo := L5 hp hm hstep
   have hil := Bfs.lt_get hnd
   rw [CJ, AB (by simp only; omega)]
   simp only [A5, hv2, AN, hnd, hs, oS]
   rw [show (Ae.mk nd.fU.fH nd.fU.fE nd.fU.fI) = m from hndm, QS N hN h20 (MA hm), if_pos (IQ hv hm)]
   simp only [oS]
   rw [hstep, bne_self_eq_false, Ap, YV N hN h20 hp hxo]
   simp only [oS]
   rw [PF hp hxo hpl.ok]
   have htk : ss.take (k + 1) = ss.take k ++ [ss[k]] := by rw [List.take_add_one, hs]; rfl
   have hgo : Q1 p m (ss.take (k + 1)) = if Bq p (A3 p m ss[k]).1 = true then Q1 p m (ss.take k) ++ [(ss[k], (A3 p m ss[k]).1)] else Q1 p m (ss.take k) := by
    rw [htk]; unfold Q1; rw [List.filterMap_append]
    cases hr : Bq p (A3 p m ss[k]).1 <;> simp [hr]
   rw [Gt hs, TD] at hin
   -- what follows when the node's number is known
   have tail : ∀ (pl2 : List AF) (q2 : List (Ae × Int)) (r : Int) (nd2 : AF), pl2[i]? = some nd2 → nd2.fU = m → nd2.fE.length ≤ k → pl2.length ≤ most →
     AR (decide (0 ≤ r)) ((Br pl2 (i : Int)).bind fun v26 => (Dp (v26.fE.length + (([r] : List Int)).length ≤ C2)).bind fun _ => (Br pl2 (i : Int)).bind fun v28 =>
      AR (decide ((20000 : Int) < ((pl2.set ((i : Int)).toNat (AF.mk (Ae.mk v28.fU.fH v28.fU.fE v28.fU.fI) v28.fK (Af.mk v28.fY.fJ v28.fY.fN v28.fY.fT) (v26.fE ++ ([r] : List Int)))).length : Int))) (some (([] : List AF), 3))
       (CJ N p v2 (ss, e0) j n (pl2.set ((i : Int)).toNat (AF.mk (Ae.mk v28.fU.fH v28.fU.fE v28.fU.fI) v28.fK (Af.mk v28.fY.fJ v28.fY.fN v28.fY.fT) (v26.fE ++ ([r] : List Int))), Mo q2, (wI .i64 ((k : Int) + 1)))))
      (AR (decide ((20000 : Int) < (pl2.length : Int))) (some (([] : List AF), 3)) (CJ N p v2 (ss, e0) j n (pl2, Mo q2, (wI .i64 ((k : Int) + 1))))) =
     CJ N p v2 (ss, e0) j n (Ml pl2 i nd2 r, Mo q2, ((k + 1 : Nat) : Int)) := by
    intro pl2 q2 r nd2 h2 h3 h4 h5
    by_cases hr : 0 ≤ r
    ·rw [AB hr]
     simp only [AN, h2, oS, Int.toNat_natCast]
     rw [An (by simp [C2]; omega), Aw (by rw [List.length_set]; omega), Az (by omega)]
     unfold Ml; rw [if_pos hr]
    ·rw [Aw hr, Aw (by omega), Az (by omega)]
     unfold Ml; rw [if_neg hr]
   cases hlq : JA (A3 p m ss[k]).1 q with
   | some r =>
    simp only [Option.isSome_some, Bool.not_true, Ap, Option.getD_some]
    have ht := tail pl q r nd hnd hndm hfl hlm
    simp only [AN, hnd, oS] at ht
    rw [show (Ae.mk nd.fU.fH nd.fU.fE nd.fU.fI) = m from hndm] at ht
    rw [ht]
    rcases hpl.some _ _ hxo hlq with ⟨hr, hnr⟩ | ⟨a, f, t, hr, ha⟩
    ·subst hr
     rw [hnr, if_neg (by simp)] at hin
     rw [hnr, if_neg (by simp)] at hgo
     have hadd : Ml pl i nd (-1) = pl := by unfold Ml; rw [if_neg (by decide)]
     rw [hadd]
     exact HC hN h20 hv hm hmo hv2 ss e0 hss hsl j n (k + 1) pl q l' (by omega) (by omega) ⟨nd, hnd, hndm⟩ hA hlm hpl (by rw [hgo]; exact hnx) ⟨nd, hnd, by omega⟩ hin
    ·subst hr
     have hrob : Bq p (A3 p m ss[k]).1 = true := (hA _ (lM ha)).2
     rw [hrob, if_pos rfl] at hin hgo
     have hput : Bfs.put i (pl.map ET) (ss[k], (A3 p m ss[k]).1) = pl.map ET := by
      unfold Bfs.put
      rw [if_pos]
      exact List.any_eq_true.2 ⟨_, lM ha, decide_eq_true rfl⟩
     simp only [Bfs.inner] at hin
     rw [hput, if_neg (by rw [List.length_map]; omega)] at hin
     have hpr := NC (r := (a : Int)) hnd
     have hnx2 := Tu (s := ss[k]) hnx (pl2 := pl) (fun b nb hb => .inl hb) (fun b n hb => hb) hnd ha
     obtain ⟨nd3, hnd3⟩ := Bfs.get_ex (l := Ml pl i nd (a : Int)) (k := i) (by
      have := congrArg List.length hpr; simp only [List.length_map] at this; omega)
     obtain ⟨g1, g2⟩ | ⟨_, g2, g3, g4, g5⟩ := Mb hnd hnd3
     ·exact absurd rfl g1
     obtain ⟨pl', q', r1, r2, r3, r4, r5⟩ := HC hN h20 hv hm hmo hv2 ss e0 hss hsl j n (k + 1) (Ml pl i nd (a : Int)) q l' (by omega) (by omega) ⟨nd3, hnd3, by rw [g2]; exact hndm⟩ (by rw [hpr]; exact hA) (by have := congrArg List.length hpr; simp only [List.length_map] at this; omega)  (by rw [hpr]; exact hpl) (by rw [hgo]; exact hnx2) ⟨nd3, hnd3, by rw [g5]; split <;> (try simp only [List.length_append, List.length_singleton]) <;> omega⟩ (by rw [hpr]; exact hin)
     refine ⟨pl', q', r1, r2, r3, r4, ?_⟩
     intro b nb hb hbi
     rcases r5 b nb hb hbi with h2 | h2
     ·rcases Mb hnd h2 with ⟨_, h3⟩ | ⟨h3, _⟩
      ·exact .inl h3
      ·exact absurd h3 hbi
     ·exact .inr h2
   | none =>
    simp only [Option.isSome_none, Bool.not_false, AJ]
    rw [Kl N p _ hN h20 (MA hxo) (IQ hv hxo)]
    simp only [oS, bne_self_eq_false, Ap]
    have hms : ∀ r, NT (CU (LN (A3 p m ss[k]).1)) r (Mo q) = Mo (q ++ [((A3 p m ss[k]).1, r)]) := fun r => by
     rw [Yx]; exact Ma _ _ (by rw [PF hp hxo hpl.ok, hlq])
    have hok2 : ∀ r e, e ∈ q ++ [((A3 p m ss[k]).1, r)] → B0 p e.1 := fun r e he => by
     rcases List.mem_append.1 he with he | he
     ·exact hpl.ok e he
     ·rw [List.mem_singleton.1 he]; exact hxo
    cases hrob : Bq p (A3 p m ss[k]).1
    ·rw [Bool.not_false, AJ]
     rw [hrob, if_neg (by simp)] at hin hgo
     rw [hms]
     have ht := tail pl (q ++ [((A3 p m ss[k]).1, -1)]) (-1) nd hnd hndm hfl hlm
     simp only [AN, hnd, oS] at ht
     rw [show (Ae.mk nd.fU.fH nd.fU.fE nd.fU.fI) = m from hndm] at ht
     rw [ht]
     have hadd : Ml pl i nd (-1) = pl := by unfold Ml; rw [if_neg (by decide)]
     rw [hadd]
     refine HC hN h20 hv hm hmo hv2 ss e0 hss hsl j n (k + 1) pl _ l' (by omega) (by omega) ⟨nd, hnd, hndm⟩ hA hlm ⟨hok2 (-1), ?_, ?_⟩ (by rw [hgo]; exact hnx) ⟨nd, hnd, by omega⟩ hin
     ·intro x hx hq
      rw [LP] at hq
      cases hq2 : JA x q with
      | none => exact hpl.none x hx hq2
      | some v => rw [hq2] at hq; cases hq
     ·intro x r hx hq
      rw [LP] at hq
      cases hq2 : JA x q with
      | none =>
       rw [hq2] at hq
       simp only at hq
       split at hq
       ·rename_i he
        cases hq; left; exact ⟨rfl, by rw [he]; exact hrob⟩
       ·cases hq
      | some v => rw [hq2] at hq; cases hq; exact hpl.some x _ hx hq2
    ·rw [Bool.not_true, Ap]
     rw [hrob, if_pos rfl] at hin hgo
     rw [hms]
     have hnew : ((pl.map ET).any fun n => decide (n.1 = (A3 p m ss[k]).1)) = false := by
      rw [List.any_eq_false]
      intro n hn
      simpa using hpl.none _ hxo hlq n hn
     have hput : Bfs.put i (pl.map ET) (ss[k], (A3 p m ss[k]).1) = (pl ++ [AF.mk (A3 p m ss[k]).1 (i : Int) ss[k] []]).map ET := by
      unfold Bfs.put
      rw [hnew, if_neg (by simp), List.map_append]; rfl
     simp only [Bfs.inner] at hin
     rw [hput] at hin
     split at hin
     ·cases hin
     rename_i hmm
     rw [List.length_map, List.length_append, List.length_singleton] at hmm
     rw [An (by simp [C2]; omega)]
     have hnd2 : (pl ++ [AF.mk (A3 p m ss[k]).1 (i : Int) ss[k] []])[i]? = some nd := Bfs.get_app_of hnd
     have ht := tail (pl ++ [AF.mk (A3 p m ss[k]).1 (i : Int) ss[k] []]) (q ++ [((A3 p m ss[k]).1, (pl.length : Int))]) (pl.length : Int) nd hnd2 hndm hfl (by rw [List.length_append, List.length_singleton]; omega)
     simp only [AN] at ht
     rw [ht]
     have hpr := NC (r := (pl.length : Int)) hnd2
     have hlast : ((pl ++ [AF.mk (A3 p m ss[k]).1 (i : Int) ss[k] []]).map ET)[pl.length]? = some ((A3 p m ss[k]).1, (i : Int), ss[k]) := by
      rw [List.getElem?_map, Bfs.get_app_new]; rfl
     have hold : ∀ (b : Nat) n, (pl.map ET)[b]? = some n → ((pl ++ [AF.mk (A3 p m ss[k]).1 (i : Int) ss[k] []]).map ET)[b]? = some n := fun b n hb => by
      rw [List.map_append]; exact Bfs.get_app_of hb
     have hkeep : ∀ (b : Nat) nb, (pl ++ [AF.mk (A3 p m ss[k]).1 (i : Int) ss[k] []])[b]? = some nb → pl[b]? = some nb ∨ (i < b ∧ nb.fE = []) := fun b nb hb => by
      rcases Bfs.get_app hb with h2 | ⟨h2, h3⟩
      ·exact .inl h2
      ·exact .inr ⟨by omega, by rw [h3]⟩
     have hnx2 := Tu (s := ss[k]) hnx hkeep hold hnd2 hlast
     have hpl2 : Pj p (q ++ [((A3 p m ss[k]).1, (pl.length : Int))]) ((pl ++ [AF.mk (A3 p m ss[k]).1 (i : Int) ss[k] []]).map ET) := by
      refine ⟨hok2 _, ?_, ?_⟩
      ·intro x hx hq n hn
       rw [LP] at hq
       cases hq2 : JA x q with
       | none =>
        rw [hq2] at hq
        simp only at hq
        split at hq
        ·cases hq
        ·rename_i hne
         rw [List.map_append] at hn
         rcases List.mem_append.1 hn with hn | hn
         ·exact hpl.none x hx hq2 n hn
         ·simp at hn; subst hn
          exact fun e => hne e.symm
       | some v => rw [hq2] at hq; cases hq
      ·intro x r hx hq
       rw [LP] at hq
       cases hq2 : JA x q with
       | none =>
        rw [hq2] at hq
        simp only at hq
        split at hq
        ·rename_i he
         cases hq
         exact .inr ⟨pl.length, _, _, rfl, by rw [he]; exact hlast⟩
        ·cases hq
       | some v =>
        rw [hq2] at hq; cases hq
        rcases hpl.some x _ hx hq2 with g | ⟨a, f, t, g1, g2⟩
        ·exact .inl g
        ·exact .inr ⟨a, f, t, g1, hold _ _ g2⟩
     obtain ⟨nd3, hnd3⟩ := Bfs.get_ex (l := Ml (pl ++ [AF.mk (A3 p m ss[k]).1 (i : Int) ss[k] []]) i nd (pl.length : Int)) (k := i) (by
      have := congrArg List.length hpr; simp only [List.length_map, List.length_append, List.length_singleton] at this; omega)
     obtain ⟨g1, g2⟩ | ⟨_, g2, g3, g4, g5⟩ := Mb hnd2 hnd3
     ·exact absurd rfl g1
     obtain ⟨pl', q', r1, r2, r3, r4, r5⟩ := HC hN h20 hv hm hmo hv2 ss e0 hss hsl j n (k + 1) (Ml (pl ++ [AF.mk (A3 p m ss[k]).1 (i : Int) ss[k] []]) i nd (pl.length : Int)) _ l' (by omega) (by omega) ⟨nd3, hnd3, by rw [g2]; exact hndm⟩ (by
       rw [hpr]
       intro n hn
       rw [List.map_append] at hn
       rcases List.mem_append.1 hn with hn | hn
       ·exact hA n hn
       ·simp at hn; subst hn; exact ⟨hxo, hrob⟩) (by have := congrArg List.length hpr; simp only [List.length_map, List.length_append, List.length_singleton] at this; omega)  (by rw [hpr]; exact hpl2) (by rw [hgo]; exact hnx2) ⟨nd3, hnd3, by rw [g5]; split <;> (try simp only [List.length_append, List.length_singleton]) <;> omega⟩ (by rw [hpr]; exact hin)
     refine ⟨pl', q', r1, r2, r3, r4, ?_⟩
     intro b nb hb hbi
     rcases r5 b nb hb hbi with h2 | h2
     ·rcases Mb hnd2 h2 with ⟨_, h3⟩ | ⟨h3, _⟩
      ·rcases hkeep b nb h3 with h4 | ⟨_, h4⟩
       ·exact .inl h4
       ·exact .inr h4
      ·exact absurd h3 hbi
     ·exact .inr h2
  ·have : k = ss.length := by omega
   subst this
   rw [List.drop_eq_nil_of_le (Nat.le_refl _)] at hin
   have hin : some (pl.map ET) = some l' := hin
   cases hin
   rw [List.take_length] at hnx
   rw [CJ, Aw (by simp)]
   exact ⟨pl, q, rfl, rfl, hpl, hnx, fun b nb hb _ => .inl hb⟩
end Go.Lift
