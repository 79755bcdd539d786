/- Lemmas for RefuseErrorsSaid, which YtpaobkaighpaaaaGreatFinR8 proves. -/
import Derived.Test.YtpaobkaighpaaaaGreatDec
import Derived.KernelRfl
import Derived.Sort.AssemblyPlain
namespace Go.Lift
open IntKind renaming wrap → wI
open Option renaming bind_some → oS
open List renaming getElem?_eq_some_iff → lI
theorem Be {α : Type} (xs : List α) (i : Nat) : Bf xs (i : Int) = xs[i]? := by
 unfold Bf; simp
theorem Fm {n : Int} (h0 : -9223372036854775808 ≤ n) (h1 : n ≤ 9223372036854775807) : wI .i64 n = n := by
 simp [wI, IntKind.signed, IntKind.bits]; omega
theorem AZ {i : Nat} (h : i < 1000000) : wI .i64 ((i : Int) + 1) = ((i + 1 : Nat) : Int) := by
 rw [Fm (by omega) (by omega)]; simp
@[simp] theorem AI {α : Type} {a b : Option α} : AT true a b = a := rfl
@[simp] theorem Av {α : Type} {a b : Option α} : AT false a b = b := rfl
theorem AH {α : Type} {p : Prop} [Decidable p] {a b : Option α} (h : p) : AT (decide p) a b = a := by simp [h]
theorem AF {α : Type} {p : Prop} [Decidable p] {a b : Option α} (h : ¬ p) : AT (decide p) a b = b := by simp [h]
def Iw : List Int → List Int → Int
 | [], [] => 0
 | [], _ :: _ => -1
 | _ :: _, [] => 1
 | a :: as1, b :: bs => if a < b then -1 else if b < a then 1 else Iw as1 bs
theorem F3 {α : Type} {xs : List α} {i : Nat} {x : α} (h : xs[i]? = some x) : xs.drop i = x :: xs.drop (i + 1) := by
 obtain ⟨hi, rfl⟩ := lI.1 h
 exact List.drop_eq_getElem_cons hi
theorem Sr (N : Nat) (a b : List Int) (hb : a.length < 1000000) : ∀ (n i : Nat), i ≤ a.length → i ≤ b.length → a.length - i < n →
  Dn N a b (fun _ => AT (decide ((a.length : Int) < (b.length : Int))) (some (-1)) (AT (decide ((b.length : Int) < (a.length : Int))) (some 1) (some 0))) n (i : Int) = some (Iw (a.drop i) (b.drop i))
 | 0, i, _, _, h => by omega
 | n + 1, i, hi, hj, h => by
  unfold Dn
  simp only [Bi]
  by_cases h1 : i < a.length
  ·rw [AH (p := (i : Int) < (a.length : Int)) (by omega)]
   have ha : a[i]? = some a[i] := by simp [h1]
   rw [F3 ha]
   by_cases h2 : i < b.length
   ·have hbb : b[i]? = some b[i] := by simp [h2]
    rw [show decide ((i : Int) < (b.length : Int)) = true from decide_eq_true (by omega), AI, Be, Be, ha, hbb, F3 hbb]
    simp only [oS, Iw]
    rw [AZ (by omega), Sr N a b hb n (i + 1) (by omega) (by omega) (by omega)]
    by_cases h3 : a[i] < b[i]
    ·simp [h3]
    ·by_cases h4 : b[i] < a[i]
     ·simp [h3, h4]
     ·simp [h3, h4]
   ·rw [show decide ((i : Int) < (b.length : Int)) = false from decide_eq_false (by omega), Av, AF (by omega), AH (by omega), List.drop_eq_nil_of_le (by omega : b.length ≤ i)]
    simp [Iw]
  ·rw [AF (p := (i : Int) < (a.length : Int)) (by omega), Av, List.drop_eq_nil_of_le (by omega : a.length ≤ i)]
   by_cases h2 : a.length < b.length
   ·rw [AH (by omega)]
    have hbb : b[i]? = some b[i] := by simp [show i < b.length from by omega]
    rw [F3 hbb]; simp [Iw]
   ·rw [AF (by omega), AF (by omega), List.drop_eq_nil_of_le (by omega : b.length ≤ i)]
    simp [Iw]
theorem Nf {N : Nat} {a b : List Int} (h : a.length < N) (hN : N ≤ 1000000) : Dt N a b = some (Iw a b) := by
 have := Sr N a b (by omega) N 0 (by omega) (by omega) (by omega)
 simpa [Dt] using this
theorem OS : ∀ a : List Int, Iw a a = 0
 | [] => rfl
 | a :: as1 => by simp [Iw, OS as1]
theorem M4 : ∀ a b : List Int, Iw a b = 0 → a = b
 | [], [], _ => rfl
 | [], _ :: _, h => by simp [Iw] at h
 | _ :: _, [], h => by simp [Iw] at h
 | a :: as1, b :: bs, h => by
  unfold Iw at h
  split at h
  ·omega
  ·split at h
   ·omega
   ·rw [M4 as1 bs h, show a = b from by omega]
def Rg : List Int → Int
 | [] => 0
 | x :: xs => if x = 0 then Rg xs else x
theorem ZM (N : Nat) (a : List Int) (hb : a.length < 1000000) : ∀ (n i : Nat), i ≤ a.length → a.length - i < n →
  EV N a (fun _ => some 0) n (i : Int) = some (Rg (a.drop i))
 | 0, i, _, h => by omega
 | n + 1, i, hi, h => by
  unfold EV
  by_cases h1 : i < a.length
  ·have ha : a[i]? = some a[i] := by simp [h1]
   rw [AH (by omega), Be, ha, F3 ha]
   simp only [oS, Rg]
   rw [AZ (by omega), ZM N a hb n (i + 1) (by omega) (by omega)]
   by_cases h3 : a[i] = 0
   ·simp [h3]
   ·have : (a[i] != 0) = true := by simpa using h3
    simp [h3, this]
  ·rw [AF (by omega), List.drop_eq_nil_of_le (by omega : a.length ≤ i)]
   simp [Rg]
theorem WG {N : Nat} {a : List Int} (h : a.length < N) (hN : N ≤ 1000000) : F2 N a = some (Rg a) := by
 have := ZM N a (by omega) N 0 (by omega) (by omega)
 simpa [F2] using this
theorem XV (N : Nat) (a : List Int) (hb : a.length < 1000000) (hw : Iu JR a) : ∀ (n i : Nat), i ≤ a.length → a.length - i < n →
  CT N a (fun v => some v) n (a.take i, (i : Int)) = some a
 | 0, i, _, h => by omega
 | n + 1, i, hi, h => by
  unfold CT
  by_cases h1 : i < a.length
  ·have ha : a[i]? = some a[i] := by simp [h1]
   rw [AH (by simpa using h1)]
   simp only
   rw [Be, ha]
   have hr : wI .i64 a[i] = a[i] := by
    have := hw a[i] (List.getElem_mem h1)
    unfold JR at this
    have h2 : 0 ≤ a[i] ∧ a[i] ≤ 255 := by simpa [Lit.wf, IntKind.min, IntKind.max, IntKind.signed, IntKind.bits] using this
    exact Fm (by omega) (by omega)
   simp only [oS, hr]
   have hlen : (a.take i).length + ([a[i]] : List Int).length ≤ Fa := by
    simp [Fa]; omega
   rw [show EJ ((a.take i).length + ([a[i]] : List Int).length ≤ Fa) = some () from by unfold EJ; rw [if_pos hlen]]
   simp only [oS]
   rw [AZ (by omega), show a.take i ++ [a[i]] = a.take (i + 1) from by rw [List.take_add_one, ha]; rfl]
   exact XV N a hb hw n (i + 1) (by omega) (by omega)
  ·rw [AF (by simpa using h1)]
   simp only
   rw [List.take_of_length_le (by omega)]
theorem MB {N : Nat} {a : List Int} (h : a.length < N) (hN : N ≤ 1000000) (hw : Iu JR a) : Dl N a = some a := by
 have := XV N a (by omega) hw N 0 (by omega) (by omega)
 simpa [Dl] using this
def Zp (a : Ag) : Prop := a.fBase.length ≤ 8 ∧ a.fNext.length ≤ 8 ∧ a.fHeld.length ≤ 14
theorem VH (N : Nat) (a : Ag) : ∃ b, E3 N a = some b ∧ (b = true → Zp a) := by
 unfold E3
 simp only [Bi]
 by_cases h1 : a.fBase.length ≤ 8 <;> by_cases h2 : a.fNext.length ≤ 8 <;> by_cases h3 : a.fHeld.length ≤ 14 <;>
  ·refine ⟨_, by first
    | rw [AF (p := (a.fBase.length : Int) ≤ 8) (by omega)]
    | rw [AH (p := (a.fBase.length : Int) ≤ 8) (by omega), AF (p := (a.fNext.length : Int) ≤ 8) (by omega)]
    | rw [AH (p := (a.fBase.length : Int) ≤ 8) (by omega), AH (p := (a.fNext.length : Int) ≤ 8) (by omega)], ?_⟩
   first
    | (intro h; exact absurd h (by decide))
    | (intro h; have := of_decide_eq_true h; exact ⟨h1, h2, by omega⟩)
def S5 (a b : Ag) : Int := Rg [Iw a.fBase b.fBase, Iw a.fNext b.fNext, Iw a.fHeld b.fHeld]
theorem O2 (a : Ag) : S5 a a = 0 := by unfold S5; simp [OS, Rg]
def Dk {α R : Type} (f : Nat → α → Option R) : Nat → List α → Option R
 | _, [] => none
 | i, x :: xs => match f i x with
  | some r => some r
  | none => Dk f (i + 1) xs
theorem GK {α R : Type} (f : Nat → α → Option R) (i : Nat) (x : α) (xs : List α) : Dk f i (x :: xs) = match f i x with
  | some r => some r
  | none => Dk f (i + 1) xs := rfl
def BZ {R : Type} (a : Option R) (b : Option R) : Option R := match a with
 | some r => some r
 | none => b
theorem CY {α R : Type} (L : Nat → Int → Option R) (xs : List α) (j : Option R) (f : Nat → α → Option R)
  (hs : ∀ (n i : Nat) (x : α), xs[i]? = some x → L (n + 1) (i : Int) = BZ (f i x) (L n ((i + 1 : Nat) : Int))) (he : ∀ n : Nat, L (n + 1) (xs.length : Int) = j) :
  ∀ n i : Nat, i ≤ xs.length → xs.length - i < n → L n (i : Int) = BZ (Dk f i (xs.drop i)) j
 | 0, i, _, h => by omega
 | n + 1, i, hi, h => by
  by_cases h1 : i < xs.length
  ·have hx : xs[i]? = some xs[i] := by simp [h1]
   rw [hs n i _ hx, F3 hx, CY L xs j f hs he n (i + 1) (by omega) (by omega)]
   rw [GK]
   cases f i xs[i] <;> rfl
  ·have : i = xs.length := by omega
   subst this
   rw [he n, List.drop_eq_nil_of_le (Nat.le_refl _)]
   rfl
theorem OW (N : Nat) (k n : Int) : D8 N k n = some (decide (0 ≤ k) && decide (k < n)) := by
 unfold D8
 simp only [Bi]
 by_cases h : 0 ≤ k
 ·rw [AH h]; simp [h]
 ·rw [AF h]; simp [h]
theorem O5 (N : Nat) (t : AV) : BC N t = some (t.fKind == 3 || t.fKind == 4) := by
 unfold BC
 simp only [Bi]
 cases h : t.fKind == 3 <;> simp
def sq (l : List (List Bool)) (n m : Int) : Bool := decide ((l.length : Int) = n) && l.all fun r => decide ((r.length : Int) = m)
theorem Ob {α : Type} (p : α → Bool) {R : Type} (r : Nat → R) : ∀ (i : Nat) (xs : List α), (Dk (fun i x => if p x then none else some (r i)) i xs).isNone = xs.all p
 | i, [] => rfl
 | i, x :: xs => by
  unfold Dk
  cases h : p x <;> simp [h, Ob p r (i + 1) xs]
theorem OR (N : Nat) (l : List (List Bool)) (n m : Int) (h : n < (N : Int)) (hN : N ≤ 1000000) : Dz N l n m = some (sq l n m) := by
 unfold Dz sq
 by_cases h1 : (l.length : Int) = n
 ·subst h1
  simp only [bne_self_eq_false, Av, decide_true, Bool.true_and]
  have := CY (CC N l (l.length : Int) m (fun _ => some true)) l (some true) (fun _ r => if decide ((r.length : Int) = m) then none else some false)
   (fun n i x hx => by
    have hi := (lI.1 hx).1
    rw [CC, AH (by omega), Be, hx]
    simp only [oS]
    rw [AZ (by omega)]
    by_cases h2 : (x.length : Int) = m
    ·simp [h2, BZ]
    ·have : ((x.length : Int) != m) = true := by simpa using h2
     simp [h2, this, BZ])
   (fun n => by rw [CC, AF (by omega)]) N 0 (by omega) (by omega)
  simp only [Int.ofNat_zero, List.drop_zero] at this
  rw [this]
  have h3 := Ob (fun r : List Bool => decide ((r.length : Int) = m)) (fun _ => false) 0 l
  cases hsc : Dk (fun (_ : Nat) (r : List Bool) => if decide ((r.length : Int) = m) = true then none else some false) 0 l with
  | none => rw [hsc] at h3; rw [← h3]; rfl
  | some b =>
   rw [hsc] at h3
   rw [← h3]
   have : ∀ (i : Nat) (xs : List (List Bool)) b, Dk (fun (_ : Nat) (r : List Bool) => if decide ((r.length : Int) = m) = true then none else some false) i xs = some b → b = false := by
    intro i xs
    induction xs generalizing i with
    | nil => intro b hb; cases hb
    | cons x xs ih =>
     intro b hb
     unfold Dk at hb
     split at hb
     ·rename_i r hr; cases hb; split at hr <;> simp at hr; exact hr
     ·exact ih _ b hb
   rw [this 0 l b hsc]; rfl
 ·have : ((l.length : Int) != n) = true := by simpa using h1
  simp [this, h1]
theorem OU (N : Nat) (l : List (List Bool)) (n m : Int) (h : n < (N : Int)) (hN : N ≤ 1000000) : Ff N l n m = some (sq l n m) := by
 unfold Ff sq
 simp only [Bi]
 by_cases h1 : (l.length : Int) = n
 ·subst h1
  simp only [beq_self_eq_true, AI, decide_true, Bool.true_and]
  have := CY (BG N l (fun x => D1 N x m) (fun _ => some (-1))) l (some (-1)) (fun i r => if decide ((r.length : Int) = m) then none else some (i : Int))
   (fun n i x hx => by
    have hi := (lI.1 hx).1
    rw [BG, AH (by omega), Be, hx]
    simp only [oS, D1]
    rw [AZ (by omega)]
    by_cases h2 : (x.length : Int) = m
    ·simp [h2, BZ]
    ·have : ((x.length : Int) != m) = true := by simpa using h2
     simp [h2, this, BZ])
   (fun n => by rw [BG, AF (by omega)]) N 0 (by omega) (by omega)
  simp only [Int.ofNat_zero, List.drop_zero] at this
  unfold C4 Dv
  rw [this]
  have h3 := Ob (fun r : List Bool => decide ((r.length : Int) = m)) (fun i : Nat => (i : Int)) 0 l
  cases hsc : Dk (fun (i : Nat) (r : List Bool) => if decide ((r.length : Int) = m) = true then none else some (i : Int)) 0 l with
  | none => rw [hsc] at h3; rw [← h3]; rfl
  | some b =>
   rw [hsc] at h3
   rw [← h3]
   have : ∀ (i : Nat) (xs : List (List Bool)) b, Dk (fun (i : Nat) (r : List Bool) => if decide ((r.length : Int) = m) = true then none else some (i : Int)) i xs = some b → 0 ≤ b := by
    intro i xs
    induction xs generalizing i with
    | nil => intro b hb; cases hb
    | cons x xs ih =>
     intro b hb
     rw [GK] at hb
     split at hb
     ·rename_i r hr
      cases hb
      split at hr
      ·cases hr
      ·cases hr; omega
     ·exact ih _ b hb
   have := this 0 l b hsc
   simp [BZ, this]
 ·have : ((l.length : Int) == n) = false := by simpa using h1
  simp [this, h1]
open List renaming mem_of_getElem? → lM
open List renaming getD_eq_getElem?_getD → lD
def JK (l : List (List Bool)) : Option Int := Dk (fun i row => if row.getD i false then none else some 1) 0 l
theorem Qj {row : List Bool} {i : Nat} (h : i < row.length) : Bf row (i : Int) = some (row.getD i false) := by
 rw [Be, lD]; simp [h]
theorem Va (N : Nat) (t : AV) (h : t.fRewrite.length < N) (hN : N ≤ 1000000) (hsq : ∀ row, row ∈ t.fRewrite → row.length = t.fRewrite.length) (j : Option Int) :
  Ca N t (fun _ => j) N 0 = BZ (JK t.fRewrite) j := by
 have := CY (Ca N t (fun _ => j)) t.fRewrite j (fun i row => if row.getD i false then none else some 1)
  (fun n i x hx => by
   have hi := (lI.1 hx).1
   have hl := hsq x (lM hx)
   rw [Ca, AH (by omega), Be, hx]
   simp only [oS]
   rw [Qj (by omega), AZ (by omega)]
   simp only [oS]
   cases x.getD i false <;> rfl)
  (fun n => by rw [Ca, AF (by omega)]) N 0 (by omega) (by omega)
 simpa [JK] using this
theorem Pa (N : Nat) (t : AV) (h : t.fRewrite.length < N) (hN : N ≤ 1000000) (hsq : ∀ row, row ∈ t.fRewrite → row.length = t.fRewrite.length) (j : Option Int) :
  Df N t (fun _ => j) N 0 = BZ (JK t.fRewrite) j := by
 have := CY (Df N t (fun _ => j)) t.fRewrite j (fun i row => if row.getD i false then none else some 1)
  (fun n i x hx => by
   have hi := (lI.1 hx).1
   have hl := hsq x (lM hx)
   rw [Df, AH (by omega), Be, hx]
   simp only [oS]
   rw [Qj (by omega), AZ (by omega)]
   simp only [oS]
   cases x.getD i false <;> rfl)
  (fun n => by rw [Df, AF (by omega)]) N 0 (by omega) (by omega)
 simpa [JK] using this
theorem M5 {l : List (List Bool)} {n m : Int} (h : sq l n m = true) : (l.length : Int) = n ∧ ∀ row, row ∈ l → (row.length : Int) = m := by
 unfold sq at h
 simp only [Bool.and_eq_true, decide_eq_true_eq, List.all_eq_true] at h
 exact h
def F9 (p : Aj) (t : AV) : Int :=
 if t.fKind < 1 ∨ 4 < t.fKind ∨ (t.fAware = true ∧ (t.fKind = 3 ∨ t.fKind = 4)) then 1
 else if t.fFrom < 0 ∨ (p.fVersions.length : Int) ≤ t.fFrom ∨ t.fTo < 0 ∨ (p.fVersions.length : Int) ≤ t.fTo then 4
 else
  let f := p.fVersions.getD t.fFrom.toNat 0
  let g := p.fVersions.getD t.fTo.toNat 0
  if sq t.fOK f g = false then 6
  else if t.fKind = 4 then (if sq t.fRewrite f f = false then 6 else (JK t.fRewrite).getD 0)
  else if t.fRewrite.length = 0 then 0 else 6
theorem Fc {α : Type} {xs : List α} {i : Int} {d : α} (h0 : 0 ≤ i) (h1 : i < (xs.length : Int)) : Bf xs i = some (xs.getD i.toNat d) := by
 obtain ⟨k, rfl⟩ := Int.eq_ofNat_of_zero_le h0
 rw [Be, lD, Int.toNat_natCast]
 simp [show k < xs.length from by omega]
theorem TP {t : AV} (A B : Option Int) (hk : ¬ (t.fAware = true ∧ (t.fKind = 3 ∨ t.fKind = 4))) : AT t.fAware (AT (t.fKind == 3 || t.fKind == 4) A B) B = B := by
 cases ha : t.fAware
 ·rfl
 ·have : (t.fKind == 3 || t.fKind == 4) = false := by
   rw [Bool.or_eq_false_iff]
   constructor
   ·simp only [beq_eq_false_iff_ne]; intro h; exact hk ⟨ha, .inl h⟩
   ·simp only [beq_eq_false_iff_ne]; intro h; exact hk ⟨ha, .inr h⟩
  rw [this]; rfl
theorem Kt {p : Aj} {i : Int} (hv : ∀ v, v ∈ p.fVersions → 1 ≤ v ∧ v ≤ 6) (h0 : 0 ≤ i) (h1 : i < (p.fVersions.length : Int)) : 1 ≤ p.fVersions.getD i.toNat 0 ∧ p.fVersions.getD i.toNat 0 ≤ 6 := by
 refine hv _ ?_
 rw [lD, List.getElem?_eq_getElem (by omega)]
 exact List.getElem_mem _
theorem S9 (N : Nat) (p : Aj) (t : AV) (hN : N ≤ 1000000) (h6 : 7 ≤ N) (hv : ∀ v, v ∈ p.fVersions → 1 ≤ v ∧ v ≤ 6) : Ex N p t = some (F9 p t) := by
 unfold Ex F9
 simp only [Bi, O5, oS]
 by_cases k1 : t.fKind < 1
 ·simp [k1]
 by_cases k2 : 4 < t.fKind
 ·simp [k1, k2]
 rw [AF k1, AF k2]
 by_cases hk : t.fAware = true ∧ (t.fKind = 3 ∨ t.fKind = 4)
 ·obtain ⟨ha, k | k⟩ := hk <;> simp [ha, k]
 rw [Av, TP _ _ hk, if_neg (fun h => h.elim k1 fun h => h.elim k2 hk)]
 by_cases f1 : t.fFrom < 0
 ·simp [f1]
 by_cases f2 : (p.fVersions.length : Int) ≤ t.fFrom
 ·simp [f1, f2]
 by_cases f3 : t.fTo < 0
 ·simp [f1, f2, f3]
 by_cases f4 : (p.fVersions.length : Int) ≤ t.fTo
 ·simp [f1, f2, f3, f4]
 rw [AF f1, AF f2, AF f3, if_neg (fun h => h.elim f1 fun h => h.elim f2 fun h => h.elim f3 f4)]
 have hf := Kt hv (i := t.fFrom) (by omega) (by omega)
 rw [decide_eq_false f4, Av, Fc (d := 0) (by omega : 0 ≤ t.fFrom) (by omega), Fc (d := 0) (by omega : 0 ≤ t.fTo) (by omega)]
 simp only [oS]
 generalize p.fVersions.getD t.fFrom.toNat 0 = f at *
 generalize p.fVersions.getD t.fTo.toNat 0 = g at *
 rw [OR N t.fOK f g (by omega) hN, OR N t.fRewrite f f (by omega) hN]
 simp only [oS]
 cases hq : sq t.fOK f g
 ·rfl
 simp only [Bool.not_true, Av]
 by_cases k4 : t.fKind = 4
 ·have : (t.fKind != 4) = false := by simp [k4]
  rw [this, Av]
  simp only [k4, if_true]
  cases hr : sq t.fRewrite f f
  ·rfl
  ·have h7 := M5 hr
   simp only [Bool.not_true, Av]
   rw [Va N t (by omega) hN (fun row hm => by have := h7.2 row hm; omega)]
   cases JK t.fRewrite <;> simp [BZ]
 ·have : (t.fKind != 4) = true := by simpa using k4
  rw [this, AI]
  simp only [k4, if_false]
  by_cases hr : t.fRewrite.length = 0
  ·simp [hr]
  ·have : ((t.fRewrite.length : Int) != 0) = true := bne_iff_ne.2 (by omega)
   rw [this]; simp [hr]
theorem Vt (N : Nat) (k : Int) (a : Bool) : GX N k a = some (k == 1 || (k == 2 || ((k == 3 || k == 4) && !a))) := by
 unfold GX
 simp only [Bi]
 cases h1 : k == 1 <;> cases h2 : k == 2 <;> cases h3 : k == 3 <;> cases h4 : k == 4 <;> cases a <;> rfl
theorem NU (N : Nat) (p : Aj) (t : AV) (hN : N ≤ 1000000) (h6 : 7 ≤ N) (hv : ∀ v, v ∈ p.fVersions → 1 ≤ v ∧ v ≤ 6) : Gz N p t = some (F9 p t) := by
 unfold Gz F9
 simp only [Bi, Vt, OW, oS]
 by_cases hb : t.fKind < 1 ∨ 4 < t.fKind ∨ (t.fAware = true ∧ (t.fKind = 3 ∨ t.fKind = 4))
 ·have : (t.fKind == 1 || (t.fKind == 2 || ((t.fKind == 3 || t.fKind == 4) && !t.fAware))) = false := by
   rcases hb with h | h | ⟨ha, h | h⟩
   ·rw [beq_eq_false_iff_ne.2 (by omega : t.fKind ≠ 1), beq_eq_false_iff_ne.2 (by omega : t.fKind ≠ 2), beq_eq_false_iff_ne.2 (by omega : t.fKind ≠ 3), beq_eq_false_iff_ne.2 (by omega : t.fKind ≠ 4)]; rfl
   ·rw [beq_eq_false_iff_ne.2 (by omega : t.fKind ≠ 1), beq_eq_false_iff_ne.2 (by omega : t.fKind ≠ 2), beq_eq_false_iff_ne.2 (by omega : t.fKind ≠ 3), beq_eq_false_iff_ne.2 (by omega : t.fKind ≠ 4)]; rfl
   ·simp [ha, h]
   ·simp [ha, h]
  rw [this, if_pos hb]; rfl
 ·have : (t.fKind == 1 || (t.fKind == 2 || ((t.fKind == 3 || t.fKind == 4) && !t.fAware))) = true := by
   have hk : t.fKind = 1 ∨ t.fKind = 2 ∨ t.fKind = 3 ∨ t.fKind = 4 := by
    have h1 : ¬ t.fKind < 1 := fun h => hb (.inl h)
    have h2 : ¬ 4 < t.fKind := fun h => hb (.inr (.inl h))
    omega
   rcases hk with h | h | h | h
   ·simp [h]
   ·simp [h]
   ·cases ha : t.fAware
    ·simp [h]
    ·exact (hb (.inr (.inr ⟨ha, .inl h⟩))).elim
   ·cases ha : t.fAware
    ·simp [h]
    ·exact (hb (.inr (.inr ⟨ha, .inr h⟩))).elim
  rw [this, if_neg hb]
  simp only [Bool.not_true, Av]
  by_cases f1 : t.fFrom < 0
  ·simp [f1, show ¬ (0 ≤ t.fFrom) from by omega]
  by_cases f2 : (p.fVersions.length : Int) ≤ t.fFrom
  ·simp [f2, show ¬ (t.fFrom < (p.fVersions.length : Int)) from by omega]
  by_cases f3 : t.fTo < 0
  ·simp [f3, show 0 ≤ t.fFrom from by omega, show t.fFrom < (p.fVersions.length : Int) from by omega, show ¬ (0 ≤ t.fTo) from by omega]
  by_cases f4 : (p.fVersions.length : Int) ≤ t.fTo
  ·simp [f4, show 0 ≤ t.fFrom from by omega, show t.fFrom < (p.fVersions.length : Int) from by omega, show ¬ (t.fTo < (p.fVersions.length : Int)) from by omega]
  rw [if_neg (fun h => h.elim f1 fun h => h.elim f2 fun h => h.elim f3 f4)]
  have hf := Kt hv (i := t.fFrom) (by omega) (by omega)
  have hg := Kt hv (i := t.fTo) (by omega) (by omega)
  rw [decide_eq_true (by omega : 0 ≤ t.fFrom), decide_eq_true (by omega : t.fFrom < (p.fVersions.length : Int)), decide_eq_true (by omega : 0 ≤ t.fTo), decide_eq_true (by omega : t.fTo < (p.fVersions.length : Int)), Fc (d := 0) (by omega : 0 ≤ t.fFrom) (by omega), Fc (d := 0) (by omega : 0 ≤ t.fTo) (by omega)]
  simp only [Bool.and_self, Bool.not_true, Av, oS]
  generalize p.fVersions.getD t.fFrom.toNat 0 = f at *
  generalize p.fVersions.getD t.fTo.toNat 0 = g at *
  rw [OU N t.fOK f g (by omega) hN, OU N t.fRewrite f f (by omega) hN]
  simp only [oS]
  cases hq : sq t.fOK f g
  ·rfl
  simp only [Bool.not_true, Av]
  by_cases k4 : t.fKind = 4
  ·simp only [k4, beq_self_eq_true, AI, if_true]
   cases hr : sq t.fRewrite f f
   ·rfl
   ·have h7 := M5 hr
    simp only [Bool.not_true, Av]
    rw [Pa N t (by omega) hN (fun row hm => by have := h7.2 row hm; omega)]
    cases JK t.fRewrite <;> simp [BZ]
  ·have : (t.fKind == 4) = false := beq_eq_false_iff_ne.2 k4
   rw [this, Av]
   simp only [k4, if_false, Bool.not_false, AI]
   by_cases hr : t.fRewrite.length = 0
   ·rw [Pa N t (by omega) hN (fun row hm => by rw [List.eq_nil_of_length_eq_zero hr] at hm; cases hm), List.eq_nil_of_length_eq_zero hr]
    simp [JK, Dk, BZ]
   ·rw [decide_eq_true (by omega : 0 < (t.fRewrite.length : Int))]
    simp [hr]
def GP (p : Aj) (i : Nat) (v : Int) : Option Int :=
 if v < 1 ∨ 6 < v ∨ p.fNow.getD i 0 < 0 ∨ v ≤ p.fNow.getD i 0 ∨ p.fTarget.getD i 0 < 0 ∨ v ≤ p.fTarget.getD i 0 then some 7 else none
def M2 (p : Aj) (_ : Nat) (t : AV) : Option Int := if F9 p t = 0 then none else some (F9 p t)
def Ce (p : Aj) : Int :=
 if 6 < p.fVersions.length ∨ 12 < p.fTables.length then 3
 else if p.fNow.length ≠ p.fVersions.length ∨ p.fTarget.length ≠ p.fVersions.length then 6
 else ((BZ (Dk (GP p) 0 p.fVersions) (Dk (M2 p) 0 p.fTables)).getD 0)
theorem GH {α R : Type} {f : Nat → α → Option R} : ∀ {i : Nat} {xs : List α}, Dk f i xs = none → ∀ j x, xs[j]? = some x → f (i + j) x = none
 | _, [], _, j, x, hx => by simp at hx
 | i, y :: ys, h, j, x, hx => by
  rw [GK] at h
  split at h
  ·cases h
  ·rename_i h0
   cases j with
   | zero => simp at hx; subst hx; exact h0
   | succ j =>
    have := GH h j x (by simpa using hx)
    rwa [show i + 1 + j = i + (j + 1) from by omega] at this
theorem NR {p : Aj} (h : Dk (GP p) 0 p.fVersions = none) : ∀ v, v ∈ p.fVersions → 1 ≤ v ∧ v ≤ 6 := by
 intro v hv
 obtain ⟨i, hi⟩ := List.mem_iff_getElem?.1 hv
 have := GH h i v hi
 unfold GP at this
 split at this
 ·cases this
 ·rename_i hn
  constructor
  ·exact Int.not_lt.1 fun h => hn (.inl h)
  ·exact Int.not_lt.1 fun h => hn (.inr (.inl h))
theorem C7 {α : Type} {xs : List α} {i : Nat} {d : α} (h : i < xs.length) : Bf xs (i : Int) = some (xs.getD i d) := by
 rw [Be, lD]; simp [h]
theorem RQ (N : Nat) (p : Aj) (hN : N ≤ 1000000) (h1 : p.fVersions.length < N) (h2 : p.fNow.length = p.fVersions.length) (h3 : p.fTarget.length = p.fVersions.length) (j : Option Int) :
  By N p (fun _ => j) N 0 = BZ (Dk (GP p) 0 p.fVersions) j := by
 have := CY (By N p (fun _ => j)) p.fVersions j (GP p)
  (fun n i x hx => by
   have hi := (lI.1 hx).1
   rw [By, AH (by omega), Be, hx]
   simp only [oS, Bi]
   rw [C7 (d := 0) (by omega), C7 (d := 0) (by omega), AZ (by omega)]
   simp only [oS]
   unfold GP
   generalize p.fNow.getD i 0 = a
   generalize p.fTarget.getD i 0 = b
   by_cases k1 : x < 1 <;> by_cases k2 : 6 < x <;> by_cases k3 : a < 0 <;> by_cases k4 : x ≤ a <;> by_cases k5 : b < 0 <;> by_cases k6 : x ≤ b <;> simp [k1, k2, k3, k4, k5, k6, BZ])
  (fun n => by rw [By, AF (by omega)]) N 0 (by omega) (by omega)
 simpa using this
theorem Pt (N : Nat) (p : Aj) (hN : N ≤ 1000000) (h1 : p.fVersions.length < N) (h2 : p.fNow.length = p.fVersions.length) (h3 : p.fTarget.length = p.fVersions.length) (j : Option Int) :
  B6 N p (fun _ => j) N 0 = BZ (Dk (GP p) 0 p.fVersions) j := by
 have := CY (B6 N p (fun _ => j)) p.fVersions j (GP p)
  (fun n i x hx => by
   have hi := (lI.1 hx).1
   rw [B6, AH (by omega), Be, hx]
   simp only [oS, Bi, OW]
   rw [C7 (d := 0) (by omega), C7 (d := 0) (by omega), AZ (by omega)]
   simp only [oS]
   unfold GP
   generalize p.fNow.getD i 0 = a
   generalize p.fTarget.getD i 0 = b
   have e1 : decide (0 ≤ a) = !decide (a < 0) := by rw [← decide_not]; congr 1; simp
   have e2 : decide (a < x) = !decide (x ≤ a) := by rw [← decide_not]; congr 1; simp
   have e3 : decide (0 ≤ b) = !decide (b < 0) := by rw [← decide_not]; congr 1; simp
   have e4 : decide (b < x) = !decide (x ≤ b) := by rw [← decide_not]; congr 1; simp
   rw [e1, e2, e3, e4]
   by_cases k1 : x < 1 <;> by_cases k2 : 6 < x <;> by_cases k3 : a < 0 <;> by_cases k4 : x ≤ a <;> by_cases k5 : b < 0 <;> by_cases k6 : x ≤ b <;> simp [k1, k2, k3, k4, k5, k6, BZ])
  (fun n => by rw [B6, AF (by omega)]) N 0 (by omega) (by omega)
 simpa using this
theorem TD (N : Nat) (p : Aj) (hN : N ≤ 1000000) (h6 : 7 ≤ N) (h1 : p.fTables.length < N) (hv : ∀ v, v ∈ p.fVersions → 1 ≤ v ∧ v ≤ 6) (j : Option Int) :
  Bv N p (fun _ => j) N 0 = BZ (Dk (M2 p) 0 p.fTables) j := by
 have := CY (Bv N p (fun _ => j)) p.fTables j (M2 p)
  (fun n i x hx => by
   have hi := (lI.1 hx).1
   rw [Bv, AH (by omega), Be, hx]
   simp only [oS]
   rw [S9 N p x hN h6 hv, AZ (by omega)]
   simp only [oS]
   unfold M2
   by_cases k : F9 p x = 0
   ·simp [k, BZ]
   ·rw [bne_iff_ne.2 k, if_neg k]; rfl)
  (fun n => by rw [Bv, AF (by omega)]) N 0 (by omega) (by omega)
 simpa using this
theorem Ro (N : Nat) (p : Aj) (hN : N ≤ 1000000) (h6 : 7 ≤ N) (h1 : p.fTables.length < N) (hv : ∀ v, v ∈ p.fVersions → 1 ≤ v ∧ v ≤ 6) (j : Option Int) :
  B1 N p (fun _ => j) N 0 = BZ (Dk (M2 p) 0 p.fTables) j := by
 have := CY (B1 N p (fun _ => j)) p.fTables j (M2 p)
  (fun n i x hx => by
   have hi := (lI.1 hx).1
   rw [B1, AH (by omega), Be, hx]
   simp only [oS]
   rw [NU N p x hN h6 hv, AZ (by omega)]
   simp only [oS]
   unfold M2
   by_cases k : F9 p x = 0
   ·simp [k, BZ]
   ·rw [bne_iff_ne.2 k, if_neg k]; rfl)
  (fun n => by rw [B1, AF (by omega)]) N 0 (by omega) (by omega)
 simpa using this
theorem JQ (N : Nat) (p : Aj) (hN : N ≤ 1000000) (h : 20 ≤ N) : BA N p = some (Ce p) := by
 unfold BA Ce
 simp only [Bi]
 by_cases k1 : 6 < p.fVersions.length
 ·rw [AH (by omega)]; simp [k1]
 rw [AF (by omega)]
 by_cases k2 : 12 < p.fTables.length
 ·rw [decide_eq_true (by omega : (12 : Int) < (p.fTables.length : Int))]; simp [k2]
 rw [decide_eq_false (by omega : ¬ (12 : Int) < (p.fTables.length : Int)), Av, if_neg (by omega)]
 by_cases k3 : p.fNow.length = p.fVersions.length
 ·by_cases k4 : p.fTarget.length = p.fVersions.length
  ·rw [k3, k4]
   simp only [bne_self_eq_false, Av, ne_eq, not_true_eq_false, or_self, if_false]
   rw [RQ N p hN (by omega) k3 k4]
   cases hs : Dk (GP p) 0 p.fVersions with
   | some r => rfl
   | none =>
    simp only [BZ]
    rw [TD N p hN (by omega) (by omega) (NR hs)]
    cases Dk (M2 p) 0 p.fTables <;> rfl
  ·have : ((p.fTarget.length : Int) != (p.fVersions.length : Int)) = true := bne_iff_ne.2 (by omega)
   rw [this, k3]; simp [k4]
 ·have : ((p.fNow.length : Int) != (p.fVersions.length : Int)) = true := bne_iff_ne.2 (by omega)
  rw [this]; simp [k3]
theorem Ix (N : Nat) (p : Aj) (hN : N ≤ 1000000) (h : 20 ≤ N) : CH N p = some (Ce p) := by
 unfold CH Ce
 simp only [Bi]
 by_cases k1 : 6 < p.fVersions.length
 ·rw [AH (by omega)]; simp [k1]
 rw [AF (by omega)]
 by_cases k2 : 12 < p.fTables.length
 ·rw [decide_eq_true (by omega : (12 : Int) < (p.fTables.length : Int))]; simp [k2]
 rw [decide_eq_false (by omega : ¬ (12 : Int) < (p.fTables.length : Int)), Av, if_neg (by omega)]
 by_cases k3 : p.fNow.length = p.fVersions.length
 ·by_cases k4 : p.fTarget.length = p.fVersions.length
  ·rw [k3, k4]
   simp only [bne_self_eq_false, Av, ne_eq, not_true_eq_false, or_self, if_false]
   rw [Pt N p hN (by omega) k3 k4]
   cases hs : Dk (GP p) 0 p.fVersions with
   | some r => rfl
   | none =>
    simp only [BZ]
    rw [Ro N p hN (by omega) (by omega) (NR hs)]
    cases Dk (M2 p) 0 p.fTables <;> rfl
  ·have : ((p.fTarget.length : Int) != (p.fVersions.length : Int)) = true := bne_iff_ne.2 (by omega)
   rw [this, k3]; simp [k4]
 ·have : ((p.fNow.length : Int) != (p.fVersions.length : Int)) = true := bne_iff_ne.2 (by omega)
  rw [this]; simp [k3]
theorem N1 {n : Int} (h : JR n) : 0 ≤ n ∧ n ≤ 255 := by
 unfold JR at h
 simpa [Lit.wf, IntKind.min, IntKind.max, IntKind.signed, IntKind.bits] using h
theorem Ot : ∀ k : Fin 256, Do .u8 0 (k.val : Int) = 0 := by decide +kernel
theorem Ox : ∀ k : Fin 256, Do .u8 (k.val : Int) 0 = (k.val : Int) := by decide +kernel
theorem Ur {n : Int} (h : JR n) : Do .u8 0 n = 0 := by
 have := N1 h
 obtain ⟨k, rfl⟩ := Int.eq_ofNat_of_zero_le this.1
 exact Ot ⟨k, by omega⟩
theorem TF {n : Int} (h : JR n) : Do .u8 n 0 = n := by
 have := N1 h
 obtain ⟨k, rfl⟩ := Int.eq_ofNat_of_zero_le this.1
 exact Ox ⟨k, by omega⟩
theorem ED {α R : Type} {f : Nat → α → Option R} : ∀ {i : Nat} {xs : List α} {r : R}, Dk f i xs = some r → ∃ j x, xs[j]? = some x ∧ f (i + j) x = some r
 | _, [], _, h => by cases h
 | i, y :: ys, r, h => by
  rw [GK] at h
  split at h
  ·rename_i r' h0
   cases h
   exact ⟨0, y, rfl, h0⟩
  ·obtain ⟨j, x, h1, h2⟩ := ED h
   exact ⟨j + 1, x, by simpa using h1, by rwa [show i + (j + 1) = i + 1 + j from by omega]⟩
structure Cd (p : Aj) : Prop where
 nv : p.fVersions.length ≤ 6
 nt : p.fTables.length ≤ 12
 now : p.fNow.length = p.fVersions.length
 tgt : p.fTarget.length = p.fVersions.length
 ver : ∀ v, v ∈ p.fVersions → 1 ≤ v ∧ v ≤ 6
 tab : ∀ t, t ∈ p.fTables → F9 p t = 0
theorem Rr (l : List (List Bool)) : (JK l).getD 0 = 0 ∨ (JK l).getD 0 = 1 := by
 cases h : JK l with
 | none => exact .inl rfl
 | some r =>
  obtain ⟨j, x, _, h⟩ := ED h
  split at h
  ·cases h
  ·cases h; exact .inr rfl
theorem Ph (p : Aj) (t : AV) : F9 p t = 0 ∨ F9 p t = 1 ∨ F9 p t = 4 ∨ F9 p t = 6 := by
 unfold F9
 split
 ·exact .inr (.inl rfl)
 split
 ·exact .inr (.inr (.inl rfl))
 simp only
 split
 ·exact .inr (.inr (.inr rfl))
 split
 ·split
  ·exact .inr (.inr (.inr rfl))
  ·rcases Rr t.fRewrite with h | h
   ·exact .inl h
   ·exact .inr (.inl h)
 ·split
  ·exact .inl rfl
  ·exact .inr (.inr (.inr rfl))
theorem It (p : Aj) : (Ce p = 0 ∧ Cd p) ∨ (Ce p = 1 ∨ Ce p = 3 ∨ Ce p = 4 ∨ Ce p = 6 ∨ Ce p = 7) := by
 unfold Ce
 split
 ·simp
 rename_i k1
 split
 ·simp
 rename_i k2
 cases hs : Dk (GP p) 0 p.fVersions with
 | some r =>
  obtain ⟨j, x, _, h⟩ := ED hs
  unfold GP at h
  split at h
  ·cases h; simp [BZ]
  ·cases h
 | none =>
  cases ht : Dk (M2 p) 0 p.fTables with
  | some r =>
   obtain ⟨j, t, _, h⟩ := ED ht
   unfold M2 at h
   split at h
   ·cases h
   ·rename_i hne
    cases h
    simp only [BZ, Option.getD_some]
    right
    rcases Ph p t with h | h | h | h
    ·exact (hne h).elim
    ·exact .inl h
    ·exact .inr (.inr (.inl h))
    ·exact .inr (.inr (.inr (.inl h)))
  | none =>
   left
   refine ⟨rfl, by omega, by omega, by omega, by omega, NR hs, fun t hm => ?_⟩
   obtain ⟨j, hj⟩ := List.mem_iff_getElem?.1 hm
   have := GH ht j t hj
   unfold M2 at this
   split at this
   ·assumption
   ·cases this
def G7 (m : Ag) (s : Nat) : Int :=
 if 0 ≤ m.fNext.getD s 0 then Oi .u8 (CF .u8 1 (m.fBase.getD s 0)) (CF .u8 1 (m.fNext.getD s 0)) else CF .u8 1 (m.fBase.getD s 0)
def La (m : Ag) (i : Nat) (v : Int) : Option Int :=
 if m.fBase.getD i 0 < 0 ∨ v ≤ m.fBase.getD i 0 ∨ m.fNext.getD i 0 < -1 ∨ v ≤ m.fNext.getD i 0 then some 7
 else if m.fBase.getD i 0 = m.fNext.getD i 0 then some 1 else none
def CE (t : AV) : Bool := t.fKind == 3 || t.fKind == 4
def VC (p : Aj) (t : AV) : Int := wI .u8 (CF .u8 1 (p.fVersions.getD t.fFrom.toNat 0) - 1)
def Jd (p : Aj) (m : Ag) (i : Nat) (t : AV) : Option Int :=
 if CE t = true then (if Do .u8 (G7 m t.fFrom.toNat) (m.fHeld.getD i 0) ≠ 0 ∨ Do .u8 (m.fHeld.getD i 0) (VC p t) ≠ 0 then some 1 else none)
 else if m.fHeld.getD i 0 ≠ 0 then some 1 else none
def CW (p : Aj) (m : Ag) : Int :=
 if Ce p ≠ 0 then Ce p
 else if m.fBase.length ≠ p.fVersions.length ∨ m.fNext.length ≠ p.fVersions.length ∨ m.fHeld.length ≠ p.fTables.length then 6
 else (BZ (Dk (La m) 0 p.fVersions) (Dk (Jd p m) 0 p.fTables)).getD 0
theorem IX {p : Aj} {t : AV} (h : F9 p t = 0) : 0 ≤ t.fFrom ∧ t.fFrom < (p.fVersions.length : Int) ∧ 0 ≤ t.fTo ∧ t.fTo < (p.fVersions.length : Int) := by
 unfold F9 at h
 split at h
 ·cases h
 ·split at h
  ·cases h
  ·omega
theorem Li (N : Nat) (m : Ag) (s : Int) (h0 : 0 ≤ s) (h1 : s < (m.fBase.length : Int)) (h2 : s < (m.fNext.length : Int)) (hb : 0 ≤ m.fBase.getD s.toNat 0) : E4 N m s = some (G7 m s.toNat) := by
 unfold E4 G7
 rw [Fc (d := 0) h0 h1, Fc (d := 0) h0 h2]
 simp only [oS, Bi]
 rw [show EJ (0 ≤ m.fBase.getD s.toNat 0) = some () from by unfold EJ; rw [if_pos hb]]
 simp only [oS]
 by_cases h : 0 ≤ m.fNext.getD s.toNat 0
 ·rw [AH h, if_pos h, show EJ (0 ≤ m.fNext.getD s.toNat 0) = some () from by unfold EJ; rw [if_pos h]]; rfl
 ·rw [AF h, if_neg h]
theorem JX (N : Nat) (m : Ag) (s : Int) (h0 : 0 ≤ s) (h1 : s < (m.fBase.length : Int)) (h2 : s < (m.fNext.length : Int)) (hb : 0 ≤ m.fBase.getD s.toNat 0) : B4 N m s = some (G7 m s.toNat) := by
 unfold B4 G7
 rw [Fc (d := 0) h0 h1, Fc (d := 0) h0 h2]
 simp only [oS, Bi]
 rw [show EJ (0 ≤ m.fBase.getD s.toNat 0) = some () from by unfold EJ; rw [if_pos hb]]
 simp only [oS]
 by_cases h : 0 ≤ m.fNext.getD s.toNat 0
 ·rw [AH h, if_pos h, show EJ (0 ≤ m.fNext.getD s.toNat 0) = some () from by unfold EJ; rw [if_pos h]]; rfl
 ·rw [AF h, if_neg h]
theorem Pl (N : Nat) (p : Aj) (m : Ag) (hN : N ≤ 1000000) (h1 : p.fVersions.length < N) (h2 : m.fBase.length = p.fVersions.length) (h3 : m.fNext.length = p.fVersions.length) (j : Option Int) :
  Ea N p m (fun _ => j) N 0 = BZ (Dk (La m) 0 p.fVersions) j := by
 have := CY (Ea N p m (fun _ => j)) p.fVersions j (La m)
  (fun n i x hx => by
   have hi := (lI.1 hx).1
   rw [Ea, AH (by omega), Be, hx]
   simp only [oS, Bi]
   rw [C7 (d := 0) (by omega), C7 (d := 0) (by omega), AZ (by omega)]
   simp only [oS]
   unfold La
   generalize m.fBase.getD i 0 = a
   generalize m.fNext.getD i 0 = b
   by_cases k7 : a = b
   ·subst k7
    by_cases k3 : a < 0 <;> by_cases k4 : x ≤ a <;> by_cases k5 : a < -1 <;> simp [k3, k4, k5, BZ]
   ·have k8 : (a == b) = false := beq_eq_false_iff_ne.2 k7
    by_cases k3 : a < 0 <;> by_cases k4 : x ≤ a <;> by_cases k5 : b < -1 <;> by_cases k6 : x ≤ b <;> simp [k3, k4, k5, k6, k7, k8, BZ])
  (fun n => by rw [Ea, AF (by omega)]) N 0 (by omega) (by omega)
 simpa using this
theorem Pu (N : Nat) (p : Aj) (m : Ag) (hN : N ≤ 1000000) (h1 : p.fVersions.length < N) (h2 : m.fBase.length = p.fVersions.length) (h3 : m.fNext.length = p.fVersions.length) (j : Option Int) :
  Cn N p m (fun _ => j) N 0 = BZ (Dk (La m) 0 p.fVersions) j := by
 have := CY (Cn N p m (fun _ => j)) p.fVersions j (La m)
  (fun n i x hx => by
   have hi := (lI.1 hx).1
   rw [Cn, AH (by omega), show Bf p.fVersions (i : Int) = some x from by rw [Be, hx]]
   simp only [oS, Bi]
   rw [C7 (d := 0) (by omega), C7 (d := 0) (by omega), AZ (by omega)]
   simp only [oS]
   unfold La
   generalize m.fBase.getD i 0 = a
   generalize m.fNext.getD i 0 = b
   by_cases k7 : a = b
   ·subst k7
    by_cases k3 : a < 0 <;> by_cases k4 : x ≤ a <;> by_cases k5 : a < -1 <;> simp [k3, k4, k5, BZ]
   ·have k8 : (a == b) = false := beq_eq_false_iff_ne.2 k7
    by_cases k3 : a < 0 <;> by_cases k4 : x ≤ a <;> by_cases k5 : b < -1 <;> by_cases k6 : x ≤ b <;> simp [k3, k4, k5, k6, k7, k8, BZ])
  (fun n => by rw [Cn, AF (by omega)]) N 0 (by omega) (by omega)
 simpa using this
structure MixServ (p : Aj) (m : Ag) : Prop where
 base : m.fBase.length = p.fVersions.length
 next : m.fNext.length = p.fVersions.length
 held : m.fHeld.length = p.fTables.length
 b0 : ∀ i, i < p.fVersions.length → 0 ≤ m.fBase.getD i 0 ∧ m.fBase.getD i 0 < p.fVersions.getD i 0
 n0 : ∀ i, i < p.fVersions.length → -1 ≤ m.fNext.getD i 0 ∧ m.fNext.getD i 0 < p.fVersions.getD i 0
 ne : ∀ i, i < p.fVersions.length → m.fBase.getD i 0 ≠ m.fNext.getD i 0
theorem PF {p : Aj} {m : Ag} (h2 : m.fBase.length = p.fVersions.length) (h3 : m.fNext.length = p.fVersions.length) (h4 : m.fHeld.length = p.fTables.length) (h : Dk (La m) 0 p.fVersions = none) : MixServ p m := by
 have key : ∀ i, i < p.fVersions.length → ¬ (m.fBase.getD i 0 < 0 ∨ p.fVersions.getD i 0 ≤ m.fBase.getD i 0 ∨ m.fNext.getD i 0 < -1 ∨ p.fVersions.getD i 0 ≤ m.fNext.getD i 0) ∧ ¬ m.fBase.getD i 0 = m.fNext.getD i 0 := by
  intro i hi
  have hx : p.fVersions[i]? = some (p.fVersions.getD i 0) := by rw [lD]; simp [hi]
  have := GH h i _ hx
  rw [Nat.zero_add] at this
  unfold La at this
  split at this
  ·cases this
  ·split at this
   ·cases this
   ·rename_i k1 k2; exact ⟨k1, k2⟩
 exact ⟨h2, h3, h4, fun i hi => by have := (key i hi).1; omega, fun i hi => by have := (key i hi).1; omega, fun i hi => (key i hi).2⟩
theorem Ra {m : Ag} (hw : Iu JR m.fHeld) {i : Nat} (h : i < m.fHeld.length) : JR (m.fHeld.getD i 0) := by
 refine hw _ ?_
 rw [lD, List.getElem?_eq_getElem h]
 exact List.getElem_mem _
theorem Ju (N : Nat) (t : AV) : Fn N t = some (CE t) := by
 unfold Fn CE
 simp only [Bi]
 cases h : t.fKind == 3 <;> simp
theorem HZ (N : Nat) (t : AV) : BC N t = some (CE t) := O5 N t
theorem RT (N : Nat) (p : Aj) (m : Ag) (hN : N ≤ 1000000) (h1 : p.fTables.length < N) (hp : Cd p) (hm : MixServ p m) (hw : Iu JR m.fHeld) (j : Option Int) :
  DO N p m (fun _ => j) N 0 = BZ (Dk (Jd p m) 0 p.fTables) j := by
 have := CY (DO N p m (fun _ => j)) p.fTables j (Jd p m)
  (fun n i x hx => by
   have hi := (lI.1 hx).1
   have hin := IX (hp.tab x (lM hx))
   have hheld := Ra hw (show i < m.fHeld.length from by rw [hm.held]; exact hi)
   have hv := Kt hp.ver hin.1 hin.2.1
   rw [DO, AH (by omega), Be, hx]
   simp only [oS, Bi, Ju]
   rw [Li N m x.fFrom hin.1 (by rw [hm.base]; exact hin.2.1) (by rw [hm.next]; exact hin.2.1) (hm.b0 _ (by omega)).1, Fc (d := 0) hin.1 hin.2.1, C7 (d := 0) (show i < m.fHeld.length from by rw [hm.held]; exact hi), AZ (by omega)]
   simp only [oS]
   rw [show EJ (0 ≤ p.fVersions.getD x.fFrom.toNat 0) = some () from by unfold EJ; rw [if_pos (by omega)]]
   simp only [oS]
   unfold Jd VC
   rw [Ur hheld, TF hheld]
   generalize Do .u8 (G7 m x.fFrom.toNat) (m.fHeld.getD i 0) = A
   generalize Do .u8 (m.fHeld.getD i 0) (wI .u8 (CF .u8 1 (p.fVersions.getD x.fFrom.toNat 0) - 1)) = B
   generalize m.fHeld.getD i 0 = H
   cases CE x
   ·simp only [Av, bne_self_eq_false]
    by_cases k : H = 0
    ·simp [k, BZ]
    ·have : (H != 0) = true := bne_iff_ne.2 k
     simp [k, this, BZ]
   ·simp only [AI]
    by_cases k : A = 0
    ·by_cases k2 : B = 0
     ·simp [k, k2, BZ]
     ·have : (B != 0) = true := bne_iff_ne.2 k2
      simp [k, k2, this, BZ]
    ·have : (A != 0) = true := bne_iff_ne.2 k
     simp [k, this, BZ])
  (fun n => by rw [DO, AF (by omega)]) N 0 (by omega) (by omega)
 simpa using this
theorem Rh (N : Nat) (p : Aj) (m : Ag) (hN : N ≤ 1000000) (h1 : p.fTables.length < N) (hp : Cd p) (hm : MixServ p m) (j : Option Int) :
  B9 N p m (fun _ => j) N 0 = BZ (Dk (Jd p m) 0 p.fTables) j := by
 have := CY (B9 N p m (fun _ => j)) p.fTables j (Jd p m)
  (fun n i x hx => by
   have hi := (lI.1 hx).1
   have hin := IX (hp.tab x (lM hx))
   have hv := Kt hp.ver hin.1 hin.2.1
   rw [B9, AH (by omega), Be, hx]
   simp only [oS, Bi, HZ]
   rw [JX N m x.fFrom hin.1 (by rw [hm.base]; exact hin.2.1) (by rw [hm.next]; exact hin.2.1) (hm.b0 _ (by omega)).1, Fc (d := 0) hin.1 hin.2.1, C7 (d := 0) (show i < m.fHeld.length from by rw [hm.held]; exact hi), AZ (by omega)]
   simp only [oS]
   rw [show EJ (0 ≤ p.fVersions.getD x.fFrom.toNat 0) = some () from by unfold EJ; rw [if_pos (by omega)]]
   simp only [oS]
   unfold Jd VC
   generalize Do .u8 (G7 m x.fFrom.toNat) (m.fHeld.getD i 0) = A
   generalize Do .u8 (m.fHeld.getD i 0) (wI .u8 (CF .u8 1 (p.fVersions.getD x.fFrom.toNat 0) - 1)) = B
   generalize m.fHeld.getD i 0 = H
   cases CE x
   ·simp only [Bool.not_false, AI, Av]
    by_cases k : H = 0
    ·simp [k, BZ]
    ·have : (H != 0) = true := bne_iff_ne.2 k
     simp [k, this, BZ]
   ·simp only [Bool.not_true, Av, AI]
    by_cases k : A = 0
    ·by_cases k2 : B = 0
     ·simp [k, k2, BZ]
     ·have : (B != 0) = true := bne_iff_ne.2 k2
      simp [k, k2, this, BZ]
    ·have : (A != 0) = true := bne_iff_ne.2 k
     by_cases k2 : B = 0
     ·simp [k, k2, this, BZ]
     ·have h5 : (B != 0) = true := bne_iff_ne.2 k2
      simp [k, h5, BZ])
  (fun n => by rw [B9, AF (by omega)]) N 0 (by omega) (by omega)
 simpa using this
theorem HK (N : Nat) (p : Aj) (m : Ag) (hN : N ≤ 1000000) (h : 20 ≤ N) (hw : Iu JR m.fHeld) : EQ N p m = some (CW p m) := by
 unfold EQ CW
 rw [Ix N p hN h]
 simp only [oS, Bi]
 by_cases k0 : Ce p = 0
 ·have hp : Cd p := by
   rcases It p with h | h
   ·exact h.2
   ·omega
  have hnv := hp.nv
  have hnt := hp.nt
  rw [k0]
  simp only [bne_self_eq_false, Av, ne_eq, not_true_eq_false, if_false]
  by_cases k1 : m.fBase.length = p.fVersions.length
  ·by_cases k2 : m.fNext.length = p.fVersions.length
   ·by_cases k3 : m.fHeld.length = p.fTables.length
    ·rw [k1, k2, k3]
     simp only [bne_self_eq_false, Av, not_true_eq_false, or_self, if_false]
     rw [Pl N p m hN (by omega) k1 k2]
     cases hs : Dk (La m) 0 p.fVersions with
     | some r => rfl
     | none =>
      simp only [BZ]
      rw [RT N p m hN (by omega) hp (PF k1 k2 k3 hs) hw]
      cases Dk (Jd p m) 0 p.fTables <;> rfl
    ·have : ((m.fHeld.length : Int) != (p.fTables.length : Int)) = true := bne_iff_ne.2 (by omega)
     rw [this, k1, k2]; simp [k3]
   ·have : ((m.fNext.length : Int) != (p.fVersions.length : Int)) = true := bne_iff_ne.2 (by omega)
    rw [this, k1]; simp [k2]
  ·have : ((m.fBase.length : Int) != (p.fVersions.length : Int)) = true := bne_iff_ne.2 (by omega)
   rw [this]; simp [k1]
 ·rw [bne_iff_ne.2 k0]; simp [k0]
theorem JL (N : Nat) (p : Aj) (m : Ag) (hN : N ≤ 1000000) (h : 20 ≤ N) : Dc N p m = some (CW p m) := by
 unfold Dc CW
 rw [JQ N p hN h]
 simp only [oS, Bi]
 by_cases k0 : Ce p = 0
 ·have hp : Cd p := by
   rcases It p with h | h
   ·exact h.2
   ·omega
  have hnv := hp.nv
  have hnt := hp.nt
  rw [k0]
  simp only [bne_self_eq_false, Av, ne_eq, not_true_eq_false, if_false]
  by_cases k1 : m.fBase.length = p.fVersions.length
  ·by_cases k2 : m.fNext.length = p.fVersions.length
   ·by_cases k3 : m.fHeld.length = p.fTables.length
    ·rw [k1, k2, k3]
     simp only [bne_self_eq_false, Av, not_true_eq_false, or_self, if_false]
     rw [Pu N p m hN (by omega) k1 k2]
     cases hs : Dk (La m) 0 p.fVersions with
     | some r => rfl
     | none =>
      simp only [BZ]
      rw [Rh N p m hN (by omega) hp (PF k1 k2 k3 hs)]
      cases Dk (Jd p m) 0 p.fTables <;> rfl
    ·have : ((m.fHeld.length : Int) != (p.fTables.length : Int)) = true := bne_iff_ne.2 (by omega)
     rw [this, k1, k2]; simp [k3]
   ·have : ((m.fNext.length : Int) != (p.fVersions.length : Int)) = true := bne_iff_ne.2 (by omega)
    rw [this, k1]; simp [k2]
  ·have : ((m.fBase.length : Int) != (p.fVersions.length : Int)) = true := bne_iff_ne.2 (by omega)
   rw [this]; simp [k1]
 ·rw [bne_iff_ne.2 k0]; simp [k0]
@[simp] theorem Bk {α β : Type} (k : α) (f : α → β) : Bi k f = f k := rfl
@[simp] theorem Qt {p : Prop} [Decidable p] (h : p) : EJ p = some () := by unfold EJ; rw [if_pos h]
theorem AS {β : Type} {p : Prop} [Decidable p] (h : p) (f : Unit → Option β) : (EJ p).bind f = f () := by rw [Qt h]; rfl
theorem U3 {α : Type} (b : Bool) (x y : Option α) : AT b x y = if b = true then x else y := by cases b <;> rfl
def DA {α β : Type} (g : Nat → α → List β) : Nat → List α → List β
 | _, [] => []
 | i, x :: xs => g i x ++ DA g (i + 1) xs
def Gk {α A : Type} (f : Nat → α → A → A) : Nat → List α → A → A
 | _, [], a => a
 | i, x :: xs, a => Gk f (i + 1) xs (f i x a)
theorem LM {α β : Type} (g : Nat → α → List β) : ∀ (i : Nat) (xs ys : List α), DA g i (xs ++ ys) = DA g i xs ++ DA g (i + xs.length) ys
 | i, [], ys => by simp [DA]
 | i, x :: xs, ys => by
  rw [List.cons_append, DA, DA, LM g (i + 1) xs ys, List.append_assoc, List.length_cons, Nat.add_assoc, Nat.add_comm 1]
theorem KN {α β : Type} {g : Nat → α → List β} {y : β} : ∀ {i : Nat} {xs : List α}, y ∈ DA g i xs ↔ ∃ j x, xs[j]? = some x ∧ y ∈ g (i + j) x
 | _, [] => by simp [DA]
 | i, x :: xs => by
  rw [DA, List.mem_append, KN]
  constructor
  ·rintro (h | ⟨j, z, hz, h⟩)
   ·exact ⟨0, x, rfl, h⟩
   ·exact ⟨j + 1, z, by simpa using hz, by rwa [show i + (j + 1) = i + 1 + j from by omega]⟩
  ·rintro ⟨j, z, hz, h⟩
   cases j with
   | zero => simp at hz; subst hz; exact .inl h
   | succ j => exact .inr ⟨j, z, by simpa using hz, by rwa [show i + 1 + j = i + (j + 1) from by omega]⟩
theorem FA {α β : Type} {g : Nat → α → List β} {c : Nat} : ∀ {i : Nat} {xs : List α}, (∀ j x, xs[j]? = some x → (g (i + j) x).length ≤ c) → (DA g i xs).length ≤ c * xs.length
 | _, [], _ => by simp [DA]
 | i, x :: xs, h => by
  have h1 := h 0 x rfl
  have h2 := FA (g := g) (c := c) (i := i + 1) (xs := xs) fun j y hy => by
   have := h (j + 1) y (by simpa using hy)
   rwa [show i + (j + 1) = i + 1 + j from by omega] at this
  rw [DA, List.length_append, List.length_cons, Nat.mul_add]
  simp only [Nat.add_zero] at h1
  omega
theorem IG {α A S R : Type} (L : Nat → S → Option R) (mk : A → Int → S) (xs : List α) (j : A → Option R) (f : Nat → α → A → A) (I : Nat → A → Prop)
  (hs : ∀ (n i : Nat) (x : α) (a : A), xs[i]? = some x → I i a → L (n + 1) (mk a (i : Int)) = L n (mk (f i x a) ((i + 1 : Nat) : Int)) ∧ I (i + 1) (f i x a))
  (he : ∀ (n : Nat) (a : A), I xs.length a → L (n + 1) (mk a (xs.length : Int)) = j a) :
  ∀ (n i : Nat) (a : A), i ≤ xs.length → xs.length - i < n → I i a → L n (mk a (i : Int)) = j (Gk f i (xs.drop i) a) ∧ I xs.length (Gk f i (xs.drop i) a)
 | 0, i, _, _, h, _ => by omega
 | n + 1, i, a, hi, h, ha => by
  by_cases h1 : i < xs.length
  ·have hx : xs[i]? = some xs[i] := by simp [h1]
   obtain ⟨e1, e2⟩ := hs n i _ a hx ha
   rw [e1, F3 hx, Gk]
   exact IG L mk xs j f I hs he n (i + 1) _ (by omega) (by omega) e2
  ·have : i = xs.length := by omega
   subst this
   rw [List.drop_eq_nil_of_le (Nat.le_refl _), Gk]
   exact ⟨he n a ha, ha⟩
theorem NC {α β : Type} (g : Nat → α → List β) : ∀ (i : Nat) (xs : List α) (acc : List β), Gk (fun i x a => a ++ g i x) i xs acc = acc ++ DA g i xs
 | _, [], acc => by simp [Gk, DA]
 | i, x :: xs, acc => by rw [Gk, NC g (i + 1) xs, DA, List.append_assoc]
theorem F4 {α β S R : Type} (L : Nat → S → Option R) (mk : List β → Int → S) (xs : List α) (j : List β → Option R) (g : Nat → α → List β) (c B : Nat)
  (hg : ∀ i x, xs[i]? = some x → (g i x).length ≤ c)
  (hs : ∀ (n i : Nat) (x : α) (a : List β), xs[i]? = some x → a.length + (g i x).length ≤ B → L (n + 1) (mk a (i : Int)) = L n (mk (a ++ g i x) ((i + 1 : Nat) : Int)))
  (he : ∀ (n : Nat) (a : List β), L (n + 1) (mk a (xs.length : Int)) = j a) (n : Nat) (a : List β) (hn : xs.length < n) (ha : a.length + c * xs.length ≤ B) :
  L n (mk a 0) = j (a ++ DA g 0 xs) := by
 have := IG L mk xs j (fun i x a => a ++ g i x) (fun i b => i ≤ xs.length ∧ b.length ≤ a.length + c * i)
  (fun n i x b hx hb => by
   have h1 := hg i x hx
   have hi := (lI.1 hx).1
   have h2 : c * (i + 1) ≤ c * xs.length := Nat.mul_le_mul_left c hi
   have h3 : c * (i + 1) = c * i + c := Nat.mul_succ c i
   refine ⟨hs n i x b hx (by have := hb.2; omega), hi, ?_⟩
   rw [List.length_append]
   have := hb.2
   omega)
  (fun n b _ => he n b) n 0 a (Nat.zero_le _) (by omega) ⟨Nat.zero_le _, by omega⟩
 have h2 := this.1
 rw [List.drop_zero, NC] at h2
 exact h2
def D7 (s : Int) (v : Nat) : Bool := s.toNat.testBit v
def II (m : Ag) (s v : Nat) : Bool := decide (m.fBase.getD s 0 = (v : Int)) || decide (m.fNext.getD s 0 = (v : Int))
theorem VL : ∀ (s : Fin 256) (v : Fin 8), FT .u8 (EA .u8 (s.val : Int) (v.val : Int)) 1 = if D7 (s.val : Int) v.val then 1 else 0 := by decide +kernel
theorem PE {s : Int} {v : Nat} (h0 : 0 ≤ s) (h1 : s ≤ 255) (hv : v < 8) : FT .u8 (EA .u8 s (v : Int)) 1 = if D7 s v then 1 else 0 := by
 obtain ⟨k, rfl⟩ := Int.eq_ofNat_of_zero_le h0
 exact VL ⟨k, by omega⟩ ⟨v, hv⟩
theorem QC {s : Int} {v : Nat} (h0 : 0 ≤ s) (h1 : s ≤ 255) (hv : v < 8) : (FT .u8 (EA .u8 s (v : Int)) 1 == 0) = !D7 s v := by
 rw [PE h0 h1 hv]; cases D7 s v <;> rfl
theorem Q6 {s : Int} {v : Nat} (h0 : 0 ≤ s) (h1 : s ≤ 255) (hv : v < 8) : (FT .u8 (EA .u8 s (v : Int)) 1 == 1) = D7 s v := by
 rw [PE h0 h1 hv]; cases D7 s v <;> rfl
theorem KS {s : Int} {v : Nat} (h1 : s ≤ 255) (hv : 8 ≤ v) : D7 s v = false := by
 unfold D7
 apply Nat.testBit_lt_two_pow
 have : (2 : Nat) ^ 8 ≤ 2 ^ v := Nat.pow_le_pow_right (by omega) hv
 omega
theorem Na : ∀ (b : Fin 8) (v : Fin 8), D7 (CF .u8 1 (b.val : Int)) v.val = decide (b.val = v.val) ∧ 0 ≤ CF .u8 1 (b.val : Int) ∧ CF .u8 1 (b.val : Int) ≤ 255 := by decide +kernel
theorem Ve : ∀ (b n : Fin 8) (v : Fin 8), D7 (Oi .u8 (CF .u8 1 (b.val : Int)) (CF .u8 1 (n.val : Int))) v.val = (decide (b.val = v.val) || decide (n.val = v.val))
  ∧ 0 ≤ Oi .u8 (CF .u8 1 (b.val : Int)) (CF .u8 1 (n.val : Int)) ∧ Oi .u8 (CF .u8 1 (b.val : Int)) (CF .u8 1 (n.val : Int)) ≤ 255 := by decide +kernel
theorem UG {m : Ag} {s : Nat} (hb0 : 0 ≤ m.fBase.getD s 0) (hb1 : m.fBase.getD s 0 < 8) (hn1 : m.fNext.getD s 0 < 8) :
  (∀ v, D7 (G7 m s) v = II m s v) ∧ 0 ≤ G7 m s ∧ G7 m s ≤ 255 := by
 unfold G7 II
 obtain ⟨b, hb⟩ := Int.eq_ofNat_of_zero_le hb0
 rw [hb] at hb1 ⊢
 by_cases h : 0 ≤ m.fNext.getD s 0
 ·obtain ⟨n, hn⟩ := Int.eq_ofNat_of_zero_le h
  rw [hn] at hn1 ⊢
  rw [if_pos (by omega)]
  have h1 := Ve ⟨b, by omega⟩ ⟨n, by omega⟩
  refine ⟨fun v => ?_, (h1 0).2⟩
  by_cases hv : v < 8
  ·rw [(h1 ⟨v, hv⟩).1]
   simp only [Int.ofNat_inj]
  ·rw [KS (h1 0).2.2 (by omega)]
   simp; omega
 ·rw [if_neg h]
  have h1 := Na ⟨b, by omega⟩
  refine ⟨fun v => ?_, (h1 0).2⟩
  have h3 : decide (m.fNext.getD s 0 = (v : Int)) = false := decide_eq_false (by omega)
  rw [h3, Bool.or_false]
  by_cases hv : v < 8
  ·rw [(h1 ⟨v, hv⟩).1]
   simp only [Int.ofNat_inj]
  ·rw [KS (h1 0).2.2 (by omega)]
   simp; omega
theorem UV {a : Nat} (h : a < 256) : (BitVec.ofInt 8 (a : Int)).toNat = a := by
 simp; omega
theorem NK {a b : Int} (ha : 0 ≤ a ∧ a ≤ 255) (hb : 0 ≤ b ∧ b ≤ 255) : Do .u8 a b = 0 ↔ ∀ v, D7 a v = true → D7 b v = true := by
 obtain ⟨a, rfl⟩ := Int.eq_ofNat_of_zero_le ha.1
 obtain ⟨b, rfl⟩ := Int.eq_ofNat_of_zero_le hb.1
 have hA := UV (a := a) (by omega)
 have hB := UV (a := b) (by omega)
 unfold Do D7
 simp only [IntKind.bits, Int.toNat_natCast]
 have hx : ∀ x : BitVec 8, wI .u8 (x.toNat : Int) = (x.toNat : Int) := by
  intro x
  have := x.isLt
  simp [wI, IntKind.signed, IntKind.bits]
  omega
 rw [hx]
 constructor
 ·intro h v hv
  have h0 : (BitVec.ofInt 8 (a : Int) &&& ~~~BitVec.ofInt 8 (b : Int)) = (BitVec.ofNat 8 0) := by
   apply BitVec.eq_of_toNat_eq
   simp only [BitVec.toNat_ofNat, Nat.zero_mod]
   exact Int.ofNat_inj.1 h
  by_cases hv8 : v < 8
  ·have h1 : (BitVec.ofInt 8 (a : Int) &&& ~~~BitVec.ofInt 8 (b : Int)).getLsbD v = false := by rw [h0]; simp
   rw [BitVec.getLsbD_and, BitVec.getLsbD_not] at h1
   have e1 : (BitVec.ofInt 8 (a : Int)).getLsbD v = a.testBit v := by unfold BitVec.getLsbD; rw [hA]
   have e2 : (BitVec.ofInt 8 (b : Int)).getLsbD v = b.testBit v := by unfold BitVec.getLsbD; rw [hB]
   rw [e1, e2, hv] at h1
   simpa [hv8] using h1
  ·have := KS (s := (a : Int)) (v := v) (by omega) (by omega)
   unfold D7 at this
   rw [Int.toNat_natCast, hv] at this
   cases this
 ·intro h
  have h0 : (BitVec.ofInt 8 (a : Int) &&& ~~~BitVec.ofInt 8 (b : Int)) = (BitVec.ofNat 8 0) := by
   apply BitVec.eq_of_getLsbD_eq
   intro i hi
   rw [BitVec.getLsbD_and, BitVec.getLsbD_not]
   have e1 : (BitVec.ofInt 8 (a : Int)).getLsbD i = a.testBit i := by unfold BitVec.getLsbD; rw [hA]
   have e2 : (BitVec.ofInt 8 (b : Int)).getLsbD i = b.testBit i := by unfold BitVec.getLsbD; rw [hB]
   rw [e1, e2]
   have := h i
   cases h3 : a.testBit i
   ·simp
   ·rw [this h3]; simp
  have h2 : ∀ x : BitVec 8, x = (BitVec.ofNat 8 0) → (x.toNat : Int) = 0 := fun x hx => by rw [hx]; rfl
  exact h2 _ h0
theorem U2 : ∀ n : Fin 9, (∀ v : Fin 8, D7 (wI .u8 (CF .u8 1 (n.val : Int) - 1)) v.val = decide (v.val < n.val)) ∧ 0 ≤ wI .u8 (CF .u8 1 (n.val : Int) - 1) ∧ wI .u8 (CF .u8 1 (n.val : Int) - 1) ≤ 255 := by decide +kernel
theorem Vb {n : Int} (h0 : 0 ≤ n) (h1 : n ≤ 8) : (∀ v, D7 (wI .u8 (CF .u8 1 n - 1)) v = decide ((v : Int) < n)) ∧ 0 ≤ wI .u8 (CF .u8 1 n - 1) ∧ wI .u8 (CF .u8 1 n - 1) ≤ 255 := by
 obtain ⟨n, rfl⟩ := Int.eq_ofNat_of_zero_le h0
 have h := U2 ⟨n, by omega⟩
 refine ⟨fun v => ?_, h.2⟩
 by_cases hv : v < 8
 ·rw [h.1 ⟨v, hv⟩]; simp
 ·rw [KS h.2.2 (by omega)]
  symm; apply decide_eq_false; omega
structure Er (p : Aj) (m : Ag) : Prop extends MixServ p m where
 range : ∀ i, i < p.fTables.length → 0 ≤ m.fHeld.getD i 0 ∧ m.fHeld.getD i 0 ≤ 255
 low : ∀ i t, p.fTables[i]? = some t → CE t = true → ∀ v, II m t.fFrom.toNat v = true → D7 (m.fHeld.getD i 0) v = true
 high : ∀ i t, p.fTables[i]? = some t → CE t = true → ∀ v, D7 (m.fHeld.getD i 0) v = true → (v : Int) < p.fVersions.getD t.fFrom.toNat 0
 none : ∀ i t, p.fTables[i]? = some t → CE t = false → m.fHeld.getD i 0 = 0
theorem Kz {p : Aj} (hp : Cd p) {i : Nat} (hi : i < p.fVersions.length) : 1 ≤ p.fVersions.getD i 0 ∧ p.fVersions.getD i 0 ≤ 6 := by
 have := Kt (i := (i : Int)) hp.ver (by omega) (by omega)
 simpa using this
theorem H9 {p : Aj} {m : Ag} (hp : Cd p) (hm : MixServ p m) {s : Nat} (hs : s < p.fVersions.length) :
  (∀ v, D7 (G7 m s) v = II m s v) ∧ 0 ≤ G7 m s ∧ G7 m s ≤ 255 := by
 have h1 := hm.b0 s hs
 have h2 := hm.n0 s hs
 have h3 := Kz hp hs
 exact UG h1.1 (by omega) (by omega)
theorem Qq {p : Aj} {m : Ag} (hp : Cd p) (hm : MixServ p m) {i : Nat} {t : AV} (ht : p.fTables[i]? = some t) (hr : 0 ≤ m.fHeld.getD i 0 ∧ m.fHeld.getD i 0 ≤ 255) :
  Jd p m i t = none ↔ ((CE t = true → (∀ v, II m t.fFrom.toNat v = true → D7 (m.fHeld.getD i 0) v = true) ∧ (∀ v, D7 (m.fHeld.getD i 0) v = true → (v : Int) < p.fVersions.getD t.fFrom.toNat 0)) ∧ (CE t = false → m.fHeld.getD i 0 = 0)) := by
 have hin := IX (hp.tab t (lM ht))
 have hrun := H9 hp hm (s := t.fFrom.toNat) (by omega)
 have hver := Kz hp (i := t.fFrom.toNat) (by omega)
 have hall := Vb (n := p.fVersions.getD t.fFrom.toNat 0) (by omega) (by omega)
 unfold Jd VC
 have e1 := NK hrun.2 hr
 have e2 := NK hr hall.2
 cases hst : CE t
 ·simp
 ·simp only [if_true, true_implies, Bool.true_eq_false, false_implies, and_true, ite_eq_right_iff, reduceCtorEq, imp_false, not_or, Decidable.not_not]
  rw [e1, e2]
  simp only [hrun.1, hall.1, decide_eq_true_eq]
theorem Fw {p : Aj} {m : Ag} (hw : Iu JR m.fHeld) (h : CW p m = 0) : Cd p ∧ Er p m := by
 unfold CW at h
 split at h
 ·rename_i k; exact (k h).elim
 ·rename_i k0
  have hp : Cd p := by
   rcases It p with h | h
   ·exact h.2
   ·omega
  split at h
  ·cases h
  ·rename_i k1
   have b1 : m.fBase.length = p.fVersions.length := Decidable.not_not.1 fun h => k1 (.inl h)
   have b2 : m.fNext.length = p.fVersions.length := Decidable.not_not.1 fun h => k1 (.inr (.inl h))
   have b3 : m.fHeld.length = p.fTables.length := Decidable.not_not.1 fun h => k1 (.inr (.inr h))
   cases hs : Dk (La m) 0 p.fVersions with
   | some r =>
    obtain ⟨j, x, _, he⟩ := ED hs
    rw [hs] at h
    unfold La at he
    simp only [BZ, Option.getD_some] at h
    split at he
    ·cases he; cases h
    ·split at he
     ·cases he; cases h
     ·cases he
   | none =>
    have hm := PF b1 b2 b3 hs
    rw [hs] at h
    simp only [BZ] at h
    cases ht : Dk (Jd p m) 0 p.fTables with
    | some r =>
     obtain ⟨j, x, _, he⟩ := ED ht
     rw [ht] at h
     simp only [Option.getD_some] at h
     subst h
     unfold Jd at he
     split at he
     ·split at he <;> cases he
     ·split at he <;> cases he
    | none =>
     have hr : ∀ i, i < p.fTables.length → 0 ≤ m.fHeld.getD i 0 ∧ m.fHeld.getD i 0 ≤ 255 := fun i hi => N1 (Ra hw (by omega))
     have key : ∀ i t, p.fTables[i]? = some t → _ := fun i t hi => (Qq hp hm hi (hr i (lI.1 hi).1)).1 (by have := GH ht i t hi; rwa [Nat.zero_add] at this)
     exact ⟨hp, hm, hr, fun i t hi hst => ((key i t hi).1 hst).1, fun i t hi hst => ((key i t hi).1 hst).2, fun i t hi hst => (key i t hi).2 hst⟩
theorem Hz {α R : Type} {f : Nat → α → Option R} : ∀ {i : Nat} {xs : List α}, (∀ j x, xs[j]? = some x → f (i + j) x = none) → Dk f i xs = none
 | _, [], _ => rfl
 | i, y :: ys, h => by
  rw [GK, show f i y = none from h 0 y rfl]
  exact Hz fun j x hx => by
   have := h (j + 1) x (by simpa using hx)
   rwa [show i + (j + 1) = i + 1 + j from by omega] at this
theorem DM {p : Aj} (h : Ce p = 0) : Cd p ∧ ∀ i, i < p.fVersions.length → 0 ≤ p.fNow.getD i 0 ∧ p.fNow.getD i 0 < p.fVersions.getD i 0 ∧ 0 ≤ p.fTarget.getD i 0 ∧ p.fTarget.getD i 0 < p.fVersions.getD i 0 := by
 have hp : Cd p := by
  rcases It p with h | h
  ·exact h.2
  ·omega
 refine ⟨hp, fun i hi => ?_⟩
 have h1 := hp.nv
 have h2 := hp.nt
 have h3 := hp.now
 have h4 := hp.tgt
 unfold Ce at h
 rw [if_neg (by omega), if_neg (by omega)] at h
 cases hs : Dk (GP p) 0 p.fVersions with
 | some r =>
  obtain ⟨j, x, _, he⟩ := ED hs
  rw [hs] at h
  unfold GP at he
  split at he
  ·cases he; cases h
  ·cases he
 | none =>
  have hx : p.fVersions[i]? = some (p.fVersions.getD i 0) := by rw [lD]; simp [hi]
  have := GH hs i _ hx
  rw [Nat.zero_add] at this
  unfold GP at this
  split at this
  ·cases this
  ·rename_i hn; omega
theorem LX {p : Aj} {m : Ag} (hv : Ce p = 0) (hm : Er p m) : CW p m = 0 := by
 obtain ⟨hp, _⟩ := DM hv
 unfold CW
 rw [hv, if_neg (by simp), if_neg (by have := hm.base; have := hm.next; have := hm.held; omega)]
 have h1 : Dk (La m) 0 p.fVersions = none := Hz fun j x hx => by
  have hj := (lI.1 hx).1
  have e : p.fVersions.getD j 0 = x := by rw [lD, hx]; rfl
  have h1 := hm.b0 j hj
  have h2 := hm.n0 j hj
  have h3 := hm.ne j hj
  rw [e] at h1 h2
  unfold La
  rw [Nat.zero_add, if_neg (by omega), if_neg h3]
 have h2 : Dk (Jd p m) 0 p.fTables = none := Hz fun j x hx => by
  have hj := (lI.1 hx).1
  rw [Nat.zero_add]
  exact (Qq hp hm.toMixServ hx (hm.range j hj)).2 ⟨fun hst => ⟨hm.low j x hx hst, hm.high j x hx hst⟩, fun hst => hm.none j x hx hst⟩
 rw [h1, h2]; rfl
def N5 {α : Type} (g : Nat → α → Bool) : Nat → List α → Bool
 | _, [] => false
 | i, x :: xs => g i x || N5 g (i + 1) xs
theorem Le {α β : Type} (g : Nat → α → List β) (h : Nat → α → Bool) : ∀ (i : Nat) (xs : List α) (a : List β) (b : Bool),
  Gk (fun i x (s : List β × Bool) => (s.1 ++ g i x, s.2 || h i x)) i xs (a, b) = (a ++ DA g i xs, b || N5 h i xs)
 | _, [], a, b => by simp [Gk, DA, N5]
 | i, x :: xs, a, b => by rw [Gk, Le g h, DA, N5, List.append_assoc, Bool.or_assoc]
def gC (i u : Nat) (m : Ag) (t : AV) (v : Nat) (ok : Bool) : List Ah :=
 if II m t.fTo.toNat v && (!ok && !t.fAware) then [⟨(i : Int), (u : Int), (v : Int)⟩] else []
def hC (m : Ag) (t : AV) (v : Nat) (ok : Bool) : Bool := II m t.fTo.toNat v && ok
def J3 (i : Nat) (m : Ag) (t : AV) (u : Nat) (row : List Bool) : List Ah :=
 DA (gC i u m t) 0 row ++ if t.fAware && !N5 (hC m t) 0 row then [⟨(i : Int), (u : Int), -1⟩] else []
def SP (m : Ag) (i : Nat) (t : AV) (u : Nat) : Bool := if CE t then D7 (m.fHeld.getD i 0) u else II m t.fFrom.toNat u
def JW (m : Ag) (i : Nat) (t : AV) : List Ah := DA (fun u row => if SP m i t u then J3 i m t u row else []) 0 t.fOK
def IJ (p : Aj) (m : Ag) : List Ah := DA (JW m) 0 p.fTables
structure OZ (p : Aj) (t : AV) : Prop where
 kind : 1 ≤ t.fKind ∧ t.fKind ≤ 4
 aware : t.fAware = true → CE t = false
 from0 : 0 ≤ t.fFrom ∧ t.fFrom < (p.fVersions.length : Int)
 to0 : 0 ≤ t.fTo ∧ t.fTo < (p.fVersions.length : Int)
 okL : (t.fOK.length : Int) = p.fVersions.getD t.fFrom.toNat 0
 okR : ∀ row, row ∈ t.fOK → (row.length : Int) = p.fVersions.getD t.fTo.toNat 0
 reL : t.fKind = 4 → (t.fRewrite.length : Int) = p.fVersions.getD t.fFrom.toNat 0
 reR : ∀ row, row ∈ t.fRewrite → (row.length : Int) = p.fVersions.getD t.fFrom.toNat 0
 reD : t.fKind = 4 → JK t.fRewrite = none
 reN : t.fKind ≠ 4 → t.fRewrite = []
theorem L7 {p : Aj} {t : AV} (h : F9 p t = 0) : OZ p t := by
 unfold F9 at h
 split at h
 ·cases h
 rename_i h1
 split at h
 ·cases h
 rename_i h2
 simp only at h
 split at h
 ·cases h
 rename_i h3
 have h3 : sq t.fOK (p.fVersions.getD t.fFrom.toNat 0) (p.fVersions.getD t.fTo.toNat 0) = true := by simpa using h3
 have h3 := M5 h3
 have ha : t.fAware = true → CE t = false := by
  intro ha
  unfold CE
  rw [Bool.or_eq_false_iff, beq_eq_false_iff_ne, beq_eq_false_iff_ne]
  exact ⟨fun hk => h1 (.inr (.inr ⟨ha, .inl hk⟩)), fun hk => h1 (.inr (.inr ⟨ha, .inr hk⟩))⟩
 split at h
 ·rename_i h4
  split at h
  ·cases h
  rename_i h5
  have h5 : sq t.fRewrite (p.fVersions.getD t.fFrom.toNat 0) (p.fVersions.getD t.fFrom.toNat 0) = true := by simpa using h5
  have h5 := M5 h5
  refine ⟨by omega, ha, by omega, by omega, h3.1, h3.2, fun _ => h5.1, h5.2, fun _ => ?_, fun h => (h h4).elim⟩
  cases hd : JK t.fRewrite with
  | none => rfl
  | some r =>
   obtain ⟨j, x, _, hx⟩ := ED hd
   rw [hd] at h
   split at hx
   ·cases hx
   ·cases hx; cases h
 ·rename_i h4
  split at h
  ·rename_i h5
   have h5 := List.eq_nil_of_length_eq_zero h5
   refine ⟨by omega, ha, by omega, by omega, h3.1, h3.2, fun h => (h4 h).elim, fun row hr => ?_, fun h => (h4 h).elim, fun _ => h5⟩
   rw [h5] at hr; cases hr
  ·cases h
theorem KO {R : Type} (b : Bool) (acc : List Ah) (x : Ah) (j : List Ah → Option R) (h : acc.length + 1 ≤ Fa) :
  AT b ((EJ (acc.length + ([x] : List Ah).length ≤ Fa)).bind fun _ => j (acc ++ [x])) (j acc) = j (acc ++ if b then [x] else []) := by
 cases b
 ·simp
 ·rw [AI, AS (by simpa using h)]; rfl
theorem P9 (N : Nat) (m : Ag) (t : AV) (i u : Nat) (row : List Bool) (R : Int) (b1 b2 acc : List Ah) (j : List Ah × Bool → Option (List Ah))
  (hN : N ≤ 1000000) (h8 : 8 ≤ N) (hrow : row.length ≤ 6) (hacc : acc.length + 6 ≤ Fa) (hR0 : 0 ≤ R) (hR1 : R ≤ 255) (hRb : ∀ v, D7 R v = II m t.fTo.toNat v) :
  Cc N (b1, (i : Int)) t R (b2, (u : Int)) row j N (acc, false, 0) = j (acc ++ DA (gC i u m t) 0 row, N5 (hC m t) 0 row) := by
 have := IG (A := List Ah × Bool) (Cc N (b1, (i : Int)) t R (b2, (u : Int)) row j) (fun a k => (a.1, a.2, k)) row (fun a => j a) (fun v ok s => (s.1 ++ gC i u m t v ok, s.2 || hC m t v ok))
  (fun v a => v ≤ row.length ∧ a.1.length ≤ acc.length + v)
  (fun n v ok a hx ha => by
   have hv := (lI.1 hx).1
   obtain ⟨c, f⟩ := a
   simp only at ha
   refine ⟨?_, by omega, ?_⟩
   ·rw [Cc]
    simp only [Bk]
    rw [AH (by omega), Be, hx]
    simp only [oS]
    rw [AS (by omega), QC hR0 hR1 (by omega), hRb, AZ (by omega), KO _ _ _ (fun l => Cc N (b1, (i : Int)) t R (b2, (u : Int)) row j n (l, true, ((v + 1 : Nat) : Int))) (by omega)]
    unfold gC hC
    rw [KO _ _ _ (fun l => Cc N (b1, (i : Int)) t R (b2, (u : Int)) row j n (l, ok, ((v + 1 : Nat) : Int))) (by omega)]
    cases II m t.fTo.toNat v
    ·simp
    ·cases ok <;> cases f <;> cases t.fAware <;> simp
   ·simp only [gC, List.length_append]
    split <;> simp <;> omega)
  (fun n a _ => by
   rw [Cc]
   simp only [Bk]
   rw [AF (by omega)]) N 0 (acc, false) (by omega) (by omega) ⟨by omega, by simp⟩
 have h2 := this.1
 rw [List.drop_zero, Le, Bool.false_or] at h2
 exact h2
theorem Nb {p : Aj} {t : AV} (hp : Cd p) (ht : OZ p t) : t.fOK.length ≤ 6 ∧ ∀ row, row ∈ t.fOK → row.length ≤ 6 := by
 have h1 := Kt hp.ver ht.from0.1 ht.from0.2
 have h2 := Kt hp.ver ht.to0.1 ht.to0.2
 have h3 := ht.okL
 exact ⟨by omega, fun row hr => by have := ht.okR row hr; omega⟩
theorem Rm (i u : Nat) (m : Ag) (t : AV) (v : Nat) (ok : Bool) : (gC i u m t v ok).length ≤ 1 := by
 unfold gC; split <;> simp
theorem RW (i : Nat) (m : Ag) (t : AV) (u : Nat) (row : List Bool) (h : row.length ≤ 6) : (J3 i m t u row).length ≤ 7 := by
 unfold J3
 rw [List.length_append]
 have := FA (g := gC i u m t) (c := 1) (i := 0) (xs := row) (fun j x _ => Rm _ _ _ _ _ _)
 split <;> simp <;> omega
theorem Rq (i : Nat) (m : Ag) (t : AV) (u : Nat) (row : List Bool) (h : row.length ≤ 6) : (if SP m i t u = true then J3 i m t u row else []).length ≤ 7 := by
 have := RW i m t u row h
 split <;> simp <;> omega
theorem MC {p : Aj} {t : AV} (hp : Cd p) (ht : OZ p t) (i : Nat) (m : Ag) : (JW m i t).length ≤ 42 := by
 have h1 := Nb hp ht
 have := FA (g := fun u row => if SP m i t u = true then J3 i m t u row else []) (c := 7) (i := 0) (xs := t.fOK) (fun j x hx => Rq i m t _ x (h1.2 x (lM hx)))
 unfold JW
 omega
theorem LY (N : Nat) (p : Aj) (m : Ag) (t : AV) (i : Nat) (W R : Int) (b1 acc : List Ah) (j : List Ah → Option (List Ah))
  (hN : N ≤ 1000000) (h8 : 8 ≤ N) (hp : Cd p) (ht : OZ p t) (hacc : acc.length + 42 ≤ 10000) (hR0 : 0 ≤ R) (hR1 : R ≤ 255) (hRb : ∀ v, D7 R v = II m t.fTo.toNat v) (hW0 : 0 ≤ W) (hW1 : W ≤ 255) (hWb : ∀ v, D7 W v = SP m i t v) :
  Cu N (b1, (i : Int)) t R W j N (acc, 0) = j (acc ++ JW m i t) := by
 have hl := Nb hp ht
 exact F4 (Cu N (b1, (i : Int)) t R W j) (fun a k => (a, k)) t.fOK j (fun u row => if SP m i t u then J3 i m t u row else []) 7 10000
  (fun u row hx => Rq i m t u row (hl.2 row (lM hx)))
  (fun n u row a hx ha => by
   have hu := (lI.1 hx).1
   have hrow := hl.2 row (lM hx)
   rw [Cu]
   simp only [Bk]
   rw [AH (by omega), AS (by omega), QC hW0 hW1 (by omega), hWb, Be, hx]
   simp only [oS]
   rw [P9 N m t i u row R b1 a a _ hN h8 hrow (by unfold Fa; omega) hR0 hR1 hRb, AZ (by omega)]
   cases hw : SP m i t u
   ·simp
   ·simp only [Bool.not_true, Av, if_true, J3]
    have h1 := FA (g := gC i u m t) (c := 1) (i := 0) (xs := row) (fun j x _ => Rm _ _ _ _ _ _)
    have := KO (R := List Ah) (t.fAware && !N5 (hC m t) 0 row) (a ++ DA (gC i u m t) 0 row) ⟨(i : Int), (u : Int), -1⟩ (fun l => Cu N (b1, (i : Int)) t R W j n (l, ((u + 1 : Nat) : Int))) (by rw [List.length_append]; unfold Fa; rw [hw, if_pos rfl] at ha; omega)
    rw [← List.append_assoc, ← this]
    cases t.fAware <;> cases N5 (hC m t) 0 row <;> rfl)
  (fun n a => by
   rw [Cu]
   simp only [Bk]
   rw [AF (by omega)]) N acc (by omega) (by omega)
theorem QS (N : Nat) (p : Aj) (m : Ag) (t : AV) (i u : Nat) (row : List Bool) (b1 b2 acc : List Ah) (j : List Ah × Bool → Option (List Ah))
  (hN : N ≤ 1000000) (h8 : 8 ≤ N) (hp : Cd p) (hm : MixServ p m) (ht : OZ p t) (hu : t.fOK[u]? = some row) (hacc : acc.length + 6 ≤ Fa) :
  BE N p m (b1, (i : Int)) t (b2, (u : Int)) j N (acc, false, 0) = j (acc ++ DA (gC i u m t) 0 row, N5 (hC m t) 0 row) := by
 have hrow := (Nb hp ht).2 row (lM hu)
 have hR := H9 hp hm (s := t.fTo.toNat) (by have := ht.to0; omega)
 have hlen := ht.okR row (lM hu)
 have hto := ht.to0
 have := IG (A := List Ah × Bool) (BE N p m (b1, (i : Int)) t (b2, (u : Int)) j) (fun a k => (a.1, a.2, k)) row (fun a => j a) (fun v ok s => (s.1 ++ gC i u m t v ok, s.2 || hC m t v ok))
  (fun v a => v ≤ row.length ∧ a.1.length ≤ acc.length + v)
  (fun n v ok a hx ha => by
   have hv := (lI.1 hx).1
   obtain ⟨c, f⟩ := a
   simp only at ha
   refine ⟨?_, by omega, ?_⟩
   ·rw [BE]
    simp only [Bk]
    rw [Fc (d := 0) hto.1 hto.2, JX N m t.fTo hto.1 (by rw [hm.base]; exact hto.2) (by rw [hm.next]; exact hto.2) (hm.b0 _ (by omega)).1, Be, hu]
    simp only [oS]
    unfold CD
    rw [AH (by omega), Be, hx, AS (by omega), Q6 hR.2.1 hR.2.2 (by omega), hR.1]
    simp only [oS]
    rw [AZ (by omega), KO _ _ _ (fun l => BE N p m (b1, (i : Int)) t (b2, (u : Int)) j n (l, true, ((v + 1 : Nat) : Int))) (by omega)]
    unfold gC hC
    rw [KO _ _ _ (fun l => BE N p m (b1, (i : Int)) t (b2, (u : Int)) j n (l, ok, ((v + 1 : Nat) : Int))) (by omega)]
    cases II m t.fTo.toNat v
    ·simp
    ·cases ok <;> cases f <;> cases t.fAware <;> simp
   ·simp only [gC, List.length_append]
    split <;> simp <;> omega)
  (fun n a _ => by
   rw [BE]
   simp only [Bk]
   rw [Fc (d := 0) hto.1 hto.2]
   simp only [oS]
   rw [AF (by omega)]) N 0 (acc, false) (by omega) (by omega) ⟨by omega, by simp⟩
 have h2 := this.1
 rw [List.drop_zero, Le, Bool.false_or] at h2
 exact h2
theorem LJ (N : Nat) (p : Aj) (m : Ag) (t : AV) (i : Nat) (W : Int) (b1 acc : List Ah) (j : List Ah → Option (List Ah))
  (hN : N ≤ 1000000) (h8 : 8 ≤ N) (hp : Cd p) (hm : MixServ p m) (ht : OZ p t) (hacc : acc.length + 42 ≤ 10000) (hW0 : 0 ≤ W) (hW1 : W ≤ 255) (hWb : ∀ v, D7 W v = SP m i t v) :
  BT N p m (b1, (i : Int)) t W j N (acc, 0) = j (acc ++ JW m i t) := by
 have hl := Nb hp ht
 have hfr := ht.from0
 have hok := ht.okL
 exact F4 (BT N p m (b1, (i : Int)) t W j) (fun a k => (a, k)) t.fOK j (fun u row => if SP m i t u then J3 i m t u row else []) 7 10000
  (fun u row hx => Rq i m t u row (hl.2 row (lM hx)))
  (fun n u row a hx ha => by
   have hu := (lI.1 hx).1
   have hrow := hl.2 row (lM hx)
   rw [BT]
   simp only [Bk]
   rw [Fc (d := 0) hfr.1 hfr.2]
   simp only [oS]
   unfold CD
   rw [AH (by omega), AS (by omega), Q6 hW0 hW1 (by omega), hWb]
   simp only [oS]
   rw [QS N p m t i u row b1 a a _ hN h8 hp hm ht hx (by unfold Fa; omega), AZ (by omega)]
   cases hw : SP m i t u
   ·simp
   ·simp only [Bool.not_true, Av, if_true, J3]
    have h1 := FA (g := gC i u m t) (c := 1) (i := 0) (xs := row) (fun j x _ => Rm _ _ _ _ _ _)
    have := KO (R := List Ah) (t.fAware && !N5 (hC m t) 0 row) (a ++ DA (gC i u m t) 0 row) ⟨(i : Int), (u : Int), -1⟩ (fun l => BT N p m (b1, (i : Int)) t W j n (l, ((u + 1 : Nat) : Int))) (by rw [List.length_append]; unfold Fa; rw [hw, if_pos rfl] at ha; omega)
    rw [← List.append_assoc, ← this]
    cases t.fAware <;> cases N5 (hC m t) 0 row <;> rfl)
  (fun n a => by
   rw [BT]
   simp only [Bk]
   rw [Fc (d := 0) hfr.1 hfr.2]
   simp only [oS]
   rw [AF (by omega)]) N acc (by omega) (by omega)
theorem Mg (N : Nat) (p : Aj) (m : Ag) (hN : N ≤ 1000000) (h20 : 20 ≤ N) (hp : Cd p) (hm : Er p m) : Fy N p m = some (IJ p m) := by
 unfold Fy
 have hnt := hp.nt
 rw [F4 (Du N p m _) (fun a k => (a, k)) p.fTables some (JW m) 42 9000
  (fun i t hx => MC hp (L7 (hp.tab t (lM hx))) i m)
  (fun n i t a hx ha => by
   have hi := (lI.1 hx).1
   have ht := L7 (hp.tab t (lM hx))
   have hto := ht.to0
   have hfr := ht.from0
   have hR := H9 hp hm.toMixServ (s := t.fTo.toNat) (by omega)
   have hF := H9 hp hm.toMixServ (s := t.fFrom.toNat) (by omega)
   have hH := hm.range i hi
   rw [Du]
   simp only [Bk]
   rw [AH (by omega), Be, hx]
   simp only [oS, Ju]
   rw [Li N m t.fFrom hfr.1 (by rw [hm.base]; exact hfr.2) (by rw [hm.next]; exact hfr.2) (hm.b0 _ (by omega)).1, Li N m t.fTo hto.1 (by rw [hm.base]; exact hto.2) (by rw [hm.next]; exact hto.2) (hm.b0 _ (by omega)).1, C7 (d := 0) (by rw [hm.held]; exact hi), AZ (by omega)]
   simp only [oS]
   cases hs : CE t
   ·rw [Av, LY N p m t i _ _ a a _ hN (by omega) hp ht (by omega) hR.2.1 hR.2.2 hR.1 hF.2.1 hF.2.2 (fun v => by unfold SP; rw [hs, hF.1]; rfl)]
   ·rw [AI, LY N p m t i _ _ a a _ hN (by omega) hp ht (by omega) hR.2.1 hR.2.2 hR.1 hH.1 hH.2 (fun v => by unfold SP; rw [hs]; rfl)])
  (fun n a => by
   rw [Du]
   simp only [Bk]
   rw [AF (by omega)]) N [] (by omega) (by simp; omega)]
 rfl
theorem Mn (N : Nat) (p : Aj) (m : Ag) (hN : N ≤ 1000000) (h20 : 20 ≤ N) (hp : Cd p) (hm : Er p m) : Et N p m = some (IJ p m) := by
 unfold Et
 have hnt := hp.nt
 rw [F4 (CK N p m _) (fun a k => (a, k)) p.fTables some (JW m) 42 9000
  (fun i t hx => MC hp (L7 (hp.tab t (lM hx))) i m)
  (fun n i t a hx ha => by
   have hi := (lI.1 hx).1
   have ht := L7 (hp.tab t (lM hx))
   have hto := ht.to0
   have hfr := ht.from0
   have hF := H9 hp hm.toMixServ (s := t.fFrom.toNat) (by omega)
   have hH := hm.range i hi
   rw [CK]
   simp only [Bk]
   rw [AH (by omega), Be, hx]
   simp only [oS, HZ]
   rw [JX N m t.fFrom hfr.1 (by rw [hm.base]; exact hfr.2) (by rw [hm.next]; exact hfr.2) (hm.b0 _ (by omega)).1, C7 (d := 0) (by rw [hm.held]; exact hi), AZ (by omega)]
   simp only [oS]
   cases hs : CE t
   ·rw [Av, LJ N p m t i _ a a _ hN (by omega) hp hm.toMixServ ht (by omega) hF.2.1 hF.2.2 (fun v => by unfold SP; rw [hs, hF.1]; rfl)]
   ·rw [AI, LJ N p m t i _ a a _ hN (by omega) hp hm.toMixServ ht (by omega) hH.1 hH.2 (fun v => by unfold SP; rw [hs]; rfl)])
  (fun n a => by
   rw [CK]
   simp only [Bk]
   rw [AF (by omega)]) N [] (by omega) (by simp; omega)]
 rfl
theorem Gb {A S R : Type} (L : Nat → S → Option R) (mk : A → Int → S) (len : Nat) (j : A → Option R) (I : Nat → A → Prop)
  (hs : ∀ (n i : Nat) (a : A), i < len → I i a → ∃ a', L (n + 1) (mk a (i : Int)) = L n (mk a' ((i + 1 : Nat) : Int)) ∧ I (i + 1) a')
  (he : ∀ (n : Nat) (a : A), I len a → L (n + 1) (mk a (len : Int)) = j a) :
  ∀ (n i : Nat) (a : A), i ≤ len → len - i < n → I i a → ∃ a', L n (mk a (i : Int)) = j a' ∧ I len a'
 | 0, i, _, _, h, _ => by omega
 | n + 1, i, a, hi, h, ha => by
  by_cases h1 : i < len
  ·obtain ⟨a', e1, e2⟩ := hs n i a h1 ha
   rw [e1]
   exact Gb L mk len j I hs he n (i + 1) _ (by omega) (by omega) e2
  ·have : i = len := by omega
   subst this
   exact ⟨a, he n a ha, ha⟩
theorem Qc {α : Type} {xs ys : List α} {i : Nat} {d : α} (h : i < xs.length) : (xs ++ ys).getD i d = xs.getD i d := by
 rw [lD, lD, List.getElem?_append_left h]
theorem Qd {α : Type} {xs : List α} {y : α} {i : Nat} {d : α} (h : i = xs.length) : (xs ++ [y]).getD i d = y := by
 subst h; rw [lD, List.getElem?_append_right (Nat.le_refl _)]; simp
theorem UP {α : Type} {P : Nat → α → Prop} {xs : List α} {y : α} {d : α} {n : Nat} (hn : xs.length = n) (h : ∀ k, k < n → P k (xs.getD k d)) (hy : P n y) : ∀ k, k < n + 1 → P k ((xs ++ [y]).getD k d) := by
 intro k hk
 by_cases h1 : k < n
 ·rw [Qc (by omega)]; exact h k h1
 ·have : k = n := by omega
  subst this
  rw [Qd hn.symm]; exact hy
def Iz : List Int → Nat → Nat
 | [], _ => 0
 | _, 0 => 0
 | n :: ns, q + 1 => (if 0 ≤ n then 1 else 0) + Iz ns q
theorem I4 (l : List Int) : Iz l 0 = 0 := by cases l <;> rfl
theorem HG : ∀ (l : List Int) (q : Nat), q < l.length → Iz l (q + 1) = Iz l q + if 0 ≤ l.getD q 0 then 1 else 0
 | [], q, h => by simp at h
 | n :: ns, 0, _ => by simp [Iz, I4]
 | n :: ns, q + 1, h => by
  rw [Iz, HG ns q (by simpa using h), Iz, List.getD_cons_succ, Nat.add_assoc]
theorem Of (l : List Int) {a b : Nat} (h : a ≤ b) (hb : b ≤ l.length) : Iz l a ≤ Iz l b := by
 induction b with
 | zero => rw [Nat.le_zero.1 h]; exact Nat.le_refl _
 | succ b ih =>
  by_cases h1 : a = b + 1
  ·rw [h1]; exact Nat.le_refl _
  ·have := ih (by omega) (by omega)
   rw [HG l b (by omega)]; omega
theorem Kn (l : List Int) : ∀ q, q ≤ l.length → Iz l q ≤ q
 | 0, _ => by rw [I4]; exact Nat.le_refl _
 | q + 1, h => by
  have := Kn l q (by omega)
  rw [HG l q h]
  split <;> omega
def Ml (l : List Int) (k q : Nat) : Int := if 0 ≤ l.getD q 0 ∧ k.testBit (Iz l q) = true then -1 else l.getD q 0
def UX (l : List Int) (k : Nat) : List Int := (List.range l.length).map (Ml l k)
def WA (m : Ag) (k : Nat) : Ag := ⟨m.fBase, UX m.fNext k, m.fHeld⟩
def Gg (m : Ag) : List Ag := (List.range (2 ^ Iz m.fNext m.fNext.length)).map (WA m)
theorem LL (l : List Int) (k : Nat) : (UX l k).length = l.length := by simp [UX]
theorem Po (l : List Int) (k q : Nat) (h : q < l.length) : (UX l k).getD q 0 = Ml l k q := by
 unfold UX; rw [lD, List.getElem?_map, List.getElem?_range h]; rfl
theorem Jr {l1 l2 : List Int} (h1 : l1.length = l2.length) (h : ∀ q, q < l1.length → l1.getD q 0 = l2.getD q 0) : l1 = l2 := by
 apply List.ext_getElem h1
 intro q h2 h3
 have := h q h2
 rw [lD, lD, List.getElem?_eq_getElem h2, List.getElem?_eq_getElem h3] at this
 exact this
theorem R5 : ∀ (k : Fin 64) (b : Fin 7), FT .i64 (EA .i64 (k.val : Int) (b.val : Int)) 1 = (if k.val.testBit b.val then 1 else 0) ∧ Int.tmod (EA .i64 (k.val : Int) (b.val : Int)) 2 = (if k.val.testBit b.val then 1 else 0) := by decide +kernel
theorem Vm : ∀ n : Fin 7, CF .i64 1 (n.val : Int) = ((2 ^ n.val : Nat) : Int) := by decide +kernel
structure Oa (m x : Ag) : Prop where
 base : x.fBase = m.fBase
 held : x.fHeld = m.fHeld
 len : x.fNext.length = m.fNext.length
 next : ∀ q, q < m.fNext.length → x.fNext.getD q 0 = m.fNext.getD q 0 ∨ (0 ≤ m.fNext.getD q 0 ∧ x.fNext.getD q 0 = -1)
theorem Oa.refl (m : Ag) : Oa m m := ⟨rfl, rfl, rfl, fun _ _ => .inl rfl⟩
theorem Oa.trans {a b c : Ag} (h1 : Oa a b) (h2 : Oa b c) : Oa a c :=
 ⟨h2.base.trans h1.base, h2.held.trans h1.held, h2.len.trans h1.len, fun q hq => by
  have e1 := h1.next q hq
  have e2 := h2.next q (by rw [h1.len]; exact hq)
  omega⟩
theorem UU (m : Ag) (k : Nat) : Oa m (WA m k) :=
 ⟨rfl, rfl, LL _ _, fun q hq => by
  show (UX m.fNext k).getD q 0 = _ ∨ _ ∧ (UX m.fNext k).getD q 0 = _
  rw [Po _ _ _ hq]; unfold Ml
  split
  ·rename_i h; exact .inr ⟨h.1, rfl⟩
  ·exact .inl rfl⟩
theorem R4 : ∀ (l x : List Int), x.length = l.length → (∀ q, q < l.length → x.getD q 0 = l.getD q 0 ∨ (0 ≤ l.getD q 0 ∧ x.getD q 0 = -1)) → ∃ k, k < 2 ^ Iz l l.length ∧ ∀ q, q < l.length → x.getD q 0 = Ml l k q
 | [], x, h, _ => ⟨0, by simp [Iz], fun q hq => by simp at hq⟩
 | n :: ns, [], h, _ => by simp at h
 | n :: ns, y :: ys, h, hq => by
  obtain ⟨k, hk, hk2⟩ := R4 ns ys (by simpa using h) (fun q hq' => by have := hq (q + 1) (by simpa using hq'); simpa using this)
  have h0 := hq 0 (by simp)
  simp only [List.getD_cons_zero] at h0
  by_cases hn : 0 ≤ n
  ·refine ⟨2 * k + if y = n then 0 else 1, ?_, ?_⟩
   ·rw [List.length_cons, Iz, if_pos hn, Nat.pow_add]
    split <;> omega
   ·intro q hq'
    cases q with
    | zero =>
     simp only [List.getD_cons_zero, Ml, I4]
     by_cases hy : y = n
     ·simp [hy]
     ·rw [if_neg hy, if_pos ⟨hn, by simp⟩]; omega
    | succ q =>
     have := hk2 q (by simpa using hq')
     simp only [List.getD_cons_succ, Ml, Iz, if_pos hn] at this ⊢
     rw [this, Nat.add_comm 1, Nat.testBit_succ]
     have : (2 * k + if y = n then 0 else 1) / 2 = k := by split <;> omega
     rw [this]
  ·refine ⟨k, ?_, ?_⟩
   ·rw [List.length_cons, Iz, if_neg hn, Nat.zero_add]; exact hk
   ·intro q hq'
    cases q with
    | zero =>
     simp only [List.getD_cons_zero, Ml, I4]
     rw [if_neg (fun h => hn h.1)]
     omega
    | succ q =>
     have := hk2 q (by simpa using hq')
     simp only [List.getD_cons_succ, Ml, Iz, if_neg hn, Nat.zero_add] at this ⊢
     exact this
theorem Lw {m x : Ag} : x ∈ Gg m ↔ Oa m x := by
 unfold Gg
 rw [List.mem_map]
 constructor
 ·rintro ⟨k, _, rfl⟩; exact UU m k
 ·intro h
  obtain ⟨k, hk, hq⟩ := R4 m.fNext x.fNext h.len h.next
  refine ⟨k, List.mem_range.2 hk, ?_⟩
  have : UX m.fNext k = x.fNext := Jr (by rw [LL, h.len]) fun q hq' => by
   rw [LL] at hq'
   rw [Po _ _ _ hq', hq q hq']
  unfold WA
  rw [this, ← h.base, ← h.held]
theorem W9 {m x : Ag} (h : Oa m x) {s : Nat} (hs : s < m.fNext.length) {v : Nat} (hv : II x s v = true) : II m s v = true := by
 unfold II at hv ⊢
 rw [h.base] at hv
 have := h.next s hs
 simp only [Bool.or_eq_true, decide_eq_true_eq] at hv ⊢
 omega
theorem T9 {p : Aj} {m x : Ag} (hp : Cd p) (hm : Er p m) (h : Oa m x) : Er p x := by
 refine ⟨⟨by rw [h.base]; exact hm.base, by rw [h.len]; exact hm.next, by rw [h.held]; exact hm.held, fun i hi => by rw [h.base]; exact hm.b0 i hi, fun i hi => ?_, fun i hi => ?_⟩, fun i hi => by rw [h.held]; exact hm.range i hi, fun i t ht hs v hv => ?_, fun i t ht hs v hv => ?_, fun i t ht hs => by rw [h.held]; exact hm.none i t ht hs⟩
 ·have h1 := hm.n0 i hi
  have h2 := h.next i (by rw [hm.next]; exact hi)
  have h3 := Kz hp hi
  omega
 ·have h1 := hm.ne i hi
  have h2 := h.next i (by rw [hm.next]; exact hi)
  have h3 := hm.b0 i hi
  rw [h.base]
  omega
 ·have hin := (L7 (hp.tab t (lM ht))).from0
  rw [h.held]
  exact hm.low i t ht hs v (W9 h (by rw [hm.next]; omega) hv)
 ·rw [h.held] at hv
  exact hm.high i t ht hs v hv
theorem HS (N : Nat) (l : List Int) (h : l.length ≤ Fa) : Bo N l = some l := by
 unfold Bo
 rw [AS (by simpa using h)]; rfl
theorem Ms (N : Nat) (l : List Int) (h : l.length ≤ Fa) : Bu N l = some l := by
 unfold Bu
 rw [AS (by simpa using h)]; rfl
theorem IQ {l : List Int} {i q : Nat} {y : Int} (hi : i < l.length) : (l.set i y).getD q 0 = if q = i then y else l.getD q 0 := by
 rw [lD, lD, List.getElem?_set]
 by_cases h : i = q
 ·subst h; simp [hi]
 ·rw [if_neg h, if_neg (fun e => h e.symm)]
theorem VD {l : List Int} {a b : Nat} (ha : a < l.length) (hb : b < l.length) (h1 : 0 ≤ l.getD a 0) (h2 : 0 ≤ l.getD b 0) (h : Iz l a = Iz l b) : a = b := by
 rcases Nat.lt_trichotomy a b with h3 | h3 | h3
 ·have := Of l (a := a + 1) (b := b) h3 (by omega)
  rw [HG l a ha, if_pos h1] at this; omega
 ·exact h3
 ·have := Of l (a := b + 1) (b := a) h3 (by omega)
  rw [HG l b hb, if_pos h2] at this; omega
structure UR (l : List Int) (o : List Int) : Prop where
 len : o.length = Iz l l.length
 at_ : ∀ b, b < o.length → ∃ i : Nat, o.getD b 0 = (i : Int) ∧ i < l.length ∧ 0 ≤ l.getD i 0 ∧ Iz l i = b
theorem QE (N : Nat) (l o : List Int) (k : Nat) (acc : List Ag) (hN : N ≤ 1000000) (h20 : 20 ≤ N) (hl : l.length ≤ 6) (ho : UR l o) (hk : k < 64) (j : List Int → Option (List Ag × Int)) :
  C2 N o (acc, (k : Int)) j N (l, 0) = j (UX l k) := by
 have hol := Kn l l.length (Nat.le_refl _)
 have hoL := ho.len
 obtain ⟨x, e, h1, h2⟩ := Gb (A := List Int) (C2 N o (acc, (k : Int)) j) (fun a k => (a, k)) o.length j
  (fun b a => a.length = l.length ∧ ∀ q, q < l.length → a.getD q 0 = if 0 ≤ l.getD q 0 ∧ Iz l q < b ∧ k.testBit (Iz l q) = true then -1 else l.getD q 0)
  (fun n b a hb ha => by
   obtain ⟨i, hi1, hi2, hi3, hi4⟩ := ho.at_ b hb
   have hbit := R5 ⟨k, hk⟩ ⟨b, by omega⟩
   rw [C2]
   simp only [Bk]
   rw [AH (by omega), C7 (d := 0) hb]
   simp only [oS]
   rw [AS (by omega), hi1, hbit.1, C7 (d := 0) (show i < a.length by rw [ha.1]; exact hi2), AZ (by omega)]
   simp only [oS, Int.toNat_natCast]
   cases hkb : k.testBit b
   ·refine ⟨a, rfl, ha.1, fun q hq => ?_⟩
    rw [ha.2 q hq]
    by_cases hqb : Iz l q = b
    ·rw [hqb, hkb]; simp
    ·by_cases h3 : Iz l q < b
     ·have : Iz l q < b + 1 := by omega
      simp [h3, this]
     ·have : ¬ Iz l q < b + 1 := by omega
      simp [h3, this]
   ·refine ⟨a.set i (-1), rfl, by simp [ha.1], fun q hq => ?_⟩
    rw [IQ (by rw [ha.1]; exact hi2), ha.2 q hq]
    by_cases hqi : q = i
    ·subst hqi
     rw [if_pos rfl, if_pos ⟨hi3, by omega, by rw [hi4]; exact hkb⟩]
    ·rw [if_neg hqi]
     by_cases h0 : 0 ≤ l.getD q 0
     ·have hne : Iz l q ≠ b := fun h => hqi (VD hq hi2 h0 hi3 (by omega))
      by_cases h3 : Iz l q < b
      ·have : Iz l q < b + 1 := by omega
       simp [h3, this]
      ·have : ¬ Iz l q < b + 1 := by omega
       simp [h3, this]
     ·rw [if_neg (fun h => h0 h.1), if_neg (fun h => h0 h.1)])
  (fun n a _ => by
   rw [C2]
   simp only [Bk]
   rw [AF (by omega)]) N 0 l (Nat.zero_le _) (by omega) ⟨rfl, fun q hq => by simp⟩
 have e' : C2 N o (acc, (k : Int)) j N (l, 0) = j x := e
 rw [e']
 congr 1
 refine Jr (by rw [LL, h1]) fun q hq => ?_
 rw [h1] at hq
 rw [h2 q hq, Po _ _ _ hq, Ml]
 by_cases h0 : 0 ≤ l.getD q 0
 ·have h3 := Of l (a := q + 1) (b := l.length) hq (Nat.le_refl _)
  rw [HG l q hq, if_pos h0] at h3
  have : Iz l q < o.length := by omega
  simp [this]
 ·rw [if_neg (fun h => h0 h.1), if_neg (fun h => h0 h.1)]
theorem Rd (N : Nat) (m : Ag) (k : Nat) (acc : List Ag) (hN : N ≤ 1000000) (h20 : 20 ≤ N) (hl : m.fNext.length ≤ 6) (hk : k < 64) (j : List Int → Option (List Ag)) :
  B3 N m (acc, (k : Int)) j N (m.fNext, 0, 0) = j (UX m.fNext k) := by
 obtain ⟨⟨x, pl⟩, e, h1, h2, h3⟩ := Gb (A := List Int × Nat) (B3 N m (acc, (k : Int)) j) (fun a k => (a.1, (a.2 : Int), k)) m.fNext.length (fun a => j a.1)
  (fun i a => a.2 = Iz m.fNext i ∧ a.1.length = m.fNext.length ∧ ∀ q, q < m.fNext.length → a.1.getD q 0 = if q < i then Ml m.fNext k q else m.fNext.getD q 0)
  (fun n i a hi ha => by
   obtain ⟨a, pl⟩ := a
   obtain ⟨a1, a2, a3⟩ := ha
   simp only at a1 a2 a3
   have hple := Kn m.fNext i (by omega)
   have hbit := R5 ⟨k, hk⟩ ⟨pl, by omega⟩
   have hs := HG m.fNext i hi
   rw [B3]
   simp only [Bk]
   rw [AH (by omega), C7 (d := 0) hi]
   simp only [oS]
   rw [AZ (by omega)]
   by_cases h0 : m.fNext.getD i 0 < 0
   ·rw [AH h0]
    refine ⟨(a, pl), rfl, by simp only; rw [hs, if_neg (by omega), a1]; rfl, a2, fun q hq => ?_⟩
    simp only
    rw [a3 q hq]
    by_cases hqi : q = i
    ·subst hqi
     rw [if_neg (by omega), if_pos (by omega), Ml, if_neg (by omega)]
    ·by_cases h4 : q < i
     ·rw [if_pos h4, if_pos (by omega)]
     ·rw [if_neg h4, if_neg (by omega)]
   ·rw [AF h0, AS (by omega), C7 (d := 0) (show i < a.length by omega), hbit.2, AZ (by omega)]
    simp only [oS, Int.toNat_natCast]
    cases hkb : k.testBit pl
    ·refine ⟨(a, pl + 1), rfl, by simp only; rw [hs, if_pos (by omega), a1], a2, fun q hq => ?_⟩
     simp only
     rw [a3 q hq]
     by_cases hqi : q = i
     ·subst hqi
      rw [if_neg (by omega), if_pos (by omega), Ml, ← a1, hkb]; simp
     ·by_cases h4 : q < i
      ·rw [if_pos h4, if_pos (by omega)]
      ·rw [if_neg h4, if_neg (by omega)]
    ·refine ⟨(a.set i (-1), pl + 1), rfl, by simp only; rw [hs, if_pos (by omega), a1], by simp [a2], fun q hq => ?_⟩
     simp only
     rw [IQ (by omega), a3 q hq]
     by_cases hqi : q = i
     ·subst hqi
      rw [if_pos rfl, if_pos (by omega), Ml, ← a1, if_pos ⟨by omega, hkb⟩]
     ·rw [if_neg hqi]
      by_cases h4 : q < i
      ·rw [if_pos h4, if_pos (by omega)]
      ·rw [if_neg h4, if_neg (by omega)])
  (fun n a _ => by
   rw [B3]
   simp only [Bk]
   rw [AF (by omega)]) N 0 (m.fNext, 0) (Nat.zero_le _) (by omega) ⟨(I4 _).symm, rfl, fun q hq => by simp⟩
 have e' : B3 N m (acc, (k : Int)) j N (m.fNext, 0, 0) = j x := e
 rw [e']
 congr 1
 simp only at h2 h3
 refine Jr (by rw [LL, h2]) fun q hq => ?_
 rw [h2] at hq
 rw [h3 q hq, if_pos hq, Po _ _ _ hq]
theorem Tr (N : Nat) (m : Ag) (hN : N ≤ 1000000) (h20 : 20 ≤ N) (hl : m.fNext.length ≤ 6) (j : List Int → Option (List Ag × Int)) :
  ∃ o, DP N m j N ([], 0) = j o ∧ UR m.fNext o := by
 obtain ⟨o, e, h1, h2⟩ := Gb (A := List Int) (DP N m j) (fun a k => (a, k)) m.fNext.length j
  (fun i o => o.length = Iz m.fNext i ∧ ∀ b, b < o.length → ∃ q : Nat, o.getD b 0 = (q : Int) ∧ q < m.fNext.length ∧ 0 ≤ m.fNext.getD q 0 ∧ Iz m.fNext q = b)
  (fun n i o hi ho => by
   have hple := Kn m.fNext i (by omega)
   have hs := HG m.fNext i hi
   rw [DP]
   simp only [Bk]
   rw [AH (by omega), C7 (d := 0) hi]
   simp only [oS]
   rw [AZ (by omega)]
   by_cases h0 : 0 ≤ m.fNext.getD i 0
   ·rw [AH h0, AS (by rw [ho.1]; unfold Fa; simp; omega)]
    refine ⟨o ++ [(i : Int)], rfl, by rw [hs, if_pos h0, ← ho.1]; simp, ?_⟩
    rw [List.length_append]
    exact UP (P := fun b y => ∃ q : Nat, y = (q : Int) ∧ q < m.fNext.length ∧ 0 ≤ m.fNext.getD q 0 ∧ Iz m.fNext q = b) rfl ho.2 ⟨i, rfl, hi, h0, ho.1.symm⟩
   ·rw [AF h0]
    exact ⟨o, rfl, by rw [hs, if_neg h0, ho.1]; rfl, ho.2⟩)
  (fun n a _ => by
   rw [DP]
   simp only [Bk]
   rw [AF (by omega)]) N 0 [] (Nat.zero_le _) (by omega) ⟨(I4 _).symm, fun b hb => by simp at hb⟩
 exact ⟨o, e, h1, h2⟩
theorem Lb {n : Nat} (h : n ≤ 6) : 2 ^ n ≤ 64 := Nat.pow_le_pow_right (n := 2) (by omega) h
theorem M6 {n : Nat} (h : n ≤ 6) : CF .i64 1 (n : Int) = ((2 ^ n : Nat) : Int) := Vm ⟨n, by omega⟩
theorem Kr {β : Type} (f : Nat → β) (n : Nat) : (List.range (n + 1)).map f = (List.range n).map f ++ [f n] := by
 rw [List.range_succ, List.map_append]; rfl
theorem Oq (N : Nat) (p : Aj) (m : Ag) (hN : N ≤ 1000000) (h20 : 100 ≤ N) (hw : Iu JR m.fHeld) (hv : CW p m = 0) : GT N p m = some (Gg m, 0) := by
 obtain ⟨hp, hm⟩ := Fw hw hv
 have hnv := hp.nv
 have hnt := hp.nt
 have hl : m.fNext.length ≤ 6 := by rw [hm.next]; omega
 unfold GT
 rw [HK N p m hN (by omega) hw, hv]
 simp only [oS, bne_self_eq_false, Av]
 obtain ⟨o, e, ho⟩ := Tr N m hN (by omega) hl (fun (v4 : (List Int)) =>
   (EJ (0 ≤ (v4.length : Int))).bind fun _ =>
   C5 N m v4 (fun (v12 : (List Ag)) =>
    some (v12, 0)) N (([] : List Ag), 0))
 rw [e, AS (by omega)]
 have hoL := ho.len
 have hol := Kn m.fNext m.fNext.length (Nat.le_refl _)
 have hpow := Lb (show Iz m.fNext m.fNext.length ≤ 6 by omega)
 obtain ⟨a, e2, h1⟩ := Gb (A := List Ag) (C5 N m o fun v12 => some (v12, 0)) (fun a k => (a, k)) (2 ^ Iz m.fNext m.fNext.length) (fun v12 => some (v12, 0))
  (fun i a => a = (List.range i).map (WA m))
  (fun n i a hi ha => by
   refine ⟨a ++ [WA m i], ?_, by rw [Kr, ha]⟩
   have hal : a.length = i := by rw [ha]; simp
   rw [C5]
   rw [hoL, M6 (n := Iz m.fNext m.fNext.length) (by omega), AH (by omega), HS N m.fBase (by have := hm.base; unfold Fa; omega), HS N m.fNext (by unfold Fa; omega), Ms N m.fHeld (by have := hm.held; unfold Fa; omega)]
   simp only [oS]
   rw [QE N m.fNext o i a hN (by omega) hl ho (by omega), AS (by rw [hal]; unfold Fa; simp; omega), AZ (by omega)]
   rfl)
  (fun n a _ => by
   rw [C5]
   rw [hoL, M6 (n := Iz m.fNext m.fNext.length) (by omega), AF (by simp)]) N 0 [] (Nat.zero_le _) (by omega) rfl
 have e2' : C5 N m o (fun v12 => some (v12, 0)) N ([], 0) = some (a, 0) := e2
 rw [e2', h1]; rfl
theorem RS (N : Nat) (m : Ag) (h1 : m.fBase.length ≤ Fa) (h2 : m.fNext.length ≤ Fa) (h3 : m.fHeld.length ≤ Fa) : Ed N m = some m := by
 unfold Ed
 rw [AS (by simpa using h1), AS (by simpa using h2), AS (by simpa using h3)]; rfl
theorem Ry (N : Nat) (m : Ag) (hN : N ≤ 1000000) (h20 : 100 ≤ N) (h1 : m.fBase.length ≤ 100) (hl : m.fNext.length ≤ 6) (h3 : m.fHeld.length ≤ 100) : Ek N m = some (Gg m) := by
 unfold Ek
 obtain ⟨c, e, hc⟩ := Gb (A := Nat) (CG N m (fun (v2 : Int) =>
  BN N m v2 (fun (v8 : (List Ag)) => some v8) N (([] : List Ag), 0))) (fun a k => ((a : Int), k)) m.fNext.length (fun a => BN N m (a : Int) (fun (v8 : (List Ag)) => some v8) N (([] : List Ag), 0))
  (fun i a => a = Iz m.fNext i)
  (fun n i a hi ha => by
   have hple := Kn m.fNext i (by omega)
   have hs := HG m.fNext i hi
   rw [CG]
   simp only [Bk]
   rw [AH (by omega), C7 (d := 0) hi]
   simp only [oS]
   rw [AZ (by omega), AZ (by omega)]
   by_cases h0 : 0 ≤ m.fNext.getD i 0
   ·rw [AH h0]
    exact ⟨a + 1, rfl, by rw [hs, if_pos h0, ha]⟩
   ·rw [AF h0]
    exact ⟨a, rfl, by rw [hs, if_neg h0, ha]; rfl⟩)
  (fun n a _ => by
   rw [CG]
   simp only [Bk]
   rw [AF (by omega)]) N 0 0 (Nat.zero_le _) (by omega) (I4 _).symm
 have e' : CG N m (fun (v2 : Int) => BN N m v2 (fun (v8 : (List Ag)) => some v8) N (([] : List Ag), 0)) N (0, 0) = _ := e
 rw [e', hc]
 have hol := Kn m.fNext m.fNext.length (Nat.le_refl _)
 have hpow := Lb (show Iz m.fNext m.fNext.length ≤ 6 by omega)
 obtain ⟨a, e2, h1⟩ := Gb (A := List Ag) (BN N m (Iz m.fNext m.fNext.length : Int) fun v8 => some v8) (fun a k => (a, k)) (2 ^ Iz m.fNext m.fNext.length) some
  (fun i a => a = (List.range i).map (WA m))
  (fun n i a hi ha => by
   refine ⟨a ++ [WA m i], ?_, by rw [Kr, ha]⟩
   have hal : a.length = i := by rw [ha]; simp
   rw [BN]
   rw [AS (by omega), M6 (n := Iz m.fNext m.fNext.length) (by omega), AH (by omega), RS N m (by unfold Fa; omega) (by unfold Fa; omega) (by unfold Fa; omega)]
   simp only [oS]
   rw [Rd N m i a hN (by omega) hl (by omega), AS (by rw [hal]; unfold Fa; simp; omega), AZ (by omega)]
   rfl)
  (fun n a _ => by
   rw [BN]
   rw [AS (by omega), M6 (n := Iz m.fNext m.fNext.length) (by omega), AF (by simp)]) N 0 [] (Nat.zero_le _) (by omega) rfl
 have e2' : BN N m (Iz m.fNext m.fNext.length : Int) (fun v8 => some v8) N ([], 0) = some a := e2
 rw [e2', h1]; rfl
theorem Rj (N : Nat) (p : Aj) (m : Ag) (hN : N ≤ 1000000) (h20 : 100 ≤ N) (hp : Cd p) (hm : Er p m) : Ek N m = some (Gg m) := by
 have := hp.nv
 have := hp.nt
 exact Ry N m hN h20 (by rw [hm.base]; omega) (by rw [hm.next]; omega) (by rw [hm.held]; omega)
theorem QG {p : Aj} {m : Ag} (hm : Er p m) : Iu JR m.fHeld := by
 intro x hx
 obtain ⟨q, hq⟩ := List.mem_iff_getElem?.1 hx
 have h1 := (lI.1 hq).1
 have := hm.range q (by rw [← hm.held]; exact h1)
 rw [lD, hq] at this
 unfold JR
 simp only [Option.getD_some] at this
 simp [Lit.wf, IntKind.min, IntKind.max, IntKind.signed, IntKind.bits]
 omega
def KB (p : Aj) (x : Ag) : Option (Ag × Ah) := match IJ p x with
 | [] => none
 | c :: _ => some (x, c)
def Jl (p : Aj) (m : Ag) : Option (Ag × Ah) := Dk (fun _ x => KB p x) 0 (Gg m)
def ES : Ag := ⟨[], [], []⟩
def QR : Ah := ⟨0, 0, 0⟩
def Ki (p : Aj) (m : Ag) : Ag × Ah × Int := match Jl p m with
 | some (x, c) => (x, c, 0)
 | none => (ES, QR, 15)
theorem Ni {m : Ag} (hl : m.fNext.length ≤ 6) : (Gg m).length ≤ 64 := by
 unfold Gg
 have hol := Kn m.fNext m.fNext.length (Nat.le_refl _)
 have hpow := Lb (show Iz m.fNext m.fNext.length ≤ 6 by omega)
 simpa using hpow
theorem NV {α R R' : Type} (f : Nat → α → Option R) (g : R → R') : ∀ (i : Nat) (xs : List α), Dk (fun i x => (f i x).map g) i xs = (Dk f i xs).map g
 | _, [] => rfl
 | i, x :: xs => by
  rw [GK, GK]
  cases f i x
  ·exact NV f g (i + 1) xs
  ·rfl
theorem Pm (N : Nat) (p : Aj) (m : Ag) (hN : N ≤ 1000000) (h20 : 100 ≤ N) (hw : Iu JR m.fHeld) (hv : CW p m = 0) : GE N p m = some (Ki p m) := by
 obtain ⟨hp, hm⟩ := Fw hw hv
 have hnv := hp.nv
 unfold GE
 rw [Oq N p m hN h20 hw hv]
 simp only [oS, bne_self_eq_false, Av]
 have hal := Ni (m := m) (by rw [hm.next]; omega)
 have := CY (EH N p (Gg m, 0) fun _ => some (ES, QR, 15)) (Gg m) (some (ES, QR, 15)) (fun _ x => (KB p x).map fun y => (y.1, y.2, 0))
  (fun n i x hx => by
   have hi := (lI.1 hx).1
   have hx2 := T9 hp hm (Lw.1 (lM hx))
   rw [EH, AH (by simp only; omega)]
   simp only [Be, hx, oS]
   rw [Mg N p x hN (by omega) hp hx2, AZ (by omega)]
   simp only [oS, KB]
   cases IJ p x with
   | nil => rfl
   | cons c cs => rw [AH (by simp only [List.length_cons]; omega)]; rfl)
  (fun n => by rw [EH, AF (by simp)]) N 0 (Nat.zero_le _) (by omega)
 rw [List.drop_zero, NV] at this
 exact this.trans (by
  unfold Ki Jl
  cases Dk (fun _ x => KB p x) 0 (Gg m) <;> rfl)
theorem PS (N : Nat) (p : Aj) (m : Ag) (hN : N ≤ 1000000) (h20 : 100 ≤ N) (hw : Iu JR m.fHeld) (hv : CW p m = 0) : Ey N p m = some (Ki p m) := by
 obtain ⟨hp, hm⟩ := Fw hw hv
 have hnv := hp.nv
 unfold Ey E5
 rw [JL N p m hN (by omega), hv, Rj N p m hN h20 hp hm]
 simp only [oS, bne_self_eq_false, Av]
 have hal := Ni (m := m) (by rw [hm.next]; omega)
 have := CY (CL N p (Gg m, 0) fun _ => some (ES, QR, 15)) (Gg m) (some (ES, QR, 15)) (fun _ x => (KB p x).map fun y => (y.1, y.2, 0))
  (fun n i x hx => by
   have hi := (lI.1 hx).1
   have hx2 := T9 hp hm (Lw.1 (lM hx))
   rw [CL, AH (by simp only; omega)]
   simp only [Be, hx, oS]
   rw [Mn N p x hN (by omega) hp hx2, AZ (by omega)]
   simp only [oS, KB]
   cases IJ p x with
   | nil => rfl
   | cons c cs => rw [AH (by simp only [List.length_cons]; omega)]; rfl)
  (fun n => by rw [CL, AF (by simp)]) N 0 (Nat.zero_le _) (by omega)
 rw [List.drop_zero, NV] at this
 exact this.trans (by
  unfold Ki Jl
  cases Dk (fun _ x => KB p x) 0 (Gg m) <;> rfl)
theorem QQ {N : Nat} {a b : Ag} (hN : N ≤ 1000000) (h1 : a.fBase.length < N) (h2 : a.fNext.length < N) (h3 : a.fHeld.length < N) (h4 : b.fHeld.length < N) (wa : Iu JR a.fHeld) (wb : Iu JR b.fHeld) : D3 N a b = some (S5 a b) := by
 unfold D3
 rw [Nf h1 hN, Nf h2 hN, MB h3 hN wa, MB h4 hN wb]
 simp only [oS]
 rw [Nf h3 hN]
 unfold S5 Rg
 by_cases h1 : Iw a.fBase b.fBase = 0
 ·simp only [h1, Rg]
  by_cases h2 : Iw a.fNext b.fNext = 0
  ·simp only [h2]
   by_cases h3 : Iw a.fHeld b.fHeld = 0 <;> simp [h3]
  ·have : (Iw a.fNext b.fNext != 0) = true := by simpa using h2
   simp [h2, this]
 ·have : (Iw a.fBase b.fBase != 0) = true := by simpa using h1
  simp [h1, this]
theorem Mv {N : Nat} {a : Ag} (hN : N ≤ 1000000) (h1 : a.fBase.length < N) (h2 : a.fNext.length < N) (h3 : a.fHeld.length < N) (wa : Iu JR a.fHeld) : BW N a a = some true := by
 unfold BW
 rw [QQ hN h1 h2 h3 h3 wa wa, O2]; rfl
theorem OF {N : Nat} {p : Aj} {a : Ag} (hN : N ≤ 1000000) (h20 : 100 ≤ N) (hp : Cd p) (ha : Er p a) : BW N a a = some true := by
 have := hp.nv
 have := hp.nt
 exact Mv hN (by rw [ha.base]; omega) (by rw [ha.next]; omega) (by rw [ha.held]; omega) (QG ha)
theorem SV (N : Nat) (hN : N ≤ 1000000) (h20 : 100 ≤ N) (p : Aj) : ∃ b, E2 N p = some b := by
 unfold E2
 simp only [Bk]
 by_cases h1 : 8 < (p.fVersions.length : Int)
 ·rw [AH h1]; exact ⟨_, rfl⟩
 rw [AF h1]
 by_cases h2 : 8 < (p.fNow.length : Int)
 ·rw [AH h2]; exact ⟨_, rfl⟩
 rw [AF h2]
 by_cases h3 : 8 < (p.fTarget.length : Int)
 ·rw [AH h3]; exact ⟨_, rfl⟩
 rw [AF h3]
 by_cases h4 : 14 < (p.fTables.length : Int)
 ·rw [decide_eq_true h4]; exact ⟨_, rfl⟩
 rw [decide_eq_false h4, Av]
 have inner1 : ∀ (i : Nat) (t : AV), p.fTables[i]? = some t → t.fOK.length ≤ 8 → ∀ j : Option Bool, ∃ r, CB N p (i : Int) (fun _ => j) N 0 = BZ r j := by
  intro i t ht hl j
  refine ⟨_, CY (CB N p (i : Int) fun _ => j) t.fOK j (fun _ row => if 8 < (row.length : Int) then some false else none) (fun n k x hx => ?_) (fun n => ?_) N 0 (Nat.zero_le _) (by omega)⟩
  ·have hk := (lI.1 hx).1
   rw [CB, Be, ht]
   simp only [oS]
   rw [AH (by omega), Be, hx, AZ (by omega)]
   simp only [oS]
   by_cases h : 8 < (x.length : Int)
   ·rw [AH h, if_pos h]; rfl
   ·rw [AF h, if_neg h]; rfl
  ·rw [CB, Be, ht]
   simp only [oS]
   rw [AF (by simp)]
 have inner2 : ∀ (i : Nat) (t : AV), p.fTables[i]? = some t → t.fRewrite.length ≤ 8 → ∀ j : Option Bool, ∃ r, Cy N p (i : Int) (fun _ => j) N 0 = BZ r j := by
  intro i t ht hl j
  refine ⟨_, CY (Cy N p (i : Int) fun _ => j) t.fRewrite j (fun _ row => if 8 < (row.length : Int) then some false else none) (fun n k x hx => ?_) (fun n => ?_) N 0 (Nat.zero_le _) (by omega)⟩
  ·have hk := (lI.1 hx).1
   rw [Cy, Be, ht]
   simp only [oS]
   rw [AH (by omega), Be, hx, AZ (by omega)]
   simp only [oS]
   by_cases h : 8 < (x.length : Int)
   ·rw [AH h, if_pos h]; rfl
   ·rw [AF h, if_neg h]; rfl
  ·rw [Cy, Be, ht]
   simp only [oS]
   rw [AF (by simp)]
 have outer : ∀ n i : Nat, i ≤ p.fTables.length → p.fTables.length - i < n → ∃ b, Dx N p (fun _ => some true) n (i : Int) = some b := by
  intro n
  induction n with
  | zero => intro i _ h; omega
  | succ n ih =>
   intro i hi hn
   rw [Dx]
   simp only [Bk]
   by_cases h : i < p.fTables.length
   ·have hx : p.fTables[i]? = some p.fTables[i] := by simp [h]
    generalize p.fTables[i] = t at hx
    rw [AH (by omega), Be, hx]
    simp only [oS]
    by_cases k1 : 8 < (t.fOK.length : Int)
    ·rw [AH k1]; exact ⟨_, rfl⟩
    rw [AF k1]
    by_cases k2 : 8 < (t.fRewrite.length : Int)
    ·rw [decide_eq_true k2]; exact ⟨_, rfl⟩
    rw [decide_eq_false k2, Av, AZ (by omega)]
    obtain ⟨b, hb⟩ := ih (i + 1) (by omega) (by omega)
    rw [hb]
    obtain ⟨r2, e2⟩ := inner2 i t hx (by omega) (some b)
    obtain ⟨r1, e1⟩ := inner1 i t hx (by omega) (BZ r2 (some b))
    rw [e2, e1]
    cases r1 with
    | some r => exact ⟨_, rfl⟩
    | none => cases r2 <;> exact ⟨_, rfl⟩
   ·rw [AF (by omega)]; exact ⟨_, rfl⟩
 exact outer N 0 (Nat.zero_le _) (by omega)
open Go
def K7 (p : Aj) (t : AV) : Int := if CE t = true then CF .u8 1 (p.fNow.getD t.fFrom.toNat 0) else 0
def Tv (p : Aj) : Ag := ⟨p.fNow, List.replicate p.fNow.length (-1), p.fTables.map (K7 p)⟩
theorem SX (N : Nat) (h : 100 ≤ N) (n : Nat) (hn : n ≤ 6) : Em N [(-1)] (n : Int) = some (List.replicate n (-1)) := by
 obtain ⟨k, rfl⟩ : ∃ k, N = k + 100 := ⟨N - 100, by omega⟩
 have : n = 0 ∨ n = 1 ∨ n = 2 ∨ n = 3 ∨ n = 4 ∨ n = 5 ∨ n = 6 := by omega
 rcases this with rfl | rfl | rfl | rfl | rfl | rfl | rfl
 all_goals (show _ = _; kernel_rfl)
theorem Q9 (T : List Int) (i : Nat) (hi : i < T.length) : (T.take i ++ List.replicate (T.length - i) 0).set i (T.getD i 0) = T.take (i + 1) ++ List.replicate (T.length - (i + 1)) 0 := by
 have hl : (T.take i).length = i := by simp; omega
 rw [List.set_append_right _ _ (by omega), hl, Nat.sub_self, show T.length - i = (T.length - (i + 1)) + 1 from by omega, List.replicate_succ, List.set_cons_zero, List.take_add_one, List.append_assoc]
 have : T[i]? = some (T.getD i 0) := by rw [lD]; simp [hi]
 rw [this]; rfl
theorem S3 (T : List Int) (i : Nat) (hi : i < T.length) (h0 : T.getD i 0 = 0) : T.take i ++ List.replicate (T.length - i) 0 = T.take (i + 1) ++ List.replicate (T.length - (i + 1)) 0 := by
 rw [← Q9 T i hi, h0, List.set_append_right _ _ (by rw [List.length_take]; omega)]
 congr 1
 have hl : (T.take i).length = i := by simp; omega
 rw [hl, Nat.sub_self, show T.length - i = (T.length - (i + 1)) + 1 from by omega, List.replicate_succ, List.set_cons_zero]
theorem Xd {p : Aj} (hv : Ce p = 0) {t : AV} (ht : t ∈ p.fTables) : 0 ≤ t.fFrom ∧ t.fFrom.toNat < p.fNow.length ∧ 0 ≤ p.fNow.getD t.fFrom.toNat 0 ∧ p.fNow.getD t.fFrom.toNat 0 < 6 ∧ p.fNow.getD t.fFrom.toNat 0 < p.fVersions.getD t.fFrom.toNat 0 ∧ t.fFrom.toNat < p.fVersions.length := by
 obtain ⟨hp, hr⟩ := DM hv
 have h1 := IX (hp.tab t ht)
 have h2 := hr t.fFrom.toNat (by omega)
 have h3 := Kz hp (i := t.fFrom.toNat) (by omega)
 have := hp.now
 refine ⟨h1.1, by omega, h2.1, by omega, h2.2.1, by omega⟩
theorem Qz {p : Aj} {i : Nat} {t : AV} (ht : p.fTables[i]? = some t) : (p.fTables.map (K7 p)).getD i 0 = K7 p t := by
 rw [lD, List.getElem?_map, ht]; rfl
theorem PK (N : Nat) (p : Aj) (hN : N ≤ 1000000) (h20 : 100 ≤ N) : FI N p = some (if Ce p = 0 then Tv p else ⟨[], [], []⟩, Ce p) := by
 unfold FI
 rw [Ix N p hN (by omega)]
 simp only [oS]
 by_cases hv : Ce p = 0
 ·rw [if_pos hv, hv]
  obtain ⟨hp, _⟩ := DM hv
  have hnv := hp.nv
  have hnt := hp.nt
  have hnow := hp.now
  rw [bne_self_eq_false, Av, HS N _ (by simp only [Fa]; omega)]
  simp only [oS]
  rw [SX N h20 _ (by omega)]
  simp only [oS]
  rw [AS (by simp only [Fa]; omega)]
  obtain ⟨a', e, ha⟩ := Gb (D9 N p fun v7 => some (Ag.mk p.fNow (List.replicate p.fNow.length (-1)) v7, 0)) (fun a i => (a, i)) p.fTables.length (fun v7 => some (Ag.mk p.fNow (List.replicate p.fNow.length (-1)) v7, 0))
   (fun i a => a = (p.fTables.map (K7 p)).take i ++ List.replicate ((p.fTables.map (K7 p)).length - i) 0)
   (fun n i a hi ha => by
    have hx : p.fTables[i]? = some p.fTables[i] := by simp [hi]
    have hm : p.fTables[i] ∈ p.fTables := List.getElem_mem hi
    obtain ⟨n1, n2, n3, n4, _⟩ := Xd hv hm
    rw [D9, AH (by simp only; omega)]
    simp only [Bk, Be, hx, oS, Ju, AZ (show i < 1000000 by omega)]
    have hal : i < (p.fTables.map (K7 p)).length := by simpa using hi
    cases hs : CE p.fTables[i]
    ·rw [Av]
     refine ⟨a, rfl, ?_⟩
     rw [ha]
     exact S3 _ _ hal (by rw [Qz hx]; unfold K7; rw [hs]; rfl)
    ·rw [AI]
     have e1 : Bf p.fNow p.fTables[i].fFrom = some (p.fNow.getD p.fTables[i].fFrom.toNat 0) := by
      obtain ⟨q, hq⟩ := Int.eq_ofNat_of_zero_le n1
      rw [hq]; exact C7 (by rw [hq] at n2; simpa using n2)
     rw [e1]
     simp only [oS]
     rw [AS n3]
     have hl : i < a.length := by rw [ha]; simp; omega
     have e2 : a[i]? = some a[i] := by simp [hl]
     rw [e2]
     simp only [oS]
     refine ⟨_, rfl, ?_⟩
     rw [← Q9 _ _ hal, Qz hx, ha]
     unfold K7; rw [hs]; rfl)
   (fun n a ha => by rw [D9, AF (by simp)]) N 0 (List.replicate p.fTables.length 0) (Nat.zero_le _) (by omega) (by simp)
  have e' : D9 N p (fun v7 => some (Ag.mk p.fNow (List.replicate p.fNow.length (-1)) v7, 0)) N (List.replicate ((p.fTables.length : Int)).toNat (0 : Int), 0) = _ := e
  rw [e', ha]
  have e5 : (p.fTables.map (K7 p)).take p.fTables.length = p.fTables.map (K7 p) := List.take_of_length_le (by simp)
  simp [Tv, e5]
 ·rw [if_neg hv, bne_iff_ne.2 hv, AI]
theorem MA (x : BitVec 8) : wI .u8 (x.toNat : Int) = (x.toNat : Int) := by
 have := x.isLt
 simp [wI, IntKind.signed, IntKind.bits]
 omega
theorem Q4 (x : BitVec 8) : 0 ≤ (x.toNat : Int) ∧ (x.toNat : Int) ≤ 255 := by
 have := x.isLt
 omega
theorem Ue (x : BitVec 8) (v : Nat) : D7 (x.toNat : Int) v = x.getLsbD v := by
 unfold D7; rw [Int.toNat_natCast]; rfl
theorem Pz {a : Int} (ha : 0 ≤ a ∧ a ≤ 255) (v : Nat) : (BitVec.ofInt 8 a).getLsbD v = D7 a v := by
 obtain ⟨a, rfl⟩ := Int.eq_ofNat_of_zero_le ha.1
 unfold BitVec.getLsbD D7
 rw [UV (by omega), Int.toNat_natCast]
theorem RP {a b : Int} (ha : 0 ≤ a ∧ a ≤ 255) (hb : 0 ≤ b ∧ b ≤ 255) : (∀ v, D7 (Do .u8 a b) v = (D7 a v && !D7 b v)) ∧ 0 ≤ Do .u8 a b ∧ Do .u8 a b ≤ 255 := by
 have e : Do .u8 a b = ((BitVec.ofInt 8 a &&& ~~~BitVec.ofInt 8 b).toNat : Int) := MA (BitVec.ofInt 8 a &&& ~~~BitVec.ofInt 8 b)
 rw [e]
 refine ⟨fun v => ?_, Q4 _⟩
 rw [Ue, BitVec.getLsbD_and, BitVec.getLsbD_not, Pz ha, Pz hb]
 by_cases h : v < 8
 ·simp [h]
 ·rw [KS ha.2 (by omega)]; simp
theorem RF {a b : Int} (ha : 0 ≤ a ∧ a ≤ 255) (hb : 0 ≤ b ∧ b ≤ 255) : (∀ v, D7 (Oi .u8 a b) v = (D7 a v || D7 b v)) ∧ 0 ≤ Oi .u8 a b ∧ Oi .u8 a b ≤ 255 := by
 have e : Oi .u8 a b = ((BitVec.ofInt 8 a ||| BitVec.ofInt 8 b).toNat : Int) := MA (BitVec.ofInt 8 a ||| BitVec.ofInt 8 b)
 rw [e]
 refine ⟨fun v => ?_, Q4 _⟩
 rw [Ue, BitVec.getLsbD_or, Pz ha, Pz hb]
theorem Vl {b : Nat} (hb : b < 8) : (∀ v, D7 (CF .u8 1 (b : Int)) v = decide (b = v)) ∧ 0 ≤ CF .u8 1 (b : Int) ∧ CF .u8 1 (b : Int) ≤ 255 := by
 refine ⟨fun v => ?_, (Na ⟨b, hb⟩ ⟨0, by omega⟩).2⟩
 by_cases h : v < 8
 ·exact (Na ⟨b, hb⟩ ⟨v, h⟩).1
 ·rw [KS (Na ⟨b, hb⟩ ⟨0, by omega⟩).2.2 (by omega)]
  symm; apply decide_eq_false; omega
theorem TK (N : Nat) {s : Int} {v : Nat} (hs : 0 ≤ s ∧ s ≤ 255) (hv : v < 8) : CD N s (v : Int) = some (D7 s v) := by
 unfold CD
 rw [AS (by omega), PE hs.1 hs.2 hv]
 cases D7 s v <;> rfl
def V4 (v : Nat) : Nat := ((List.range 8).find? fun u => v.testBit u).getD 8
def XS (v : Nat) : Nat := ((List.range 8).filter fun u => v.testBit u).length
theorem Xb : ∀ v : Fin 256, C3 0 (v.val : Int) = some (V4 v.val : Int) := by decide +kernel
theorem Xy (N : Nat) {v : Nat} (h : v < 256) : C3 N (v : Int) = some (V4 v : Int) := Xb ⟨v, h⟩
theorem VR : ∀ v : Fin 256, v.val ≠ 0 → V4 v.val < 8 ∧ D7 (v.val : Int) (V4 v.val) = true ∧ 0 ≤ FT .u8 (v.val : Int) (wI .u8 ((v.val : Int) - 1)) ∧ FT .u8 (v.val : Int) (wI .u8 ((v.val : Int) - 1)) ≤ 255 ∧
  XS (FT .u8 (v.val : Int) (wI .u8 ((v.val : Int) - 1))).toNat + 1 = XS v.val ∧
  ∀ u : Fin 8, D7 (FT .u8 (v.val : Int) (wI .u8 ((v.val : Int) - 1))) u.val = (D7 (v.val : Int) u.val && decide (u.val ≠ V4 v.val)) := by decide +kernel
theorem Yi (v : Nat) : XS v ≤ 8 := by
 have := List.length_filter_le (fun u => v.testBit u) (List.range 8)
 simpa [XS] using this
theorem Qm (N : Nat) (t : AV) (b : Int) (rw_ : Nat → Bool) : ∀ (k n v : Nat), XS v ≤ k → k < n → v < 256 →
  (∀ u, u < 8 → D7 (v : Int) u = true → ∃ row, Bf t.fRewrite (u : Int) = some row ∧ Bf row b = some (rw_ u)) →
  Dy N t b (fun _ => some true) n (v : Int) = some ((List.range 8).all fun u => !D7 (v : Int) u || rw_ u)
 | k, 0, v, _, h, _, _ => by omega
 | k, n + 1, v, hk, hn, hv, hr => by
  rw [Dy]
  by_cases h0 : v = 0
  ·subst h0
   have : (((0 : Nat) : Int) != 0) = false := rfl
   rw [this, Av]
   congr 1
  ·have h1 : ((v : Int) != 0) = true := bne_iff_ne.2 (by omega)
   obtain ⟨l1, l2, l3, l4, l5, l6⟩ := VR ⟨v, hv⟩ h0
   simp only at l1 l2 l3 l4 l5 l6
   obtain ⟨row, e1, e2⟩ := hr _ l1 l2
   rw [h1, AI, Xy N hv]
   simp only [oS, e1, e2]
   obtain ⟨w, hw⟩ := Int.eq_ofNat_of_zero_le l3
   rw [hw] at l4 l5 l6 ⊢
   rw [Int.toNat_natCast] at l5
   cases hq : rw_ (V4 v)
   ·rw [Bool.not_false, AI]
    congr 1
    symm
    rw [List.all_eq_false]
    exact ⟨V4 v, by simpa using l1, by rw [l2, hq]; simp⟩
   ·rw [Bool.not_true, Av]
    match k, hk with
    | 0, hk => exfalso; omega
    | k + 1, hk =>
    rw [Qm N t b rw_ k n w (by omega) (by omega) (by omega) (fun u hu hb => hr u hu (by have := l6 ⟨u, hu⟩; simp only at this; rw [hb] at this; simpa using (Bool.and_eq_true_iff.1 this.symm).1))]
    congr 1
    rw [Bool.eq_iff_iff, List.all_eq_true, List.all_eq_true]
    refine ⟨fun h u hu => ?_, fun h u hu => ?_⟩
    ·have hu8 : u < 8 := by simpa using hu
     have h3 := h u hu
     have h4 := l6 ⟨u, hu8⟩
     simp only at h4
     rw [h4] at h3
     by_cases e : u = V4 v
     ·rw [e, hq]; simp
     ·simpa [e] using h3
    ·have hu8 : u < 8 := by simpa using hu
     have h3 := h u hu
     have h4 := l6 ⟨u, hu8⟩
     simp only at h4
     rw [h4]
     cases hb : D7 (v : Int) u
     ·simp
     ·rw [hb] at h3; simp at h3; simp [h3]
theorem P7 (N : Nat) (m : Ag) (s : Int) (h0 : 0 ≤ s) (h1 : s < (m.fBase.length : Int)) (h2 : s < (m.fNext.length : Int)) (hb : 0 ≤ m.fBase.getD s.toNat 0) : F0 N m s = some (G7 m s.toNat) := by
 unfold F0 G7
 rw [Fc (d := 0) h0 h1, Fc (d := 0) h0 h2]
 simp only [oS, Bi]
 rw [show EJ (0 ≤ m.fBase.getD s.toNat 0) = some () from by unfold EJ; rw [if_pos hb]]
 simp only [oS]
 by_cases h : 0 ≤ m.fNext.getD s.toNat 0
 ·rw [AH h, if_pos h, show EJ (0 ≤ m.fNext.getD s.toNat 0) = some () from by unfold EJ; rw [if_pos h]]; rfl
 ·rw [AF h, if_neg h]
theorem KM (N : Nat) (t : AV) : Fz N t = some (CE t) := by
 unfold Fz CE
 simp only [Bi]
 cases h : t.fKind == 3 <;> simp
def Hm (s : Aw) : Bool := decide (1 ≤ s.fKind ∧ s.fKind ≤ 4 ∧ 0 ≤ s.fIndex ∧ 0 ≤ s.fVersion) && (s.fKind == 1 || s.fVersion == 0)
def Gj (p : Aj) (s : Aw) : Bool :=
 if s.fKind = 3 then decide (s.fIndex < (p.fTables.length : Int)) else decide (s.fIndex < (p.fVersions.length : Int)) && (s.fKind != 1 || decide (s.fVersion < p.fVersions.getD s.fIndex.toNat 0))
theorem Or (N : Nat) (s : Aw) : GV N s = some (Hm s) := by
 unfold GV Hm Uh
 simp only [Bi]
 by_cases h1 : (if s.fVersion < s.fIndex then s.fVersion else s.fIndex) < 0
 ·rw [AH h1, AI, decide_eq_false (by split at h1 <;> omega)]; rfl
 ·rw [AF h1]
  by_cases h2 : s.fKind < 1
  ·rw [AH h2, AI, decide_eq_false (by omega)]; rfl
  ·rw [AF h2]
   by_cases h3 : 4 < s.fKind
   ·rw [decide_eq_true h3, AI, decide_eq_false (by omega)]; rfl
   ·rw [decide_eq_false h3, Av, decide_eq_true (by split at h1 <;> omega), Bool.true_and]
    cases h4 : s.fKind == 1 <;> simp
theorem PT (N : Nat) (s : Aw) : Ew N s = some (Hm s) := by
 unfold Ew Hm
 simp only [Bi]
 by_cases h1 : 1 ≤ s.fKind
 ·rw [AH h1]
  by_cases h2 : s.fKind ≤ 4
  ·rw [AH h2]
   by_cases h3 : 0 ≤ s.fIndex
   ·rw [AH h3]
    by_cases h4 : 0 ≤ s.fVersion
    ·rw [AH h4, decide_eq_true (by omega), Bool.true_and]
     cases h5 : s.fKind == 1 <;> simp
    ·rw [AF h4, decide_eq_false (by omega)]; rfl
   ·rw [AF h3, decide_eq_false (by omega)]; rfl
  ·rw [AF h2, decide_eq_false (by omega)]; rfl
 ·rw [AF h1, decide_eq_false (by omega)]; rfl
theorem Nm (N : Nat) (p : Aj) (s : Aw) (hv : Hm s = true) : Gq N p s = some (Gj p s) := by
 have h0 : 0 ≤ s.fIndex := by
  unfold Hm at hv
  rw [Bool.and_eq_true, decide_eq_true_iff] at hv
  exact hv.1.2.2.1
 unfold Gq Gj
 simp only [Bi]
 by_cases h1 : s.fKind = 3
 ·rw [if_pos h1, beq_iff_eq.2 h1, AI]
 ·rw [if_neg h1, beq_eq_false_iff_ne.2 h1, Av]
  by_cases h2 : s.fIndex < (p.fVersions.length : Int)
  ·rw [AH h2, decide_eq_true h2, Bool.true_and]
   cases h3 : s.fKind != 1
   ·rw [Av, Fc (d := 0) h0 h2, Bool.false_or]; rfl
   ·rw [AI]; rfl
  ·rw [AF h2, decide_eq_false h2]; rfl
def Sk (s : Aw) (t : AV) : Bool := t.fFrom == s.fIndex && CE t
def Tg (s : Aw) (i : Nat) (t : AV) (a : List Int) : List Int := if Sk s t = true then a.set i (Oi .u8 (a.getD i 0) (CF .u8 1 s.fVersion)) else a
def IV (p : Aj) (s : Aw) (held : List Int) : List Int := Gk (Tg s) 0 p.fTables held
theorem M0 {R : Type} (N : Nat) (p : Aj) (s : Aw) (held : List Int) (hv : 0 ≤ s.fVersion) (hl : held.length = p.fTables.length) (h12 : p.fTables.length < N) (hN : N ≤ 1000000) (j : List Int → Option (Bool × List Int × List Int)) :
  DS N p s j N (held, 0) = j (IV p s held) ∧ (IV p s held).length = p.fTables.length := by
 have := IG (DS N p s j) (fun a i => (a, i)) p.fTables j (Tg s) (fun i a => a.length = p.fTables.length)
  (fun n i x a hx ha => by
   have hi := (lI.1 hx).1
   rw [DS, AH (by simp only; omega)]
   simp only [Bk, Be, hx, oS, KM, AZ (show i < 1000000 by omega)]
   have e2 : a[i]? = some (a.getD i 0) := by rw [lD]; simp [show i < a.length from by omega]
   unfold Tg Sk
   cases h1 : x.fFrom == s.fIndex
   ·rw [Av, Av, Bool.false_and, if_neg (by simp)]; exact ⟨rfl, ha⟩
   ·rw [AI, Bool.true_and]
    cases h2 : CE x
    ·rw [Av, if_neg (by simp)]; exact ⟨rfl, ha⟩
    ·rw [AI, e2, if_pos rfl]
     simp only [oS]
     rw [AS hv]
     exact ⟨rfl, by simpa using ha⟩)
  (fun n a ha => by rw [DS, AF (by simp)]) N 0 held (Nat.zero_le _) (by omega) hl
 rw [List.drop_zero] at this
 exact this
theorem N3 (N : Nat) (p : Aj) (s : Aw) (held : List Int) (hv : 0 ≤ s.fVersion) (hl : held.length = p.fTables.length) (h12 : p.fTables.length < N) (hN : N ≤ 1000000) (j : List Int → Option (Ag × Bool)) :
  Cb N p s j N (held, 0) = j (IV p s held) := by
 have := IG (Cb N p s j) (fun a i => (a, i)) p.fTables j (Tg s) (fun i a => a.length = p.fTables.length)
  (fun n i x a hx ha => by
   have hi := (lI.1 hx).1
   rw [Cb, AH (by simp only; omega)]
   simp only [Bk, Be, hx, oS, HZ, AZ (show i < 1000000 by omega)]
   have e2 : a[i]? = some (a.getD i 0) := by rw [lD]; simp [show i < a.length from by omega]
   unfold Tg Sk
   cases h1 : x.fFrom == s.fIndex
   ·rw [Av, Av, Bool.false_and, if_neg (by simp)]; exact ⟨rfl, ha⟩
   ·rw [AI, Bool.true_and]
    cases h2 : CE x
    ·rw [Av, if_neg (by simp)]; exact ⟨rfl, ha⟩
    ·rw [AI, e2, if_pos rfl]
     simp only [oS]
     rw [AS hv]
     exact ⟨rfl, by simpa using ha⟩)
  (fun n a ha => by rw [Cb, AF (by simp)]) N 0 held (Nat.zero_le _) (by omega) hl
 rw [List.drop_zero] at this
 exact this.1
def K9 (m : Ag) (t : AV) (u : Nat) : Bool := (t.fRewrite.getD u []).getD (m.fBase.getD t.fFrom.toNat 0).toNat false
def NI (m : Ag) (i : Nat) (t : AV) (u : Nat) : Bool := D7 (m.fHeld.getD i 0) u && !II m t.fFrom.toNat u
def Ih (p : Aj) (m : Ag) (i : Nat) (t : AV) : Bool := t.fKind == 4 && (List.range 8).any fun u => NI m i t u && !K9 m t u
def F6 (p : Aj) (m : Ag) (s : Aw) : Option Ag :=
 let i := s.fIndex.toNat
 if s.fKind = 1 then (if 0 ≤ m.fNext.getD i 0 ∨ m.fBase.getD i 0 = s.fVersion then none else some ⟨m.fBase, m.fNext.set i s.fVersion, IV p s m.fHeld⟩)
 else if s.fKind = 3 then match p.fTables[i]? with
  | none => none
  | some t => if CE t = false ∨ m.fHeld.getD i 0 = G7 m t.fFrom.toNat ∨ Ih p m i t = true then none else some ⟨m.fBase, m.fNext, m.fHeld.set i (G7 m t.fFrom.toNat)⟩
 else if m.fNext.getD i 0 < 0 then none
 else some ⟨if s.fKind = 2 then m.fBase.set i (m.fNext.getD i 0) else m.fBase, m.fNext.set i (-1), m.fHeld⟩
def Eu (p : Aj) (m : Ag) (s : Aw) : Ag × Int :=
 if Hm s = false then (ES, 1) else if Gj p s = false then (ES, 4) else match F6 p m s with
  | none => (ES, 11)
  | some x => (x, 0)
end Go.Lift
namespace Go.Lift
open Option renaming bind_some → oS
open List renaming mem_of_getElem? → lM
open List renaming getElem?_eq_some_iff → lI
open List renaming getD_eq_getElem?_getD → lD
open Go
section clear
variable {p : Aj} {m : Ag} {i : Nat} {t : AV}
theorem Uj (hp : Cd p) (hm : Er p m) (ht : p.fTables[i]? = some t) (hs : CE t = true) {u : Nat} (h : D7 (m.fHeld.getD i 0) u = true) : (u : Int) < p.fVersions.getD t.fFrom.toNat 0 ∧ u < 6 ∧ t.fFrom.toNat < p.fVersions.length := by
 have h1 := hm.high i t ht hs u h
 have hin := IX (hp.tab t (lM ht))
 have h2 := Kz hp (i := t.fFrom.toNat) (by omega)
 exact ⟨h1, by omega, by omega⟩
theorem Ul (hp : Cd p) (hm : Er p m) (ht : p.fTables[i]? = some t) (hs : CE t = true) (h4 : t.fKind = 4) {u : Nat} (h : D7 (m.fHeld.getD i 0) u = true) :
  Bf t.fRewrite (u : Int) = some (t.fRewrite.getD u []) ∧ Bf (t.fRewrite.getD u []) (m.fBase.getD t.fFrom.toNat 0) = some (K9 m t u) := by
 have hT := L7 (hp.tab t (lM ht))
 obtain ⟨h1, h2, h3⟩ := Uj hp hm ht hs h
 have hl := hT.reL h4
 have e : t.fRewrite[u]? = some (t.fRewrite.getD u []) := by rw [lD]; simp [show u < t.fRewrite.length from by omega]
 have hr := hT.reR _ (lM e)
 have hb := hm.b0 t.fFrom.toNat h3
 refine ⟨by rw [Be, e], ?_⟩
 unfold K9
 obtain ⟨b, hb'⟩ := Int.eq_ofNat_of_zero_le hb.1
 rw [hb'] at hb ⊢
 rw [Int.toNat_natCast]
 exact C7 (by omega)
theorem Oz (N : Nat) (hN : N ≤ 1000000) (h20 : 100 ≤ N) (hp : Cd p) (hm : Er p m) (ht : p.fTables[i]? = some t) :
  GZ N p m (i : Int) = some (if CE t = false ∨ m.fHeld.getD i 0 = G7 m t.fFrom.toNat ∨ Ih p m i t = true then (false, m.fHeld) else (true, m.fHeld.set i (G7 m t.fFrom.toNat))) := by
 have hi := (lI.1 ht).1
 have hin := IX (hp.tab t (lM ht))
 have hb := hm.base
 have hnx := hm.next
 have hh := hm.held
 have hr := H9 hp hm.toMixServ (s := t.fFrom.toNat) (by omega)
 have hrg := hm.range i hi
 have eh : Bf m.fHeld (i : Int) = some (m.fHeld.getD i 0) := C7 (by omega)
 unfold GZ
 simp only [Bk, Be, ht, oS, KM]
 have eh' : m.fHeld[i]? = some (m.fHeld.getD i 0) := by rw [← Be, eh]
 cases hs : CE t
 ·rw [Bool.not_false, AI, if_pos (.inl rfl)]
 ·rw [Bool.not_true, Av, P7 N m _ hin.1 (by omega) (by omega) (hm.b0 _ (by omega)).1]
  simp only [oS, eh']
  by_cases h1 : m.fHeld.getD i 0 = G7 m t.fFrom.toNat
  ·rw [beq_iff_eq.2 h1, AI, AI, if_pos (.inr (.inl h1))]
  ·rw [beq_eq_false_iff_ne.2 h1, Av]
   by_cases h4 : t.fKind = 4
   ·rw [beq_iff_eq.2 h4, AI, Fc (d := 0) hin.1 (by omega)]
    simp only [oS]
    obtain ⟨a1, a2, a3⟩ := RP hrg hr.2
    obtain ⟨w, hw⟩ := Int.eq_ofNat_of_zero_le a2
    unfold FF
    rw [hw] at a1 a3 ⊢
    rw [Qm N t _ (K9 m t) 8 N w (Yi _) (by omega) (by omega) (fun u hu hbu => by
     have := a1 u; rw [hbu] at this
     exact ⟨_, Ul hp hm ht hs h4 (Bool.and_eq_true_iff.1 this.symm).1⟩)]
    simp only [oS]
    have e : (!(List.range 8).all fun u => !D7 (w : Int) u || K9 m t u) = Ih p m i t := by
     unfold Ih
     rw [beq_iff_eq.2 h4, Bool.true_and, List.not_all_eq_any_not]
     congr 1
     funext u
     rw [a1 u, hr.1 u]
     unfold NI
     cases D7 (m.fHeld.getD i 0) u <;> cases II m t.fFrom.toNat u <;> cases K9 m t u <;> rfl
    rw [e]
    cases hst : Ih p m i t
    ·rw [Av, if_neg (by rintro (h | h | h); cases h; exact h1 h; cases h)]; rfl
    ·rw [AI, if_pos (.inr (.inr rfl))]
   ·have e : Ih p m i t = false := by unfold Ih; rw [beq_eq_false_iff_ne.2 h4]; rfl
    rw [beq_eq_false_iff_ne.2 h4, Av, Av, e, if_neg (by rintro (h | h | h); cases h; exact h1 h; cases h)]; rfl
theorem NG (N : Nat) (hN : N ≤ 1000000) (h20 : 100 ≤ N) (hp : Cd p) (hm : Er p m) (ht : p.fTables[i]? = some t) (hs : CE t = true) (s : Aw) (hsi : s.fIndex = (i : Int)) (j : Option (Ag × Bool)) :
  BV N p m s t (G7 m t.fFrom.toNat) (fun _ => j) N 0 = if Ih p m i t = true then some (ES, false) else j := by
 have hi := (lI.1 ht).1
 have hin := IX (hp.tab t (lM ht))
 have hb := hm.base
 have hh := hm.held
 have hr := H9 hp hm.toMixServ (s := t.fFrom.toNat) (by omega)
 have hrg := hm.range i hi
 have hver := Kz hp (i := t.fFrom.toNat) (by omega)
 obtain ⟨nv, hnv⟩ := Int.eq_ofNat_of_zero_le (show 0 ≤ p.fVersions.getD t.fFrom.toNat 0 by omega)
 have eh' : m.fHeld[i]? = some (m.fHeld.getD i 0) := by rw [lD]; simp [show i < m.fHeld.length from by omega]
 have := CY (BV N p m s t (G7 m t.fFrom.toNat) fun _ => j) (List.range nv) j (fun u _ => if (NI m i t u && (t.fKind == 4 && !K9 m t u)) = true then some (ES, false) else none)
  (fun n u x hx => by
   have hu : u < nv := by
    have := (lI.1 hx).1
    simpa using this
   rw [BV, Fc (d := 0) hin.1 (by omega), hnv]
   simp only [oS]
   rw [AH (by omega)]
   simp only [Bk, hsi, Be, eh', oS]
   rw [TK N hrg (by omega), AZ (by omega)]
   simp only [oS]
   cases h1 : D7 (m.fHeld.getD i 0) u
   ·have e : NI m i t u = false := by unfold NI; rw [h1]; rfl
    rw [Av, Av, Av, e]; rfl
   ·rw [AI, TK N hr.2 (by omega), hr.1 u]
    simp only [oS]
    have e : NI m i t u = !II m t.fFrom.toNat u := by unfold NI; rw [h1]; rfl
    rw [← e]
    cases h2 : NI m i t u
    ·rw [Av, Av]; rfl
    ·rw [AI]
     by_cases h4 : t.fKind = 4
     ·obtain ⟨e1, e2⟩ := Ul hp hm ht hs h4 h1
      rw [Be] at e1
      rw [beq_iff_eq.2 h4, AI, e1, Fc (d := 0) hin.1 (by omega)]
      simp only [oS]
      rw [e2]
      simp only [oS]
      cases K9 m t u <;> rfl
     ·rw [beq_eq_false_iff_ne.2 h4, Av, Av]; rfl)
  (fun n => by
   rw [BV, Fc (d := 0) hin.1 (by omega), hnv]
   simp only [oS, List.length_range]
   rw [AF (by omega)]) N 0 (Nat.zero_le _) (by simp; omega)
 have e0 : BV N p m s t (G7 m t.fFrom.toNat) (fun _ => j) N 0 = _ := this
 rw [e0, List.drop_zero]
 by_cases hst : Ih p m i t = true
 ·rw [if_pos hst]
  unfold Ih at hst
  rw [Bool.and_eq_true, List.any_eq_true] at hst
  obtain ⟨h4, u, hu, h5⟩ := hst
  rw [Bool.and_eq_true] at h5
  have h6 : D7 (m.fHeld.getD i 0) u = true := by have := h5.1; unfold NI at this; exact (Bool.and_eq_true_iff.1 this).1
  have h7 := Uj hp hm ht hs h6
  cases hsc : Dk (fun u (_ : Nat) => if (NI m i t u && (t.fKind == 4 && !K9 m t u)) = true then some (ES, false) else none) 0 (List.range nv) with
  | some r =>
   obtain ⟨q, x, hx, hf⟩ := ED hsc
   split at hf
   ·cases hf; rfl
   ·cases hf
  | none =>
   exfalso
   have hx : (List.range nv)[u]? = some u := List.getElem?_range (by omega)
   have := GH hsc u u hx
   rw [Nat.zero_add, h5.1, h4, h5.2] at this
   cases this
 ·rw [if_neg hst]
  have : Dk (fun u (_ : Nat) => if (NI m i t u && (t.fKind == 4 && !K9 m t u)) = true then some (ES, false) else none) 0 (List.range nv) = none := Hz fun q x hx => by
   rw [Nat.zero_add]
   split
   ·rename_i h5
    exfalso; apply hst
    rw [Bool.and_eq_true, Bool.and_eq_true] at h5
    unfold Ih
    rw [h5.2.1, Bool.true_and, List.any_eq_true]
    have hq : q < nv := by
     have := (lI.1 hx).1
     simpa using this
    exact ⟨q, List.mem_range.2 (by omega), by rw [h5.1, h5.2.2]; rfl⟩
   ·rfl
  rw [this]; rfl
end clear
end Go.Lift
namespace Go.Lift
open Option renaming bind_some → oS
open List renaming mem_of_getElem? → lM
open Go
theorem JG {s : Aw} (h : Hm s = true) : 1 ≤ s.fKind ∧ s.fKind ≤ 4 ∧ 0 ≤ s.fIndex ∧ 0 ≤ s.fVersion ∧ (s.fKind ≠ 1 → s.fVersion = 0) := by
 unfold Hm at h
 rw [Bool.and_eq_true, decide_eq_true_iff, Bool.or_eq_true, beq_iff_eq, beq_iff_eq] at h
 exact ⟨h.1.1, h.1.2.1, h.1.2.2.1, h.1.2.2.2, fun hk => h.2.elim (fun e => (hk e).elim) id⟩
theorem KR {p : Aj} {s : Aw} (h : Gj p s = true) : (s.fKind = 3 → s.fIndex < (p.fTables.length : Int)) ∧ (s.fKind ≠ 3 → s.fIndex < (p.fVersions.length : Int)) ∧ (s.fKind = 1 → s.fVersion < p.fVersions.getD s.fIndex.toNat 0) := by
 unfold Gj at h
 split at h
 ·rename_i hk
  rw [decide_eq_true_iff] at h
  exact ⟨fun _ => h, fun hn => (hn hk).elim, fun h1 => by omega⟩
 ·rename_i hk
  rw [Bool.and_eq_true, decide_eq_true_iff, Bool.or_eq_true, decide_eq_true_iff, bne_iff_ne] at h
  exact ⟨fun h3 => (hk h3).elim, fun _ => h.1, fun h1 => h.2.elim (fun hn => (hn h1).elim) id⟩
theorem Tb (N : Nat) {p : Aj} {m : Ag} (hp : Cd p) (hm : Er p m) : Gy N m = some m := by
 have hnv := hp.nv
 have hnt := hp.nt
 have h1 := hm.base
 have h2 := hm.next
 have h3 := hm.held
 unfold Gy
 rw [HS N _ (by simp only [Fa]; omega), HS N _ (by simp only [Fa]; omega), Ms N _ (by simp only [Fa]; omega)]
 rfl
theorem K2 (N : Nat) (hN : N ≤ 1000000) (h20 : 100 ≤ N) {p : Aj} {m : Ag} (hp : Cd p) (hm : Er p m) {s : Aw} (hv : Hm s = true) (hx : Gj p s = true) :
  ∃ o, Fp N p m s = some (o, (F6 p m s).isSome) ∧ ∀ x, F6 p m s = some x → o = x := by
 obtain ⟨k1, k4, i0, v0, vk⟩ := JG hv
 obtain ⟨x3, xn, x1⟩ := KR hx
 have hnv := hp.nv
 have hnt := hp.nt
 have hb := hm.base
 have hn := hm.next
 have hh := hm.held
 obtain ⟨i, hi⟩ := Int.eq_ofNat_of_zero_le i0
 unfold Fp F6
 rw [Tb N hp hm]
 simp only [oS, Bk]
 by_cases hk1 : s.fKind = 1
 ·have hi1 : (i : Int) < p.fVersions.length := by have := xn (by omega); omega
  rw [beq_iff_eq.2 hk1, AI, if_pos hk1]
  unfold H2
  simp only [Bk, hi, Int.toNat_natCast]
  rw [C7 (d := 0) (show i < m.fNext.length by omega)]
  simp only [oS]
  by_cases c1 : 0 ≤ m.fNext.getD i 0
  ·rw [AH c1, AI, if_pos (.inl c1)]
   exact ⟨_, rfl, fun x hx => by cases hx⟩
  ·rw [AF c1, C7 (d := 0) (show i < m.fBase.length by omega)]
   simp only [oS]
   by_cases c2 : m.fBase.getD i 0 = s.fVersion
   ·rw [beq_iff_eq.2 c2, AI, if_pos (.inr c2)]
    exact ⟨_, rfl, fun x hx => by cases hx⟩
   ·rw [beq_eq_false_iff_ne.2 c2, Av, (M0 (R := Unit) N p s m.fHeld v0 hh (by omega) hN _).1, if_neg (by rintro (h | h); exact c1 h; exact c2 h)]
    exact ⟨_, rfl, fun x hx => by cases hx; rfl⟩
 ·rw [beq_eq_false_iff_ne.2 hk1, Av, if_neg hk1]
  by_cases hk3 : s.fKind = 3
  ·have hi3 : i < p.fTables.length := by have := x3 hk3; omega
   have ht : p.fTables[i]? = some p.fTables[i] := by simp [hi3]
   rw [beq_iff_eq.2 hk3, AI, if_pos hk3, hi, Oz N hN h20 hp hm ht]
   simp only [oS, Int.toNat_natCast, ht]
   split
   ·exact ⟨_, rfl, fun x hx => by cases hx⟩
   ·exact ⟨_, rfl, fun x hx => by cases hx; rfl⟩
  ·have hi1 : (i : Int) < p.fVersions.length := by have := xn hk3; omega
   rw [beq_eq_false_iff_ne.2 hk3, Av, if_neg hk3, hi, C7 (d := 0) (show i < m.fNext.length by omega)]
   simp only [oS, Int.toNat_natCast]
   by_cases c1 : m.fNext.getD i 0 < 0
   ·rw [AH c1, if_pos c1]
    exact ⟨_, rfl, fun x hx => by cases hx⟩
   ·rw [AF c1, if_neg c1]
    by_cases hk2 : s.fKind = 2
    ·rw [beq_iff_eq.2 hk2, AI, C7 (d := 0) (show i < m.fBase.length by omega), if_pos hk2]
     exact ⟨_, rfl, fun x hx => by cases hx; rfl⟩
    ·rw [beq_eq_false_iff_ne.2 hk2, Av, if_neg hk2]
     exact ⟨_, rfl, fun x hx => by cases hx; rfl⟩
theorem OA (N : Nat) (hN : N ≤ 1000000) (h20 : 100 ≤ N) {p : Aj} {m : Ag} (hp : Cd p) (hm : Er p m) (s : Aw) : G1 N p m s = some (Eu p m s) := by
 unfold G1 Eu
 rw [Or]
 simp only [oS]
 cases hv : Hm s
 ·rw [Bool.not_false, AI, if_pos rfl]; rfl
 ·rw [Bool.not_true, Av, if_neg (by simp), Nm N p s hv]
  simp only [oS]
  cases hx : Gj p s
  ·rw [Bool.not_false, AI, if_pos rfl]; rfl
  ·rw [Bool.not_true, Av, if_neg (by simp)]
   obtain ⟨o, e, ho⟩ := K2 N hN h20 hp hm hv hx
   rw [e]
   simp only [oS]
   cases ha : F6 p m s with
   | none => rfl
   | some x => rw [ho x ha]; rfl
theorem LF (N : Nat) (hN : N ≤ 1000000) (h20 : 100 ≤ N) {p : Aj} {m : Ag} (hp : Cd p) (hm : Er p m) {s : Aw} (hv : Hm s = true) (hx : Gj p s = true) :
  CS N p m s = some (match F6 p m s with | none => (ES, false) | some x => (x, true)) := by
 obtain ⟨k1, k4, i0, v0, vk⟩ := JG hv
 obtain ⟨x3, xn, x1⟩ := KR hx
 have hnv := hp.nv
 have hnt := hp.nt
 have hb := hm.base
 have hn := hm.next
 have hh := hm.held
 obtain ⟨i, hi⟩ := Int.eq_ofNat_of_zero_le i0
 unfold CS F6
 rw [AS (by simp [Fa]; omega), AS (by simp [Fa]; omega), AS (by simp [Fa]; omega)]
 simp only [oS, Bk, List.nil_append]
 by_cases hk1 : s.fKind = 1
 ·have hi1 : (i : Int) < p.fVersions.length := by have := xn (by omega); omega
  rw [beq_iff_eq.2 hk1, AI, if_pos hk1]
  simp only [hi, Int.toNat_natCast]
  rw [C7 (d := 0) (show i < m.fNext.length by omega)]
  simp only [oS]
  by_cases c1 : 0 ≤ m.fNext.getD i 0
  ·rw [AH c1, AI, if_pos (.inl c1)]; rfl
  ·rw [AF c1, C7 (d := 0) (show i < m.fBase.length by omega)]
   simp only [oS]
   by_cases c2 : m.fBase.getD i 0 = s.fVersion
   ·rw [beq_iff_eq.2 c2.symm, AI, if_pos (.inr c2)]; rfl
   ·rw [beq_eq_false_iff_ne.2 (fun h => c2 h.symm), Av, N3 N p s m.fHeld v0 hh (by omega) hN _, if_neg (by rintro (h | h); exact c1 h; exact c2 h)]
 ·rw [beq_eq_false_iff_ne.2 hk1, Av, if_neg hk1]
  by_cases hk3 : s.fKind = 3
  ·have hi3 : i < p.fTables.length := by have := x3 hk3; omega
   have ht : p.fTables[i]? = some p.fTables[i] := by simp [hi3]
   have hin := IX (hp.tab _ (lM ht))
   have eh' : Bf m.fHeld (i : Int) = some (m.fHeld.getD i 0) := C7 (by omega)
   rw [beq_eq_false_iff_ne.2 (show s.fKind ≠ 2 by omega), Av, beq_iff_eq.2 hk3, AI, if_pos hk3, hi, Be, ht]
   simp only [oS, HZ, Int.toNat_natCast, ht]
   cases hs : CE p.fTables[i]
   ·rw [Bool.not_false, AI, if_pos (.inl rfl)]; rfl
   ·rw [Bool.not_true, Av, JX N m _ hin.1 (by omega) (by omega) (hm.b0 _ (by omega)).1, eh']
    simp only [oS]
    by_cases h1 : m.fHeld.getD i 0 = G7 m (p.fTables[i]).fFrom.toNat
    ·rw [beq_iff_eq.2 h1, AI, if_pos (.inr (.inl h1))]; rfl
    ·rw [beq_eq_false_iff_ne.2 h1, Av]
     rw [NG N hN h20 hp hm ht hs s hi]
     cases hst : Ih p m i p.fTables[i]
     ·rw [if_neg (by simp), if_neg (by rintro (h | h | h); cases h; exact h1 h; cases h)]
     ·rw [if_pos rfl, if_pos (.inr (.inr rfl))]
  ·have hi1 : (i : Int) < p.fVersions.length := by have := xn hk3; omega
   rw [if_neg hk3, hi, C7 (d := 0) (show i < m.fNext.length by omega)]
   simp only [oS, Int.toNat_natCast]
   by_cases hk2 : s.fKind = 2
   ·rw [beq_iff_eq.2 hk2, AI, if_pos hk2]
    by_cases c1 : m.fNext.getD i 0 < 0
    ·rw [AH c1, if_pos c1]; rfl
    ·rw [AF c1, if_neg c1, C7 (d := 0) (show i < m.fBase.length by omega)]; rfl
   ·rw [beq_eq_false_iff_ne.2 hk2, Av, beq_eq_false_iff_ne.2 hk3, Av, if_neg hk2]
    by_cases c1 : m.fNext.getD i 0 < 0
    ·rw [AH c1, if_pos c1]; rfl
    ·rw [AF c1, if_neg c1]
end Go.Lift
namespace Go.Lift
open Option renaming bind_some → oS
open List renaming mem_of_getElem? → lM
open List renaming getElem?_eq_some_iff → lI
open Go
theorem Rb (s : Aw) : ∀ (xs : List AV) (i : Nat) (a : List Int), i + xs.length ≤ a.length → (Gk (Tg s) i xs a).length = a.length ∧ ∀ q, (Gk (Tg s) i xs a).getD q 0 = match (if i ≤ q then xs[q - i]? else none) with
  | some t => if Sk s t = true then Oi .u8 (a.getD q 0) (CF .u8 1 s.fVersion) else a.getD q 0
  | none => a.getD q 0
 | [], i, a, _ => by
  refine ⟨rfl, fun q => ?_⟩
  split
  ·rename_i h; split at h
   ·simp at h
   ·cases h
  ·rfl
 | x :: xs, i, a, hl => by
  have hl' : i + (xs.length + 1) ≤ a.length := by simpa using hl
  have ha : (Tg s i x a).length = a.length := by unfold Tg; split <;> simp
  obtain ⟨ih1, ih2⟩ := Rb s xs (i + 1) (Tg s i x a) (by omega)
  refine ⟨by rw [Gk, ih1, ha], fun q => ?_⟩
  rw [Gk, ih2 q]
  have hu : (Tg s i x a).getD q 0 = if q = i ∧ Sk s x = true then Oi .u8 (a.getD q 0) (CF .u8 1 s.fVersion) else a.getD q 0 := by
   unfold Tg
   by_cases hc : Sk s x = true
   ·rw [if_pos hc, IQ (by omega)]
    by_cases hq : q = i
    ·subst hq; rw [if_pos rfl, if_pos ⟨rfl, hc⟩]
    ·rw [if_neg hq, if_neg (fun h => hq h.1)]
   ·rw [if_neg hc, if_neg (fun h => hc h.2)]
  by_cases h1 : i + 1 ≤ q
  ·rw [if_pos h1, if_pos (show i ≤ q by omega), hu, if_neg (by omega)]
   rw [show (x :: xs)[q - i]? = xs[q - (i + 1)]? from by rw [show q - i = (q - (i + 1)) + 1 from by omega, List.getElem?_cons_succ]]
  ·rw [if_neg h1]
   by_cases h2 : q = i
   ·subst h2
    rw [if_pos (Nat.le_refl _), Nat.sub_self, hu]
    simp
   ·rw [if_neg (show ¬ i ≤ q by omega), hu, if_neg (by omega)]
theorem ST {p : Aj} {s : Aw} {held : List Int} (hl : held.length = p.fTables.length) : (IV p s held).length = p.fTables.length ∧ ∀ q t, p.fTables[q]? = some t → (IV p s held).getD q 0 = if Sk s t = true then Oi .u8 (held.getD q 0) (CF .u8 1 s.fVersion) else held.getD q 0 := by
 obtain ⟨h1, h2⟩ := Rb s p.fTables 0 held (by omega)
 refine ⟨h1.trans hl, fun q t ht => ?_⟩
 have := h2 q
 rw [if_pos (Nat.zero_le _), Nat.sub_zero, ht] at this
 exact this
theorem N2 {m : Ag} {s v : Nat} : II m s v = true ↔ m.fBase.getD s 0 = (v : Int) ∨ m.fNext.getD s 0 = (v : Int) := by
 unfold II; rw [Bool.or_eq_true, decide_eq_true_iff, decide_eq_true_iff]
theorem TG {p : Aj} {m x : Ag} (hp : Cd p) (hm : Er p m) {s : Aw} (hv : Hm s = true) (hx : Gj p s = true) (h : F6 p m s = some x) : Er p x := by
 obtain ⟨k1, k4, i0, v0, vk⟩ := JG hv
 obtain ⟨x3, xn, x1⟩ := KR hx
 obtain ⟨i, hi⟩ := Int.eq_ofNat_of_zero_le i0
 have hb := hm.base
 have hn := hm.next
 have hh := hm.held
 unfold F6 at h
 simp only [hi, Int.toNat_natCast] at h
 rw [hi, Int.toNat_natCast] at x1
 split at h
 ·rename_i hk1
  have hi1 : i < p.fVersions.length := by have := xn (by omega); omega
  have hx1 := x1 hk1
  have hvi := Kz hp hi1
  split at h
  ·cases h
  rename_i hc
  cases h
  obtain ⟨u1, u2⟩ := ST (s := s) hh
  obtain ⟨b, hbv⟩ := Int.eq_ofNat_of_zero_le v0
  have hob := Vl (b := b) (by omega)
  have hN : ∀ q, (m.fNext.set i s.fVersion).getD q 0 = if q = i then s.fVersion else m.fNext.getD q 0 := fun q => IQ (by omega)
  refine { base := hb, next := by simpa using hn, held := u1, b0 := hm.b0, n0 := fun q hq => ?_, ne := fun q hq => ?_, range := fun q hq => ?_, low := fun q t ht hs v hr => ?_, high := fun q t ht hs v hbit => ?_, none := fun q t ht hs => ?_ }
  ·show -1 ≤ (m.fNext.set i s.fVersion).getD q 0 ∧ (m.fNext.set i s.fVersion).getD q 0 < _
   rw [hN q]
   split
   ·rename_i e; subst e; omega
   ·exact hm.n0 q hq
  ·show m.fBase.getD q 0 ≠ (m.fNext.set i s.fVersion).getD q 0
   rw [hN q]
   split
   ·rename_i e; subst e; exact fun h => hc (.inr h)
   ·exact hm.ne q hq
  ·have ht : p.fTables[q]? = some p.fTables[q] := by simp [hq]
   show 0 ≤ (IV p s m.fHeld).getD q 0 ∧ (IV p s m.fHeld).getD q 0 ≤ 255
   rw [u2 q _ ht, hbv]
   split
   ·exact (RF (hm.range q hq) hob.2).2
   ·exact hm.range q hq
  ·have hq := (lI.1 ht).1
   show D7 ((IV p s m.fHeld).getD q 0) v = true
   have hin := IX (hp.tab t (lM ht))
   rw [N2] at hr
   have hr : m.fBase.getD t.fFrom.toNat 0 = (v : Int) ∨ (m.fNext.set i s.fVersion).getD t.fFrom.toNat 0 = (v : Int) := hr
   rw [hN] at hr
   rw [u2 q t ht, hbv]
   have hlow := hm.low q t ht hs v
   rw [N2] at hlow
   by_cases hf : t.fFrom.toNat = i
   ·have hup : Sk s t = true := by unfold Sk; rw [hs, Bool.and_true, beq_iff_eq, hi]; omega
    rw [if_pos hup, (RF (hm.range q hq) hob.2).1, hob.1 v, Bool.or_eq_true, decide_eq_true_iff]
    rw [if_pos hf] at hr
    rcases hr with h | h
    ·exact .inl (hlow (.inl h))
    ·right; omega
   ·rw [if_neg hf] at hr
    have hup : Sk s t = false := by unfold Sk; rw [hs, Bool.and_true, beq_eq_false_iff_ne, hi]; omega
    rw [hup, if_neg (by simp)]
    exact hlow hr
  ·have hq := (lI.1 ht).1
   have hbit : D7 ((IV p s m.fHeld).getD q 0) v = true := hbit
   have hin := IX (hp.tab t (lM ht))
   rw [u2 q t ht, hbv] at hbit
   split at hbit
   ·rename_i hup
    rw [(RF (hm.range q hq) hob.2).1, hob.1 v, Bool.or_eq_true, decide_eq_true_iff] at hbit
    rcases hbit with h | h
    ·exact hm.high q t ht hs v h
    ·unfold Sk at hup
     rw [hs, Bool.and_true, beq_iff_eq, hi] at hup
     rw [hup, Int.toNat_natCast]; omega
   ·exact hm.high q t ht hs v hbit
  ·show (IV p s m.fHeld).getD q 0 = 0
   have hup : Sk s t = false := by unfold Sk; rw [hs, Bool.and_false]
   rw [u2 q t ht, hup, if_neg (by simp)]
   exact hm.none q t ht hs
 ·rename_i hk1
  split at h
  ·rename_i hk3
   have hi3 : i < p.fTables.length := by have := x3 hk3; omega
   have ht0 : p.fTables[i]? = some p.fTables[i] := by simp [hi3]
   rw [ht0] at h
   simp only at h
   split at h
   ·cases h
   rename_i hc
   cases h
   have hin0 := IX (hp.tab _ (lM ht0))
   have hr0 := H9 hp hm.toMixServ (s := (p.fTables[i]).fFrom.toNat) (by omega)
   have hs0 : CE p.fTables[i] = true := by
    cases hs : CE p.fTables[i]
    ·exact (hc (.inl hs)).elim
    ·rfl
   have hH : ∀ q, (m.fHeld.set i (G7 m (p.fTables[i]).fFrom.toNat)).getD q 0 = if q = i then G7 m (p.fTables[i]).fFrom.toNat else m.fHeld.getD q 0 := fun q => IQ (by omega)
   refine { base := hb, next := hn, held := by simpa using hh, b0 := hm.b0, n0 := hm.n0, ne := hm.ne, range := fun q hq => ?_, low := fun q t ht hs v hr => ?_, high := fun q t ht hs v hbit => ?_, none := fun q t ht hs => ?_ }
   ·show 0 ≤ (m.fHeld.set i (G7 m (p.fTables[i]).fFrom.toNat)).getD q 0 ∧ (m.fHeld.set i (G7 m (p.fTables[i]).fFrom.toNat)).getD q 0 ≤ 255
    rw [hH q]
    split
    ·exact hr0.2
    ·exact hm.range q hq
   ·show D7 ((m.fHeld.set i (G7 m (p.fTables[i]).fFrom.toNat)).getD q 0) v = true
    have hr : II m t.fFrom.toNat v = true := hr
    rw [hH q]
    split
    ·rename_i e; subst e
     rw [ht0] at ht; cases ht
     rw [hr0.1]; exact hr
    ·exact hm.low q t ht hs v hr
   ·have hbit : D7 ((m.fHeld.set i (G7 m (p.fTables[i]).fFrom.toNat)).getD q 0) v = true := hbit
    rw [hH q] at hbit
    split at hbit
    ·rename_i e; subst e
     rw [ht0] at ht; cases ht
     rw [hr0.1] at hbit
     exact hm.high q _ ht0 hs0 v (hm.low q _ ht0 hs0 v hbit)
    ·exact hm.high q t ht hs v hbit
   ·show (m.fHeld.set i (G7 m (p.fTables[i]).fFrom.toNat)).getD q 0 = 0
    rw [hH q, if_neg (fun e => by subst e; rw [ht0] at ht; cases ht; rw [hs0] at hs; cases hs)]
    exact hm.none q t ht hs
  ·rename_i hk3
   have hi1 : i < p.fVersions.length := by have := xn hk3; omega
   have hvi := Kz hp hi1
   split at h
   ·cases h
   rename_i hc
   cases h
   have hN : ∀ q, (m.fNext.set i (-1)).getD q 0 = if q = i then -1 else m.fNext.getD q 0 := fun q => IQ (by omega)
   have hB : ∀ q, (if s.fKind = 2 then m.fBase.set i (m.fNext.getD i 0) else m.fBase).getD q 0 = if s.fKind = 2 ∧ q = i then m.fNext.getD i 0 else m.fBase.getD q 0 := fun q => by
    by_cases hk2 : s.fKind = 2
    ·rw [if_pos hk2, IQ (by omega)]
     by_cases e : q = i
     ·rw [if_pos e, if_pos ⟨hk2, e⟩]
     ·rw [if_neg e, if_neg (fun h => e h.2)]
    ·rw [if_neg hk2, if_neg (fun h => hk2 h.1)]
   have hrun : ∀ q v, II ⟨if s.fKind = 2 then m.fBase.set i (m.fNext.getD i 0) else m.fBase, m.fNext.set i (-1), m.fHeld⟩ q v = true → II m q v = true := fun q v hr => by
    rw [N2] at hr ⊢
    simp only [hN q, hB q] at hr
    by_cases e : q = i
    ·subst e
     rw [if_pos rfl] at hr
     by_cases hk2 : s.fKind = 2
     ·rw [if_pos ⟨hk2, rfl⟩] at hr; omega
     ·rw [if_neg (fun h => hk2 h.1)] at hr; omega
    ·rw [if_neg e, if_neg (fun h => e h.2)] at hr; exact hr
   refine { base := by simp only; split <;> simp [hb], next := by simpa using hn, held := hh, b0 := fun q hq => ?_, n0 := fun q hq => ?_, ne := fun q hq => ?_, range := hm.range, low := fun q t ht hs v hr => hm.low q t ht hs v (hrun _ _ hr), high := hm.high, none := hm.none }
   ·simp only [hB q]
    split
    ·rename_i e; obtain ⟨_, e⟩ := e; subst e
     have := hm.n0 q hq
     omega
    ·exact hm.b0 q hq
   ·simp only [hN q]
    split
    ·rename_i e; subst e; omega
    ·exact hm.n0 q hq
   ·simp only [hB q, hN q]
    have h1 := hm.b0 q hq
    by_cases e : q = i
    ·rw [if_pos e]
     split
     ·rename_i e2; obtain ⟨_, e2⟩ := e2; subst e2; omega
     ·omega
    ·rw [if_neg e, if_neg (fun h => e h.2)]; exact hm.ne q hq
theorem PI (N : Nat) (hN : N ≤ 1000000) (h20 : 100 ≤ N) {p : Aj} {m : Ag} (hw : Iu JR m.fHeld) (s : Aw) : Eo N p m s = some (if CW p m = 0 then Eu p m s else (ES, CW p m)) := by
 unfold Eo Eu
 rw [JL N p m hN (by omega)]
 simp only [oS, Bk]
 by_cases hval : CW p m = 0
 ·obtain ⟨hp, hm⟩ := Fw hw hval
  rw [if_pos hval, hval, bne_self_eq_false, Av, PT]
  simp only [oS]
  cases hv : Hm s
  ·rw [Bool.not_false, AI, if_pos rfl]; rfl
  ·rw [Bool.not_true, Av, if_neg (by simp)]
   obtain ⟨k1, k4, i0, v0, vk⟩ := JG hv
   have key : ∀ b : Bool, Gj p s = b → (if b = false then (ES, (4 : Int)) else match F6 p m s with | none => (ES, 11) | some x => (x, 0)) = (if b = false then (ES, (4 : Int)) else match F6 p m s with | none => (ES, 11) | some x => (x, 0)) := fun _ _ => rfl
   have tail : Gj p s = true → ((CS N p m s).bind fun v15 => AT (!v15.2) (some (Ag.mk [] [] [], (11 : Int))) (some (v15.1, 0))) = some (match F6 p m s with | none => (ES, 11) | some x => (x, 0)) := fun hx => by
    rw [LF N hN h20 hp hm hv hx]
    cases F6 p m s <;> rfl
   have zz : (Ag.mk [] [] [], (4 : Int)) = (ES, 4) := rfl
   by_cases hk3 : s.fKind = 3
   ·rw [beq_iff_eq.2 hk3, AI, show (s.fKind != 3) = false from by rw [hk3]; rfl]
    have hX : Gj p s = decide (s.fIndex < (p.fTables.length : Int)) := by unfold Gj; rw [if_pos hk3]
    by_cases c : (p.fTables.length : Int) ≤ s.fIndex
    ·rw [AH c, AI, hX, decide_eq_false (by omega), if_pos rfl]; rfl
    ·have hx : Gj p s = true := by rw [hX, decide_eq_true (by omega)]
     rw [AF c, Av, Av, beq_eq_false_iff_ne.2 (show s.fKind ≠ 1 by omega), Av, Av, hx, if_neg (by simp)]
     exact tail hx
   ·rw [beq_eq_false_iff_ne.2 hk3, Av, bne_iff_ne.2 hk3, AI]
    have hX : Gj p s = (decide (s.fIndex < (p.fVersions.length : Int)) && (s.fKind != 1 || decide (s.fVersion < p.fVersions.getD s.fIndex.toNat 0))) := by unfold Gj; rw [if_neg hk3]
    by_cases c : (p.fVersions.length : Int) ≤ s.fIndex
    ·rw [decide_eq_true c, AI, hX, decide_eq_false (show ¬ s.fIndex < (p.fVersions.length : Int) by omega), Bool.false_and, if_pos rfl]; rfl
    ·rw [decide_eq_false c, Av]
     by_cases hk1 : s.fKind = 1
     ·rw [beq_iff_eq.2 hk1, AI, Fc (d := 0) i0 (by omega)]
      simp only [oS]
      by_cases c2 : p.fVersions.getD s.fIndex.toNat 0 ≤ s.fVersion
      ·rw [decide_eq_true c2, AI, hX, decide_eq_false (show ¬ s.fVersion < p.fVersions.getD s.fIndex.toNat 0 by omega), show (s.fKind != 1) = false from by rw [hk1]; rfl, Bool.false_or, Bool.and_false, if_pos rfl]; rfl
      ·have hx : Gj p s = true := by rw [hX, decide_eq_true (by omega), decide_eq_true (by omega), Bool.or_true]; rfl
       rw [decide_eq_false c2, Av, hx, if_neg (by simp)]
       exact tail hx
     ·have hx : Gj p s = true := by rw [hX, decide_eq_true (by omega), bne_iff_ne.2 hk1]; rfl
      rw [beq_eq_false_iff_ne.2 hk1, Av, Av, hx, if_neg (by simp)]
      exact tail hx
 ·rw [if_neg hval, bne_iff_ne.2 hval, AI]; rfl
theorem OE (N : Nat) (hN : N ≤ 1000000) (h20 : 100 ≤ N) {p : Aj} {m : Ag} (hw : Iu JR m.fHeld) (s : Aw) : Fk N p m s = some (if CW p m = 0 then Eu p m s else (ES, CW p m)) := by
 unfold Fk
 rw [HK N p m hN (by omega) hw]
 simp only [oS]
 by_cases hval : CW p m = 0
 ·obtain ⟨hp, hm⟩ := Fw hw hval
  rw [if_pos hval, hval, bne_self_eq_false, Av, OA N hN h20 hp hm s]; rfl
 ·rw [if_neg hval, bne_iff_ne.2 hval, AI]; rfl
theorem Mm {p : Aj} {m : Ag} (hp : Cd p) (hm : Er p m) {s : Aw} (h : (Eu p m s).2 = 0) : Er p (Eu p m s).1 := by
 unfold Eu at h ⊢
 split at h
 ·cases h
 rename_i h1
 rw [if_neg h1]
 split at h
 ·cases h
 rename_i h2
 rw [if_neg h2]
 cases ha : F6 p m s with
 | none => rw [ha] at h; cases h
 | some x => exact TG hp hm (by simpa using h1) (by simpa using h2) ha
end Go.Lift
namespace Go.Lift
open Go
section
variable {N : Nat} {p : Aj} {l : List Aw}
end
end Go.Lift
namespace Go.Lift
open Go
structure Xe (p : Aj) (m x : Ag) : Prop where
 base : m.fBase = x.fBase
 next : m.fNext = x.fNext
 held : ∀ i, i < p.fTables.length → ∀ v, D7 (m.fHeld.getD i 0) v = true → D7 (x.fHeld.getD i 0) v = true
theorem Xe.refl (p : Aj) (m : Ag) : Xe p m m := ⟨rfl, rfl, fun _ _ _ h => h⟩
theorem Xe.trans {p : Aj} {a b c : Ag} (h : Xe p a b) (g : Xe p b c) : Xe p a c := ⟨h.base.trans g.base, h.next.trans g.next, fun i hi v hv => g.held i hi v (h.held i hi v hv)⟩
end Go.Lift
namespace Go.Lift
open Option renaming bind_some → oS
open List renaming mem_of_getElem? → lM
open List renaming getElem?_eq_some_iff → lI
open Go
def L8 (i : Nat) (n : Int) : List Aw := (List.range n.toNat).map fun v => ⟨1, (i : Int), ((v : Nat) : Int), ⟩
def GY (p : Aj) : List Aw := DA L8 0 p.fVersions ++ ((List.range p.fVersions.length).map fun i => (⟨2, ((i : Nat) : Int), 0⟩ : Aw)) ++ ((List.range p.fTables.length).map fun i => (⟨3, ((i : Nat) : Int), 0⟩ : Aw))
def Ga (p : Aj) (m : Ag) : List Aw := (GY p).filter fun s => (Eu p m s).2 == 0
theorem Sf {p : Aj} (hp : Cd p) : (GY p).length ≤ 54 := by
 have h1 : (DA L8 0 p.fVersions).length ≤ 6 * p.fVersions.length := FA fun j x hx => by
  have := hp.ver x (lM hx)
  simp [L8]; omega
 have := hp.nv
 have := hp.nt
 unfold GY
 simp only [List.length_append, List.length_map, List.length_range]
 omega
theorem P8 (N : Nat) (hN : N ≤ 1000000) (h20 : 100 ≤ N) {p : Aj} (hp : Cd p) : H5 N p = some (GY p) := by
 have hnv := hp.nv
 have hnt := hp.nt
 unfold H5
 have l1 := F4 (De N p fun v2 => CA N p (fun v10 => BL N p (fun v14 => some v14) N (v10, 0)) N (v2, 0)) (fun a i => (a, i)) p.fVersions (fun v2 => CA N p (fun v10 => BL N p (fun v14 => some v14) N (v10, 0)) N (v2, 0)) L8 6 100
  (fun i x hx => by have := hp.ver x (lM hx); simp [L8]; omega)
  (fun n i x a hx hl => by
   have hi := (lI.1 hx).1
   have hx6 := hp.ver x (lM hx)
   obtain ⟨k, hk⟩ := Int.eq_ofNat_of_zero_le (show 0 ≤ x by omega)
   rw [De, AH (by simp only; omega)]
   simp only [Be, hx, oS, AZ (show i < 1000000 by omega)]
   subst hk
   obtain ⟨a', e, ha⟩ := Gb (En N (a, (i : Int)) (k : Int) fun v6 => De N p (fun v2 => CA N p (fun v10 => BL N p (fun v14 => some v14) N (v10, 0)) N (v2, 0)) n (v6, ((i + 1 : Nat) : Int))) (fun b v => (b, v)) k (fun v6 => De N p (fun v2 => CA N p (fun v10 => BL N p (fun v14 => some v14) N (v10, 0)) N (v2, 0)) n (v6, ((i + 1 : Nat) : Int)))
    (fun v b => b = a ++ (List.range v).map fun v => (⟨1, (i : Int), ((v : Nat) : Int)⟩ : Aw))
    (fun n v b hv hb => by
     subst hb
     rw [En, AH (by simp only; omega), AS (by simp [Fa]; simp [L8] at hl; omega), AZ (by omega)]
     exact ⟨_, rfl, by rw [List.range_succ, List.map_append, List.append_assoc]; rfl⟩)
    (fun n b hb => by rw [En, AF (by simp)]) N 0 a (Nat.zero_le _) (by omega) (by simp)
   have e' : En N (a, (i : Int)) (k : Int) (fun v6 => De N p (fun v2 => CA N p (fun v10 => BL N p (fun v14 => some v14) N (v10, 0)) N (v2, 0)) n (v6, ((i + 1 : Nat) : Int))) N (a, 0) = _ := e
   rw [e', ha]; rfl)
  (fun n a => by rw [De, AF (by simp)]) N [] (by omega) (by simp; omega)
 have l1' : De N p (fun v2 => CA N p (fun v10 => BL N p (fun v14 => some v14) N (v10, 0)) N (v2, 0)) N (([] : List Aw), 0) = _ := l1
 rw [l1', List.nil_append]
 have hA : (DA L8 0 p.fVersions).length ≤ 6 * p.fVersions.length := FA fun j x hx => by
  have := hp.ver x (lM hx)
  simp [L8]; omega
 generalize hAe : DA L8 0 p.fVersions = A at hA
 obtain ⟨b', e2, hb⟩ := Gb (CA N p fun v10 => BL N p (fun v14 => some v14) N (v10, 0)) (fun b v => (b, v)) p.fVersions.length (fun v10 => BL N p (fun v14 => some v14) N (v10, 0))
  (fun v b => b = A ++ (List.range v).map fun i => (⟨2, ((i : Nat) : Int), 0⟩ : Aw))
  (fun n v b hv hb => by
   subst hb
   rw [CA, AH (by simp only; omega), AS (by simp [Fa]; omega), AZ (by omega)]
   exact ⟨_, rfl, by rw [List.range_succ, List.map_append, List.append_assoc]; rfl⟩)
  (fun n b hb => by rw [CA, AF (by simp)]) N 0 A (Nat.zero_le _) (by omega) (by simp)
 have e2' : CA N p (fun v10 => BL N p (fun v14 => some v14) N (v10, 0)) N (A, 0) = _ := e2
 rw [e2', hb]
 generalize hBe : A ++ (List.range p.fVersions.length).map (fun i => (⟨2, ((i : Nat) : Int), 0⟩ : Aw)) = B
 have hB : B.length ≤ 50 := by rw [← hBe]; simp; omega
 obtain ⟨c', e3, hc⟩ := Gb (BL N p fun v14 => some v14) (fun b v => (b, v)) p.fTables.length (fun v14 => some v14)
  (fun v b => b = B ++ (List.range v).map fun i => (⟨3, ((i : Nat) : Int), 0⟩ : Aw))
  (fun n v b hv hb => by
   subst hb
   rw [BL, AH (by simp only; omega), AS (by simp [Fa]; omega), AZ (by omega)]
   exact ⟨_, rfl, by rw [List.range_succ, List.map_append, List.append_assoc]; rfl⟩)
  (fun n b hb => by rw [BL, AF (by simp)]) N 0 B (Nat.zero_le _) (by omega) (by simp)
 have e3' : BL N p (fun v14 => some v14) N (B, 0) = _ := e3
 rw [e3', hc, ← hBe, ← hAe]; rfl
end Go.Lift
namespace Go.Lift
open Option renaming bind_some → oS
open List renaming mem_of_getElem? → lM
open List renaming getElem?_eq_some_iff → lI
open List renaming getD_eq_getElem?_getD → lD
open Go
theorem Pc {p : Aj} (hp : Cd p) {s : Aw} (h : s ∈ GY p) : Hm s = true ∧ Gj p s = true := by
 have hnv := hp.nv
 unfold GY at h
 rcases List.mem_append.1 h with h | h
 ·rcases List.mem_append.1 h with h | h
  ·obtain ⟨j, x, hx, hk⟩ := KN.1 h
   rw [Nat.zero_add] at hk
   unfold L8 at hk
   obtain ⟨v, hv, rfl⟩ := List.mem_map.1 hk
   have hx6 := hp.ver x (lM hx)
   have hv := List.mem_range.1 hv
   have hj := (lI.1 hx).1
   refine ⟨by unfold Hm; simp, ?_⟩
   unfold Gj
   have e : p.fVersions.getD j 0 = x := by rw [lD, hx]; rfl
   simp only
   rw [if_neg (by omega), decide_eq_true (by omega), Int.toNat_natCast, e, decide_eq_true (by omega), Bool.or_true]; rfl
  ·obtain ⟨v, hv, rfl⟩ := List.mem_map.1 h
   have hv := List.mem_range.1 hv
   refine ⟨by unfold Hm; simp, ?_⟩
   unfold Gj
   simp only
   rw [if_neg (by omega), decide_eq_true (by omega)]; rfl
 ·obtain ⟨v, hv, rfl⟩ := List.mem_map.1 h
  have hv := List.mem_range.1 hv
  refine ⟨by unfold Hm; simp, ?_⟩
  unfold Gj
  simp only
  rw [if_pos trivial, decide_eq_true (by omega)]
theorem Tm {p : Aj} {m : Ag} {s : Aw} (hv : Hm s = true) (hx : Gj p s = true) : ((Eu p m s).2 == 0) = (F6 p m s).isSome := by
 unfold Eu
 rw [hv, hx, if_neg (by simp), if_neg (by simp)]
 cases F6 p m s <;> rfl
theorem Q5 (N : Nat) (hN : N ≤ 1000000) (h20 : 100 ≤ N) {p : Aj} {m : Ag} (hp : Cd p) (hm : Er p m) {s : Aw} (h : s ∈ GY p) :
  Dw N s p.fVersions p.fNow p.fTarget p.fTables m.fBase m.fNext m.fHeld = some (!((Eu p m s).2 == 0)) := by
 obtain ⟨hv, hx⟩ := Pc hp h
 unfold Dw
 obtain ⟨o, e, _⟩ := K2 N hN h20 hp hm hv hx
 have e' : Fp N ⟨p.fVersions, p.fNow, p.fTarget, p.fTables⟩ ⟨m.fBase, m.fNext, m.fHeld⟩ s = some (o, (F6 p m s).isSome) := e
 rw [e', Tm hv hx]; rfl
theorem Rv (N : Nat) (hN : N ≤ 1000000) (a : List Aw) (f : Aw → Option Bool) (g : Aw → Bool) (h : a.length < N) (hf : ∀ x, x ∈ a → f x = some (g x)) :
  B0 N a f = some ((Dk (fun i x => if g x = true then some (i : Int) else none) 0 a).getD (-1)) := by
 unfold B0
 have := CY (Bl N a f fun _ => some (-1)) a (some (-1)) (fun i x => if g x = true then some (i : Int) else none)
  (fun n i x hx => by
   have hi := (lI.1 hx).1
   rw [Bl, AH (by omega), Be, hx]
   simp only [oS]
   rw [hf x (lM hx), AZ (by omega)]
   simp only [oS]
   cases g x <;> rfl)
  (fun n => by rw [Bl, AF (by simp)]) N 0 (Nat.zero_le _) (by omega)
 refine this.trans ?_
 rw [List.drop_zero]
 cases Dk (fun i x => if g x = true then some (i : Int) else none) 0 a <;> rfl
theorem Oj {α : Type} {l : List α} {i : Nat} {v : α} (h : i < l.length) : (l.set i v).take (i + 1) = l.take i ++ [v] := by
 rw [List.take_add_one, List.take_set_of_le (Nat.le_refl i)]
 congr 1
 simp [h]
theorem QU (N : Nat) (hN : N ≤ 1000000) (a : List Aw) (f : Aw → Option Bool) (g : Aw → Bool) (h : a.length < N) (h9 : a.length ≤ 1000) (hf : ∀ x, x ∈ a → f x = some (g x)) :
  ∃ X n, BX N a f = some (n, X) ∧ n ≤ X.length ∧ X.take n = a.filter fun x => !g x := by
 unfold BX
 rw [Rv N hN a f g h hf]
 simp only [oS]
 cases hs : Dk (fun i x => if g x = true then some (i : Int) else none) 0 a with
 | none =>
  refine ⟨a, a.length, rfl, Nat.le_refl _, ?_⟩
  rw [List.take_length]
  symm
  rw [List.filter_eq_self]
  intro x hx
  obtain ⟨j, hj⟩ := List.mem_iff_getElem?.1 hx
  have := GH hs j x hj
  cases hg : g x
  ·rfl
  ·rw [hg] at this; cases this
 | some r =>
  obtain ⟨j, x, hx, hr⟩ := ED hs
  rw [Nat.zero_add] at hr
  split at hr
  ·rename_i hg
   cases hr
   have hj := (lI.1 hx).1
   have e0 : ((some (j : Int)).getD (-1) == (-1 : Int)) = false := beq_eq_false_iff_ne.2 (by simp only [Option.getD_some]; omega)
   rw [e0, Av]
   simp only [Option.getD_some]
   rw [AZ (by omega)]
   -- what lies before the first that goes is kept
   have hpre : (a.take (j + 1)).filter (fun x => !g x) = a.take j := by
    rw [List.take_add_one, hx, List.filter_append]
    have h1 : (a.take j).filter (fun x => !g x) = a.take j := by
     rw [List.filter_eq_self]
     intro y hy
     obtain ⟨q, hq⟩ := List.mem_iff_getElem?.1 hy
     have hql := (lI.1 hq).1
     simp at hql
     rw [List.getElem?_take_of_lt (by omega)] at hq
     cases hgy : g y
     ·rfl
     ·exfalso
      have : ∀ (xs : List Aw) (i j q : Nat) (y : Aw), Dk (fun i x => if g x = true then some (i : Int) else none) i xs = some ((i + j : Nat) : Int) → q < j → xs[q]? = some y → g y = true → False := by
       intro xs
       induction xs with
       | nil => intro i j q y _ _ hq; simp at hq
       | cons z zs ih =>
        intro i j q y hs hqj hq hgy
        rw [GK] at hs
        cases hz : g z
        ·rw [hz] at hs
         cases q with
         | zero => simp at hq; subst hq; rw [hz] at hgy; cases hgy
         | succ q =>
          cases j with
          | zero => omega
          | succ j => exact ih (i + 1) j q y (by rw [show i + 1 + j = i + (j + 1) from by omega]; exact hs) (by omega) (by simpa using hq) hgy
        ·rw [hz] at hs
         have hs : (some (i : Int)) = some ((i + j : Nat) : Int) := hs
         have := Option.some.inj hs
         omega
      exact this a 0 j q y (by rw [Nat.zero_add]; exact hs) (by omega) hq hgy
    rw [h1]
    simp [hg]
   obtain ⟨b, e, hb⟩ := Gb (Bc N f fun v4 => (EJ ((0 : Int) ≤ v4.2 ∧ (v4.2).toNat ≤ v4.1.length ∧ v4.1.length ≤ v4.1.length)).bind fun _ =>
     (EJ ((0 : Int) ≤ v4.2 ∧ 0 ≤ (v4.2).toNat ∧ (v4.2).toNat ≤ (HQ v4.1 ((v4.2).toNat) (List.replicate ((v4.1.length - (v4.2).toNat)) ((Aw.mk 0 0 0)))).length)).bind fun _ =>
     some ((v4.2).toNat, HQ v4.1 ((v4.2).toNat) (List.replicate ((v4.1.length - (v4.2).toNat)) ((Aw.mk 0 0 0)))))
    (fun (b : List Aw × Nat) i => (b.1, ((b.2 : Nat) : Int), i)) a.length (fun b => (EJ ((0 : Int) ≤ ((b.2 : Nat) : Int) ∧ (((b.2 : Nat) : Int)).toNat ≤ b.1.length ∧ b.1.length ≤ b.1.length)).bind fun _ =>
     (EJ ((0 : Int) ≤ ((b.2 : Nat) : Int) ∧ 0 ≤ (((b.2 : Nat) : Int)).toNat ∧ (((b.2 : Nat) : Int)).toNat ≤ (HQ b.1 ((((b.2 : Nat) : Int)).toNat) (List.replicate ((b.1.length - (((b.2 : Nat) : Int)).toNat)) ((Aw.mk 0 0 0)))).length)).bind fun _ =>
     some ((((b.2 : Nat) : Int)).toNat, HQ b.1 ((((b.2 : Nat) : Int)).toNat) (List.replicate ((b.1.length - (((b.2 : Nat) : Int)).toNat)) ((Aw.mk 0 0 0)))))
    (fun i b => b.1.length = a.length ∧ b.2 ≤ i ∧ b.1.drop i = a.drop i ∧ b.1.take b.2 = (a.take i).filter fun x => !g x)
    (fun n i b hi hb => by
     obtain ⟨b1, b2, b3, b4⟩ := hb
     rw [Bc, AH (by simp only; omega)]
     have hai : a[i]? = some a[i] := by simp [hi]
     have hbi : b.1[i]? = some a[i] := by
      have := congrArg (fun l => l[0]?) b3
      simp only [List.getElem?_drop, Nat.add_zero] at this
      rw [this, hai]
     simp only [Bk, Be, hbi, oS]
     rw [hf a[i] (List.getElem_mem hi), AZ (i := i) (by omega)]
     simp only [oS]
     have hnext : b.1.drop (i + 1) = a.drop (i + 1) := by
      have := congrArg (List.drop 1) b3
      rwa [List.drop_drop, List.drop_drop] at this
     cases hgi : g a[i]
     ·rw [Bool.not_false, AI]
      have hbj : b.1[b.2]? = some b.1[b.2] := by simp [show b.2 < b.1.length from by omega]
      rw [hbj, AZ (i := b.2) (by omega)]
      refine ⟨(b.1.set b.2 a[i], b.2 + 1), rfl, by simpa using b1, by simp only; omega, ?_, ?_⟩
      ·simp only
       rw [List.drop_set_of_lt (by omega), hnext]
      ·simp only
       rw [Oj (by omega), b4, List.take_add_one, hai, List.filter_append]
       simp [hgi]
     ·rw [Bool.not_true, Av]
      refine ⟨b, rfl, b1, by omega, hnext, ?_⟩
      rw [b4, List.take_add_one, hai, List.filter_append]
      simp [hgi])
    (fun n b hb => by rw [Bc, AF (by simp [hb.1])]) N (j + 1) (a, j) (by omega) (by omega) ⟨rfl, by simp only; omega, rfl, hpre.symm⟩
   obtain ⟨b1, b2, b3, b4⟩ := hb
   have e' : Bc N f (fun v4 => (EJ ((0 : Int) ≤ v4.2 ∧ (v4.2).toNat ≤ v4.1.length ∧ v4.1.length ≤ v4.1.length)).bind fun _ =>
     (EJ ((0 : Int) ≤ v4.2 ∧ 0 ≤ (v4.2).toNat ∧ (v4.2).toNat ≤ (HQ v4.1 ((v4.2).toNat) (List.replicate ((v4.1.length - (v4.2).toNat)) ((Aw.mk 0 0 0)))).length)).bind fun _ =>
     some ((v4.2).toNat, HQ v4.1 ((v4.2).toNat) (List.replicate ((v4.1.length - (v4.2).toNat)) ((Aw.mk 0 0 0))))) N (a, (j : Int), ((j + 1 : Nat) : Int)) = _ := e
   rw [e']
   have hsl : (HQ b.1 b.2 (List.replicate (b.1.length - b.2) (Aw.mk 0 0 0))).length = b.1.length := IR (by rw [List.length_replicate]; omega)
   simp only [Int.toNat_natCast]
   rw [AS ⟨by omega, by omega, Nat.le_refl _⟩, AS ⟨by omega, by omega, by rw [hsl]; omega⟩]
   refine ⟨_, _, rfl, by rw [hsl]; omega, ?_⟩
   unfold HQ
   rw [List.append_assoc, List.take_append_of_le_length (by simp; omega), List.take_take, Nat.min_self, b4, List.take_length]
  ·cases hr
theorem RE (N : Nat) (hN : N ≤ 1000000) (h20 : 100 ≤ N) {p : Aj} {m : Ag} (hv : Ce p = 0) (hm : Er p m) : DE N p m = some (Ga p m, 0) := by
 obtain ⟨hp, _⟩ := DM hv
 unfold DE
 rw [HK N p m hN (by omega) (QG hm), LX hv hm]
 simp only [oS, bne_self_eq_false, Av]
 rw [P8 N hN h20 hp]
 simp only [oS]
 have hl := Sf hp
 obtain ⟨X, n, e, h1, h2⟩ := QU N hN (GY p) (fun x => Dw N x p.fVersions p.fNow p.fTarget p.fTables m.fBase m.fNext m.fHeld) (fun s => !((Eu p m s).2 == 0)) (by omega) (by omega) (fun x hx => Q5 N hN h20 hp hm hx)
 rw [e]
 simp only [oS]
 rw [AS h1, h2]
 unfold Ga
 simp
theorem Ie {β : Type} (g : Nat → List β) : ∀ n : Nat, DA (fun i (_ : Nat) => g i) 0 (List.range n) = (List.range n).flatMap g
 | 0 => rfl
 | n + 1 => by rw [List.range_succ, LM, Ie g n, List.flatMap_append]; simp [DA]
def UY (p : Aj) (m : Ag) (s : Aw) : Bool := (Eu p m s).2 == 0
def gS (p : Aj) (m : Ag) (k : Int) (i v : Nat) : List Aw := if UY p m ⟨k, (i : Int), (v : Int)⟩ = true then [⟨k, (i : Int), (v : Int)⟩] else []
def bS (p : Aj) (m : Ag) (k : Int) (i : Nat) : List Aw := (List.range 6).flatMap (gS p m k i)
def RC (p : Aj) : Nat := max p.fVersions.length p.fTables.length
def kS (p : Aj) (m : Ag) (k : Int) : List Aw := (List.range (RC p)).flatMap (bS p m k)
theorem KG {β : Type} (f : Nat → β) (q : β → Bool) : ∀ n : Nat, ((List.range n).flatMap fun v => if q (f v) = true then [f v] else []) = ((List.range n).map f).filter q
 | 0 => rfl
 | n + 1 => by
  rw [List.range_succ, List.flatMap_append, KG f q n, List.map_append, List.filter_append]
  cases h : q (f n) <;> simp [h]
theorem Kj {β : Type} (g : Nat → List β) (a : Nat) (h : ∀ v, a ≤ v → g v = []) : ∀ n, a ≤ n → (List.range n).flatMap g = (List.range a).flatMap g
 | 0, hn => by rw [Nat.le_zero.1 hn]
 | n + 1, hn => by
  by_cases h1 : a = n + 1
  ·rw [h1]
  ·rw [List.range_succ, List.flatMap_append, Kj g a h n (by omega)]
   simp [h n (by omega)]
theorem TC (p : Aj) (m : Ag) (k : Int) (i v : Nat) : (gS p m k i v).length ≤ 1 := by unfold gS; split <;> simp
theorem T3 (p : Aj) (m : Ag) (k : Int) (i : Nat) : (bS p m k i).length ≤ 6 := by
 unfold bS
 rw [← Ie]
 have := FA (g := fun i' (_ : Nat) => gS p m k i i') (c := 1) (i := 0) (xs := List.range 6) fun j x _ => TC p m k i _
 simpa using this
theorem WZ {p : Aj} (hp : Cd p) (m : Ag) (k : Int) : (kS p m k).length ≤ 72 := by
 have h1 := hp.nv
 have h2 := hp.nt
 unfold kS
 rw [← Ie]
 have := FA (g := fun i' (_ : Nat) => bS p m k i') (c := 6) (i := 0) (xs := List.range (RC p)) fun j x _ => T3 p m k _
 simp only [List.length_range] at this
 have h3 : RC p ≤ 12 := by unfold RC; omega
 omega
theorem WS {p : Aj} {m : Ag} {s : Aw} (h : UY p m s = true) : Hm s = true ∧ Gj p s = true := by
 unfold UY Eu at h
 split at h
 ·cases h
 ·rename_i h1
  split at h
  ·cases h
  ·rename_i h2
   exact ⟨by simpa using h1, by simpa using h2⟩
theorem LP {p : Aj} {m : Ag} {k : Int} {i v : Nat} (h : UY p m ⟨k, (i : Int), (v : Int)⟩ = true) : (k = 3 → i < p.fTables.length) ∧ (k ≠ 3 → i < p.fVersions.length) ∧ (k = 1 → (v : Int) < p.fVersions.getD i 0) ∧ (k ≠ 1 → v = 0) := by
 obtain ⟨h1, h2⟩ := WS h
 obtain ⟨a1, a2, a3, a4, a5⟩ := JG h1
 obtain ⟨b1, b2, b3⟩ := KR h2
 simp only [Int.toNat_natCast] at *
 exact ⟨fun e => by have := b1 e; omega, fun e => by have := b2 e; omega, b3, fun e => by have := a5 e; omega⟩
theorem TQ {p : Aj} (hp : Cd p) (m : Ag) : kS p m 1 ++ kS p m 2 ++ kS p m 3 = Ga p m := by
 have hnv := hp.nv
 have hnt := hp.nt
 unfold Ga GY
 rw [List.filter_append, List.filter_append]
 have e1 : kS p m 1 = (DA L8 0 p.fVersions).filter fun s => (Eu p m s).2 == 0 := by
  unfold kS
  rw [Kj (bS p m 1) p.fVersions.length (fun i hi => by
   unfold bS
   rw [List.flatMap_eq_nil_iff]
   intro v _
   unfold gS
   rw [if_neg]
   intro h
   have := (LP h).2.1 (by decide)
   omega) (RC p) (by unfold RC; omega)]
  have e : ∀ (xs : List Int) (i : Nat), (∀ j x, xs[j]? = some x → 1 ≤ x ∧ x ≤ 6 ∧ p.fVersions.getD (i + j) 0 = x) → ((List.range xs.length).flatMap fun j => bS p m 1 (i + j)) = (DA L8 i xs).filter fun s => (Eu p m s).2 == 0 := by
   intro xs
   induction xs with
   | nil => intro i _; rfl
   | cons x xs ih =>
    intro i hx
    rw [List.length_cons, List.range_succ_eq_map, List.flatMap_cons, List.flatMap_map, DA, List.filter_append]
    have ih' := ih (i + 1) (fun j y hy => by
     have := hx (j + 1) y (by simpa using hy)
     rw [show i + 1 + j = i + (j + 1) from by omega]; exact this)
    have hx0 := hx 0 x rfl
    rw [Nat.add_zero] at hx0
    congr 1
    ·rw [Nat.add_zero]
     unfold bS L8
     rw [Kj (gS p m 1 i) x.toNat (fun v hv => by
      unfold gS
      rw [if_neg]
      intro h
      have := (LP h).2.2.1 rfl
      rw [hx0.2.2] at this
      omega) 6 (by omega)]
     exact KG (fun v => (⟨1, (i : Int), ((v : Nat) : Int)⟩ : Aw)) (UY p m) x.toNat
    ·rw [← ih']
     congr 1
     funext j
     rw [show i + (j + 1) = i + 1 + j from by omega]
  have := e p.fVersions 0 (fun j x hx => by
   have h1 := hp.ver x (lM hx)
   refine ⟨h1.1, h1.2, ?_⟩
   rw [Nat.zero_add, lD, hx]; rfl)
  simp only [Nat.zero_add] at this
  exact this
 have e23 : ∀ (k : Int) (n : Nat), k ≠ 1 → n ≤ RC p → (∀ i v, UY p m ⟨k, ((i : Nat) : Int), ((v : Nat) : Int)⟩ = true → i < n) → kS p m k = (((List.range n).map fun i => (⟨k, ((i : Nat) : Int), 0⟩ : Aw)).filter fun s => (Eu p m s).2 == 0) := by
  intro k n hk hn hi
  unfold kS
  rw [Kj (bS p m k) n (fun i hi' => by
   unfold bS
   rw [List.flatMap_eq_nil_iff]
   intro v _
   unfold gS
   rw [if_neg]
   intro h
   have := hi i v h
   omega) (RC p) hn]
  show _ = List.filter (UY p m) _
  rw [← KG (fun i => (⟨k, ((i : Nat) : Int), 0⟩ : Aw)) (UY p m) n]
  congr 1
  funext i
  unfold bS
  rw [Kj (gS p m k i) 1 (fun v hv => by
   unfold gS
   rw [if_neg]
   intro h
   have := (LP h).2.2.2 hk
   omega) 6 (by omega)]
  simp [gS]
 rw [e1, e23 2 p.fVersions.length (by decide) (by unfold RC; omega) (fun i v h => (LP h).2.1 (by decide)), e23 3 p.fTables.length (by decide) (by unfold RC; omega) (fun i v h => (LP h).1 rfl)]
theorem QO (a b : Nat) : S4 (a : Int) (b : Int) = ((max a b : Nat) : Int) := by
 unfold S4
 omega
theorem P0 (N : Nat) (hN : N ≤ 1000000) (h20 : 100 ≤ N) {p : Aj} {m : Ag} (hv : Ce p = 0) (hm : Er p m) : Ez N p m = some (Ga p m) := by
 obtain ⟨hp, _⟩ := DM hv
 have hnv := hp.nv
 have hnt := hp.nt
 have hmx : RC p ≤ 12 := by unfold RC; omega
 unfold Ez
 have hmix := LX hv hm
 -- one number
 have inn : ∀ (k : Int) (c0 a : List Aw) (i : Nat) (d0 : List Aw) (j : List Aw → Option (List Aw)), a.length ≤ 1000 →
   Cl N p m (c0, k) (d0, (i : Int)) j N (a, 0) = j (a ++ bS p m k i) := by
  intro k c0 a i d0 j ha
  have := F4 (Cl N p m (c0, k) (d0, (i : Int)) j) (fun a i => (a, i)) (List.range 6) j (fun v _ => gS p m k i v) 1 2000
   (fun v x _ => TC _ _ _ _ _)
   (fun n v x a hx hl => by
    have hi := (lI.1 hx).1
    simp only [List.length_range] at hi
    rw [Cl, AH (by simp only; omega)]
    simp only [Bk]
    rw [PI N hN h20 (QG hm), if_pos hmix]
    simp only [oS, AZ (show v < 1000000 by omega)]
    unfold gS UY
    cases hq : (Eu p m ⟨k, (i : Int), (v : Int)⟩).2 == 0
    ·rw [Av, if_neg (by simp), List.append_nil]
    ·rw [AI, if_pos rfl, AS (by simp [Fa]; unfold gS UY at hl; rw [hq] at hl; simp at hl; omega)])
   (fun n a => by rw [Cl, AF (by simp)]) N a (by simp; omega) (by simp; omega)
  rw [Ie] at this
  exact this
 have mid : ∀ (k : Int) (c0 a : List Aw) (j : List Aw → Option (List Aw)), a.length ≤ 500 →
   Cj N p m (c0, k) j N (a, 0) = j (a ++ kS p m k) := by
  intro k c0 a j ha
  have := F4 (Cj N p m (c0, k) j) (fun a i => (a, i)) (List.range (RC p)) j (fun i _ => bS p m k i) 6 900
   (fun v x _ => T3 _ _ _ _)
   (fun n i x a hx hl => by
    have hi := (lI.1 hx).1
    simp only [List.length_range] at hi
    rw [Cj, AH (by simp only; rw [QO]; unfold RC at hi; omega)]
    rw [inn k c0 a i a _ (by omega)]
    simp only [AZ (show i < 1000000 by omega)])
   (fun n a => by rw [Cj, AF (by simp [QO, RC])]) N a (by simp; omega) (by simp; omega)
  rw [Ie] at this
  exact this
 have hk := WZ hp m
 have go : ∀ (k : Int) (n : Nat) (a : List Aw), k ≤ 3 → 1 ≤ k → a.length ≤ 300 → BM N p m (fun v2 => some v2) (n + 1) (a, k) = BM N p m (fun v2 => some v2) n (a ++ kS p m k, k + 1) := by
  intro k n a h1 h2 ha
  rw [BM, AH h1]
  rw [mid k a a _ (by omega), Fm (by omega) (by omega)]
 obtain ⟨N', hN'⟩ : ∃ q, N = q + 4 := ⟨N - 4, by omega⟩
 have e0 : BM N p m (fun v2 => some v2) N ([], 1) = BM N p m (fun v2 => some v2) (N' + 4) ([], 1) := by rw [hN']
 rw [e0, go 1 (N' + 3) [] (by decide) (by decide) (by simp), List.nil_append]
 rw [show (1 : Int) + 1 = 2 from rfl, go 2 (N' + 2) _ (by decide) (by decide) (by have := hk 1; omega)]
 rw [show (2 : Int) + 1 = 3 from rfl, go 3 (N' + 1) _ (by decide) (by decide) (by have h1 := hk 1; have h2 := hk 2; rw [List.length_append]; omega)]
 rw [BM, AF (by simp), TQ hp]
end Go.Lift
namespace Go.Lift
namespace Bfs
section
variable {α σ : Type}
def code (rk : σ → Nat) (K : Nat) (w : List σ) : Nat := w.foldl (fun c s => c * K + rk s) 0
def Y1 (rk : σ → Nat) (K : Nat) (w : List σ) : Prop := ∀ s, s ∈ w → 1 ≤ rk s ∧ rk s ≤ K
theorem Y1.snoc {rk : σ → Nat} {K : Nat} {w : List σ} {s : σ} (h : Y1 rk K w) (hs : 1 ≤ rk s ∧ rk s ≤ K) : Y1 rk K (w ++ [s]) := by
 intro x hx; rcases List.mem_append.1 hx with h1 | h1
 ·exact h x h1
 ·rw [List.mem_singleton.1 h1]; exact hs
abbrev Nd (α σ : Type) := α × Int × σ
def put [DecidableEq α] (i : Nat) (l : List (Nd α σ)) (q : σ × α) : List (Nd α σ) := if (l.any fun n => decide (n.1 = q.2)) = true then l else l ++ [(q.2, (i : Int), q.1)]
def TU [DecidableEq α] (most i : Nat) : List (σ × α) → List (Nd α σ) → Option (List (Nd α σ))
 | [], l => some l
 | q :: qs, l => if most < (put i l q).length then none else TU most i qs (put i l q)
def go [DecidableEq α] (nxt : α → List (σ × α)) (most : Nat) : Nat → Nat → List (Nd α σ) → Option (List (Nd α σ))
 | 0, _, _ => none
 | n + 1, i, l => match l[i]? with
  | none => some l
  | some nd => (TU most i (nxt nd.1) l).bind fun l' => go nxt most n (i + 1) l'
def run (nxt : α → List (σ × α)) (x : α) : List σ → α → Prop
 | [], y => y = x
 | s :: w, y => ∃ z, (s, z) ∈ nxt x ∧ run nxt z w y
theorem IK {nxt : α → List (σ × α)} : ∀ {u w : List σ} {x y : α}, run nxt x (u ++ w) y ↔ ∃ z, run nxt x u z ∧ run nxt z w y
 | [], w, x, y => by simp [run]
 | s :: u, w, x, y => by
  simp only [List.cons_append, run]
  constructor
  ·rintro ⟨z, h1, h2⟩
   obtain ⟨z', h3, h4⟩ := IK.1 h2
   exact ⟨z', ⟨z, h1, h3⟩, h4⟩
  ·rintro ⟨z', ⟨z, h1, h3⟩, h4⟩
   exact ⟨z, h1, IK.2 ⟨z', h3, h4⟩⟩
end
end Bfs
end Go.Lift
namespace Go.Lift
open Go
theorem Nn : ∀ {l : List Int}, Rg l = 0 → ∀ x, x ∈ l → x = 0
 | [], _, x, hx => by cases hx
 | y :: ys, h, x, hx => by
  unfold Rg at h
  split at h
  ·rename_i hy
   rcases List.mem_cons.1 hx with rfl | hx
   ·exact hy
   ·exact Nn h x hx
  ·rename_i hy; exact absurd h hy
theorem SU {a b : Ag} (h : S5 a b = 0) : a = b := by
 have := Nn h
 have h1 := M4 _ _ (this (Iw a.fBase b.fBase) (by simp))
 have h2 := M4 _ _ (this (Iw a.fNext b.fNext) (by simp))
 have h3 := M4 _ _ (this (Iw a.fHeld b.fHeld) (by simp))
 cases a; cases b; simp only at h1 h2 h3; subst h1; subst h2; subst h3; rfl
instance ZB : DecidableEq Ag := fun a b => if h : S5 a b = 0 then isTrue (SU h) else isFalse (fun e => h (by rw [e]; exact O2 b))
end Go.Lift
namespace Go.Lift
open Option renaming bind_some → oS
open List renaming mem_of_getElem? → lM
open List renaming getElem?_eq_some_iff → lI
open Go
def IL (p : Aj) (m : Ag) (_ : Nat) (s : Aw) : List A3 := match Jl p (Eu p m s).1 with
 | some (x, c) => [⟨s, x, c⟩]
 | none => []
def H0 (p : Aj) (m : Ag) : List A3 := DA (IL p m) 0 (Ga p m)
theorem Lq (p : Aj) (m : Ag) (i : Nat) (s : Aw) : (IL p m i s).length ≤ 1 := by
 unfold IL; split <;> simp
theorem Lt {p : Aj} (hp : Cd p) (m : Ag) : (Ga p m).length ≤ 54 := Nat.le_trans (List.length_filter_le _ _) (Sf hp)
theorem KE {p : Aj} (hp : Cd p) (m : Ag) : (H0 p m).length ≤ 54 := by
 have := FA (g := IL p m) (c := 1) (i := 0) (xs := Ga p m) fun j x _ => Lq p m _ x
 have h2 := Lt hp m
 unfold H0; omega
theorem KP {p : Aj} {m : Ag} {s : Aw} (h : s ∈ Ga p m) : s ∈ GY p ∧ (Eu p m s).2 = 0 := by
 unfold Ga at h
 have := List.mem_filter.1 h
 exact ⟨this.1, by simpa using this.2⟩
theorem Uw {N : Nat} (hN : N ≤ 1000000) (h20 : 100 ≤ N) {p : Aj} {m : Ag} (hp : Cd p) (hm : Er p m) {s : Aw} (hs : s ∈ Ga p m) : ∃ b, CS N p m s = some ((Eu p m s).1, b) := by
 obtain ⟨h1, h2⟩ := KP hs
 obtain ⟨h3, h4⟩ := Pc hp h1
 rw [LF N hN h20 hp hm h3 h4]
 unfold Eu at h2 ⊢
 rw [h3, h4, if_neg (by simp), if_neg (by simp)] at h2 ⊢
 cases h : F6 p m s with
 | none => rw [h] at h2; cases h2
 | some x => exact ⟨true, rfl⟩
theorem Pd (p : Aj) (x : Ag) : ((Ki p x).2.2 == 0) = (Jl p x).isSome := by
 unfold Ki
 cases Jl p x with
 | none => rfl
 | some q => rfl
theorem QM (N : Nat) (hN : N ≤ 1000000) (h20 : 100 ≤ N) {p : Aj} {m : Ag} (hw : Iu JR m.fHeld) : DE N p m = some (if CW p m = 0 then (Ga p m, 0) else ([], CW p m)) := by
 by_cases h : CW p m = 0
 ·rw [if_pos h]
  have hv : Ce p = 0 := Decidable.byContradiction fun hc => by unfold CW at h; rw [if_pos hc] at h; exact hc h
  exact RE N hN h20 hv (Fw hw h).2
 ·rw [if_neg h]
  unfold DE
  rw [HK N p m hN (by omega) hw]
  simp only [oS]
  rw [bne_iff_ne.2 h, AI]
theorem P5 {p : Aj} {m : Ag} (h : CW p m = 0) : Ce p = 0 := Decidable.byContradiction fun hc => by unfold CW at h; rw [if_pos hc] at h; exact hc h
theorem Nh (N : Nat) (hN : N ≤ 1000000) (h20 : 100 ≤ N) {p : Aj} {m : Ag} (hw : Iu JR m.fHeld) : D0 N p m = some (if CW p m = 0 then (H0 p m, 0) else ([], CW p m)) := by
 unfold D0
 rw [QM N hN h20 hw]
 simp only [oS]
 by_cases h : CW p m = 0
 ·rw [if_pos h, if_pos h]
  have hv := P5 h
  obtain ⟨hp, hm⟩ := Fw hw h
  have hl := Lt hp m
  simp only [bne_self_eq_false, Av]
  have := F4 (CR N p m (Ga p m, 0) fun v4 => some (v4, 0)) (fun a i => (a, i)) (Ga p m) (fun v4 => some (v4, 0)) (IL p m) 1 1000
   (fun i s _ => Lq p m i s)
   (fun n i s a hs hl2 => by
    have hi := (lI.1 hs).1
    have hsm := lM hs
    have hst := (KP hsm).2
    have hxo := Mm hp hm hst
    rw [CR, AH (by simp only; omega)]
    simp only [Bk, Be, hs, oS]
    rw [OE N hN h20 hw, if_pos h]
    simp only [oS]
    rw [Pm N p _ hN h20 (QG hxo) (LX hv hxo)]
    simp only [oS]
    rw [Pd, AZ (by omega)]
    unfold IL Ki
    cases hb : Jl p (Eu p m s).1 with
    | none => rw [Option.isSome_none, Av, List.append_nil]
    | some q =>
     rw [Option.isSome_some, AI]
     rw [AS (by simp [Fa]; have := hl2; unfold IL at this; rw [hb] at this; simp at this; omega)])
   (fun n a => by rw [CR, AF (by simp)]) N [] (by omega) (by simp; omega)
  have e : CR N p m (Ga p m, 0) (fun v4 => some (v4, 0)) N (([] : List A3), 0) = _ := this
  rw [e]; rfl
 ·rw [if_neg h, if_neg h]
  simp only
  rw [bne_iff_ne.2 h, AI]
theorem Oy (N : Nat) (hN : N ≤ 1000000) (h20 : 100 ≤ N) {p : Aj} {m : Ag} (hv : Ce p = 0) (hm : Er p m) : Ee N p m = some (H0 p m) := by
 obtain ⟨hp, _⟩ := DM hv
 have hl := Lt hp m
 unfold Ee
 rw [P0 N hN h20 hv hm]
 simp only [oS]
 have := F4 (B7 N p m (Ga p m) fun v3 => some v3) (fun a i => (a, i)) (Ga p m) (fun v3 => some v3) (IL p m) 1 1000
  (fun i s _ => Lq p m i s)
  (fun n i s a hs hl2 => by
   have hi := (lI.1 hs).1
   have hsm := lM hs
   have hst := (KP hsm).2
   have hxo := Mm hp hm hst
   obtain ⟨b, ea⟩ := Uw hN h20 hp hm hsm
   rw [B7, AH (by simp only; omega)]
   simp only [Bk, Be, hs, oS, ea]
   rw [PS N p _ hN h20 (QG hxo) (LX hv hxo)]
   simp only [oS]
   rw [Pd, AZ (by omega)]
   unfold IL Ki
   cases hb : Jl p (Eu p m s).1 with
   | none => rw [Option.isSome_none, Av, List.append_nil]
   | some q =>
    rw [Option.isSome_some, AI]
    rw [AS (by simp [Fa]; have := hl2; unfold IL at this; rw [hb] at this; simp at this; omega)])
  (fun n a => by rw [B7, AF (by simp)]) N [] (by omega) (by simp; omega)
 have e : B7 N p m (Ga p m) (fun v3 => some v3) N (([] : List A3), 0) = _ := this
 rw [e]; rfl
def I7 (p : Aj) (_ : Nat) (m : Ag) : Option Int := if CW p m = 0 then none else some (CW p m)
def FY (p : Aj) (l : List Ag) : Int := if Ce p ≠ 0 then Ce p else (Dk (I7 p) 0 l).getD 0
theorem NS (N : Nat) (hN : N ≤ 1000000) (h20 : 100 ≤ N) (p : Aj) (l : List Ag) (hl : l.length < N) : DV N p l = some (FY p l) := by
 unfold DV
 rw [JQ N p hN (by omega)]
 simp only [oS]
 unfold FY
 by_cases hv : Ce p = 0
 ·rw [hv, bne_self_eq_false, Av, if_neg (by simp)]
  have := CY (Cm N p l fun _ => some 0) l (some 0) (I7 p)
   (fun n i m hm => by
    have hi := (lI.1 hm).1
    rw [Cm, AH (by omega), Be, hm]
    simp only [oS]
    rw [JL N p m hN (by omega), AZ (by omega)]
    simp only [oS]
    unfold I7
    by_cases h : CW p m = 0
    ·rw [h, bne_self_eq_false, Av, if_pos rfl]; rfl
    ·rw [bne_iff_ne.2 h, AI, if_neg h]; rfl)
   (fun n => by rw [Cm, AF (by simp)]) N 0 (Nat.zero_le _) (by omega)
  have e : Cm N p l (fun _ => some 0) N 0 = _ := this
  rw [e, List.drop_zero]
  cases Dk (I7 p) 0 l <;> rfl
 ·rw [bne_iff_ne.2 hv, AI, if_pos hv]
theorem J0 {p : Aj} {l : List Ag} (h : FY p l = 0) : Ce p = 0 ∧ ∀ m, m ∈ l → CW p m = 0 := by
 unfold FY at h
 by_cases hv : Ce p = 0
 ·refine ⟨hv, fun m hm => ?_⟩
  rw [if_neg (by simp [hv])] at h
  obtain ⟨j, hj⟩ := List.mem_iff_getElem?.1 hm
  cases hs : Dk (I7 p) 0 l with
  | none =>
   have := GH hs j m hj
   unfold I7 at this
   split at this
   ·assumption
   ·cases this
  | some r =>
   rw [hs] at h
   obtain ⟨k, x, _, hr⟩ := ED hs
   unfold I7 at hr
   split at hr
   ·cases hr
   ·rename_i hne
    cases hr; exact absurd h hne
 ·rw [if_pos hv] at h; exact absurd h hv
def FJ (p : Aj) (l : List Ag) : List A3 := DA (fun _ m => H0 p m) 0 l
theorem MM {p : Aj} (hp : Cd p) (l : List Ag) : (FJ p l).length ≤ 54 * l.length := FA fun _ m _ => KE hp m
theorem K4 (N : Nat) (hN : N ≤ 1000000) (h20 : 100 ≤ N) (p : Aj) (l : List Ag) (hl : l.length < N) (hl2 : l.length ≤ 1000) (hw : ∀ m, m ∈ l → Iu JR m.fHeld) : C0 N p l = some (if FY p l = 0 then (FJ p l, 0) else ([], FY p l)) := by
 unfold C0
 rw [NS N hN h20 p l hl]
 simp only [oS]
 by_cases h : FY p l = 0
 ·obtain ⟨hv, hall⟩ := J0 h
  obtain ⟨hp, _⟩ := DM hv
  rw [if_pos h, h, bne_self_eq_false, Av]
  have := F4 (B8 N p l fun v4 => some (v4, 0)) (fun a i => (a, i)) l (fun v4 => some (v4, 0)) (fun _ m => H0 p m) 54 100000
   (fun i m _ => KE hp m)
   (fun n i m a hm hl3 => by
    have hi := (lI.1 hm).1
    have hmm := lM hm
    rw [B8, AH (by simp only; omega)]
    simp only [Be, hm, oS]
    rw [Oy N hN h20 hv (Fw (hw m hmm) (hall m hmm)).2, AZ (by omega)]
    simp only [oS]
    rw [AS (by simp [Fa]; omega)])
   (fun n a => by rw [B8, AF (by simp)]) N [] (by omega) (by simp; omega)
  have e : B8 N p l (fun v4 => some (v4, 0)) N (([] : List A3), 0) = _ := this
  rw [e]; rfl
 ·rw [if_neg h, bne_iff_ne.2 h, AI]
theorem UT {p : Aj} {m x : Ag} {c : Ah} (hp : Cd p) (hm : Er p m) (h : Jl p m = some (x, c)) : Er p x := by
 unfold Jl at h
 obtain ⟨j, y, hy, hb⟩ := ED h
 have hab : Oa m y := Lw.1 (lM hy)
 unfold KB at hb
 split at hb
 ·cases hb
 ·cases hb; exact T9 hp hm hab
theorem S1 {p : Aj} {m : Ag} (hp : Cd p) (hm : Er p m) : ∀ b, b ∈ H0 p m → Er p b.fMix := by
 intro b hb
 obtain ⟨j, s, hs, hb⟩ := KN.1 hb
 unfold IL at hb
 split at hb
 ·rename_i x c h
  rw [List.mem_singleton.1 hb]
  exact UT hp (Mm hp hm (KP (lM hs)).2) h
 ·cases hb
theorem QV (N : Nat) (hN : N ≤ 1000000) (h20 : 100 ≤ N) {p : Aj} (hp : Cd p) (a : List A3) (h : a.length < N) (hs : ∀ b, b ∈ a → Er p b.fMix) : CZ N a a = some true := by
 unfold CZ
 rw [bne_self_eq_false, Av]
 have := CY (Ct N a a fun _ => some true) a (some true) (fun _ _ => none)
  (fun n i b hb => by
   have hi := (lI.1 hb).1
   rw [Ct, AH (by omega)]
   simp only [Bk, Be, hb, oS, beq_self_eq_true, Bool.and_self, Bool.not_true, Av]
   have e := OF hN h20 hp (hs b (lM hb))
   rw [show (Ag.mk b.fMix.fBase b.fMix.fNext b.fMix.fHeld) = b.fMix from rfl, e, AZ (by omega)]
   rfl)
  (fun n => by rw [Ct, AF (by simp)]) N 0 (Nat.zero_le _) (by omega)
 have e : Ct N a a (fun _ => some true) N 0 = _ := this
 rw [e, List.drop_zero, Hz (fun _ _ _ => rfl)]; rfl
end Go.Lift
namespace Go.Lift
open Option renaming bind_some → oS
open List renaming mem_of_getElem? → lM
open List renaming getD_eq_getElem?_getD → lD
open Go
def XM (p : Aj) (m : Ag) (s : Nat) : Bool := m.fBase.getD s 0 == p.fTarget.getD s 0 && decide (m.fNext.getD s 0 < 0)
def MX (p : Aj) (m : Ag) (k : Nat) : Nat := ((List.range k).filter (XM p m)).length
theorem OQ (p : Aj) (m : Ag) (k : Nat) : MX p m (k + 1) = MX p m k + if XM p m k = true then 1 else 0 := by
 unfold MX
 rw [List.range_succ, List.filter_append, List.length_append]
 cases h : XM p m k <;> simp [h]
theorem Sx (p : Aj) (m : Ag) (k : Nat) : MX p m k ≤ k := by
 unfold MX
 exact Nat.le_trans (List.length_filter_le _ _) (by simp)
def SJ (p : Aj) (m : Ag) : Int := (MX p m p.fTarget.length : Int)
theorem Vi (N : Nat) (h20 : 100 ≤ N) {p : Aj} {m : Ag} (hp : Cd p) (hm : Er p m) (j : Int → Option (Int × Ag × Int)) : Ch N p m j N (0, 0) = j (SJ p m) := by
 have hnv := hp.nv
 have h1 := hm.base
 have h2 := hm.next
 have h3 := hp.tgt
 obtain ⟨a, e, ha⟩ := Gb (Ch N p m j) (fun (a i : Int) => (a, i)) p.fTarget.length j (fun i a => a = (MX p m i : Int))
  (fun n i a hi ha => by
   subst ha
   rw [Ch, AH (by simp only; omega)]
   simp only [Bk]
   rw [C7 (d := 0) hi]
   simp only [oS]
   rw [C7 (d := 0) (show i < m.fBase.length by omega)]
   simp only [oS]
   rw [AZ (show i < 1000000 by omega)]
   have hc := Sx p m i
   have hs := OQ p m i
   unfold XM at hs
   cases hb : m.fBase.getD i 0 == p.fTarget.getD i 0
   ·rw [hb] at hs
    rw [Av, Av]
    exact ⟨_, rfl, by rw [hs]; simp⟩
   ·rw [hb] at hs
    rw [AI, C7 (d := 0) (show i < m.fNext.length by omega)]
    simp only [oS]
    by_cases hn : m.fNext.getD i 0 < 0
    ·rw [decide_eq_true hn] at hs ⊢
     rw [AI, AZ (show MX p m i < 1000000 by omega)]
     exact ⟨_, rfl, by rw [hs]; simp⟩
    ·rw [decide_eq_false hn] at hs ⊢
     rw [Av]
     exact ⟨_, rfl, by rw [hs]; simp⟩)
  (fun n a ha => by rw [Ch, AF (by simp)]) N 0 0 (Nat.zero_le _) (by omega) (by simp [MX])
 have e' : Ch N p m j N (0, 0) = _ := e
 rw [e', ha]; rfl
theorem QI (N : Nat) (h20 : 100 ≤ N) {p : Aj} {m : Ag} (hp : Cd p) (hm : Er p m) {l : List Ag} {q : Nat} (hq : l[q]? = some m) (x y : Int) (j : Int → Option (Int × Ag × Int)) : BH N p l (x, y, (q : Int)) j N (0, 0) = j (SJ p m) := by
 have hnv := hp.nv
 have h1 := hm.base
 have h2 := hm.next
 have h3 := hp.tgt
 obtain ⟨a, e, ha⟩ := Gb (BH N p l (x, y, (q : Int)) j) (fun (a i : Int) => (a, i)) p.fTarget.length j (fun i a => a = (MX p m i : Int))
  (fun n i a hi ha => by
   subst ha
   rw [BH, AH (by simp only; omega)]
   simp only [Bk, Be, hq, oS]
   have e2 : m.fNext[i]? = some (m.fNext.getD i 0) := by
    have := C7 (d := 0) (show i < m.fNext.length by omega); rwa [Be] at this
   have e1 : m.fBase[i]? = some (m.fBase.getD i 0) := by
    have := C7 (d := 0) (show i < m.fBase.length by omega); rwa [Be] at this
   have e3 : p.fTarget[i]? = some (p.fTarget.getD i 0) := by
    have := C7 (d := 0) hi; rwa [Be] at this
   rw [e2]
   simp only [oS]
   rw [AZ (show i < 1000000 by omega)]
   have hc := Sx p m i
   have hs := OQ p m i
   unfold XM at hs
   by_cases hn : m.fNext.getD i 0 < 0
   ·rw [decide_eq_true hn] at hs ⊢
    rw [AI, e1]
    simp only [oS]
    rw [e3]
    simp only [oS]
    cases hb : m.fBase.getD i 0 == p.fTarget.getD i 0
    ·rw [hb] at hs
     rw [Av]
     exact ⟨_, rfl, by rw [hs]; simp⟩
    ·rw [hb] at hs
     rw [AI, AZ (show MX p m i < 1000000 by omega)]
     exact ⟨_, rfl, by rw [hs]; simp⟩
   ·rw [decide_eq_false hn] at hs ⊢
    rw [Av, Av]
    exact ⟨_, rfl, by rw [hs]; simp⟩)
  (fun n a ha => by rw [BH, AF (by simp)]) N 0 0 (Nat.zero_le _) (by omega) (by simp [MX])
 have e' : BH N p l (x, y, (q : Int)) j N (0, 0) = _ := e
 rw [e', ha]; rfl
def Km (p : Aj) (i : Nat) (m : Ag) (a : Int × Int) : Int × Int := if a.1 < SJ p m then (SJ p m, (i : Int)) else a
theorem Sz (p : Aj) : ∀ (l : List Ag) (i : Nat) (a : Int × Int), (Gk (Km p) i l a).2 = a.2 ∨ ∃ k : Nat, i ≤ k ∧ k < i + l.length ∧ (Gk (Km p) i l a).2 = (k : Int)
 | [], i, a => .inl rfl
 | m :: l, i, a => by
  rw [Gk]
  rcases Sz p l (i + 1) (Km p i m a) with h | ⟨k, h1, h2, h3⟩
  ·rw [h]
   unfold Km
   split
   ·exact .inr ⟨i, Nat.le_refl _, by simp, rfl⟩
   ·exact .inl rfl
  ·exact .inr ⟨k, by omega, by simp only [List.length_cons]; omega, h3⟩
theorem O1 (N : Nat) (hN : N ≤ 1000000) (h20 : 100 ≤ N) {p : Aj} (hv : Ce p = 0) (l : List Ag) (hl : l.length ≤ 1000) (hw : ∀ m, m ∈ l → Iu JR m.fHeld) (j : Int × Int → Option (Int × Ag × Int)) : ∀ (n i : Nat) (a : Int × Int), i ≤ l.length → l.length - i < n →
  DT N p l j n (a.1, a.2, (i : Int)) = match Dk (I7 p) i (l.drop i) with
   | some e => some (0, ES, e)
   | none => j (Gk (Km p) i (l.drop i) a)
 | 0, i, a, _, h => by omega
 | n + 1, i, a, hi, h => by
  obtain ⟨hp, _⟩ := DM hv
  rw [DT]
  by_cases h1 : i < l.length
  ·have hm : l[i]? = some l[i] := by simp [h1]
   have hmm := lM hm
   rw [AH (by simp only; omega)]
   simp only [Bk, Be, hm, oS]
   rw [HK N p _ hN (by omega) (hw _ hmm), F3 hm, GK, Gk]
   simp only [oS]
   unfold I7
   by_cases hvm : CW p l[i] = 0
   ·rw [if_pos hvm, hvm, bne_self_eq_false, Av]
    have hmo := (Fw (hw _ hmm) hvm).2
    rw [Vi N h20 hp hmo, AZ (by omega)]
    have ih := O1 N hN h20 hv l hl hw j n (i + 1) (Km p i l[i] a) (by omega) (by omega)
    unfold Km at ih ⊢
    by_cases hb : a.1 < SJ p l[i]
    ·rw [if_pos hb] at ih ⊢
     rw [AH hb]; exact ih
    ·rw [if_neg hb] at ih ⊢
     rw [AF hb]; exact ih
   ·rw [if_neg hvm, bne_iff_ne.2 hvm, AI]; rfl
  ·have : i = l.length := by omega
   subst this
   rw [AF (by simp), List.drop_eq_nil_of_le (Nat.le_refl _)]; rfl
theorem K1 (N : Nat) (hN : N ≤ 1000000) (h20 : 100 ≤ N) {p : Aj} (hv : Ce p = 0) (l : List Ag) (hl : l.length ≤ 1000) (hm : ∀ m, m ∈ l → Er p m) (j : Int × Int → Option (Int × Ag × Int)) : ∀ (n i : Nat) (a : Int × Int), i ≤ l.length → l.length - i < n →
  CU N p l j n (a.1, a.2, (i : Int)) = j (Gk (Km p) i (l.drop i) a)
 | 0, i, a, _, h => by omega
 | n + 1, i, a, hi, h => by
  obtain ⟨hp, _⟩ := DM hv
  rw [CU]
  by_cases h1 : i < l.length
  ·have hx : l[i]? = some l[i] := by simp [h1]
   rw [AH (by simp only; omega)]
   simp only [Bk]
   rw [QI N h20 hp (hm _ (lM hx)) hx, F3 hx, Gk, AZ (by omega)]
   have ih := K1 N hN h20 hv l hl hm j n (i + 1) (Km p i l[i] a) (by omega) (by omega)
   unfold Km at ih ⊢
   by_cases hb : a.1 < SJ p l[i]
   ·rw [if_pos hb] at ih ⊢
    rw [AH hb]; exact ih
   ·rw [if_neg hb] at ih ⊢
    rw [AF hb]; exact ih
  ·have : i = l.length := by omega
   subst this
   rw [AF (by simp), List.drop_eq_nil_of_le (Nat.le_refl _)]; rfl
def Qp (p : Aj) (l : List Ag) : Int × Int := Gk (Km p) 0 l (-1, 0)
def NL (p : Aj) (l : List Ag) : Int × Ag × Int :=
 if Ce p ≠ 0 then (0, ES, Ce p) else if l.length = 0 then (0, ES, 10) else if FY p l ≠ 0 then (0, ES, FY p l) else ((Qp p l).1, l.getD (Qp p l).2.toNat ES, 0)
theorem NJ {p : Aj} {l : List Ag} (h : l.length ≠ 0) : ∃ k : Nat, (Qp p l).2 = (k : Int) ∧ k < l.length := by
 rcases Sz p l 0 (-1, 0) with h1 | ⟨k, h1, h2, h3⟩
 ·exact ⟨0, h1, by omega⟩
 ·exact ⟨k, h3, by omega⟩
theorem Rn (N : Nat) (hN : N ≤ 1000000) (h20 : 100 ≤ N) (p : Aj) (l : List Ag) (hl : l.length < N) (hl2 : l.length ≤ 1000) (hw : ∀ m, m ∈ l → Iu JR m.fHeld) : EE N p l = some (NL p l) := by
 unfold EE NL
 rw [Ix N p hN (by omega)]
 simp only [oS]
 by_cases hv : Ce p = 0
 ·rw [hv, bne_self_eq_false, Av, if_neg (by simp)]
  by_cases h0 : l.length = 0
  ·rw [if_pos h0, show ((l.length : Int) == 0) = true from by rw [h0]; rfl, AI]; rfl
  ·rw [if_neg h0, show ((l.length : Int) == 0) = false from beq_eq_false_iff_ne.2 (by omega), Av]
   obtain ⟨hp, _⟩ := DM hv
   have e := O1 N hN h20 hv l hl2 hw (fun (v5 : Int × Int) =>
    (Bf l v5.2).bind fun v22 =>
    (Bo N v22.fBase).bind fun v23 =>
    (Bo N v22.fNext).bind fun v24 =>
    (Bu N v22.fHeld).bind fun v25 =>
    some (v5.1, (Ag.mk v23 v24 v25), 0)) N 0 (-1, 0) (Nat.zero_le _) (by omega)
   refine Eq.trans e ?_
   rw [List.drop_zero]
   have her : FY p l = (Dk (I7 p) 0 l).getD 0 := by unfold FY; rw [if_neg (by simp [hv])]
   cases hs : Dk (I7 p) 0 l with
   | some r =>
    rw [hs] at her
    have hne : FY p l ≠ 0 := by
     rw [her]
     obtain ⟨k, x, _, hr⟩ := ED hs
     unfold I7 at hr
     split at hr
     ·cases hr
     ·rename_i hne; cases hr; exact hne
    rw [if_pos hne, her]; rfl
   | none =>
    rw [hs] at her
    have h00 : FY p l = 0 := her
    rw [if_neg (by simp [h00])]
    obtain ⟨_, hall⟩ := J0 h00
    obtain ⟨k, hk, hkl⟩ := NJ (p := p) h0
    have hm : l[k]? = some l[k] := by simp [hkl]
    have hmo := (Fw (hw _ (lM hm)) (hall _ (lM hm))).2
    have hnv := hp.nv
    have hnt := hp.nt
    show (Bf l (Qp p l).2).bind _ = _
    rw [hk, Be, hm]
    simp only [oS, Int.toNat_natCast]
    rw [HS N _ (by rw [hmo.base]; simp [Fa]; omega)]
    simp only [oS]
    rw [HS N _ (by rw [hmo.next]; simp [Fa]; omega)]
    simp only [oS]
    rw [Ms N _ (by rw [hmo.held]; simp [Fa]; omega)]
    simp only [oS]
    rw [lD, hm]; rfl
 ·rw [bne_iff_ne.2 hv, AI, if_pos hv]; rfl
theorem Nl (N : Nat) (hN : N ≤ 1000000) (h20 : 100 ≤ N) (p : Aj) (l : List Ag) (hl : l.length < N) (hl2 : l.length ≤ 1000) (hw : ∀ m, m ∈ l → Iu JR m.fHeld) : D2 N p l = some (NL p l) := by
 unfold D2 NL
 rw [JQ N p hN (by omega)]
 simp only [oS]
 by_cases hv : Ce p = 0
 ·rw [hv, bne_self_eq_false, Av, if_neg (by simp)]
  by_cases h0 : l.length = 0
  ·rw [if_pos h0, show ((l.length : Int) == 0) = true from by rw [h0]; rfl, AI]; rfl
  ·rw [if_neg h0, show ((l.length : Int) == 0) = false from beq_eq_false_iff_ne.2 (by omega), Av]
   rw [NS N hN h20 p l hl]
   simp only [oS]
   by_cases h00 : FY p l = 0
   ·rw [h00, bne_self_eq_false, Av, if_neg (by simp)]
    obtain ⟨_, hall⟩ := J0 h00
    have e := K1 N hN h20 hv l hl2 (fun m hm => (Fw (hw m hm) (hall m hm)).2) (fun (v7 : Int × Int) =>
     (Bf l v7.2).bind fun v23 =>
     some (v7.1, v23, 0)) N 0 (-1, 0) (Nat.zero_le _) (by omega)
    refine Eq.trans e ?_
    rw [List.drop_zero]
    obtain ⟨k, hk, hkl⟩ := NJ (p := p) h0
    have hm : l[k]? = some l[k] := by simp [hkl]
    show (Bf l (Qp p l).2).bind _ = _
    rw [hk, Be, hm]
    simp only [oS, Int.toNat_natCast]
    rw [lD, hm]; rfl
   ·rw [bne_iff_ne.2 h00, AI, if_pos h00]; rfl
 ·rw [bne_iff_ne.2 hv, AI, if_pos hv]; rfl
theorem Mr (N : Nat) (hN : N ≤ 1000000) (h20 : 100 ≤ N) : BW N ES ES = some true := Mv hN (by simp [ES]; omega) (by simp [ES]; omega) (by simp [ES]; omega) (fun x hx => by cases hx)
theorem Rz (N : Nat) (hN : N ≤ 1000000) (h20 : 100 ≤ N) (p : Aj) (l : List Ag) (hw : ∀ m, m ∈ l → Iu JR m.fHeld) : BW N (NL p l).2.1 (NL p l).2.1 = some true := by
 unfold NL
 split
 ·exact Mr N hN h20
 ·rename_i hv
  have hv : Ce p = 0 := Decidable.byContradiction hv
  split
  ·exact Mr N hN h20
  ·rename_i h0
   split
   ·exact Mr N hN h20
   ·rename_i h00
    have h00 : FY p l = 0 := Decidable.byContradiction h00
    obtain ⟨hp, _⟩ := DM hv
    obtain ⟨_, hall⟩ := J0 h00
    obtain ⟨k, hk, hkl⟩ := NJ (p := p) h0
    have hm : l[k]? = some l[k] := by simp [hkl]
    have hmo := (Fw (hw _ (lM hm)) (hall _ (lM hm))).2
    simp only
    rw [hk, Int.toNat_natCast, lD, hm]
    exact OF hN h20 hp hmo
end Go.Lift
namespace Go.Lift
open IntKind renaming wrap → wI
open Option renaming bind_some → oS
open List renaming mem_of_getElem? → lM
open Go
open Go.Sort (swp insInner insOuter insertionSort siftDown heapBuild heapPop heapSort)
section
variable {α : Type} [Inhabited α]
theorem wn {e : Int} {n : Nat} (h : e = (n : Int)) (hn : n < 1000000000) : wI .i64 e = (n : Int) := by
 subst h; exact Fm (by omega) (by omega)
theorem gi {d : Array α} {i : Nat} (h : i < d.size) : Bf d.toList (i : Int) = some d[i]! := by
 rw [Be]
 simp [h, getElem!_pos]
theorem IW {β γ : Type} {l : List β} {i : Nat} (h : i < l.length) (X : Option γ) : ((Bf l (i : Int)).bind fun _ => X) = X := by
 rw [Be, List.getElem?_eq_getElem h]; rfl
theorem EL (d : Array α) (i j : Nat) : (swp d i j).toList = (d.toList.set i d[j]!).set j d[i]! := by
 unfold swp; simp
theorem Bt (d : Array α) (i j : Nat) : (swp d i j).size = d.size := by unfold swp; simp
def Db (P : α → Prop) (d : Array α) : Prop := ∀ x, x ∈ d.toList → P x
theorem Db.get {P : α → Prop} {d : Array α} (h : Db P d) {i : Nat} (hi : i < d.size) : P d[i]! := by
 have := gi hi
 rw [Be] at this
 exact h _ (lM this)
theorem Db.swp {P : α → Prop} {d : Array α} (h : Db P d) {i j : Nat} (hi : i < d.size) (hj : j < d.size) : Db P (swp d i j) := by
 intro x hx
 rw [EL] at hx
 rcases List.mem_or_eq_of_mem_set hx with hx | hx
 ·rcases List.mem_or_eq_of_mem_set hx with hx | hx
  ·exact h x hx
  ·rw [hx]; exact h.get hj
 ·rw [hx]; exact h.get hi
variable {P : α → Prop} {cmp : α × α → Option Int} {c : α → α → Int}
def Ck (c : α → α → Int) (x y : α) : Bool := decide (c x y < 0)
theorem Um (hc : ∀ x y, P x → P y → cmp (x, y) = some (c x y)) (N a : Nat) (J : List α → Option (List α)) : ∀ (n j : Nat) (d : Array α), j < n → j < d.size → d.size ≤ 100000 → Db P d →
  Gs.insertionSort_L4 N (a : Int) cmp J n (d.toList, (j : Int)) = J (insInner (Ck c) a j d).toList ∧ (insInner (Ck c) a j d).size = d.size ∧ Db P (insInner (Ck c) a j d)
 | 0, j, d, h, _, _, _ => by omega
 | n + 1, j, d, h, hj, hs, hA => by
  rw [Gs.insertionSort_L4]
  simp only [Bk]
  rcases j with _ | j
  ·rw [AF (by omega), Av]
   exact ⟨rfl, rfl, hA⟩
  ·simp only [wn (e := ((j + 1 : Nat) : Int) - 1) (n := j) (by omega) (by omega), gi hj, gi (show j < d.size by omega), oS, Int.toNat_natCast]
   rw [hc _ _ (hA.get hj) (hA.get (by omega))]
   simp only [oS]
   rw [IW (by simp; omega), ← EL]
   rw [insInner]
   by_cases ha : a < j + 1
   ·rw [AH (by omega), U3]
    by_cases hl : c d[j + 1]! d[j]! < 0
    ·rw [if_pos (decide_eq_true hl), if_pos (by simp [ha, Ck, hl])]
     have := Um hc N a J n j (swp d (j + 1) j) (by omega) (by rw [Bt]; omega) (by rw [Bt]; exact hs) (hA.swp hj (by omega))
     rw [Bt] at this
     exact this
    ·rw [if_neg (by simpa using hl), if_neg (by simp [Ck, hl])]
     exact ⟨rfl, rfl, hA⟩
   ·rw [AF (by omega), Av, if_neg (by simp [ha])]
    exact ⟨rfl, rfl, hA⟩
theorem SH (hc : ∀ x y, P x → P y → cmp (x, y) = some (c x y)) (N a b : Nat) (J : List α → Option (List α)) : ∀ (n i : Nat) (d : Array α), b - i < n → b ≤ d.size → d.size < N → d.size ≤ 100000 → i ≤ 200000 → Db P d →
  Gs.insertionSort_L1 N (a : Int) (b : Int) cmp J n (d.toList, (i : Int)) = J (insOuter (Ck c) a b i d).toList ∧ (insOuter (Ck c) a b i d).size = d.size ∧ Db P (insOuter (Ck c) a b i d)
 | 0, i, d, h, _, _, _, _, _ => by omega
 | n + 1, i, d, h, hb, hN, hs, hi2, hA => by
  rw [Gs.insertionSort_L1, insOuter]
  by_cases hi : i < b
  ·rw [AH (by simp only; omega), if_pos hi]
   obtain ⟨e1, e2, e3⟩ := Um hc N a (fun v5 => Gs.insertionSort_L1 N (a : Int) (b : Int) cmp J n (v5, ((i + 1 : Nat) : Int))) N i d (by omega) (by omega) hs hA
   simp only [wn (e := (i : Int) + 1) (n := i + 1) (by omega) (by omega)]
   rw [e1]
   have := SH hc N a b J n (i + 1) (insInner (Ck c) a i d) (by omega) (by omega) (by omega) (by omega) (by omega) e3
   rw [e2] at this
   exact this
  ·rw [AF (by simp only; omega), if_neg hi]
   exact ⟨rfl, rfl, hA⟩
theorem WB (hc : ∀ x y, P x → P y → cmp (x, y) = some (c x y)) {N a b : Nat} {d : Array α} (hab : a ≤ b) (hb : b ≤ d.size) (hN : d.size < N) (hs : d.size ≤ 100000) (hA : Db P d) :
  Gs.insertionSort N d.toList (a : Int) (b : Int) cmp = some (insertionSort (Ck c) d a b).toList ∧ (insertionSort (Ck c) d a b).size = d.size ∧ Db P (insertionSort (Ck c) d a b) := by
 unfold Gs.insertionSort
 rw [wn (e := (a : Int) + 1) (n := a + 1) (by omega) (by omega)]
 exact SH hc N a b (fun v2 => some v2) N (a + 1) d (by omega) hb hN hs (by omega) hA
theorem PA (hc : ∀ x y, P x → P y → cmp (x, y) = some (c x y)) {N hi first : Nat} : ∀ (n root : Nat) (d : Array α), hi - root < n → first + hi ≤ d.size → d.size ≤ 100000 → root ≤ 100000 → Db P d → root < hi ∨ hi = 0 ∨ True → (2 * root + 1 < hi → root < hi) →
  Gs.siftDown_L1 N (hi : Int) (first : Int) cmp (fun v2 => some v2) n (d.toList, (root : Int)) = some (siftDown (Ck c) hi first root d).toList ∧ (siftDown (Ck c) hi first root d).size = d.size ∧ Db P (siftDown (Ck c) hi first root d)
 | 0, root, d, h, _, _, _, _, _, _ => by omega
 | n + 1, root, d, h, hf, hs, hr, hA, _, _ => by
  rw [Gs.siftDown_L1, siftDown]
  simp only [Bk]
  have e1 : wI .i64 ((wI .i64 (2 * (root : Int))) + 1) = ((2 * root + 1 : Nat) : Int) := by
   rw [wn (e := 2 * (root : Int)) (n := 2 * root) (by omega) (by omega), wn (n := 2 * root + 1) (by omega) (by omega)]
  have e2 : wI .i64 (((2 * root + 1 : Nat) : Int) + 1) = ((2 * root + 2 : Nat) : Int) := wn (by omega) (by omega)
  have e3 : wI .i64 ((first : Int) + ((2 * root + 1 : Nat) : Int)) = ((first + (2 * root + 1) : Nat) : Int) := by
   by_cases hx : first < 200000
   ·exact wn (by omega) (by omega)
   ·omega
  have e4 : wI .i64 ((first : Int) + (root : Int)) = ((first + root : Nat) : Int) := wn (by omega) (by omega)
  have e5 : wI .i64 (((first + (2 * root + 1) : Nat) : Int) + 1) = ((first + (2 * root + 1) + 1 : Nat) : Int) := wn (by omega) (by omega)
  have e6 : wI .i64 ((first : Int) + ((2 * root + 2 : Nat) : Int)) = ((first + (2 * root + 2) : Nat) : Int) := wn (by omega) (by omega)
  simp only [e1, e2, e3, e4, e5]
  by_cases h1 : 2 * root + 1 ≥ hi
  ·rw [AH (by omega), dif_pos h1]
   exact ⟨rfl, rfl, hA⟩
  ·rw [AF (by omega), dif_neg h1]
   -- what follows when the child is known
   have tail : ∀ ch : Nat, ch < hi → root < ch → wI .i64 ((first : Int) + (ch : Int)) = ((first + ch : Nat) : Int) →
     (((Bf d.toList ((first + root : Nat) : Int)).bind fun v11 => (Bf d.toList (wI .i64 ((first : Int) + (ch : Int)))).bind fun v12 => (cmp (v11, v12)).bind fun v13 => AT (!(decide (v13 < 0))) (some d.toList)
      ((Bf d.toList (wI .i64 ((first : Int) + (ch : Int)))).bind fun v15 => (Bf d.toList ((first + root : Nat) : Int)).bind fun v16 => (Bf d.toList ((first + root : Nat) : Int)).bind fun _ =>
       (Bf (d.toList.set (((first + root : Nat) : Int)).toNat v15) (wI .i64 ((first : Int) + (ch : Int)))).bind fun _ =>
       Gs.siftDown_L1 N (hi : Int) (first : Int) cmp (fun v2 => some v2) n ((d.toList.set (((first + root : Nat) : Int)).toNat v15).set ((wI .i64 ((first : Int) + (ch : Int)))).toNat v16, (ch : Int)))) =
      some (if !Ck c d[first + root]! d[first + ch]! then d else siftDown (Ck c) hi first ch (swp d (first + root) (first + ch))).toList) ∧
     (if !Ck c d[first + root]! d[first + ch]! then d else siftDown (Ck c) hi first ch (swp d (first + root) (first + ch))).size = d.size ∧ Db P (if !Ck c d[first + root]! d[first + ch]! then d else siftDown (Ck c) hi first ch (swp d (first + root) (first + ch))) := by
    intro ch h2 h3 h4
    have a1 : first + root < d.size := by omega
    have a2 : first + ch < d.size := by omega
    simp only [h4, gi a1, gi a2, oS, Int.toNat_natCast]
    rw [hc _ _ (hA.get a1) (hA.get a2)]
    simp only [oS]
    rw [IW (by simp; omega), ← EL]
    unfold Ck
    cases hl : decide (c d[first + root]! d[first + ch]! < 0)
    ·rw [Bool.not_false, AI, if_pos rfl]
     exact ⟨rfl, rfl, hA⟩
    ·rw [Bool.not_true, Av, if_neg (by simp)]
     have := PA hc (N := N) (hi := hi) (first := first) n ch (swp d (first + root) (first + ch)) (by omega) (by rw [Bt]; omega) (by rw [Bt]; exact hs) (by omega) (hA.swp a1 a2) (.inl h2) (fun _ => h2)
     rw [Bt] at this
     exact this
   have t1 := tail (2 * root + 1) (by omega) (by omega) e3
   rw [e3] at t1
   by_cases h2 : 2 * root + 1 + 1 < hi
   ·rw [AH (by omega)]
    simp only [gi (show first + (2 * root + 1) < d.size by omega), gi (show first + (2 * root + 1) + 1 < d.size by omega), oS] at t1 ⊢
    rw [hc _ _ (hA.get (by omega)) (hA.get (by omega))]
    simp only [oS]
    have t2 := tail (2 * root + 2) (by omega) (by omega) e6
    rw [e6] at t2
    cases hl : decide (c d[first + (2 * root + 1)]! d[first + (2 * root + 1) + 1]! < 0)
    ·rw [Av, if_neg (by simp [Ck, hl])]
     exact t1
    ·rw [AI, if_pos (by simp [Ck, h2]; simpa using hl), dif_pos (show 2 * root + 2 < hi by omega)]
     simp only [e6]
     exact t2
   ·rw [AF (by omega), Av, if_neg (by simp [h2])]
    exact t1
theorem Oe (hc : ∀ x y, P x → P y → cmp (x, y) = some (c x y)) {N a b : Nat} (hab : a ≤ b) (J : List α → Option (List α)) : ∀ (n k : Nat) (d : Array α), k < n → b ≤ d.size → d.size < N → d.size ≤ 100000 → k ≤ 100000 → Db P d →
  Gs.heapSort_L1 N (a : Int) (b : Int) cmp J n (d.toList, (k : Int) - 1) = J (heapBuild (Ck c) (b - a) a k d).toList ∧ (heapBuild (Ck c) (b - a) a k d).size = d.size ∧ Db P (heapBuild (Ck c) (b - a) a k d)
 | 0, k, d, h, _, _, _, _, _ => by omega
 | n + 1, k, d, h, hb, hN, hs, hk, hA => by
  rw [Gs.heapSort_L1]
  rcases k with _ | k
  ·rw [AF (by simp only; omega)]
   exact ⟨rfl, rfl, hA⟩
  ·have e0 : (((k + 1 : Nat) : Int) - 1) = (k : Int) := by omega
   simp only [e0]
   rw [AH (by omega)]
   unfold Gs.siftDown
   rw [wn (e := (b : Int) - (a : Int)) (n := b - a) (by omega) (by omega)]
   obtain ⟨e1, e2, e3⟩ := PA hc (N := N) (hi := b - a) (first := a) N k d (by omega) (by omega) hs (by omega) hA (.inr (.inr trivial)) (fun _ => by omega)
   rw [e1]
   simp only [oS, heapBuild]
   have ew : wI .i64 ((k : Int) - 1) = (k : Int) - 1 := Fm (by omega) (by omega)
   rw [ew]
   have := Oe hc (N := N) hab J n k (siftDown (Ck c) (b - a) a k d) (by omega) (by omega) (by omega) (by omega) (by omega) e3
   rw [e2] at this
   exact this
theorem QP (hc : ∀ x y, P x → P y → cmp (x, y) = some (c x y)) {N a b : Nat} (hab : a ≤ b) (J : List α → Option (List α)) : ∀ (n k : Nat) (d : Array α), k < n → a + k ≤ d.size → d.size < N → d.size ≤ 100000 → Db P d →
  Gs.heapSort_L5 N (a : Int) cmp J n (d.toList, (k : Int) - 1) = J (heapPop (Ck c) a k d).toList ∧ (heapPop (Ck c) a k d).size = d.size ∧ Db P (heapPop (Ck c) a k d)
 | 0, k, d, h, _, _, _, _ => by omega
 | n + 1, k, d, h, hb, hN, hs, hA => by
  rw [Gs.heapSort_L5]
  rcases k with _ | k
  ·rw [AF (by simp only; omega)]
   exact ⟨rfl, rfl, hA⟩
  ·have e0 : (((k + 1 : Nat) : Int) - 1) = (k : Int) := by omega
   have a1 : a + k < d.size := by omega
   have a2 : a < d.size := by omega
   have e1 : wI .i64 ((a : Int) + (k : Int)) = ((a + k : Nat) : Int) := wn (by omega) (by omega)
   simp only [e0, e1]
   rw [AH (by omega)]
   simp only [gi a1, gi a2, oS, Int.toNat_natCast]
   rw [IW (by simp; omega), ← EL]
   unfold Gs.siftDown
   obtain ⟨f1, f2, f3⟩ := PA hc (N := N) (hi := k) (first := a) N 0 (swp d a (a + k)) (by omega) (by rw [Bt]; omega) (by rw [Bt]; exact hs) (by omega) (hA.swp a2 a1) (.inr (.inr trivial)) (fun _ => by omega)
   have f1' : Gs.siftDown_L1 N (k : Int) (a : Int) cmp (fun v2 => some v2) N ((swp d a (a + k)).toList, 0) = _ := f1
   rw [f1']
   rw [Bt] at f2
   simp only [oS, heapPop]
   have ew : wI .i64 ((k : Int) - 1) = (k : Int) - 1 := Fm (by omega) (by omega)
   rw [ew]
   have := QP hc (N := N) hab J n k (siftDown (Ck c) k a 0 (swp d a (a + k))) (by omega) (by omega) (by omega) (by omega) f3
   rw [f2] at this
   exact this
theorem VB (hc : ∀ x y, P x → P y → cmp (x, y) = some (c x y)) {N a b : Nat} {d : Array α} (hab : a < b) (hb : b ≤ d.size) (hN : d.size < N) (hs : d.size ≤ 100000) (hA : Db P d) :
  Gs.heapSort N d.toList (a : Int) (b : Int) cmp = some (heapSort (Ck c) d a b).toList ∧ (heapSort (Ck c) d a b).size = d.size ∧ Db P (heapSort (Ck c) d a b) := by
 unfold Gs.heapSort heapSort
 have e1 : wI .i64 (Int.tdiv (wI .i64 ((wI .i64 ((b : Int) - (a : Int))) - 1)) 2) = (((b - a - 1) / 2 + 1 : Nat) : Int) - 1 := by
  rw [wn (e := (b : Int) - (a : Int)) (n := b - a) (by omega) (by omega), wn (e := ((b - a : Nat) : Int) - 1) (n := b - a - 1) (by omega) (by omega)]
  rw [wn (n := (b - a - 1) / 2) (by rw [Int.tdiv_eq_ediv_of_nonneg (by omega)]; omega) (by omega)]
  omega
 have e2 : wI .i64 ((wI .i64 ((b : Int) - (a : Int))) - 1) = (((b - a : Nat) : Int)) - 1 := by
  rw [wn (e := (b : Int) - (a : Int)) (n := b - a) (by omega) (by omega)]
  exact Fm (by omega) (by omega)
 rw [e1, e2]
 obtain ⟨f1, f2, f3⟩ := Oe hc (N := N) (a := a) (b := b) (by omega) (fun v2 => Gs.heapSort_L5 N (a : Int) cmp (fun v6 => some v6) N (v2, (((b - a : Nat) : Int)) - 1)) N ((b - a - 1) / 2 + 1) d (by omega) hb hN hs (by omega) hA
 rw [f1]
 obtain ⟨g1, g2, g3⟩ := QP hc (N := N) (a := a) (b := b) (by omega) (fun v6 => some v6) N (b - a) (heapBuild (Ck c) (b - a) a ((b - a - 1) / 2 + 1) d) (by omega) (by omega) (by omega) (by omega) f3
 rw [g1]
 exact ⟨rfl, by rw [g2, f2], g3⟩
end
end Go.Lift
namespace Go.Lift
open IntKind renaming wrap → wI
open Option renaming bind_some → oS
open Go
open Go.Sort (swp scanUp scanDown partLoop partition partEqLoop partitionEqual scanSorted shiftDown shiftUp partialIns partialInsertionSort reverseLoop reverseRange)
section
variable {α : Type} [Inhabited α] {P : α → Prop} {cmp : α × α → Option Int} {c : α → α → Int}
theorem O4 (N : Nat) (J : List α → Option (List α)) : ∀ (n i j : Nat) (d : Array α), j - i < n → j < d.size → d.size ≤ 100000 → i ≤ 100000 → Db P d →
  Gs.reverseRange_L1 N J n (d.toList, (i : Int), (j : Int)) = J (reverseLoop i j d).toList ∧ (reverseLoop i j d).size = d.size ∧ Db P (reverseLoop i j d)
 | 0, i, j, d, h, _, _, _, _ => by omega
 | n + 1, i, j, d, h, hj, hs, hi, hA => by
  rw [Gs.reverseRange_L1, reverseLoop]
  by_cases hij : i < j
  ·rw [AH (by simp only; omega), if_pos hij]
   simp only [gi hj, gi (show i < d.size by omega), oS, Int.toNat_natCast]
   rw [IW (by simp; omega), ← EL, wn (e := (i : Int) + 1) (n := i + 1) (by omega) (by omega), wn (e := (j : Int) - 1) (n := j - 1) (by omega) (by omega)]
   have := O4 N J n (i + 1) (j - 1) (swp d i j) (by omega) (by rw [Bt]; omega) (by rw [Bt]; exact hs) (by omega) (hA.swp (by omega) hj)
   rw [Bt] at this
   exact this
  ·rw [AF (by simp only; omega), if_neg hij]
   exact ⟨rfl, rfl, hA⟩
theorem WF {N a b : Nat} {d : Array α} (hab : a < b) (hb : b ≤ d.size) (hN : d.size < N) (hs : d.size ≤ 100000) (hA : Db P d) :
  Gs.reverseRange N d.toList (a : Int) (b : Int) cmp = some (reverseRange d a b).toList ∧ (reverseRange d a b).size = d.size ∧ Db P (reverseRange d a b) := by
 unfold Gs.reverseRange reverseRange
 rw [wn (e := (b : Int) - 1) (n := b - 1) (by omega) (by omega)]
 exact O4 N (fun v2 => some v2) N a (b - 1) d (by omega) (by omega) hs (by omega) hA
theorem Mu (hc : ∀ x y, P x → P y → cmp (x, y) = some (c x y)) (N b : Nat) {d : Array α} (hb : b ≤ d.size) (hs : d.size ≤ 100000) (hA : Db P d) (x y : Int) (J : Int → Option (Bool × List α)) : ∀ (n i : Nat), b - i < n → 1 ≤ i → i ≤ 100001 →
  Gs.partialInsertionSort_L5 N (b : Int) cmp (d.toList, x, y) J n (i : Int) = J (scanSorted (Ck c) d b i : Nat)
 | 0, i, h, _, _ => by omega
 | n + 1, i, h, hi, hi2 => by
  rw [Gs.partialInsertionSort_L5, scanSorted]
  simp only [Bk]
  by_cases h1 : i < b
  ·rw [AH (by omega)]
   simp only [wn (e := (i : Int) - 1) (n := i - 1) (by omega) (by omega), gi (show i < d.size by omega), gi (show i - 1 < d.size by omega), oS]
   rw [hc _ _ (hA.get (by omega)) (hA.get (by omega))]
   simp only [oS]
   cases hl : decide (c d[i]! d[i - 1]! < 0)
   ·rw [Bool.not_false, AI, if_pos (by simp [h1, Ck, hl]), wn (e := (i : Int) + 1) (n := i + 1) (by omega) (by omega)]
    exact Mu hc N b hb hs hA x y J n (i + 1) (by omega) (by omega) (by omega)
   ·rw [Bool.not_true, Av, if_neg (by simp [Ck, hl])]
  ·rw [AF (by omega), Av, if_neg (by simp [h1])]
theorem Kh (lt : α → α → Bool) (d : Array α) (b : Nat) : ∀ (n i : Nat), b - i < n → i ≤ scanSorted lt d b i ∧ (i ≤ b → scanSorted lt d b i ≤ b)
 | 0, i, h => by omega
 | n + 1, i, h => by
  rw [scanSorted]
  by_cases h1 : (decide (i < b) && !lt d[i]! d[i - 1]!) = true
  ·rw [if_pos h1]
   simp only [Bool.and_eq_true, decide_eq_true_eq] at h1
   have := Kh lt d b n (i + 1) (by omega)
   omega
  ·rw [if_neg h1]; omega
theorem NW (hc : ∀ x y, P x → P y → cmp (x, y) = some (c x y)) (N : Nat) (J : List α → Option (Bool × List α)) : ∀ (n j : Nat) (d : Array α), j < n → j < d.size → d.size ≤ 100000 → Db P d →
  Gs.partialInsertionSort_L21 N cmp J n (d.toList, (j : Int)) = J (shiftDown (Ck c) j d).toList ∧ (shiftDown (Ck c) j d).size = d.size ∧ Db P (shiftDown (Ck c) j d)
 | 0, j, d, h, _, _, _ => by omega
 | n + 1, j, d, h, hj, hs, hA => by
  rw [Gs.partialInsertionSort_L21]
  rcases j with _ | j
  ·rw [AF (by simp)]
   exact ⟨rfl, rfl, hA⟩
  ·rw [AH (by simp only; omega)]
   simp only [wn (e := ((j + 1 : Nat) : Int) - 1) (n := j) (by omega) (by omega), gi hj, gi (show j < d.size by omega), oS, Int.toNat_natCast]
   rw [hc _ _ (hA.get hj) (hA.get (by omega))]
   simp only [oS]
   rw [IW (by simp; omega), ← EL]
   rw [shiftDown]
   cases hl : decide (c d[j + 1]! d[j]! < 0)
   ·rw [Bool.not_false, AI, if_pos (by simp [Ck, hl])]
    exact ⟨rfl, rfl, hA⟩
   ·rw [Bool.not_true, Av, if_neg (by simp [Ck, hl])]
    have := NW hc N J n j (swp d (j + 1) j) (by omega) (by rw [Bt]; omega) (by rw [Bt]; exact hs) (hA.swp hj (by omega))
    rw [Bt] at this
    exact this
theorem QY (hc : ∀ x y, P x → P y → cmp (x, y) = some (c x y)) (N b : Nat) (J : List α → Option (Bool × List α)) : ∀ (n j : Nat) (d : Array α), b - j < n → 1 ≤ j → j ≤ 100001 → b ≤ d.size → d.size ≤ 100000 → Db P d →
  Gs.partialInsertionSort_L33 N (b : Int) cmp J n (d.toList, (j : Int)) = J (shiftUp (Ck c) b j d).toList ∧ (shiftUp (Ck c) b j d).size = d.size ∧ Db P (shiftUp (Ck c) b j d)
 | 0, j, d, h, _, _, _, _, _ => by omega
 | n + 1, j, d, h, hj, hj2, hb, hs, hA => by
  rw [Gs.partialInsertionSort_L33, shiftUp]
  by_cases h1 : j < b
  ·rw [AH (by simp only; omega), if_pos h1]
   simp only [wn (e := (j : Int) - 1) (n := j - 1) (by omega) (by omega), gi (show j < d.size by omega), gi (show j - 1 < d.size by omega), oS, Int.toNat_natCast]
   rw [hc _ _ (hA.get (by omega)) (hA.get (by omega))]
   simp only [oS]
   rw [IW (by simp; omega), ← EL]
   cases hl : decide (c d[j]! d[j - 1]! < 0)
   ·rw [Bool.not_false, AI, if_pos (by simp [Ck, hl])]
    exact ⟨rfl, rfl, hA⟩
   ·rw [Bool.not_true, Av, if_neg (by simp [Ck, hl]), wn (e := (j : Int) + 1) (n := j + 1) (by omega) (by omega)]
    have := QY hc N b J n (j + 1) (swp d j (j - 1)) (by omega) (by omega) (by omega) (by rw [Bt]; exact hb) (by rw [Bt]; exact hs) (hA.swp (by omega) (by omega))
    rw [Bt] at this
    exact this
  ·rw [AF (by simp only; omega), if_neg h1]
   exact ⟨rfl, rfl, hA⟩
theorem JY (hc : ∀ x y, P x → P y → cmp (x, y) = some (c x y)) {N a b : Nat} (J : List α → Option (Bool × List α)) (hJ : ∀ l, J l = some (false, l)) : ∀ (s i : Nat) (n : Nat) (d : Array α), s < n → s ≤ 5 → a < i → i ≤ b → b ≤ d.size → d.size < N → d.size ≤ 100000 → Db P d →
  Gs.partialInsertionSort_L1 N (a : Int) (b : Int) cmp J n (d.toList, (i : Int), ((5 - s : Nat) : Int)) = some ((partialIns (Ck c) a b s i d).2, (partialIns (Ck c) a b s i d).1.toList) ∧ (partialIns (Ck c) a b s i d).1.size = d.size ∧ Db P (partialIns (Ck c) a b s i d).1
 | s, i, 0, d, h, _, _, _, _, _, _, _ => by omega
 | 0, i, n + 1, d, h, _, _, _, hb, hN, hs, hA => by
  rw [Gs.partialInsertionSort_L1, AF (by simp), hJ]
  exact ⟨rfl, rfl, hA⟩
 | s + 1, i, n + 1, d, h, h5, hai, hib, hb, hN, hs, hA => by
  rw [Gs.partialInsertionSort_L1, AH (by simp only; omega)]
  simp only [Bk]
  rw [Mu hc N b hb hs hA _ _ _ N i (by omega) (by omega) (by omega)]
  obtain ⟨g1, g2⟩ := Kh (Ck c) d b (b + 1) i (by omega)
  have g2 := g2 hib
  unfold partialIns
  simp only
  generalize hk : scanSorted (Ck c) d b i = k at g1 g2
  have e5 : wI .i64 (((5 - (s + 1) : Nat) : Int) + 1) = ((5 - s : Nat) : Int) := wn (by omega) (by omega)
  by_cases h1 : k = b
  ·rw [if_pos h1, show (((k : Nat) : Int) == (b : Int)) = true from beq_iff_eq.2 (by omega), AI]
   exact ⟨rfl, rfl, hA⟩
  ·rw [if_neg h1, show (((k : Nat) : Int) == (b : Int)) = false from beq_eq_false_iff_ne.2 (by omega), Av, wn (e := (b : Int) - (a : Int)) (n := b - a) (by omega) (by omega)]
   by_cases h2 : b - a < 50
   ·rw [if_pos h2, AH (by omega)]
    exact ⟨rfl, rfl, hA⟩
   ·rw [if_neg h2, AF (by omega)]
    have k1 : k < d.size := by omega
    have k2 : k - 1 < d.size := by omega
    simp only [wn (e := (k : Int) - 1) (n := k - 1) (by omega) (by omega), gi k1, gi k2, oS, Int.toNat_natCast]
    rw [IW (by simp; omega)]
    simp only [← EL]
    rw [wn (e := (k : Int) - (a : Int)) (n := k - a) (by omega) (by omega), e5]
    have hA1 := hA.swp (i := k) (j := k - 1) k1 k2
    have hs1 := Bt d k (k - 1)
    -- the second shift and the next step
    have fin : ∀ d2 : Array α, d2.size = d.size → Db P d2 →
      (AT (decide (2 ≤ (wI .i64 ((b : Int) - (k : Int)))))
        (Gs.partialInsertionSort_L33 N (b : Int) cmp (fun v34 => Gs.partialInsertionSort_L1 N (a : Int) (b : Int) cmp J n (v34, (k : Int), ((5 - s : Nat) : Int))) N (d2.toList, (wI .i64 ((k : Int) + 1))))
        (Gs.partialInsertionSort_L1 N (a : Int) (b : Int) cmp J n (d2.toList, (k : Int), ((5 - s : Nat) : Int))) =
       some ((partialIns (Ck c) a b s k (if b - k ≥ 2 then shiftUp (Ck c) b (k + 1) d2 else d2)).2, (partialIns (Ck c) a b s k (if b - k ≥ 2 then shiftUp (Ck c) b (k + 1) d2 else d2)).1.toList)) ∧
       (partialIns (Ck c) a b s k (if b - k ≥ 2 then shiftUp (Ck c) b (k + 1) d2 else d2)).1.size = d.size ∧ Db P (partialIns (Ck c) a b s k (if b - k ≥ 2 then shiftUp (Ck c) b (k + 1) d2 else d2)).1 := by
     intro d2 z1 z2
     rw [wn (e := (b : Int) - (k : Int)) (n := b - k) (by omega) (by omega), wn (e := (k : Int) + 1) (n := k + 1) (by omega) (by omega)]
     by_cases h3 : b - k ≥ 2
     ·rw [AH (by omega), if_pos h3]
      obtain ⟨f1, f2, f3⟩ := QY hc N b (fun v34 => Gs.partialInsertionSort_L1 N (a : Int) (b : Int) cmp J n (v34, (k : Int), ((5 - s : Nat) : Int))) N (k + 1) d2 (by omega) (by omega) (by omega) (by omega) (by omega) z2
      rw [f1]
      have := JY hc (N := N) (a := a) (b := b) J hJ s k n (shiftUp (Ck c) b (k + 1) d2) (by omega) (by omega) (by omega) (by omega) (by omega) (by omega) (by omega) f3
      rw [f2, z1] at this
      exact this
     ·rw [AF (by omega), if_neg h3]
      have := JY hc (N := N) (a := a) (b := b) J hJ s k n d2 (by omega) (by omega) (by omega) (by omega) (by omega) (by omega) (by omega) z2
      rw [z1] at this
      exact this
    by_cases h4 : k - a ≥ 2
    ·rw [AH (by omega), if_pos h4]
     obtain ⟨f1, f2, f3⟩ := NW hc N (fun v22 => AT (decide (2 ≤ (wI .i64 ((b : Int) - (k : Int)))))
        (Gs.partialInsertionSort_L33 N (b : Int) cmp (fun v34 => Gs.partialInsertionSort_L1 N (a : Int) (b : Int) cmp J n (v34, (k : Int), ((5 - s : Nat) : Int))) N (v22, (wI .i64 ((k : Int) + 1))))
        (Gs.partialInsertionSort_L1 N (a : Int) (b : Int) cmp J n (v22, (k : Int), ((5 - s : Nat) : Int)))) N (k - 1) (swp d k (k - 1)) (by omega) (by omega) (by omega) hA1
     rw [f1]
     exact fin _ (by rw [f2, hs1]) f3
    ·rw [AF (by omega), if_neg h4]
     exact fin _ hs1 hA1
theorem RI (hc : ∀ x y, P x → P y → cmp (x, y) = some (c x y)) {N a b : Nat} {d : Array α} (hab : a < b) (hb : b ≤ d.size) (hN : d.size < N) (h6 : 6 ≤ N) (hs : d.size ≤ 100000) (hA : Db P d) :
  Gs.partialInsertionSort N d.toList (a : Int) (b : Int) cmp = some ((partialInsertionSort (Ck c) d a b).2, (partialInsertionSort (Ck c) d a b).1.toList) ∧ (partialInsertionSort (Ck c) d a b).1.size = d.size ∧ Db P (partialInsertionSort (Ck c) d a b).1 := by
 unfold Gs.partialInsertionSort partialInsertionSort
 rw [wn (e := (a : Int) + 1) (n := a + 1) (by omega) (by omega)]
 exact JY hc (fun v2 => some (false, v2)) (fun _ => rfl) 5 (a + 1) N d (by omega) (Nat.le_refl _) (by omega) (by omega) hb hN hs hA
end
end Go.Lift
namespace Go.Lift
open Option renaming bind_some → oS
open Go
open Go.Sort (swp scanUp scanDown partLoop partition partEqLoop partitionEqual scanUp_ge scanDown_le scanUp_spec scanDown_spec guard_of)
section
variable {α : Type} [Inhabited α] {P : α → Prop} {cmp : α × α → Option Int} {c : α → α → Int}
theorem V2 (hc : ∀ x y, P x → P y → cmp (x, y) = some (c x y)) (N a : Nat) {d : Array α} (ha : a < d.size) (hs : d.size ≤ 100000) (hA : Db P d) (x : Int) {j : Nat} (hj : j < d.size) (J : Int → Option (Int × List α)) : ∀ (n i : Nat), j + 1 - i < n → i ≤ 100001 →
  Gs.partitionEqual_L7 N (a : Int) cmp (d.toList, x, (j : Int)) J n (i : Int) = J (scanUp (fun x => !Ck c d[a]! x) d j i : Nat)
 | 0, i, h, _ => by omega
 | n + 1, i, h, hi => by
  rw [Gs.partitionEqual_L7, scanUp]
  simp only [Bk]
  by_cases h1 : i ≤ j
  ·rw [AH (by omega)]
   simp only [gi ha, gi (show i < d.size by omega), oS]
   rw [hc _ _ (hA.get ha) (hA.get (by omega))]
   simp only [oS]
   cases hl : decide (c d[a]! d[i]! < 0)
   ·rw [Bool.not_false, AI, if_pos (by simp [h1, Ck, hl]), wn (e := (i : Int) + 1) (n := i + 1) (by omega) (by omega)]
    exact V2 hc N a ha hs hA x hj J n (i + 1) (by omega) (by omega)
   ·rw [Bool.not_true, Av, if_neg (by simp [Ck, hl])]
  ·rw [AF (by omega), Av, if_neg (by simp [h1])]
theorem Sl (hc : ∀ x y, P x → P y → cmp (x, y) = some (c x y)) (N a : Nat) {d : Array α} (ha : a < d.size) (hs : d.size ≤ 100000) (hA : Db P d) (x y : Int) {i : Nat} (hi : 1 ≤ i) (J : Int → Option (Int × List α)) : ∀ (n j : Nat), j < n → j < d.size →
  Gs.partitionEqual_L15 N (a : Int) cmp (d.toList, x, y) (i : Int) J n (j : Int) = J (scanDown (fun x => Ck c d[a]! x) d i j : Nat)
 | 0, j, h, _ => by omega
 | n + 1, j, h, hj => by
  rw [Gs.partitionEqual_L15]
  simp only [Bk]
  rcases j with _ | j
  ·rw [AF (by omega), Av]; rfl
  ·rw [scanDown]
   by_cases h1 : i ≤ j + 1
   ·rw [AH (by omega)]
    simp only [gi ha, gi hj, oS]
    rw [hc _ _ (hA.get ha) (hA.get hj)]
    simp only [oS]
    cases hl : decide (c d[a]! d[j + 1]! < 0)
    ·rw [Av, if_neg (by simp [Ck, hl])]
    ·rw [AI, if_pos (by simp [h1, Ck, hl]), wn (e := ((j + 1 : Nat) : Int) - 1) (n := j) (by omega) (by omega)]
     exact Sl hc N a ha hs hA x y hi J n j (by omega) (by omega)
   ·rw [AF (by omega), Av, if_neg (by simp [h1])]
theorem Sm (hc : ∀ x y, P x → P y → cmp (x, y) = some (c x y)) (N a : Nat) (J : List α × Int → Option (Int × List α)) : ∀ (n i j : Nat) (d : Array α), j + 1 - i < n → a < d.size → d.size + 1 < N → d.size ≤ 100000 → 1 ≤ i → i ≤ j + 2 → j < d.size → Db P d →
  Gs.partitionEqual_L5 N (a : Int) cmp J n (d.toList, (i : Int), (j : Int)) = J ((partEqLoop (Ck c) a i j d).2.toList, ((partEqLoop (Ck c) a i j d).1 : Int)) ∧ (partEqLoop (Ck c) a i j d).2.size = d.size ∧ Db P (partEqLoop (Ck c) a i j d).2 ∧ i ≤ (partEqLoop (Ck c) a i j d).1 ∧ ∀ B, i ≤ B → j + 1 ≤ B → (partEqLoop (Ck c) a i j d).1 ≤ B
 | 0, i, j, d, h, _, _, _, _, _, _, _ => by omega
 | n + 1, i, j, d, h, ha, hN, hs, hi, hij, hj, hA => by
  rw [Gs.partitionEqual_L5]
  have u1 := scanUp_ge (fun x => !Ck c d[a]! x) d j i
  have u2 := (scanUp_spec (fun x => !Ck c d[a]! x) d j _ i rfl).2.1
  rw [V2 hc N a ha hs hA _ hj _ N i (by omega) (by omega)]
  rw [partEqLoop]
  simp only
  generalize hi2 : scanUp (fun x => !Ck c d[a]! x) d j i = i2 at u1 u2
  have d1 := scanDown_le (fun x => Ck c d[a]! x) d i2 j
  have d2 := (scanDown_spec (fun x => Ck c d[a]! x) d i2 j).2.1
  rw [Sl hc N a ha hs hA _ _ (show 1 ≤ i2 by omega) _ N j (by omega) hj]
  generalize hj2 : scanDown (fun x => Ck c d[a]! x) d i2 j = j2 at d1 d2
  by_cases h1 : i2 > j2
  ·rw [if_pos h1, AH (by omega)]
   refine ⟨rfl, rfl, hA, u1, fun B h2 h3 => ?_⟩
   by_cases h4 : i ≤ j + 1
   ·exact Nat.le_trans (u2 h4) h3
   ·rw [Go.Sort.scanUp, if_neg (by simp; omega)] at hi2
    simp only; omega
  ·rw [if_neg h1, AF (by omega), dif_pos (guard_of u1 d1 h1)]
   have k1 : i2 < d.size := by omega
   have k2 : j2 < d.size := by omega
   simp only [gi k1, gi k2, oS, Int.toNat_natCast]
   rw [IW (by simp; omega)]
   simp only [← EL]
   rw [wn (e := (i2 : Int) + 1) (n := i2 + 1) (by omega) (by omega), wn (e := (j2 : Int) - 1) (n := j2 - 1) (by omega) (by omega)]
   obtain ⟨g1, g2, g3, g4, g5⟩ := Sm hc N a J n (i2 + 1) (j2 - 1) (swp d i2 j2) (by omega) (by rw [Bt]; omega) (by rw [Bt]; omega) (by rw [Bt]; omega) (by omega) (by omega) (by rw [Bt]; omega) (hA.swp k1 k2)
   rw [Bt] at g2
   exact ⟨g1, g2, g3, by omega, fun B h2 h3 => g5 B (by omega) (by omega)⟩
theorem Xw (hc : ∀ x y, P x → P y → cmp (x, y) = some (c x y)) {N a b pv : Nat} {d : Array α} (hab : a < b) (hap : a ≤ pv) (hpb : pv < b) (hb : b ≤ d.size) (hN : d.size + 1 < N) (hs : d.size ≤ 100000) (hA : Db P d) :
  Gs.partitionEqual N d.toList (a : Int) (b : Int) (pv : Int) cmp = some (((partitionEqual (Ck c) d a b pv).1 : Int), (partitionEqual (Ck c) d a b pv).2.toList) ∧ (partitionEqual (Ck c) d a b pv).2.size = d.size ∧ Db P (partitionEqual (Ck c) d a b pv).2 ∧ a < (partitionEqual (Ck c) d a b pv).1 ∧ (partitionEqual (Ck c) d a b pv).1 ≤ b := by
 unfold Gs.partitionEqual partitionEqual
 have k1 : a < d.size := by omega
 have k2 : pv < d.size := by omega
 simp only [gi k1, gi k2, oS, Int.toNat_natCast]
 rw [IW (by simp; omega)]
 simp only [← EL]
 rw [wn (e := (a : Int) + 1) (n := a + 1) (by omega) (by omega), wn (e := (b : Int) - 1) (n := b - 1) (by omega) (by omega)]
 obtain ⟨g1, g2, g3, g4, g5⟩ := Sm hc N a (fun v6 => some (v6.2, v6.1)) N (a + 1) (b - 1) (swp d a pv) (by omega) (by rw [Bt]; omega) (by rw [Bt]; omega) (by rw [Bt]; omega) (by omega) (by omega) (by rw [Bt]; omega) (hA.swp k1 k2)
 rw [Bt] at g2
 exact ⟨g1, g2, g3, by omega, g5 b (by omega) (by omega)⟩
theorem V5 (hc : ∀ x y, P x → P y → cmp (x, y) = some (c x y)) (N a : Nat) {d : Array α} (ha : a < d.size) (hs : d.size ≤ 100000) (hA : Db P d) (x : Int) {j : Nat} (hj : j < d.size) (J : Int → Option (Int × Bool × List α)) : ∀ (n i : Nat), j + 1 - i < n → i ≤ 100001 →
  Gs.partition_L32 N (a : Int) cmp (d.toList, x, (j : Int)) J n (i : Int) = J (scanUp (fun x => Ck c x d[a]!) d j i : Nat)
 | 0, i, h, _ => by omega
 | n + 1, i, h, hi => by
  rw [Gs.partition_L32, scanUp]
  simp only [Bk]
  by_cases h1 : i ≤ j
  ·rw [AH (by omega)]
   simp only [gi ha, gi (show i < d.size by omega), oS]
   rw [hc _ _ (hA.get (by omega)) (hA.get ha)]
   simp only [oS]
   cases hl : decide (c d[i]! d[a]! < 0)
   ·rw [Av, if_neg (by simp [Ck, hl])]
   ·rw [AI, if_pos (by simp [h1, Ck, hl]), wn (e := (i : Int) + 1) (n := i + 1) (by omega) (by omega)]
    exact V5 hc N a ha hs hA x hj J n (i + 1) (by omega) (by omega)
  ·rw [AF (by omega), Av, if_neg (by simp [h1])]
theorem SC (hc : ∀ x y, P x → P y → cmp (x, y) = some (c x y)) (N a : Nat) {d : Array α} (ha : a < d.size) (hs : d.size ≤ 100000) (hA : Db P d) (x y : Int) {i : Nat} (hi : 1 ≤ i) (J : Int → Option (Int × Bool × List α)) : ∀ (n j : Nat), j < n → j < d.size →
  Gs.partition_L40 N (a : Int) cmp (d.toList, x, y) (i : Int) J n (j : Int) = J (scanDown (fun x => !Ck c x d[a]!) d i j : Nat)
 | 0, j, h, _ => by omega
 | n + 1, j, h, hj => by
  rw [Gs.partition_L40]
  simp only [Bk]
  rcases j with _ | j
  ·rw [AF (by omega), Av]; rfl
  ·rw [scanDown]
   by_cases h1 : i ≤ j + 1
   ·rw [AH (by omega)]
    simp only [gi ha, gi hj, oS]
    rw [hc _ _ (hA.get hj) (hA.get ha)]
    simp only [oS]
    cases hl : decide (c d[j + 1]! d[a]! < 0)
    ·rw [Bool.not_false, AI, if_pos (by simp [h1, Ck, hl]), wn (e := ((j + 1 : Nat) : Int) - 1) (n := j) (by omega) (by omega)]
     exact SC hc N a ha hs hA x y hi J n j (by omega) (by omega)
    ·rw [Bool.not_true, Av, if_neg (by simp [Ck, hl])]
   ·rw [AF (by omega), Av, if_neg (by simp [h1])]
theorem R9 (hc : ∀ x y, P x → P y → cmp (x, y) = some (c x y)) (N a : Nat) (J : List α × Int → Option (Int × Bool × List α)) : ∀ (n i j : Nat) (d : Array α), j + 1 - i < n → a < d.size → d.size + 1 < N → d.size ≤ 100000 → 1 ≤ i → i ≤ j + 2 → j < d.size → Db P d →
  Gs.partition_L30 N (a : Int) cmp J n (d.toList, (i : Int), (j : Int)) = J ((partLoop (Ck c) a i j d).2.toList, ((partLoop (Ck c) a i j d).1 : Int)) ∧ (partLoop (Ck c) a i j d).2.size = d.size ∧ Db P (partLoop (Ck c) a i j d).2 ∧ (partLoop (Ck c) a i j d).1 ≤ j ∧ ∀ A, A + 1 ≤ i → A ≤ j → A ≤ (partLoop (Ck c) a i j d).1
 | 0, i, j, d, h, _, _, _, _, _, _, _ => by omega
 | n + 1, i, j, d, h, ha, hN, hs, hi, hij, hj, hA => by
  rw [Gs.partition_L30]
  have u1 := scanUp_ge (fun x => Ck c x d[a]!) d j i
  have u2 := (scanUp_spec (fun x => Ck c x d[a]!) d j _ i rfl).2.1
  rw [V5 hc N a ha hs hA _ hj _ N i (by omega) (by omega)]
  rw [partLoop]
  simp only
  generalize hi2 : scanUp (fun x => Ck c x d[a]!) d j i = i2 at u1 u2
  have d1 := scanDown_le (fun x => !Ck c x d[a]!) d i2 j
  rw [SC hc N a ha hs hA _ _ (show 1 ≤ i2 by omega) _ N j (by omega) hj]
  generalize hj2 : scanDown (fun x => !Ck c x d[a]!) d i2 j = j2 at d1
  by_cases h1 : i2 > j2
  ·rw [if_pos h1, AH (by omega)]
   refine ⟨rfl, rfl, hA, d1, fun A h2 h3 => ?_⟩
   by_cases h4 : i ≤ j + 1
   ·have := (scanDown_spec (fun x => !Ck c x d[a]!) d i2 j).2.1 (u2 h4)
    rw [hj2] at this
    simp only; omega
   ·have : j2 = j := by
     rw [← hj2]
     rcases j with _ | j
     ·rfl
     ·rw [scanDown, if_neg (by simp; omega)]
    simp only; omega
  ·rw [if_neg h1, AF (by omega), dif_pos (guard_of u1 d1 h1)]
   have k1 : i2 < d.size := by omega
   have k2 : j2 < d.size := by omega
   simp only [gi k1, gi k2, oS, Int.toNat_natCast]
   rw [IW (by simp; omega)]
   simp only [← EL]
   rw [wn (e := (i2 : Int) + 1) (n := i2 + 1) (by omega) (by omega), wn (e := (j2 : Int) - 1) (n := j2 - 1) (by omega) (by omega)]
   obtain ⟨g1, g2, g3, g4, g5⟩ := R9 hc N a J n (i2 + 1) (j2 - 1) (swp d i2 j2) (by omega) (by rw [Bt]; omega) (by rw [Bt]; omega) (by rw [Bt]; omega) (by omega) (by omega) (by rw [Bt]; omega) (hA.swp k1 k2)
   rw [Bt] at g2
   exact ⟨g1, g2, g3, by omega, fun A h2 h3 => g5 A (by omega) (by omega)⟩
theorem Uc (hc : ∀ x y, P x → P y → cmp (x, y) = some (c x y)) (N a pv b : Nat) {p0 : List α} {v1 v2 : α} {d : Array α} (hd : (p0.set ((a : Int)).toNat v1).set ((pv : Int)).toNat v2 = d.toList) (ha : a < d.size) (hs : d.size ≤ 100000) (hA : Db P d) (hb : b ≤ d.size) (hb1 : 1 ≤ b) (J : Int → Option (Int × Bool × List α)) : ∀ (n i : Nat), b - i < n → i ≤ 100001 →
  Gs.partition_L5 N p0 (a : Int) (b : Int) (pv : Int) cmp v1 v2 J n (i : Int) = J (scanUp (fun x => Ck c x d[a]!) d (b - 1) i : Nat)
 | 0, i, h, _ => by omega
 | n + 1, i, h, hi => by
  rw [Gs.partition_L5, scanUp]
  simp only [Bk, hd]
  rw [wn (e := (b : Int) - 1) (n := b - 1) (by omega) (by omega)]
  by_cases h1 : i ≤ b - 1
  ·rw [AH (by omega)]
   simp only [gi ha, gi (show i < d.size by omega), oS]
   rw [hc _ _ (hA.get (by omega)) (hA.get ha)]
   simp only [oS]
   cases hl : decide (c d[i]! d[a]! < 0)
   ·rw [Av, if_neg (by simp [Ck, hl])]
   ·rw [AI, if_pos (by simp [h1, Ck, hl]), wn (e := (i : Int) + 1) (n := i + 1) (by omega) (by omega)]
    exact Uc hc N a pv b hd ha hs hA hb hb1 J n (i + 1) (by omega) (by omega)
  ·rw [AF (by omega), Av, if_neg (by simp [h1])]
theorem Q2 (hc : ∀ x y, P x → P y → cmp (x, y) = some (c x y)) (N a pv : Nat) {p0 : List α} {v1 v2 : α} {d : Array α} (hd : (p0.set ((a : Int)).toNat v1).set ((pv : Int)).toNat v2 = d.toList) (ha : a < d.size) (hs : d.size ≤ 100000) (hA : Db P d) {i : Nat} (hi : 1 ≤ i) (J : Int → Option (Int × Bool × List α)) : ∀ (n j : Nat), j < n → j < d.size →
  Gs.partition_L13 N p0 (a : Int) (pv : Int) cmp v1 v2 (i : Int) J n (j : Int) = J (scanDown (fun x => !Ck c x d[a]!) d i j : Nat)
 | 0, j, h, _ => by omega
 | n + 1, j, h, hj => by
  rw [Gs.partition_L13]
  simp only [Bk, hd]
  rcases j with _ | j
  ·rw [AF (by omega), Av]; rfl
  ·rw [scanDown]
   by_cases h1 : i ≤ j + 1
   ·rw [AH (by omega)]
    simp only [gi ha, gi hj, oS]
    rw [hc _ _ (hA.get hj) (hA.get ha)]
    simp only [oS]
    cases hl : decide (c d[j + 1]! d[a]! < 0)
    ·rw [Bool.not_false, AI, if_pos (by simp [h1, Ck, hl]), wn (e := ((j + 1 : Nat) : Int) - 1) (n := j) (by omega) (by omega)]
     exact Q2 hc N a pv hd ha hs hA hi J n j (by omega) (by omega)
    ·rw [Bool.not_true, Av, if_neg (by simp [Ck, hl])]
   ·rw [AF (by omega), Av, if_neg (by simp [h1])]
theorem X9 (hc : ∀ x y, P x → P y → cmp (x, y) = some (c x y)) {N a b pv : Nat} {d0 : Array α} (hab : a < b) (hap : a ≤ pv) (hpb : pv < b) (hb : b ≤ d0.size) (hN : d0.size + 1 < N) (hs : d0.size ≤ 100000) (hA0 : Db P d0) :
  Gs.partition N d0.toList (a : Int) (b : Int) (pv : Int) cmp = some (((partition (Ck c) d0 a b pv).1 : Int), (partition (Ck c) d0 a b pv).2.1, (partition (Ck c) d0 a b pv).2.2.toList) ∧ (partition (Ck c) d0 a b pv).2.2.size = d0.size ∧ Db P (partition (Ck c) d0 a b pv).2.2 ∧ a ≤ (partition (Ck c) d0 a b pv).1 ∧ (partition (Ck c) d0 a b pv).1 < b := by
 unfold Gs.partition partition
 have k1 : a < d0.size := by omega
 have k2 : pv < d0.size := by omega
 simp only [gi k1, gi k2, oS]
 have hd : (d0.toList.set ((a : Int)).toNat d0[pv]!).set ((pv : Int)).toNat d0[a]! = (swp d0 a pv).toList := by rw [EL]; rfl
 have hsz := Bt d0 a pv
 have hA := hA0.swp k1 k2
 generalize swp d0 a pv = d at hd hsz hA
 rw [IW (by simp; omega)]
 simp only [Int.toNat_natCast] at hd ⊢
 rw [wn (e := (a : Int) + 1) (n := a + 1) (by omega) (by omega), wn (e := (b : Int) - 1) (n := b - 1) (by omega) (by omega)]
 have u1 := scanUp_ge (fun x => Ck c x d[a]!) d (b - 1) (a + 1)
 have u2 := (scanUp_spec (fun x => Ck c x d[a]!) d (b - 1) _ (a + 1) rfl).2.1
 rw [Uc hc N a pv b (p0 := d0.toList) (by simpa using hd) (by omega) (by omega) hA (by omega) (by omega) _ N (a + 1) (by omega) (by omega)]
 generalize hi2 : scanUp (fun x => Ck c x d[a]!) d (b - 1) (a + 1) = i at u1 u2
 have d1 := scanDown_le (fun x => !Ck c x d[a]!) d i (b - 1)
 rw [Q2 hc N a pv (p0 := d0.toList) (by simpa using hd) (by omega) (by omega) hA (show 1 ≤ i by omega) _ N (b - 1) (by omega) (by omega)]
 generalize hj2 : scanDown (fun x => !Ck c x d[a]!) d i (b - 1) = j at d1
 have a1 : a < d.size := by omega
 have a2 : j < d.size := by omega
 by_cases h1 : i > j
 ·rw [if_pos h1, AH (by omega)]
  simp only [hd, gi a1, gi a2, oS, Int.toNat_natCast]
  rw [IW (by simp; omega)]
  simp only [← EL]
  refine ⟨trivial, by rw [Bt]; omega, hA.swp a2 a1, ?_, by omega⟩
  have := (scanDown_spec (fun x => !Ck c x d[a]!) d i (b - 1)).2.1 (u2 (by omega))
  rw [hj2] at this
  omega
 ·rw [if_neg h1, AF (by omega)]
  have a3 : i < d.size := by omega
  simp only [hd, gi a3, gi a2, oS, Int.toNat_natCast]
  rw [IW (by simp; omega)]
  simp only [← EL]
  rw [wn (e := (i : Int) + 1) (n := i + 1) (by omega) (by omega), wn (e := (j : Int) - 1) (n := j - 1) (by omega) (by omega)]
  obtain ⟨g1, g2, g3, g4, g5⟩ := R9 hc N a (fun v31 => (Bf v31.1 (a : Int)).bind fun v53 => (Bf v31.1 v31.2).bind fun v54 => (Bf v31.1 v31.2).bind fun _ => (Bf (v31.1.set ((v31.2).toNat) v53) (a : Int)).bind fun _ =>
     some (v31.2, false, (v31.1.set ((v31.2).toNat) v53).set a v54)) N (i + 1) (j - 1) (swp d i j) (by omega) (by rw [Bt]; omega) (by rw [Bt]; omega) (by rw [Bt]; omega) (by omega) (by omega) (by rw [Bt]; omega) (hA.swp a3 a2)
  rw [Bt] at g2
  rw [g1]
  generalize hr : partLoop (Ck c) a (i + 1) (j - 1) (swp d i j) = r at g2 g3 g4 g5
  have b1 : a < r.2.size := by omega
  have b2 : r.1 < r.2.size := by omega
  simp only [gi b1, gi b2, oS, Int.toNat_natCast]
  rw [IW (by simp; omega)]
  simp only [← EL]
  exact ⟨trivial, by rw [Bt]; omega, g3.swp b2 b1, g5 a (by omega) (by omega), by omega⟩
end
end Go.Lift
namespace Go.Lift
open IntKind renaming wrap → wI
open Option renaming bind_some → oS
open Go
open Go.Sort (swp order2 median medianAdjacent choosePivot Hint xorNext bitsLen breakStep breakPatterns pdq insertionSort heapSort reverseRange partialInsertionSort partitionEqual partition)
theorem JP {n : Nat} (h : n < 18446744073709551616) : wI .u64 (n : Int) = (n : Int) := by
 show ((n : Int) % (18446744073709551616 : Int)) = n
 exact Int.emod_eq_of_lt (by omega) (by omega)
theorem VP (n : Nat) : wI .u64 (n : Int) = ((n % 18446744073709551616 : Nat) : Int) := by
 show ((n : Int) % (18446744073709551616 : Int)) = _
 omega
theorem UJ (r : UInt64) : r.toNat < 18446744073709551616 := UInt64.toNat_lt r
theorem Xa (r : UInt64) : BitVec.ofInt 64 (r.toNat : Int) = r.toBitVec := by
 rw [BitVec.ofInt_natCast]
 apply BitVec.eq_of_toNat_eq
 rw [BitVec.toNat_ofNat]
 exact Nat.mod_eq_of_lt (UJ r)
theorem U5 (r s : UInt64) : G4 .u64 (r.toNat : Int) (s.toNat : Int) = ((r ^^^ s).toNat : Int) := by
 show wI .u64 (((BitVec.ofInt 64 (r.toNat : Int) ^^^ BitVec.ofInt 64 (s.toNat : Int)).toNat : Nat) : Int) = _
 rw [Xa, Xa]
 exact JP (BitVec.isLt _)
theorem R8 (r k : UInt64) (q : Nat) (hq : k.toNat = q) (h64 : q < 64) (hs : CF .u64 (r.toNat : Int) (q : Int) = wI .u64 ((r.toNat : Int) * 2 ^ q)) : CF .u64 (r.toNat : Int) (q : Int) = ((r <<< k).toNat : Int) := by
 rw [hs, UInt64.toNat_shiftLeft, hq, Nat.mod_eq_of_lt h64, Nat.shiftLeft_eq]
 rw [show ((r.toNat : Int) * 2 ^ q) = ((r.toNat * 2 ^ q : Nat) : Int) from by simp, VP]
theorem Yt (r : UInt64) : CF .u64 (r.toNat : Int) 13 = ((r <<< 13).toNat : Int) := R8 r 13 13 rfl (by decide) rfl
theorem Yg (r : UInt64) : CF .u64 (r.toNat : Int) 17 = ((r <<< 17).toNat : Int) := R8 r 17 17 rfl (by decide) rfl
theorem Y5 (r : UInt64) : EA .u64 (r.toNat : Int) 7 = ((r >>> 7).toNat : Int) := by
 show (r.toNat : Int).fdiv (128 : Int) = _
 rw [UInt64.toNat_shiftRight, show (7 : UInt64).toNat % 64 = 7 from rfl, Nat.shiftRight_eq_div_pow]
 rw [Int.fdiv_eq_ediv_of_nonneg _ (by omega)]
 omega
theorem Tu (N : Nat) (r : UInt64) : DQ N (r.toNat : Int) = some (((xorNext r).toNat : Int), ((xorNext r).toNat : Int)) := by
 unfold DQ xorNext
 simp only [Yt, U5, Y5, Yg]
theorem U9 (r : UInt64) {m : Nat} (h : m < 18446744073709551616) : FT .u64 (r.toNat : Int) (m : Int) = ((r.toNat &&& m : Nat) : Int) := by
 show wI .u64 (((BitVec.ofInt 64 (r.toNat : Int) &&& BitVec.ofInt 64 (m : Int)).toNat : Nat) : Int) = _
 rw [Xa, BitVec.ofInt_natCast, BitVec.toNat_and, BitVec.toNat_ofNat, Nat.mod_eq_of_lt h]
 exact JP (Nat.lt_of_le_of_lt Nat.and_le_left (UJ r))
theorem Vh : ((List.range 1001).all fun n => decide (Dm 0 (n : Int) = some ((bitsLen n : Nat) : Int))) = true := by kernel_rfl
theorem Yx (N : Nat) : Dm N = Dm 0 := rfl
theorem TE (N : Nat) {n : Nat} (h : n ≤ 1000) : Dm N (n : Int) = some ((bitsLen n : Nat) : Int) := by
 rw [Yx]
 exact of_decide_eq_true (List.all_eq_true.1 Vh n (List.mem_range.2 (by omega)))
theorem Ss {n : Nat} (h : n ≤ 1000) : bitsLen n ≤ 10 := by
 have : ((List.range 1001).all fun n => decide (bitsLen n ≤ 10)) = true := by kernel_rfl
 exact of_decide_eq_true (List.all_eq_true.1 this n (List.mem_range.2 (by omega)))
theorem Sc {n : Nat} (h : n ≤ 1000) (h1 : 1 ≤ n) : n < 1 <<< bitsLen n ∧ 1 <<< bitsLen n ≤ 2 * n ∧ 2 ≤ 1 <<< bitsLen n := by
 have : ((List.range 1001).all fun n => decide (1 ≤ n → n < 1 <<< bitsLen n ∧ 1 <<< bitsLen n ≤ 2 * n ∧ 2 ≤ 1 <<< bitsLen n)) = true := by kernel_rfl
 exact of_decide_eq_true (List.all_eq_true.1 this n (List.mem_range.2 (by omega))) h1
theorem Up (N : Nat) {n : Nat} (h : n ≤ 1000) (h1 : 1 ≤ n) : DD N (n : Int) = some ((1 <<< bitsLen n : Nat) : Int) := by
 unfold DD
 rw [JP (by omega), TE N h]
 simp only [oS]
 rw [AS (by omega)]
 have hb := Ss h
 have := Sc h h1
 have e : CF .u64 1 ((bitsLen n : Nat) : Int) = wI .u64 (((1 <<< bitsLen n : Nat)) : Int) := by
  unfold CF
  rw [show min (((bitsLen n : Nat) : Int)).toNat (IntKind.bits .u64) = bitsLen n from by
   rw [Int.toNat_natCast]; show min _ 64 = _; omega]
  rw [Nat.shiftLeft_eq]
  simp
 rw [e, JP (by omega)]
section
variable {α : Type} [Inhabited α] {P : α → Prop} {cmp : α × α → Option Int} {c : α → α → Int}
theorem Lg (N a b m : Nat) (hm : m < 1000000) {d : Array α} {r : UInt64} {idx0 : Nat} (hab : a + 8 ≤ b) (hb : b ≤ d.size) (hs : d.size ≤ 1000) (hml : b - a < m ∧ m ≤ 2 * (b - a)) (h0 : idx0 < d.size) (h1 : idx0 ≤ a + (b - a) / 4 * 2 + 1) (h2 : a ≤ idx0) (J : List α → Option (List α)) (n : Nat) (hA : Db P d) :
  Gs.breakPatterns_L3 N (a : Int) (b : Int) (m : Int) J (n + 1) (d.toList, (r.toNat : Int), (idx0 : Int)) = Gs.breakPatterns_L3 N (a : Int) (b : Int) (m : Int) J n ((breakStep a (b - a) m (r, d) idx0).2.toList, ((breakStep a (b - a) m (r, d) idx0).1.toNat : Int), ((idx0 + 1 : Nat) : Int)) ∧ (breakStep a (b - a) m (r, d) idx0).2.size = d.size ∧ Db P (breakStep a (b - a) m (r, d) idx0).2 := by
 rw [Gs.breakPatterns_L3]
 have el : wI .i64 ((b : Int) - (a : Int)) = ((b - a : Nat) : Int) := wn (by omega) (by omega)
 have e4 : wI .i64 (Int.tdiv ((b - a : Nat) : Int) 4) = (((b - a) / 4 : Nat) : Int) := wn (by rw [Int.tdiv_eq_ediv_of_nonneg (by omega)]; omega) (by omega)
 have f2x : wI .i64 ((((b - a) / 4 : Nat) : Int) * 2) = (((b - a) / 4 * 2 : Nat) : Int) := wn (by omega) (by omega)
 have g2x : wI .i64 ((a : Int) + (((b - a) / 4 * 2 : Nat) : Int)) = ((a + (b - a) / 4 * 2 : Nat) : Int) := wn (by omega) (by omega)
 have e1 : wI .i64 (((a + (b - a) / 4 * 2 : Nat) : Int) + 1) = ((a + (b - a) / 4 * 2 + 1 : Nat) : Int) := wn (by omega) (by omega)
 simp only [el, e4, f2x, g2x, e1]
 rw [AH (by omega), Tu]
 simp only [oS, Bk]
 rw [show wI .u64 ((m : Int) - 1) = ((m - 1 : Nat) : Int) from by rw [show ((m : Int) - 1) = ((m - 1 : Nat) : Int) from by omega]; exact JP (by omega)]
 rw [U9 _ (by omega)]
 have hle : (xorNext r).toNat &&& (m - 1) ≤ m - 1 := Nat.and_le_right
 unfold breakStep
 simp only
 generalize ho : (xorNext r).toNat &&& (m - 1) = o at hle
 rw [wn (e := ((o : Nat) : Int)) (n := o) rfl (by omega)]
 have fin : ∀ q : Nat, q < b - a → ((Bf d.toList (wI .i64 ((a : Int) + (q : Int)))).bind fun v9 => (Bf d.toList (idx0 : Int)).bind fun v10 => (Bf d.toList (idx0 : Int)).bind fun _ =>
   (Bf (d.toList.set ((idx0 : Int)).toNat v9) (wI .i64 ((a : Int) + (q : Int)))).bind fun _ =>
    Gs.breakPatterns_L3 N (a : Int) (b : Int) (m : Int) J n ((d.toList.set ((idx0 : Int)).toNat v9).set ((wI .i64 ((a : Int) + (q : Int)))).toNat v10, ((xorNext r).toNat : Int), (wI .i64 ((idx0 : Int) + 1)))) =
   Gs.breakPatterns_L3 N (a : Int) (b : Int) (m : Int) J n ((swp d idx0 (a + q)).toList, ((xorNext r).toNat : Int), ((idx0 + 1 : Nat) : Int)) ∧ (swp d idx0 (a + q)).size = d.size ∧ Db P (swp d idx0 (a + q)) := by
  intro q hq
  have k1 : a + q < d.size := by omega
  rw [wn (e := (a : Int) + (q : Int)) (n := a + q) (by omega) (by omega), wn (e := (idx0 : Int) + 1) (n := idx0 + 1) (by omega) (by omega)]
  simp only [gi k1, gi h0, oS, Int.toNat_natCast]
  rw [IW (by simp; omega), ← EL]
  exact ⟨rfl, Bt _ _ _, hA.swp h0 k1⟩
 by_cases hge : b - a ≤ o
 ·rw [AH (by omega), if_pos hge, wn (e := ((o : Nat) : Int) - ((b - a : Nat) : Int)) (n := o - (b - a)) (by omega) (by omega)]
  exact fin (o - (b - a)) (by omega)
 ·rw [AF (by omega), if_neg hge]
  exact fin o (by omega)
theorem UN {N a b : Nat} {d : Array α} (hab : a + 8 ≤ b) (hb : b ≤ d.size) (hN : d.size < N) (hs : d.size ≤ 1000) (h6 : 6 ≤ N) (hA : Db P d) :
  Gs.breakPatterns N d.toList (a : Int) (b : Int) cmp = some (breakPatterns d a b).toList ∧ (breakPatterns d a b).size = d.size ∧ Db P (breakPatterns d a b) := by
 unfold Gs.breakPatterns breakPatterns
 simp only
 rw [wn (e := (b : Int) - (a : Int)) (n := b - a) (by omega) (by omega), AH (by omega), if_pos (by omega), Up N (by omega) (by omega)]
 simp only [oS]
 have hp := Sc (n := b - a) (by omega) (by omega)
 rw [JP (by omega)]
 have e4 : wI .i64 (Int.tdiv ((b - a : Nat) : Int) 4) = (((b - a) / 4 : Nat) : Int) := wn (by rw [Int.tdiv_eq_ediv_of_nonneg (by omega)]; omega) (by omega)
 have f2x : wI .i64 ((((b - a) / 4 : Nat) : Int) * 2) = (((b - a) / 4 * 2 : Nat) : Int) := wn (by omega) (by omega)
 have g2x : wI .i64 ((a : Int) + (((b - a) / 4 * 2 : Nat) : Int)) = ((a + (b - a) / 4 * 2 : Nat) : Int) := wn (by omega) (by omega)
 have e1y : wI .i64 (((a + (b - a) / 4 * 2 : Nat) : Int) - 1) = ((a + (b - a) / 4 * 2 - 1 : Nat) : Int) := wn (by omega) (by omega)
 simp only [e4, f2x, g2x, e1y]
 generalize hm : 1 <<< bitsLen (b - a) = m at hp
 have hr0 : ((b - a : Nat) : Int) = ((UInt64.ofNat (b - a)).toNat : Int) := by
  rw [UInt64.toNat_ofNat', Nat.mod_eq_of_lt (by omega)]
 rw [hr0]
 generalize hi : a + (b - a) / 4 * 2 - 1 = i0
 generalize UInt64.ofNat (b - a) = r0
 obtain ⟨N', rfl⟩ : ∃ q, N = q + 4 := ⟨N - 4, by omega⟩
 obtain ⟨f1, f2, f3⟩ := Lg (N' + 4) a b m (by omega) (r := r0) (idx0 := i0) hab hb hs ⟨hp.1, hp.2.1⟩ (by omega) (by omega) (by omega) (fun v4 => some v4) (N' + 3) hA
 rw [f1]
 generalize hs1 : breakStep a (b - a) m (r0, d) i0 = s1 at f2 f3
 obtain ⟨r1, d1⟩ := s1
 simp only at f2 f3 ⊢
 obtain ⟨g1, g2, g3⟩ := Lg (N' + 4) a b m (by omega) (r := r1) (d := d1) (idx0 := i0 + 1) hab (by omega) (by omega) ⟨hp.1, hp.2.1⟩ (by omega) (by omega) (by omega) (fun v4 => some v4) (N' + 2) f3
 rw [g1]
 generalize hs2 : breakStep a (b - a) m (r1, d1) (i0 + 1) = s2 at g2 g3
 obtain ⟨r2, d2⟩ := s2
 simp only at g2 g3 ⊢
 obtain ⟨k1, k2, k3⟩ := Lg (N' + 4) a b m (by omega) (r := r2) (d := d2) (idx0 := i0 + 1 + 1) hab (by omega) (by omega) ⟨hp.1, hp.2.1⟩ (by omega) (by omega) (by omega) (fun v4 => some v4) (N' + 1) g3
 rw [k1, Gs.breakPatterns_L3]
 have el : wI .i64 ((b : Int) - (a : Int)) = ((b - a : Nat) : Int) := wn (by omega) (by omega)
 have e4 : wI .i64 (Int.tdiv ((b - a : Nat) : Int) 4) = (((b - a) / 4 : Nat) : Int) := wn (by rw [Int.tdiv_eq_ediv_of_nonneg (by omega)]; omega) (by omega)
 have f2x : wI .i64 ((((b - a) / 4 : Nat) : Int) * 2) = (((b - a) / 4 * 2 : Nat) : Int) := wn (by omega) (by omega)
 have g2x : wI .i64 ((a : Int) + (((b - a) / 4 * 2 : Nat) : Int)) = ((a + (b - a) / 4 * 2 : Nat) : Int) := wn (by omega) (by omega)
 have e1 : wI .i64 (((a + (b - a) / 4 * 2 : Nat) : Int) + 1) = ((a + (b - a) / 4 * 2 + 1 : Nat) : Int) := wn (by omega) (by omega)
 simp only [el, e4, f2x, g2x, e1]
 rw [AF (by omega)]
 exact ⟨rfl, k2.trans (g2.trans f2), k3⟩
theorem Rs (hc : ∀ x y, P x → P y → cmp (x, y) = some (c x y)) (N : Nat) {d : Array α} {a b s : Nat} (ha : a < d.size) (hb : b < d.size) (hs : s < 1000) (hA : Db P d) : Gs.order2 N d.toList (a : Int) (b : Int) (s : Int) cmp = some (((order2 (Ck c) d a b s).1 : Int), ((order2 (Ck c) d a b s).2.1 : Int), ((order2 (Ck c) d a b s).2.2 : Int)) ∧
  (order2 (Ck c) d a b s).1 < d.size ∧ (order2 (Ck c) d a b s).2.1 < d.size ∧ (order2 (Ck c) d a b s).2.2 ≤ s + 1 := by
 unfold Gs.order2 order2
 simp only [gi ha, gi hb, oS]
 rw [hc _ _ (hA.get hb) (hA.get ha)]
 simp only [oS]
 rw [wn (e := (s : Int) + 1) (n := s + 1) (by omega) (by omega)]
 cases hl : decide (c d[b]! d[a]! < 0)
 ·rw [Av, if_neg (by simp [Ck, hl])]
  exact ⟨rfl, ha, hb, by simp⟩
 ·rw [AI, if_pos (by simp [Ck, hl])]
  exact ⟨rfl, hb, ha, by simp⟩
theorem RV (hc : ∀ x y, P x → P y → cmp (x, y) = some (c x y)) (N : Nat) {d : Array α} {a b e s : Nat} (ha : a < d.size) (hb : b < d.size) (he : e < d.size) (hs : s < 900) (hA : Db P d) : Gs.median N d.toList (a : Int) (b : Int) (e : Int) (s : Int) cmp = some (((median (Ck c) d a b e s).1 : Int), ((median (Ck c) d a b e s).2 : Int)) ∧ (median (Ck c) d a b e s).1 < d.size ∧ (median (Ck c) d a b e s).2 ≤ s + 3 := by
 unfold Gs.median median
 simp only
 obtain ⟨f1, f2, f3, f4⟩ := Rs hc N ha hb (show s < 1000 by omega) hA
 rw [f1]
 simp only [oS]
 obtain ⟨g1, g2, g3, g4⟩ := Rs hc N f3 he (show (order2 (Ck c) d a b s).2.2 < 1000 by omega) hA
 rw [g1]
 simp only [oS]
 obtain ⟨k1, k2, k3, k4⟩ := Rs hc N f2 g2 (show (order2 (Ck c) d (order2 (Ck c) d a b s).2.1 e (order2 (Ck c) d a b s).2.2).2.2 < 1000 by omega) hA
 rw [k1]
 exact ⟨rfl, k3, by omega⟩
theorem RK (hc : ∀ x y, P x → P y → cmp (x, y) = some (c x y)) (N : Nat) {d : Array α} {a s : Nat} (h1 : 1 ≤ a) (ha : a + 1 < d.size) (hs : s < 900) (hz : d.size ≤ 100000) (hA : Db P d) : Gs.medianAdjacent N d.toList (a : Int) (s : Int) cmp = some (((medianAdjacent (Ck c) d a s).1 : Int), ((medianAdjacent (Ck c) d a s).2 : Int)) ∧ (medianAdjacent (Ck c) d a s).1 < d.size ∧ (medianAdjacent (Ck c) d a s).2 ≤ s + 3 := by
 unfold Gs.medianAdjacent medianAdjacent
 rw [wn (e := (a : Int) - 1) (n := a - 1) (by omega) (by omega), wn (e := (a : Int) + 1) (n := a + 1) (by omega) (by omega)]
 obtain ⟨f1, f2, f3⟩ := RV hc N (d := d) (a := a - 1) (b := a) (e := a + 1) (by omega) (by omega) ha hs hA
 rw [f1]
 exact ⟨rfl, f2, f3⟩
def MN : Hint → Int
 | .unknown => 0
 | .increasing => 1
 | .decreasing => 2
theorem UL (hc : ∀ x y, P x → P y → cmp (x, y) = some (c x y)) (N : Nat) {d : Array α} {a b : Nat} (hab : a + 12 < b) (hb : b ≤ d.size) (hz : d.size ≤ 100000) (hA : Db P d) : Gs.choosePivot N d.toList (a : Int) (b : Int) cmp = some (((choosePivot (Ck c) d a b).1 : Int), MN (choosePivot (Ck c) d a b).2) := by
 unfold Gs.choosePivot choosePivot
 simp only [Bk]
 have el : wI .i64 ((b : Int) - (a : Int)) = ((b - a : Nat) : Int) := wn (by omega) (by omega)
 have e4 : wI .i64 (Int.tdiv ((b - a : Nat) : Int) 4) = (((b - a) / 4 : Nat) : Int) := wn (by rw [Int.tdiv_eq_ediv_of_nonneg (by omega)]; omega) (by omega)
 have f1 : wI .i64 ((((b - a) / 4 : Nat) : Int) * 1) = (((b - a) / 4 * 1 : Nat) : Int) := wn (by omega) (by omega)
 have f2 : wI .i64 ((((b - a) / 4 : Nat) : Int) * 2) = (((b - a) / 4 * 2 : Nat) : Int) := wn (by omega) (by omega)
 have f3 : wI .i64 ((((b - a) / 4 : Nat) : Int) * 3) = (((b - a) / 4 * 3 : Nat) : Int) := wn (by omega) (by omega)
 have g1 : wI .i64 ((a : Int) + (((b - a) / 4 * 1 : Nat) : Int)) = ((a + (b - a) / 4 * 1 : Nat) : Int) := wn (by omega) (by omega)
 have g2 : wI .i64 ((a : Int) + (((b - a) / 4 * 2 : Nat) : Int)) = ((a + (b - a) / 4 * 2 : Nat) : Int) := wn (by omega) (by omega)
 have g3 : wI .i64 ((a : Int) + (((b - a) / 4 * 3 : Nat) : Int)) = ((a + (b - a) / 4 * 3 : Nat) : Int) := wn (by omega) (by omega)
 simp only [el, e4, f1, f2, f3, g1, g2, g3]
 generalize hi : a + (b - a) / 4 * 1 = i
 generalize hj : a + (b - a) / 4 * 2 = j
 generalize hk : a + (b - a) / 4 * 3 = k
 have hsw : ∀ (p s : Nat), (AT (((s : Nat) : Int) == 0) (some ((p : Int), (1 : Int))) (AT (((s : Nat) : Int) == 12) (some ((p : Int), (2 : Int))) (some ((p : Int), (0 : Int))))) = some ((p : Int), MN (if s = 0 then .increasing else if s = 12 then .decreasing else .unknown)) := by
  intro p s
  by_cases h0 : s = 0
  ·subst h0; rfl
  ·rw [if_neg h0, show (((s : Nat) : Int) == 0) = false from beq_eq_false_iff_ne.2 (by omega), Av]
   by_cases h12 : s = 12
   ·subst h12; rfl
   ·rw [if_neg h12, show (((s : Nat) : Int) == 12) = false from beq_eq_false_iff_ne.2 (by omega), Av]; rfl
 rw [AH (by omega), if_pos (show b - a ≥ 8 by omega)]
 by_cases h50 : b - a ≥ 50
 ·rw [AH (by omega), if_pos h50]
  obtain ⟨a1, a2, a3⟩ := RK hc N (d := d) (a := i) (s := 0) (by omega) (by omega) (by omega) hz hA
  have a1' : Gs.medianAdjacent N d.toList (i : Int) 0 cmp = _ := a1
  rw [a1']
  simp only [oS]
  obtain ⟨b1, b2, b3⟩ := RK hc N (d := d) (a := j) (s := (medianAdjacent (Ck c) d i 0).2) (by omega) (by omega) (by omega) hz hA
  rw [b1]
  simp only [oS]
  obtain ⟨c1, c2, c3⟩ := RK hc N (d := d) (a := k) (s := (medianAdjacent (Ck c) d j (medianAdjacent (Ck c) d i 0).2).2) (by omega) (by omega) (by omega) hz hA
  rw [c1]
  simp only [oS]
  obtain ⟨d1, d2, d3⟩ := RV hc N a2 b2 c2 (show (medianAdjacent (Ck c) d k (medianAdjacent (Ck c) d j (medianAdjacent (Ck c) d i 0).2).2).2 < 900 by omega) hA
  rw [d1]
  simp only [oS]
  exact hsw _ _
 ·rw [AF (by omega), if_neg h50]
  obtain ⟨d1, d2, d3⟩ := RV hc N (d := d) (a := i) (b := j) (e := k) (s := 0) (by omega) (by omega) (by omega) (by omega) hA
  have d1' : Gs.median N d.toList (i : Int) (j : Int) (k : Int) 0 cmp = _ := d1
  rw [d1']
  simp only [oS]
  exact hsw _ _
end
end Go.Lift
namespace Go.Lift
open IntKind renaming wrap → wI
open Option renaming bind_some → oS
open Go
open Go.Sort (swp Hint bitsLen pdq insertionSort heapSort reverseRange partialInsertionSort partitionEqual partition choosePivot breakPatterns SWO PermIn SortedIn Below)
section
variable {α : Type} [Inhabited α] {P : α → Prop} {cmp : α × α → Option Int} {c : α → α → Int}
theorem TV (h : Hint) : (MN h == 1) = decide (h = .increasing) := by cases h <;> rfl
theorem To (h : Hint) : (MN h == 2) = decide (h = .decreasing) := by cases h <;> rfl
theorem Ut {N a b limit : Nat} {d : Array α} (wb : Bool) (hab : a + 12 < b) (hb : b ≤ d.size) (hN : d.size < N) (hs : d.size ≤ 1000) (h6 : 6 ≤ N) (hl : 1 ≤ limit ∧ limit ≤ 100) (hA : Db P d) (F : List α × Int → Option (List α)) :
  Bi F (fun j7 => AT (!wb) ((Gs.breakPatterns N d.toList (a : Int) (b : Int) cmp).bind fun v9 => j7 (v9, wI .i64 ((limit : Int) - 1))) (j7 (d.toList, (limit : Int)))) = F ((if !wb then breakPatterns d a b else d).toList, ((if !wb then limit - 1 else limit : Nat) : Int)) ∧ (if !wb then breakPatterns d a b else d).size = d.size ∧ Db P (if !wb then breakPatterns d a b else d) := by
 rw [Bk]
 cases wb
 ·obtain ⟨f1, f2, f3⟩ := UN (cmp := cmp) (N := N) (show a + 8 ≤ b by omega) hb hN hs h6 hA
  rw [f1, wn (e := (limit : Int) - 1) (n := limit - 1) (by omega) (by omega)]
  exact ⟨rfl, f2, f3⟩
 ·exact ⟨rfl, rfl, hA⟩
theorem TI {N a b p : Nat} {d : Array α} (h : Hint) (hab : a + 12 < b) (hp : a ≤ p) (hpb : p < b) (hb : b ≤ d.size) (hN : d.size < N) (hs : d.size ≤ 1000) (hA : Db P d) (F : List α × Int × Int → Option (List α)) :
  Bi F (fun j11 => AT (MN h == 2) ((Gs.reverseRange N d.toList (a : Int) (b : Int) cmp).bind fun v13 => j11 (v13, wI .i64 (wI .i64 ((b : Int) - 1) - wI .i64 ((p : Int) - (a : Int))), 1)) (j11 (d.toList, (p : Int), MN h))) =
   F ((if h = .decreasing then reverseRange d a b else d).toList, ((if h = .decreasing then (b - 1) - (p - a) else p : Nat) : Int), MN (if h = .decreasing then Hint.increasing else h)) ∧ (if h = .decreasing then reverseRange d a b else d).size = d.size ∧ Db P (if h = .decreasing then reverseRange d a b else d) := by
 rw [Bk, To]
 by_cases hd : h = .decreasing
 ·obtain ⟨f1, f2, f3⟩ := WF (cmp := cmp) (N := N) (show a < b by omega) hb hN (by omega) hA
  rw [f1, wn (e := (b : Int) - 1) (n := b - 1) (by omega) (by omega), wn (e := (p : Int) - (a : Int)) (n := p - a) (by omega) (by omega), wn (n := (b - 1) - (p - a)) (by omega) (by omega)]
  simp only [hd, decide_true, AI, if_true, oS]
  exact ⟨rfl, f2, f3⟩
 ·simp only [hd, decide_false, Av, if_false]
  exact ⟨trivial, trivial, hA⟩
def PO (c : α → α → Int) (wb wp : Bool) (h : Hint) (d : Array α) (a b : Nat) : Array α × Bool := if wb && wp && h = .increasing then partialInsertionSort (Ck c) d a b else (d, false)
theorem TL (hc : ∀ x y, P x → P y → cmp (x, y) = some (c x y)) {N a b : Nat} {d : Array α} (wb wp : Bool) (h : Hint) (hab : a + 12 < b) (hb : b ≤ d.size) (hN : d.size < N) (hs : d.size ≤ 1000) (h6 : 6 ≤ N) (hA : Db P d) (F : List α → Option (List α)) :
  Bi F (fun j14 => Bi (fun (v15 : Bool) => AT v15 ((Gs.partialInsertionSort N d.toList (a : Int) (b : Int) cmp).bind fun v19 => AT v19.1 (some v19.2) (j14 v19.2)) (j14 d.toList)) fun j15 => AT wb (AT wp (j15 (MN h == 1)) (j15 false)) (j15 false)) =
   (if (PO c wb wp h d a b).2 then some (PO c wb wp h d a b).1.toList else F (PO c wb wp h d a b).1.toList) ∧ (PO c wb wp h d a b).1.size = d.size ∧ Db P (PO c wb wp h d a b).1 := by
 rw [Bk, Bk, TV]
 unfold PO
 have hno : ∀ q : Bool, q = false → (F d.toList) = (if (if q = true then partialInsertionSort (Ck c) d a b else (d, false)).2 then some (if q = true then partialInsertionSort (Ck c) d a b else (d, false)).1.toList else F (if q = true then partialInsertionSort (Ck c) d a b else (d, false)).1.toList) ∧ (if q = true then partialInsertionSort (Ck c) d a b else (d, false)).1.size = d.size ∧ Db P (if q = true then partialInsertionSort (Ck c) d a b else (d, false)).1 := by
  intro q hq; subst hq; exact ⟨rfl, rfl, hA⟩
 cases wb
 ·exact hno _ rfl
 cases wp
 ·exact hno _ rfl
 by_cases hd : h = .increasing
 ·simp only [hd, decide_true, AI, Bool.and_self, if_true]
  obtain ⟨f1, f2, f3⟩ := RI hc (N := N) (show a < b by omega) hb hN h6 (by omega) hA
  rw [f1]
  simp only [oS]
  refine ⟨?_, f2, f3⟩
  cases (partialInsertionSort (Ck c) d a b).2 <;> rfl
 ·simp only [hd, decide_false, Av, AI]
  exact hno _ rfl
theorem Vc (hc : ∀ x y, P x → P y → cmp (x, y) = some (c x y)) {a p : Nat} {d : Array α} (hb : a ≤ d.size) (hs : d.size ≤ 1000) (hp : p < d.size) (hA : Db P d) (F : Bool → Option (List α)) :
  Bi F (fun j21 => AT (decide (0 < (a : Int))) ((Bf d.toList (wI .i64 ((a : Int) - 1))).bind fun v23 => (Bf d.toList (p : Int)).bind fun v24 => (cmp (v23, v24)).bind fun v25 => j21 (!decide (v25 < 0))) (j21 false)) = F (decide (a > 0) && !Ck c d[a - 1]! d[p]!) := by
 rw [Bk]
 by_cases h0 : 0 < a
 ·rw [AH (by omega), wn (e := (a : Int) - 1) (n := a - 1) (by omega) (by omega), gi (show a - 1 < d.size by omega), gi hp]
  simp only [oS]
  rw [hc _ _ (hA.get (by omega)) (hA.get hp)]
  simp only [oS, Ck, h0, decide_true, Bool.true_and, gt_iff_lt]
 ·rw [AF (by omega)]
  simp [h0]
theorem Tp (hc : ∀ x y, P x → P y → cmp (x, y) = some (c x y)) {N : Nat} (hN : 1010 ≤ N) : ∀ (w : Nat) (k n : Nat) (d : Array α) (a b limit : Nat) (wb wp : Bool) (J : Unit → Option (List α)), b - a ≤ w → w < n → w ≤ k → a ≤ b → b ≤ d.size → d.size ≤ 1000 → limit ≤ 100 → Db P d →
  Gs.pdqsort_L1 N cmp (Gs.pdqsort_R N k) J n (d.toList, (a : Int), (b : Int), (limit : Int), wb, wp) = some (pdq (Ck c) d a b limit wb wp).toList ∧ (pdq (Ck c) d a b limit wb wp).size = d.size ∧ Db P (pdq (Ck c) d a b limit wb wp) := by
 intro w
 induction w using Nat.strongRecOn with
 | _ w ih =>
 intro k n d a b limit wb wp J hw hn hk hab hb hs hl hA
 obtain ⟨n, rfl⟩ : ∃ q, n = q + 1 := ⟨n - 1, by omega⟩
 rw [Gs.pdqsort_L1, pdq]
 have el : wI .i64 ((b : Int) - (a : Int)) = ((b - a : Nat) : Int) := wn (by omega) (by omega)
 simp only [el]
 by_cases h12 : b - a ≤ 12
 ·rw [AH (by omega), if_pos h12]
  obtain ⟨f1, f2, f3⟩ := WB hc (N := N) hab hb (by omega) (by omega) hA
  rw [f1]
  exact ⟨rfl, f2, f3⟩
 rw [AF (by omega), if_neg h12]
 by_cases h0 : limit = 0
 ·rw [if_pos h0, show ((limit : Int) == 0) = true from beq_iff_eq.2 (by omega), AI]
  obtain ⟨f1, f2, f3⟩ := VB hc (N := N) (show a < b by omega) hb (by omega) (by omega) hA
  rw [f1]
  exact ⟨rfl, f2, f3⟩
 rw [if_neg h0, show ((limit : Int) == 0) = false from beq_eq_false_iff_ne.2 (by omega), Av]
 -- the recursion
 have rec_ : ∀ (q : Nat) (d : Array α) (a b limit : Nat), b - a ≤ q → q < w → a ≤ b → b ≤ d.size → d.size ≤ 1000 → limit ≤ 100 → Db P d → Gs.pdqsort_R N k d.toList (a : Int) (b : Int) (limit : Int) cmp = some (pdq (Ck c) d a b limit true true).toList ∧ (pdq (Ck c) d a b limit true true).size = d.size ∧ Db P (pdq (Ck c) d a b limit true true) := by
  intro q d a b limit h1 h2 h3 h4 h5 h6 h7
  obtain ⟨k', rfl⟩ : ∃ q, k = q + 1 := ⟨k - 1, by omega⟩
  rw [Gs.pdqsort_R]
  unfold Gs.pdqsort_B
  exact ih (min q 1000) (by omega) k' N d a b limit true true _ (by omega) (by omega) (by omega) h3 h4 h5 h6 h7
 obtain ⟨e1, e2, e3⟩ := Ut (cmp := cmp) (N := N) (a := a) (b := b) (limit := limit) wb (by omega) hb (by omega) hs (by omega) ⟨by omega, hl⟩ hA _
 rw [e1]
 clear e1
 generalize (if !wb then breakPatterns d a b else d) = d1 at e2 e3 ⊢
 generalize hl1 : (if !wb then limit - 1 else limit) = l1
 have hl2 : l1 ≤ 100 := by rw [← hl1]; split <;> omega
 clear hl1
 simp only
 rw [UL hc N (by omega) (by omega) (by omega) e3]
 obtain ⟨p1, p2⟩ := Go.Sort.choosePivot_holds (Ck c) d1 a b (by omega)
 generalize choosePivot (Ck c) d1 a b = cp at p1 p2 ⊢
 obtain ⟨p, h⟩ := cp
 simp only [oS] at p1 p2 ⊢
 obtain ⟨e4, e5, e6⟩ := TI (cmp := cmp) (N := N) (a := a) (b := b) h (by omega) p1 p2 (by omega) (by omega) (by omega) e3 _
 rw [e4]
 clear e4
 generalize (if h = .decreasing then reverseRange d1 a b else d1) = d2 at e5 e6 ⊢
 generalize hq : (if h = .decreasing then (b - 1) - (p - a) else p) = q
 have hq1 : a ≤ q ∧ q < b := by rw [← hq]; split <;> omega
 clear hq
 generalize (if h = .decreasing then Hint.increasing else h) = h'
 simp only
 obtain ⟨e7, e8, e9⟩ := TL hc (N := N) (a := a) (b := b) wb wp h' (by omega) (show b ≤ d2.size by omega) (by omega) (by omega) (by omega) e6 _
 rw [e7]
 clear e7
 have hpr : (if (wb && wp && decide (h' = Hint.increasing)) = true then partialInsertionSort (Ck c) d2 a b else (d2, false)) = PO c wb wp h' d2 a b := rfl
 rw [hpr]
 by_cases hpi : (PO c wb wp h' d2 a b).2 = true
 ·simp only [hpi, if_true]
  exact ⟨trivial, by omega, e9⟩
 simp only [hpi, if_false]
 generalize (PO c wb wp h' d2 a b).1 = d3 at e8 e9 ⊢
 rw [Vc hc (by omega) (by omega) (by omega) e9]
 cases (decide (a > 0) && !Ck c d3[a - 1]! d3[q]!)
 ·simp only [Av, Bool.false_eq_true, if_false]
  obtain ⟨f1, f2, f3, f4, f5⟩ := X9 hc (N := N) (show a < b by omega) hq1.1 hq1.2 (show b ≤ d3.size by omega) (by omega) (by omega) e9
  rw [f1]
  generalize partition (Ck c) d3 a b q = r at f2 f3 f4 f5 ⊢
  obtain ⟨mid, al, d4⟩ := r
  simp only [oS] at f2 f3 f4 f5 ⊢
  have m1 : wI .i64 ((mid : Int) - (a : Int)) = ((mid - a : Nat) : Int) := wn (by omega) (by omega)
  have m2 : wI .i64 ((b : Int) - (mid : Int)) = ((b - mid : Nat) : Int) := wn (by omega) (by omega)
  have m3 : wI .i64 ((mid : Int) + 1) = ((mid + 1 : Nat) : Int) := wn (by omega) (by omega)
  have m4 : wI .i64 (Int.tdiv ((b - a : Nat) : Int) 8) = (((b - a) / 8 : Nat) : Int) := wn (by rw [Int.tdiv_eq_ediv_of_nonneg (by omega)]; omega) (by omega)
  have m5 : decide ((((b - a) / 8 : Nat) : Int) ≤ ((mid - a : Nat) : Int)) = decide (mid - a ≥ (b - a) / 8) := by rw [decide_eq_decide]; omega
  have m6 : decide ((((b - a) / 8 : Nat) : Int) ≤ ((b - mid : Nat) : Int)) = decide (b - mid ≥ (b - a) / 8) := by rw [decide_eq_decide]; omega
  simp only [m1, m2, m3, m4, m5, m6, dif_pos (show a ≤ mid ∧ mid < b from ⟨f4, f5⟩)]
  by_cases hsm : mid - a < b - mid
  ·rw [AH (by omega)]
   simp only [hsm, if_true]
   obtain ⟨g1, g2, g3⟩ := rec_ (mid - a) d4 a mid l1 (Nat.le_refl _) (by omega) f4 (by omega) (by omega) hl2 f3
   rw [g1]
   simp only [oS]
   obtain ⟨k1, k2, k3⟩ := ih (b - (mid + 1)) (by omega) k n (pdq (Ck c) d4 a mid l1 true true) (mid + 1) b l1 (decide (mid - a ≥ (b - a) / 8)) al J (Nat.le_refl _) (by omega) (by omega) (by omega) (by omega) (by omega) hl2 g3
   exact ⟨k1, by omega, k3⟩
  ·rw [AF (by omega)]
   simp only [hsm, if_false]
   obtain ⟨g1, g2, g3⟩ := rec_ (b - (mid + 1)) d4 (mid + 1) b l1 (Nat.le_refl _) (by omega) (by omega) (by omega) (by omega) hl2 f3
   rw [g1]
   simp only [oS]
   obtain ⟨k1, k2, k3⟩ := ih (mid - a) (by omega) k n (pdq (Ck c) d4 (mid + 1) b l1 true true) a mid l1 (decide (b - mid ≥ (b - a) / 8)) al J (Nat.le_refl _) (by omega) (by omega) (by omega) (by omega) (by omega) hl2 g3
   exact ⟨k1, by omega, k3⟩
 ·simp only [AI, if_true]
  obtain ⟨f1, f2, f3, f4, f5⟩ := Xw hc (N := N) (show a < b by omega) hq1.1 hq1.2 (show b ≤ d3.size by omega) (by omega) (by omega) e9
  rw [f1]
  generalize partitionEqual (Ck c) d3 a b q = r at f2 f3 f4 f5 ⊢
  obtain ⟨mid, d4⟩ := r
  simp only [oS] at f2 f3 f4 f5 ⊢
  simp only [dif_pos (show a < mid ∧ mid ≤ b from ⟨f4, f5⟩)]
  obtain ⟨k1, k2, k3⟩ := ih (b - mid) (by omega) k n d4 mid b l1 wb wp J (Nat.le_refl _) (by omega) (by omega) (by omega) (by omega) (by omega) hl2 f3
  simp only [Bool.false_eq_true, if_false]
  exact ⟨k1, by omega, k3⟩
end
end Go.Lift
namespace Go.Lift
open Go
open Go.Sort (bitsLen pdq SWO PermIn SortedIn)
structure J1 {α : Type} (c : α → α → Int) : Prop where
 anti : ∀ x y, c y x = - c x y
 le : ∀ x y z, c x y ≤ 0 → c y z ≤ 0 → c x z ≤ 0
namespace J1
variable {α : Type} {c : α → α → Int}
theorem self (O : J1 c) (x : α) : c x x = 0 := by have := O.anti x x; omega
theorem lt1 (O : J1 c) {x y z : α} (h : c x y < 0) (h2 : c y z ≤ 0) : c x z < 0 := by
 have h3 := O.le x y z (by omega) h2
 by_cases h0 : c x z = 0
 ·have h4 := O.anti x z
  have h5 := O.le y z x h2 (by omega)
  have h6 := O.anti x y
  omega
 ·omega
theorem lt2 (O : J1 c) {x y z : α} (h : c x y ≤ 0) (h2 : c y z < 0) : c x z < 0 := by
 have h3 := O.le x y z h (by omega)
 by_cases h0 : c x z = 0
 ·have h4 := O.anti x z
  have h5 := O.le z x y (by omega) h
  have h6 := O.anti y z
  omega
 ·omega
theorem or {d : α → α → Int} (O : J1 c) (Q : J1 d) : J1 (fun x y => if c x y = 0 then d x y else c x y) := by
 refine ⟨fun x y => ?_, fun x y z => ?_⟩
 ·have := O.anti x y
  by_cases h : c x y = 0
  ·simp only [h, show c y x = 0 by omega, if_true]; exact Q.anti x y
  ·simp only [h, show ¬ c y x = 0 by omega, if_false]; exact this
 ·intro h1 h2
  have a1 : c x y ≤ 0 := by revert h1; split <;> omega
  have a2 : c y z ≤ 0 := by revert h2; split <;> omega
  have a3 := O.le x y z a1 a2
  by_cases h0 : c x z = 0
  ·have b1 : c x y = 0 := by
    by_cases q : c x y = 0
    ·exact q
    ·have := O.lt1 (show c x y < 0 by omega) a2; omega
   have b2 : c y z = 0 := by
    by_cases q : c y z = 0
    ·exact q
    ·have := O.lt2 a1 (show c y z < 0 by omega); omega
   simp only [b1, b2, h0, if_true] at h1 h2 ⊢
   exact Q.le x y z h1 h2
  ·simp only [h0, if_false]; exact a3
theorem swo (O : J1 c) : SWO (Ck c) := by
 refine ⟨fun x => ?_, fun x y z => ?_, fun x y z => ?_⟩
 ·unfold Ck; rw [O.self x]; rfl
 ·unfold Ck; intro h1 h2
  exact decide_eq_true (O.lt1 (of_decide_eq_true h1) (by have := of_decide_eq_true h2; omega))
 ·unfold Ck; intro h1 h2
  have := of_decide_eq_false h1
  have := of_decide_eq_false h2
  have := O.anti x y
  have := O.anti y z
  have := O.anti x z
  have := O.le z y x (by omega) (by omega)
  exact decide_eq_false (by omega)
end J1
section
variable {α : Type} [Inhabited α] {P : α → Prop} {cmp : α × α → Option Int} {c : α → α → Int}
theorem SW (O : J1 c) (hc : ∀ x y, P x → P y → cmp (x, y) = some (c x y)) {N : Nat} (hN : 1010 ≤ N) (l : List α) (hl : l.length ≤ 1000) (hP : ∀ x, x ∈ l → P x) :
  ∃ r : List α, Gs.pdqsort N l 0 ((l.length : Nat) : Int) ((bitsLen l.length : Nat) : Int) cmp = some r ∧ r.Perm l ∧ r.Pairwise (fun x y => c x y ≤ 0) := by
 have hb := Ss hl
 have hA : Db P l.toArray := fun x hx => hP x hx
 obtain ⟨k, rfl⟩ : ∃ q, N = q + 1 := ⟨N - 1, by omega⟩
 obtain ⟨f1, f2, f3⟩ := Tp hc hN 1000 k (k + 1) l.toArray 0 l.length (bitsLen l.length) true true (fun _ => none) (by omega) (by omega) (by omega) (by omega) (by simp) (by simpa using hl) (by omega) hA
 obtain ⟨⟨g0, _, g1⟩, g2⟩ := Go.Sort.sort_sorts (Ck c) O.swo l.toArray
 unfold Go.Sort.sort at g0 g1 g2
 simp only [List.size_toArray] at g0 g1 g2
 refine ⟨_, f1, ?_, ?_⟩
 ·generalize pdq (Ck c) l.toArray 0 l.length (bitsLen l.length) true true = d at g0 g1
  have e1 : (d.extract 0 l.length).toList = d.toList := by rw [← g0]; simp
  have e2 : (l.toArray.extract 0 l.length).toList = l := by simp
  rw [e1, e2] at g1
  exact g1
 ·generalize pdq (Ck c) l.toArray 0 l.length (bitsLen l.length) true true = d at g0 g2
  rw [List.pairwise_iff_getElem]
  intro i j hi hj hij
  have := of_decide_eq_false (g2 i j (Nat.zero_le _) hij (by rw [← g0]; simpa using hj))
  rw [getElem!_pos d i (by simpa using hi), getElem!_pos d j (by simpa using hj)] at this
  have h2 := O.anti d[i] d[j]
  simp only [Array.getElem_toList]
  omega
end
section
variable {α : Type} {c : α → α → Int}
abbrev Rk (c : α → α → Int) (l : List α) : Prop := l.Pairwise (fun x y => c x y < 0)
end
theorem J1.pull {α β : Type} {c : α → α → Int} (O : J1 c) (f : β → α) : J1 (fun x y => c (f x) (f y)) := ⟨fun x y => O.anti _ _, fun x y z => O.le _ _ _⟩
theorem Ts : J1 (fun (x y : Int) => if x < y then -1 else if x = y then 0 else 1) := by
 refine ⟨fun x y => ?_, fun x y z => ?_⟩
 ·repeat' split
  all_goals omega
 ·repeat' split
  all_goals omega
end Go.Lift
namespace Go.Lift
open IntKind renaming wrap → wI
open Go
variable {α : Type}
def Gs.compact_L11 (z : α) (N : Nat) (p0 : List α) (p1 : (α × α) → Option Bool) (v2 : Int) (j11 : ((List α) × Int) → Option (Nat × (List α))) : Nat → ((List α) × Int × Int) → Option (Nat × (List α))
 | 0, _ => none
 | n11 + 1, v11 =>
  AT ((decide (v11.2.2 < ((((p0.length - (v2).toNat)) : Nat) : Int))))
   (Bi (fun (v14 : (List α) × Int) =>
    Gs.compact_L11 z N p0 p1 v2 j11 n11 (v14.1, v14.2, (wI .i64 (v11.2.2 + 1))))
   fun j14 =>
   (EJ (((v2).toNat) + ((p0.length - (v2).toNat)) ≤ v11.1.length)).bind fun _ =>
   (Bf (((v11.1.drop ((v2).toNat)).take ((p0.length - (v2).toNat)))) v11.2.2).bind fun v15 =>
   (Bf (((v11.1.drop ((v2).toNat)).take ((p0.length - (v2).toNat)))) ((wI .i64 (v11.2.2 - 1)))).bind fun v17 =>
   (p1 ((v15, v17))).bind fun v18 =>
   AT ((!v18))
    ((Bf (((v11.1.drop ((v2).toNat)).take ((p0.length - (v2).toNat)))) v11.2.2).bind fun v20 =>
    (Bf v11.1 v11.2.1).bind fun _ =>
    j14 (v11.1.set ((v11.2.1).toNat) v20, (wI .i64 (v11.2.1 + 1))))
    (j14 (v11.1, v11.2.1)))
   (j11 (v11.1, v11.2.1))
def Gs.compact_L2 (z : α) (N : Nat) (p0 : List α) (p1 : (α × α) → Option Bool) (j2 : Unit → Option (Nat × (List α))) : Nat → Int → Option (Nat × (List α))
 | 0, _ => none
 | n2 + 1, v2 =>
  AT ((decide (v2 < (p0.length : Int))))
   ((Bf p0 v2).bind fun v5 =>
   (Bf p0 ((wI .i64 (v2 - 1)))).bind fun v6 =>
   (p1 ((v5, v6))).bind fun v7 =>
   AT v7
    ((EJ ((0 : Int) ≤ v2 ∧ (v2).toNat ≤ p0.length ∧ p0.length ≤ p0.length)).bind fun _ =>
    Gs.compact_L11 z N p0 p1 v2 (fun (v12 : (List α) × Int) =>
     (EJ ((0 : Int) ≤ v12.2 ∧ (v12.2).toNat ≤ v12.1.length ∧ v12.1.length ≤ v12.1.length)).bind fun _ =>
     (EJ ((0 : Int) ≤ v12.2 ∧ 0 ≤ (v12.2).toNat ∧ (v12.2).toNat ≤ (HQ v12.1 ((v12.2).toNat) (List.replicate ((v12.1.length - (v12.2).toNat)) (z))).length)).bind fun _ =>
     some ((v12.2).toNat, HQ v12.1 ((v12.2).toNat) (List.replicate ((v12.1.length - (v12.2).toNat)) (z)))) N (p0, v2, 1))
    (Gs.compact_L2 z N p0 p1 j2 n2 (wI .i64 (v2 + 1))))
   (j2 ())
def Gs.compact (z : α) (N : Nat) (p0 : List α) (p1 : (α × α) → Option Bool) : Option (Nat × (List α)) :=
 AT ((decide ((p0.length : Int) < 2)))
  (some (p0.length, p0))
  (Gs.compact_L2 z N p0 p1 (fun (_ : Unit) =>
   some (p0.length, p0)) N 1)
end Go.Lift
