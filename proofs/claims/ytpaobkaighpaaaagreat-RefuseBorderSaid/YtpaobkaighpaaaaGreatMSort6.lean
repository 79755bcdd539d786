/- Lemmas for RefuseBorderSaid, which YtpaobkaighpaaaaGreatFinR5 proves. -/
import Derived.Test.YtpaobkaighpaaaaGreatDec
import Derived.KernelRfl
import Derived.Sort.AssemblyPlain
namespace Go.Lift
open IntKind renaming wrap → wI
open Option renaming bind_some → oS
open List renaming getElem?_eq_some_iff → lI
theorem Bn {α : Type} (xs : List α) (i : Nat) : Bf xs (i : Int) = xs[i]? := by
 unfold Bf; simp
theorem CM {n : Int} (h0 : -9223372036854775808 ≤ n) (h1 : n ≤ 9223372036854775807) : wI .i64 n = n := by
 simp [wI, IntKind.signed, IntKind.bits]; omega
theorem AZ {i : Nat} (h : i < 1000000) : wI .i64 ((i : Int) + 1) = ((i + 1 : Nat) : Int) := by
 rw [CM (by omega) (by omega)]; simp
@[simp] theorem AN {α : Type} {a b : Option α} : AW true a b = a := rfl
@[simp] theorem Ax {α : Type} {a b : Option α} : AW false a b = b := rfl
theorem AK {α : Type} {p : Prop} [Decidable p] {a b : Option α} (h : p) : AW (decide p) a b = a := by simp [h]
theorem AH {α : Type} {p : Prop} [Decidable p] {a b : Option α} (h : ¬ p) : AW (decide p) a b = b := by simp [h]
def IR : List Int → List Int → Int
 | [], [] => 0
 | [], _ :: _ => -1
 | _ :: _, [] => 1
 | a :: as1, b :: bs => if a < b then -1 else if b < a then 1 else IR as1 bs
theorem Hy {α : Type} {xs : List α} {i : Nat} {x : α} (h : xs[i]? = some x) : xs.drop i = x :: xs.drop (i + 1) := by
 obtain ⟨hi, rfl⟩ := lI.1 h
 exact List.drop_eq_getElem_cons hi
theorem SU (N : Nat) (a b : List Int) (hb : a.length < 1000000) : ∀ (n i : Nat), i ≤ a.length → i ≤ b.length → a.length - i < n →
  DA N a b (fun _ => AW (decide ((a.length : Int) < (b.length : Int))) (some (-1)) (AW (decide ((b.length : Int) < (a.length : Int))) (some 1) (some 0))) n (i : Int) = some (IR (a.drop i) (b.drop i))
 | 0, i, _, _, h => by omega
 | n + 1, i, hi, hj, h => by
  unfold DA
  simp only [Bi]
  by_cases h1 : i < a.length
  ·rw [AK (p := (i : Int) < (a.length : Int)) (by omega)]
   have ha : a[i]? = some a[i] := by simp [h1]
   rw [Hy ha]
   by_cases h2 : i < b.length
   ·have hbb : b[i]? = some b[i] := by simp [h2]
    rw [show decide ((i : Int) < (b.length : Int)) = true from decide_eq_true (by omega), AN, Bn, Bn, ha, hbb, Hy hbb]
    simp only [oS, IR]
    rw [AZ (by omega), SU N a b hb n (i + 1) (by omega) (by omega) (by omega)]
    by_cases h3 : a[i] < b[i]
    ·simp [h3]
    ·by_cases h4 : b[i] < a[i]
     ·simp [h3, h4]
     ·simp [h3, h4]
   ·rw [show decide ((i : Int) < (b.length : Int)) = false from decide_eq_false (by omega), Ax, AH (by omega), AK (by omega), List.drop_eq_nil_of_le (by omega : b.length ≤ i)]
    simp [IR]
  ·rw [AH (p := (i : Int) < (a.length : Int)) (by omega), Ax, List.drop_eq_nil_of_le (by omega : a.length ≤ i)]
   by_cases h2 : a.length < b.length
   ·rw [AK (by omega)]
    have hbb : b[i]? = some b[i] := by simp [show i < b.length from by omega]
    rw [Hy hbb]; simp [IR]
   ·rw [AH (by omega), AH (by omega), List.drop_eq_nil_of_le (by omega : b.length ≤ i)]
    simp [IR]
theorem OA {N : Nat} {a b : List Int} (h : a.length < N) (hN : N ≤ 1000000) : DF N a b = some (IR a b) := by
 have := SU N a b (by omega) N 0 (by omega) (by omega) (by omega)
 simpa [DF] using this
theorem Pc : ∀ a : List Int, IR a a = 0
 | [] => rfl
 | a :: as1 => by simp [IR, Pc as1]
theorem NH : ∀ a b : List Int, IR a b = 0 → a = b
 | [], [], _ => rfl
 | [], _ :: _, h => by simp [IR] at h
 | _ :: _, [], h => by simp [IR] at h
 | a :: as1, b :: bs, h => by
  unfold IR at h
  split at h
  ·omega
  ·split at h
   ·omega
   ·rw [NH as1 bs h, show a = b from by omega]
def PC : List Int → Int
 | [] => 0
 | x :: xs => if x = 0 then PC xs else x
theorem aK (N : Nat) (a : List Int) (hb : a.length < 1000000) : ∀ (n i : Nat), i ≤ a.length → a.length - i < n →
  E3 N a (fun _ => some 0) n (i : Int) = some (PC (a.drop i))
 | 0, i, _, h => by omega
 | n + 1, i, hi, h => by
  unfold E3
  by_cases h1 : i < a.length
  ·have ha : a[i]? = some a[i] := by simp [h1]
   rw [AK (by omega), Bn, ha, Hy ha]
   simp only [oS, PC]
   rw [AZ (by omega), aK N a hb n (i + 1) (by omega) (by omega)]
   by_cases h3 : a[i] = 0
   ·simp [h3]
   ·have : (a[i] != 0) = true := by simpa using h3
    simp [h3, this]
  ·rw [AH (by omega), List.drop_eq_nil_of_le (by omega : a.length ≤ i)]
   simp [PC]
theorem XM {N : Nat} {a : List Int} (h : a.length < N) (hN : N ≤ 1000000) : F5 N a = some (PC a) := by
 have := aK N a (by omega) N 0 (by omega) (by omega)
 simpa [F5] using this
theorem Zj (N : Nat) (a : List Int) (hb : a.length < 1000000) (hw : J0 I4 a) : ∀ (n i : Nat), i ≤ a.length → a.length - i < n →
  C5 N a (fun v => some v) n (a.take i, (i : Int)) = some a
 | 0, i, _, h => by omega
 | n + 1, i, hi, h => by
  unfold C5
  by_cases h1 : i < a.length
  ·have ha : a[i]? = some a[i] := by simp [h1]
   rw [AK (by simpa using h1)]
   simp only
   rw [Bn, ha]
   have hr : wI .i64 a[i] = a[i] := by
    have := hw a[i] (List.getElem_mem h1)
    unfold I4 at this
    have h2 : 0 ≤ a[i] ∧ a[i] ≤ 255 := by simpa [Lit.wf, IntKind.min, IntKind.max, IntKind.signed, IntKind.bits] using this
    exact CM (by omega) (by omega)
   simp only [oS, hr]
   have hlen : (a.take i).length + ([a[i]] : List Int).length ≤ D2 := by
    simp [D2]; omega
   rw [show DN ((a.take i).length + ([a[i]] : List Int).length ≤ D2) = some () from by unfold DN; rw [if_pos hlen]]
   simp only [oS]
   rw [AZ (by omega), show a.take i ++ [a[i]] = a.take (i + 1) from by rw [List.take_add_one, ha]; rfl]
   exact Zj N a hb hw n (i + 1) (by omega) (by omega)
  ·rw [AH (by simpa using h1)]
   simp only
   rw [List.take_of_length_le (by omega)]
theorem Nc {N : Nat} {a : List Int} (h : a.length < N) (hN : N ≤ 1000000) (hw : J0 I4 a) : Dy N a = some a := by
 have := Zj N a (by omega) hw N 0 (by omega) (by omega)
 simpa [Dy] using this
def aL (a : Ah) : Prop := a.fBase.length ≤ 8 ∧ a.fNext.length ≤ 8 ∧ a.fHeld.length ≤ 14
def Tj (a b : Ah) : Int := PC [IR a.fBase b.fBase, IR a.fNext b.fNext, IR a.fHeld b.fHeld]
theorem Pa (a : Ah) : Tj a a = 0 := by unfold Tj; simp [Pc, PC]
def DE {α R : Type} (f : Nat → α → Option R) : Nat → List α → Option R
 | _, [] => none
 | i, x :: xs => match f i x with
  | some r => some r
  | none => DE f (i + 1) xs
theorem HB {α R : Type} (f : Nat → α → Option R) (i : Nat) (x : α) (xs : List α) : DE f i (x :: xs) = match f i x with
  | some r => some r
  | none => DE f (i + 1) xs := rfl
def B8 {R : Type} (a : Option R) (b : Option R) : Option R := match a with
 | some r => some r
 | none => b
theorem Dh {α R : Type} (L : Nat → Int → Option R) (xs : List α) (j : Option R) (f : Nat → α → Option R)
  (hs : ∀ (n i : Nat) (x : α), xs[i]? = some x → L (n + 1) (i : Int) = B8 (f i x) (L n ((i + 1 : Nat) : Int))) (he : ∀ n : Nat, L (n + 1) (xs.length : Int) = j) :
  ∀ n i : Nat, i ≤ xs.length → xs.length - i < n → L n (i : Int) = B8 (DE f i (xs.drop i)) j
 | 0, i, _, h => by omega
 | n + 1, i, hi, h => by
  by_cases h1 : i < xs.length
  ·have hx : xs[i]? = some xs[i] := by simp [h1]
   rw [hs n i _ hx, Hy hx, Dh L xs j f hs he n (i + 1) (by omega) (by omega)]
   rw [HB]
   cases f i xs[i] <;> rfl
  ·have : i = xs.length := by omega
   subst this
   rw [he n, List.drop_eq_nil_of_le (Nat.le_refl _)]
   rfl
theorem O8 (N : Nat) (k n : Int) : Ek N k n = some (decide (0 ≤ k) && decide (k < n)) := by
 unfold Ek
 simp only [Bi]
 by_cases h : 0 ≤ k
 ·rw [AK h]; simp [h]
 ·rw [AH h]; simp [h]
theorem MF (N : Nat) (t : AR) : Bt N t = some (t.fKind == 3 || t.fKind == 4) := by
 unfold Bt
 simp only [Bi]
 cases h : t.fKind == 3 <;> simp
def sq (l : List (List Bool)) (n m : Int) : Bool := decide ((l.length : Int) = n) && l.all fun r => decide ((r.length : Int) = m)
theorem Oc {α : Type} (p : α → Bool) {R : Type} (r : Nat → R) : ∀ (i : Nat) (xs : List α), (DE (fun i x => if p x then none else some (r i)) i xs).isNone = xs.all p
 | i, [] => rfl
 | i, x :: xs => by
  unfold DE
  cases h : p x <;> simp [h, Oc p r (i + 1) xs]
theorem O7 (N : Nat) (l : List (List Bool)) (n m : Int) (h : n < (N : Int)) (hN : N ≤ 1000000) : DQ N l n m = some (sq l n m) := by
 unfold DQ sq
 by_cases h1 : (l.length : Int) = n
 ·subst h1
  simp only [bne_self_eq_false, Ax, decide_true, Bool.true_and]
  have := Dh (CL N l (l.length : Int) m (fun _ => some true)) l (some true) (fun _ r => if decide ((r.length : Int) = m) then none else some false)
   (fun n i x hx => by
    have hi := (lI.1 hx).1
    rw [CL, AK (by omega), Bn, hx]
    simp only [oS]
    rw [AZ (by omega)]
    by_cases h2 : (x.length : Int) = m
    ·simp [h2, B8]
    ·have : ((x.length : Int) != m) = true := by simpa using h2
     simp [h2, this, B8])
   (fun n => by rw [CL, AH (by omega)]) N 0 (by omega) (by omega)
  simp only [Int.ofNat_zero, List.drop_zero] at this
  rw [this]
  have h3 := Oc (fun r : List Bool => decide ((r.length : Int) = m)) (fun _ => false) 0 l
  cases hsc : DE (fun (_ : Nat) (r : List Bool) => if decide ((r.length : Int) = m) = true then none else some false) 0 l with
  | none => rw [hsc] at h3; rw [← h3]; rfl
  | some b =>
   rw [hsc] at h3
   rw [← h3]
   have : ∀ (i : Nat) (xs : List (List Bool)) b, DE (fun (_ : Nat) (r : List Bool) => if decide ((r.length : Int) = m) = true then none else some false) i xs = some b → b = false := by
    intro i xs
    induction xs generalizing i with
    | nil => intro b hb; cases hb
    | cons x xs ih =>
     intro b hb
     unfold DE at hb
     split at hb
     ·rename_i r hr; cases hb; split at hr <;> simp at hr; exact hr
     ·exact ih _ b hb
   rw [this 0 l b hsc]; rfl
 ·have : ((l.length : Int) != n) = true := by simpa using h1
  simp [this, h1]
theorem Pe (N : Nat) (l : List (List Bool)) (n m : Int) (h : n < (N : Int)) (hN : N ≤ 1000000) : Fj N l n m = some (sq l n m) := by
 unfold Fj sq
 simp only [Bi]
 by_cases h1 : (l.length : Int) = n
 ·subst h1
  simp only [beq_self_eq_true, AN, decide_true, Bool.true_and]
  have := Dh (BF N l (fun x => Ef N x m) (fun _ => some (-1))) l (some (-1)) (fun i r => if decide ((r.length : Int) = m) then none else some (i : Int))
   (fun n i x hx => by
    have hi := (lI.1 hx).1
    rw [BF, AK (by omega), Bn, hx]
    simp only [oS, Ef]
    rw [AZ (by omega)]
    by_cases h2 : (x.length : Int) = m
    ·simp [h2, B8]
    ·have : ((x.length : Int) != m) = true := by simpa using h2
     simp [h2, this, B8])
   (fun n => by rw [BF, AH (by omega)]) N 0 (by omega) (by omega)
  simp only [Int.ofNat_zero, List.drop_zero] at this
  unfold De DM
  rw [this]
  have h3 := Oc (fun r : List Bool => decide ((r.length : Int) = m)) (fun i : Nat => (i : Int)) 0 l
  cases hsc : DE (fun (i : Nat) (r : List Bool) => if decide ((r.length : Int) = m) = true then none else some (i : Int)) 0 l with
  | none => rw [hsc] at h3; rw [← h3]; rfl
  | some b =>
   rw [hsc] at h3
   rw [← h3]
   have : ∀ (i : Nat) (xs : List (List Bool)) b, DE (fun (i : Nat) (r : List Bool) => if decide ((r.length : Int) = m) = true then none else some (i : Int)) i xs = some b → 0 ≤ b := by
    intro i xs
    induction xs generalizing i with
    | nil => intro b hb; cases hb
    | cons x xs ih =>
     intro b hb
     rw [HB] at hb
     split at hb
     ·rename_i r hr
      cases hb
      split at hr
      ·cases hr
      ·cases hr; omega
     ·exact ih _ b hb
   have := this 0 l b hsc
   simp [B8, this]
 ·have : ((l.length : Int) == n) = false := by simpa using h1
  simp [this, h1]
open List renaming mem_of_getElem? → lM
open List renaming getD_eq_getElem?_getD → lD
def Jm (l : List (List Bool)) : Option Int := DE (fun i row => if row.getD i false then none else some 1) 0 l
theorem Rp {row : List Bool} {i : Nat} (h : i < row.length) : Bf row (i : Int) = some (row.getD i false) := by
 rw [Bn, lD]; simp [h]
theorem V4 (N : Nat) (t : AR) (h : t.fRewrite.length < N) (hN : N ≤ 1000000) (hsq : ∀ row, row ∈ t.fRewrite → row.length = t.fRewrite.length) (j : Option Int) :
  Cg N t (fun _ => j) N 0 = B8 (Jm t.fRewrite) j := by
 have := Dh (Cg N t (fun _ => j)) t.fRewrite j (fun i row => if row.getD i false then none else some 1)
  (fun n i x hx => by
   have hi := (lI.1 hx).1
   have hl := hsq x (lM hx)
   rw [Cg, AK (by omega), Bn, hx]
   simp only [oS]
   rw [Rp (by omega), AZ (by omega)]
   simp only [oS]
   cases x.getD i false <;> rfl)
  (fun n => by rw [Cg, AH (by omega)]) N 0 (by omega) (by omega)
 simpa [Jm] using this
theorem Pj (N : Nat) (t : AR) (h : t.fRewrite.length < N) (hN : N ≤ 1000000) (hsq : ∀ row, row ∈ t.fRewrite → row.length = t.fRewrite.length) (j : Option Int) :
  Dl N t (fun _ => j) N 0 = B8 (Jm t.fRewrite) j := by
 have := Dh (Dl N t (fun _ => j)) t.fRewrite j (fun i row => if row.getD i false then none else some 1)
  (fun n i x hx => by
   have hi := (lI.1 hx).1
   have hl := hsq x (lM hx)
   rw [Dl, AK (by omega), Bn, hx]
   simp only [oS]
   rw [Rp (by omega), AZ (by omega)]
   simp only [oS]
   cases x.getD i false <;> rfl)
  (fun n => by rw [Dl, AH (by omega)]) N 0 (by omega) (by omega)
 simpa [Jm] using this
theorem NI {l : List (List Bool)} {n m : Int} (h : sq l n m = true) : (l.length : Int) = n ∧ ∀ row, row ∈ l → (row.length : Int) = m := by
 unfold sq at h
 simp only [Bool.and_eq_true, decide_eq_true_eq, List.all_eq_true] at h
 exact h
def Em (p : Ak) (t : AR) : Int :=
 if t.fKind < 1 ∨ 4 < t.fKind ∨ (t.fAware = true ∧ (t.fKind = 3 ∨ t.fKind = 4)) then 1
 else if t.fFrom < 0 ∨ (p.fVersions.length : Int) ≤ t.fFrom ∨ t.fTo < 0 ∨ (p.fVersions.length : Int) ≤ t.fTo then 4
 else
  let f := p.fVersions.getD t.fFrom.toNat 0
  let g := p.fVersions.getD t.fTo.toNat 0
  if sq t.fOK f g = false then 6
  else if t.fKind = 4 then (if sq t.fRewrite f f = false then 6 else (Jm t.fRewrite).getD 0)
  else if t.fRewrite.length = 0 then 0 else 6
theorem EP {α : Type} {xs : List α} {i : Int} {d : α} (h0 : 0 ≤ i) (h1 : i < (xs.length : Int)) : Bf xs i = some (xs.getD i.toNat d) := by
 obtain ⟨k, rfl⟩ := Int.eq_ofNat_of_zero_le h0
 rw [Bn, lD, Int.toNat_natCast]
 simp [show k < xs.length from by omega]
theorem Vo {t : AR} (A B : Option Int) (hk : ¬ (t.fAware = true ∧ (t.fKind = 3 ∨ t.fKind = 4))) : AW t.fAware (AW (t.fKind == 3 || t.fKind == 4) A B) B = B := by
 cases ha : t.fAware
 ·rfl
 ·have : (t.fKind == 3 || t.fKind == 4) = false := by
   rw [Bool.or_eq_false_iff]
   constructor
   ·simp only [beq_eq_false_iff_ne]; intro h; exact hk ⟨ha, .inl h⟩
   ·simp only [beq_eq_false_iff_ne]; intro h; exact hk ⟨ha, .inr h⟩
  rw [this]; rfl
theorem KV {p : Ak} {i : Int} (hv : ∀ v, v ∈ p.fVersions → 1 ≤ v ∧ v ≤ 6) (h0 : 0 ≤ i) (h1 : i < (p.fVersions.length : Int)) : 1 ≤ p.fVersions.getD i.toNat 0 ∧ p.fVersions.getD i.toNat 0 ≤ 6 := by
 refine hv _ ?_
 rw [lD, List.getElem?_eq_getElem (by omega)]
 exact List.getElem_mem _
theorem Tn (N : Nat) (p : Ak) (t : AR) (hN : N ≤ 1000000) (h6 : 7 ≤ N) (hv : ∀ v, v ∈ p.fVersions → 1 ≤ v ∧ v ≤ 6) : EM N p t = some (Em p t) := by
 unfold EM Em
 simp only [Bi, MF, oS]
 by_cases k1 : t.fKind < 1
 ·simp [k1]
 by_cases k2 : 4 < t.fKind
 ·simp [k1, k2]
 rw [AH k1, AH k2]
 by_cases hk : t.fAware = true ∧ (t.fKind = 3 ∨ t.fKind = 4)
 ·obtain ⟨ha, k | k⟩ := hk <;> simp [ha, k]
 rw [Ax, Vo _ _ hk, if_neg (fun h => h.elim k1 fun h => h.elim k2 hk)]
 by_cases f1 : t.fFrom < 0
 ·simp [f1]
 by_cases f2 : (p.fVersions.length : Int) ≤ t.fFrom
 ·simp [f1, f2]
 by_cases f3 : t.fTo < 0
 ·simp [f1, f2, f3]
 by_cases f4 : (p.fVersions.length : Int) ≤ t.fTo
 ·simp [f1, f2, f3, f4]
 rw [AH f1, AH f2, AH f3, if_neg (fun h => h.elim f1 fun h => h.elim f2 fun h => h.elim f3 f4)]
 have hf := KV hv (i := t.fFrom) (by omega) (by omega)
 rw [decide_eq_false f4, Ax, EP (d := 0) (by omega : 0 ≤ t.fFrom) (by omega), EP (d := 0) (by omega : 0 ≤ t.fTo) (by omega)]
 simp only [oS]
 generalize p.fVersions.getD t.fFrom.toNat 0 = f at *
 generalize p.fVersions.getD t.fTo.toNat 0 = g at *
 rw [O7 N t.fOK f g (by omega) hN, O7 N t.fRewrite f f (by omega) hN]
 simp only [oS]
 cases hq : sq t.fOK f g
 ·rfl
 simp only [Bool.not_true, Ax]
 by_cases k4 : t.fKind = 4
 ·have : (t.fKind != 4) = false := by simp [k4]
  rw [this, Ax]
  simp only [k4, if_true]
  cases hr : sq t.fRewrite f f
  ·rfl
  ·have h7 := NI hr
   simp only [Bool.not_true, Ax]
   rw [V4 N t (by omega) hN (fun row hm => by have := h7.2 row hm; omega)]
   cases Jm t.fRewrite <;> simp [B8]
 ·have : (t.fKind != 4) = true := by simpa using k4
  rw [this, AN]
  simp only [k4, if_false]
  by_cases hr : t.fRewrite.length = 0
  ·simp [hr]
  ·have : ((t.fRewrite.length : Int) != 0) = true := bne_iff_ne.2 (by omega)
   rw [this]; simp [hr]
theorem VS (N : Nat) (k : Int) (a : Bool) : G7 N k a = some (k == 1 || (k == 2 || ((k == 3 || k == 4) && !a))) := by
 unfold G7
 simp only [Bi]
 cases h1 : k == 1 <;> cases h2 : k == 2 <;> cases h3 : k == 3 <;> cases h4 : k == 4 <;> cases a <;> rfl
theorem N6 (N : Nat) (p : Ak) (t : AR) (hN : N ≤ 1000000) (h6 : 7 ≤ N) (hv : ∀ v, v ∈ p.fVersions → 1 ≤ v ∧ v ≤ 6) : GA N p t = some (Em p t) := by
 unfold GA Em
 simp only [Bi, VS, O8, oS]
 by_cases hb : t.fKind < 1 ∨ 4 < t.fKind ∨ (t.fAware = true ∧ (t.fKind = 3 ∨ t.fKind = 4))
 ·have : (t.fKind == 1 || (t.fKind == 2 || ((t.fKind == 3 || t.fKind == 4) && !t.fAware))) = false := by
   rcases hb with h | h | ⟨ha, h | h⟩
   ·rw [beq_eq_false_iff_ne.2 (by omega : t.fKind ≠ 1), beq_eq_false_iff_ne.2 (by omega : t.fKind ≠ 2), beq_eq_false_iff_ne.2 (by omega : t.fKind ≠ 3), beq_eq_false_iff_ne.2 (by omega : t.fKind ≠ 4)]; rfl
   ·rw [beq_eq_false_iff_ne.2 (by omega : t.fKind ≠ 1), beq_eq_false_iff_ne.2 (by omega : t.fKind ≠ 2), beq_eq_false_iff_ne.2 (by omega : t.fKind ≠ 3), beq_eq_false_iff_ne.2 (by omega : t.fKind ≠ 4)]; rfl
   ·simp [ha, h]
   ·simp [ha, h]
  rw [this, if_pos hb]; rfl
 ·have : (t.fKind == 1 || (t.fKind == 2 || ((t.fKind == 3 || t.fKind == 4) && !t.fAware))) = true := by
   have hk : t.fKind = 1 ∨ t.fKind = 2 ∨ t.fKind = 3 ∨ t.fKind = 4 := by
    have h1 : ¬ t.fKind < 1 := fun h => hb (.inl h)
    have h2 : ¬ 4 < t.fKind := fun h => hb (.inr (.inl h))
    omega
   rcases hk with h | h | h | h
   ·simp [h]
   ·simp [h]
   ·cases ha : t.fAware
    ·simp [h]
    ·exact (hb (.inr (.inr ⟨ha, .inl h⟩))).elim
   ·cases ha : t.fAware
    ·simp [h]
    ·exact (hb (.inr (.inr ⟨ha, .inr h⟩))).elim
  rw [this, if_neg hb]
  simp only [Bool.not_true, Ax]
  by_cases f1 : t.fFrom < 0
  ·simp [f1, show ¬ (0 ≤ t.fFrom) from by omega]
  by_cases f2 : (p.fVersions.length : Int) ≤ t.fFrom
  ·simp [f2, show ¬ (t.fFrom < (p.fVersions.length : Int)) from by omega]
  by_cases f3 : t.fTo < 0
  ·simp [f3, show 0 ≤ t.fFrom from by omega, show t.fFrom < (p.fVersions.length : Int) from by omega, show ¬ (0 ≤ t.fTo) from by omega]
  by_cases f4 : (p.fVersions.length : Int) ≤ t.fTo
  ·simp [f4, show 0 ≤ t.fFrom from by omega, show t.fFrom < (p.fVersions.length : Int) from by omega, show ¬ (t.fTo < (p.fVersions.length : Int)) from by omega]
  rw [if_neg (fun h => h.elim f1 fun h => h.elim f2 fun h => h.elim f3 f4)]
  have hf := KV hv (i := t.fFrom) (by omega) (by omega)
  have hg := KV hv (i := t.fTo) (by omega) (by omega)
  rw [decide_eq_true (by omega : 0 ≤ t.fFrom), decide_eq_true (by omega : t.fFrom < (p.fVersions.length : Int)), decide_eq_true (by omega : 0 ≤ t.fTo), decide_eq_true (by omega : t.fTo < (p.fVersions.length : Int)), EP (d := 0) (by omega : 0 ≤ t.fFrom) (by omega), EP (d := 0) (by omega : 0 ≤ t.fTo) (by omega)]
  simp only [Bool.and_self, Bool.not_true, Ax, oS]
  generalize p.fVersions.getD t.fFrom.toNat 0 = f at *
  generalize p.fVersions.getD t.fTo.toNat 0 = g at *
  rw [Pe N t.fOK f g (by omega) hN, Pe N t.fRewrite f f (by omega) hN]
  simp only [oS]
  cases hq : sq t.fOK f g
  ·rfl
  simp only [Bool.not_true, Ax]
  by_cases k4 : t.fKind = 4
  ·simp only [k4, beq_self_eq_true, AN, if_true]
   cases hr : sq t.fRewrite f f
   ·rfl
   ·have h7 := NI hr
    simp only [Bool.not_true, Ax]
    rw [Pj N t (by omega) hN (fun row hm => by have := h7.2 row hm; omega)]
    cases Jm t.fRewrite <;> simp [B8]
  ·have : (t.fKind == 4) = false := beq_eq_false_iff_ne.2 k4
   rw [this, Ax]
   simp only [k4, if_false, Bool.not_false, AN]
   by_cases hr : t.fRewrite.length = 0
   ·rw [Pj N t (by omega) hN (fun row hm => by rw [List.eq_nil_of_length_eq_zero hr] at hm; cases hm), List.eq_nil_of_length_eq_zero hr]
    simp [Jm, DE, B8]
   ·rw [decide_eq_true (by omega : 0 < (t.fRewrite.length : Int))]
    simp [hr]
def Gb (p : Ak) (i : Nat) (v : Int) : Option Int :=
 if v < 1 ∨ 6 < v ∨ p.fNow.getD i 0 < 0 ∨ v ≤ p.fNow.getD i 0 ∨ p.fTarget.getD i 0 < 0 ∨ v ≤ p.fTarget.getD i 0 then some 7 else none
def Mc (p : Ak) (_ : Nat) (t : AR) : Option Int := if Em p t = 0 then none else some (Em p t)
def DT (p : Ak) : Int :=
 if 6 < p.fVersions.length ∨ 12 < p.fTables.length then 3
 else if p.fNow.length ≠ p.fVersions.length ∨ p.fTarget.length ≠ p.fVersions.length then 6
 else ((B8 (DE (Gb p) 0 p.fVersions) (DE (Mc p) 0 p.fTables)).getD 0)
theorem GH {α R : Type} {f : Nat → α → Option R} : ∀ {i : Nat} {xs : List α}, DE f i xs = none → ∀ j x, xs[j]? = some x → f (i + j) x = none
 | _, [], _, j, x, hx => by simp at hx
 | i, y :: ys, h, j, x, hx => by
  rw [HB] at h
  split at h
  ·cases h
  ·rename_i h0
   cases j with
   | zero => simp at hx; subst hx; exact h0
   | succ j =>
    have := GH h j x (by simpa using hx)
    rwa [show i + 1 + j = i + (j + 1) from by omega] at this
theorem Oe {p : Ak} (h : DE (Gb p) 0 p.fVersions = none) : ∀ v, v ∈ p.fVersions → 1 ≤ v ∧ v ≤ 6 := by
 intro v hv
 obtain ⟨i, hi⟩ := List.mem_iff_getElem?.1 hv
 have := GH h i v hi
 unfold Gb at this
 split at this
 ·cases this
 ·rename_i hn
  constructor
  ·exact Int.not_lt.1 fun h => hn (.inl h)
  ·exact Int.not_lt.1 fun h => hn (.inr (.inl h))
theorem DH {α : Type} {xs : List α} {i : Nat} {d : α} (h : i < xs.length) : Bf xs (i : Int) = some (xs.getD i d) := by
 rw [Bn, lD]; simp [h]
theorem Sj (N : Nat) (p : Ak) (hN : N ≤ 1000000) (h1 : p.fVersions.length < N) (h2 : p.fNow.length = p.fVersions.length) (h3 : p.fTarget.length = p.fVersions.length) (j : Option Int) :
  Bz N p (fun _ => j) N 0 = B8 (DE (Gb p) 0 p.fVersions) j := by
 have := Dh (Bz N p (fun _ => j)) p.fVersions j (Gb p)
  (fun n i x hx => by
   have hi := (lI.1 hx).1
   rw [Bz, AK (by omega), Bn, hx]
   simp only [oS, Bi]
   rw [DH (d := 0) (by omega), DH (d := 0) (by omega), AZ (by omega)]
   simp only [oS]
   unfold Gb
   generalize p.fNow.getD i 0 = a
   generalize p.fTarget.getD i 0 = b
   by_cases k1 : x < 1 <;> by_cases k2 : 6 < x <;> by_cases k3 : a < 0 <;> by_cases k4 : x ≤ a <;> by_cases k5 : b < 0 <;> by_cases k6 : x ≤ b <;> simp [k1, k2, k3, k4, k5, k6, B8])
  (fun n => by rw [Bz, AH (by omega)]) N 0 (by omega) (by omega)
 simpa using this
theorem Qq (N : Nat) (p : Ak) (hN : N ≤ 1000000) (h1 : p.fVersions.length < N) (h2 : p.fNow.length = p.fVersions.length) (h3 : p.fTarget.length = p.fVersions.length) (j : Option Int) :
  Ci N p (fun _ => j) N 0 = B8 (DE (Gb p) 0 p.fVersions) j := by
 have := Dh (Ci N p (fun _ => j)) p.fVersions j (Gb p)
  (fun n i x hx => by
   have hi := (lI.1 hx).1
   rw [Ci, AK (by omega), Bn, hx]
   simp only [oS, Bi, O8]
   rw [DH (d := 0) (by omega), DH (d := 0) (by omega), AZ (by omega)]
   simp only [oS]
   unfold Gb
   generalize p.fNow.getD i 0 = a
   generalize p.fTarget.getD i 0 = b
   have e1 : decide (0 ≤ a) = !decide (a < 0) := by rw [← decide_not]; congr 1; simp
   have e2 : decide (a < x) = !decide (x ≤ a) := by rw [← decide_not]; congr 1; simp
   have e3 : decide (0 ≤ b) = !decide (b < 0) := by rw [← decide_not]; congr 1; simp
   have e4 : decide (b < x) = !decide (x ≤ b) := by rw [← decide_not]; congr 1; simp
   rw [e1, e2, e3, e4]
   by_cases k1 : x < 1 <;> by_cases k2 : 6 < x <;> by_cases k3 : a < 0 <;> by_cases k4 : x ≤ a <;> by_cases k5 : b < 0 <;> by_cases k6 : x ≤ b <;> simp [k1, k2, k3, k4, k5, k6, B8])
  (fun n => by rw [Ci, AH (by omega)]) N 0 (by omega) (by omega)
 simpa using this
theorem TI (N : Nat) (p : Ak) (hN : N ≤ 1000000) (h6 : 7 ≤ N) (h1 : p.fTables.length < N) (hv : ∀ v, v ∈ p.fVersions → 1 ≤ v ∧ v ≤ 6) (j : Option Int) :
  By N p (fun _ => j) N 0 = B8 (DE (Mc p) 0 p.fTables) j := by
 have := Dh (By N p (fun _ => j)) p.fTables j (Mc p)
  (fun n i x hx => by
   have hi := (lI.1 hx).1
   rw [By, AK (by omega), Bn, hx]
   simp only [oS]
   rw [Tn N p x hN h6 hv, AZ (by omega)]
   simp only [oS]
   unfold Mc
   by_cases k : Em p x = 0
   ·simp [k, B8]
   ·rw [bne_iff_ne.2 k, if_neg k]; rfl)
  (fun n => by rw [By, AH (by omega)]) N 0 (by omega) (by omega)
 simpa using this
theorem RY (N : Nat) (p : Ak) (hN : N ≤ 1000000) (h6 : 7 ≤ N) (h1 : p.fTables.length < N) (hv : ∀ v, v ∈ p.fVersions → 1 ≤ v ∧ v ≤ 6) (j : Option Int) :
  B4 N p (fun _ => j) N 0 = B8 (DE (Mc p) 0 p.fTables) j := by
 have := Dh (B4 N p (fun _ => j)) p.fTables j (Mc p)
  (fun n i x hx => by
   have hi := (lI.1 hx).1
   rw [B4, AK (by omega), Bn, hx]
   simp only [oS]
   rw [N6 N p x hN h6 hv, AZ (by omega)]
   simp only [oS]
   unfold Mc
   by_cases k : Em p x = 0
   ·simp [k, B8]
   ·rw [bne_iff_ne.2 k, if_neg k]; rfl)
  (fun n => by rw [B4, AH (by omega)]) N 0 (by omega) (by omega)
 simpa using this
theorem NX (N : Nat) (p : Ak) (hN : N ≤ 1000000) (h : 20 ≤ N) : CO N p = some (DT p) := by
 unfold CO DT
 simp only [Bi]
 by_cases k1 : 6 < p.fVersions.length
 ·rw [AK (by omega)]; simp [k1]
 rw [AH (by omega)]
 by_cases k2 : 12 < p.fTables.length
 ·rw [decide_eq_true (by omega : (12 : Int) < (p.fTables.length : Int))]; simp [k2]
 rw [decide_eq_false (by omega : ¬ (12 : Int) < (p.fTables.length : Int)), Ax, if_neg (by omega)]
 by_cases k3 : p.fNow.length = p.fVersions.length
 ·by_cases k4 : p.fTarget.length = p.fVersions.length
  ·rw [k3, k4]
   simp only [bne_self_eq_false, Ax, ne_eq, not_true_eq_false, or_self, if_false]
   rw [Sj N p hN (by omega) k3 k4]
   cases hs : DE (Gb p) 0 p.fVersions with
   | some r => rfl
   | none =>
    simp only [B8]
    rw [TI N p hN (by omega) (by omega) (Oe hs)]
    cases DE (Mc p) 0 p.fTables <;> rfl
  ·have : ((p.fTarget.length : Int) != (p.fVersions.length : Int)) = true := bne_iff_ne.2 (by omega)
   rw [this, k3]; simp [k4]
 ·have : ((p.fNow.length : Int) != (p.fVersions.length : Int)) = true := bne_iff_ne.2 (by omega)
  rw [this]; simp [k3]
theorem Ma (N : Nat) (p : Ak) (hN : N ≤ 1000000) (h : 20 ≤ N) : CQ N p = some (DT p) := by
 unfold CQ DT
 simp only [Bi]
 by_cases k1 : 6 < p.fVersions.length
 ·rw [AK (by omega)]; simp [k1]
 rw [AH (by omega)]
 by_cases k2 : 12 < p.fTables.length
 ·rw [decide_eq_true (by omega : (12 : Int) < (p.fTables.length : Int))]; simp [k2]
 rw [decide_eq_false (by omega : ¬ (12 : Int) < (p.fTables.length : Int)), Ax, if_neg (by omega)]
 by_cases k3 : p.fNow.length = p.fVersions.length
 ·by_cases k4 : p.fTarget.length = p.fVersions.length
  ·rw [k3, k4]
   simp only [bne_self_eq_false, Ax, ne_eq, not_true_eq_false, or_self, if_false]
   rw [Qq N p hN (by omega) k3 k4]
   cases hs : DE (Gb p) 0 p.fVersions with
   | some r => rfl
   | none =>
    simp only [B8]
    rw [RY N p hN (by omega) (by omega) (Oe hs)]
    cases DE (Mc p) 0 p.fTables <;> rfl
  ·have : ((p.fTarget.length : Int) != (p.fVersions.length : Int)) = true := bne_iff_ne.2 (by omega)
   rw [this, k3]; simp [k4]
 ·have : ((p.fNow.length : Int) != (p.fVersions.length : Int)) = true := bne_iff_ne.2 (by omega)
  rw [this]; simp [k3]
theorem Jb {n : Int} (h : I4 n) : 0 ≤ n ∧ n ≤ 255 := by
 unfold I4 at h
 simpa [Lit.wf, IntKind.min, IntKind.max, IntKind.signed, IntKind.bits] using h
theorem O4 : ∀ k : Fin 256, Dz .u8 0 (k.val : Int) = 0 := by decide +kernel
theorem OY : ∀ k : Fin 256, Dz .u8 (k.val : Int) 0 = (k.val : Int) := by decide +kernel
theorem Ud {n : Int} (h : I4 n) : Dz .u8 0 n = 0 := by
 have := Jb h
 obtain ⟨k, rfl⟩ := Int.eq_ofNat_of_zero_le this.1
 exact O4 ⟨k, by omega⟩
theorem U0 {n : Int} (h : I4 n) : Dz .u8 n 0 = n := by
 have := Jb h
 obtain ⟨k, rfl⟩ := Int.eq_ofNat_of_zero_le this.1
 exact OY ⟨k, by omega⟩
theorem E1 {α R : Type} {f : Nat → α → Option R} : ∀ {i : Nat} {xs : List α} {r : R}, DE f i xs = some r → ∃ j x, xs[j]? = some x ∧ f (i + j) x = some r
 | _, [], _, h => by cases h
 | i, y :: ys, r, h => by
  rw [HB] at h
  split at h
  ·rename_i r' h0
   cases h
   exact ⟨0, y, rfl, h0⟩
  ·obtain ⟨j, x, h1, h2⟩ := E1 h
   exact ⟨j + 1, x, by simpa using h1, by rwa [show i + (j + 1) = i + 1 + j from by omega]⟩
structure B7 (p : Ak) : Prop where
 nv : p.fVersions.length ≤ 6
 nt : p.fTables.length ≤ 12
 now : p.fNow.length = p.fVersions.length
 tgt : p.fTarget.length = p.fVersions.length
 ver : ∀ v, v ∈ p.fVersions → 1 ≤ v ∧ v ≤ 6
 tab : ∀ t, t ∈ p.fTables → Em p t = 0
theorem R3 (l : List (List Bool)) : (Jm l).getD 0 = 0 ∨ (Jm l).getD 0 = 1 := by
 cases h : Jm l with
 | none => exact .inl rfl
 | some r =>
  obtain ⟨j, x, _, h⟩ := E1 h
  split at h
  ·cases h
  ·cases h; exact .inr rfl
theorem PV (p : Ak) (t : AR) : Em p t = 0 ∨ Em p t = 1 ∨ Em p t = 4 ∨ Em p t = 6 := by
 unfold Em
 split
 ·exact .inr (.inl rfl)
 split
 ·exact .inr (.inr (.inl rfl))
 simp only
 split
 ·exact .inr (.inr (.inr rfl))
 split
 ·split
  ·exact .inr (.inr (.inr rfl))
  ·rcases R3 t.fRewrite with h | h
   ·exact .inl h
   ·exact .inr (.inl h)
 ·split
  ·exact .inl rfl
  ·exact .inr (.inr (.inr rfl))
theorem IH (p : Ak) : (DT p = 0 ∧ B7 p) ∨ (DT p = 1 ∨ DT p = 3 ∨ DT p = 4 ∨ DT p = 6 ∨ DT p = 7) := by
 unfold DT
 split
 ·simp
 rename_i k1
 split
 ·simp
 rename_i k2
 cases hs : DE (Gb p) 0 p.fVersions with
 | some r =>
  obtain ⟨j, x, _, h⟩ := E1 hs
  unfold Gb at h
  split at h
  ·cases h; simp [B8]
  ·cases h
 | none =>
  cases ht : DE (Mc p) 0 p.fTables with
  | some r =>
   obtain ⟨j, t, _, h⟩ := E1 ht
   unfold Mc at h
   split at h
   ·cases h
   ·rename_i hne
    cases h
    simp only [B8, Option.getD_some]
    right
    rcases PV p t with h | h | h | h
    ·exact (hne h).elim
    ·exact .inl h
    ·exact .inr (.inr (.inl h))
    ·exact .inr (.inr (.inr (.inl h)))
  | none =>
   left
   refine ⟨rfl, by omega, by omega, by omega, by omega, Oe hs, fun t hm => ?_⟩
   obtain ⟨j, hj⟩ := List.mem_iff_getElem?.1 hm
   have := GH ht j t hj
   unfold Mc at this
   split at this
   ·assumption
   ·cases this
def GW (m : Ah) (s : Nat) : Int :=
 if 0 ≤ m.fNext.getD s 0 then MC .u8 (CJ .u8 1 (m.fBase.getD s 0)) (CJ .u8 1 (m.fNext.getD s 0)) else CJ .u8 1 (m.fBase.getD s 0)
def LZ (m : Ah) (i : Nat) (v : Int) : Option Int :=
 if m.fBase.getD i 0 < 0 ∨ v ≤ m.fBase.getD i 0 ∨ m.fNext.getD i 0 < -1 ∨ v ≤ m.fNext.getD i 0 then some 7
 else if m.fBase.getD i 0 = m.fNext.getD i 0 then some 1 else none
def Ck (t : AR) : Bool := t.fKind == 3 || t.fKind == 4
def VC (p : Ak) (t : AR) : Int := wI .u8 (CJ .u8 1 (p.fVersions.getD t.fFrom.toNat 0) - 1)
def JC (p : Ak) (m : Ah) (i : Nat) (t : AR) : Option Int :=
 if Ck t = true then (if Dz .u8 (GW m t.fFrom.toNat) (m.fHeld.getD i 0) ≠ 0 ∨ Dz .u8 (m.fHeld.getD i 0) (VC p t) ≠ 0 then some 1 else none)
 else if m.fHeld.getD i 0 ≠ 0 then some 1 else none
def DW (p : Ak) (m : Ah) : Int :=
 if DT p ≠ 0 then DT p
 else if m.fBase.length ≠ p.fVersions.length ∨ m.fNext.length ≠ p.fVersions.length ∨ m.fHeld.length ≠ p.fTables.length then 6
 else (B8 (DE (LZ m) 0 p.fVersions) (DE (JC p m) 0 p.fTables)).getD 0
theorem JJ {p : Ak} {t : AR} (h : Em p t = 0) : 0 ≤ t.fFrom ∧ t.fFrom < (p.fVersions.length : Int) ∧ 0 ≤ t.fTo ∧ t.fTo < (p.fVersions.length : Int) := by
 unfold Em at h
 split at h
 ·cases h
 ·split at h
  ·cases h
  ·omega
theorem LV (N : Nat) (m : Ah) (s : Int) (h0 : 0 ≤ s) (h1 : s < (m.fBase.length : Int)) (h2 : s < (m.fNext.length : Int)) (hb : 0 ≤ m.fBase.getD s.toNat 0) : E6 N m s = some (GW m s.toNat) := by
 unfold E6 GW
 rw [EP (d := 0) h0 h1, EP (d := 0) h0 h2]
 simp only [oS, Bi]
 rw [show DN (0 ≤ m.fBase.getD s.toNat 0) = some () from by unfold DN; rw [if_pos hb]]
 simp only [oS]
 by_cases h : 0 ≤ m.fNext.getD s.toNat 0
 ·rw [AK h, if_pos h, show DN (0 ≤ m.fNext.getD s.toNat 0) = some () from by unfold DN; rw [if_pos h]]; rfl
 ·rw [AH h, if_neg h]
theorem IW (N : Nat) (m : Ah) (s : Int) (h0 : 0 ≤ s) (h1 : s < (m.fBase.length : Int)) (h2 : s < (m.fNext.length : Int)) (hb : 0 ≤ m.fBase.getD s.toNat 0) : BU N m s = some (GW m s.toNat) := by
 unfold BU GW
 rw [EP (d := 0) h0 h1, EP (d := 0) h0 h2]
 simp only [oS, Bi]
 rw [show DN (0 ≤ m.fBase.getD s.toNat 0) = some () from by unfold DN; rw [if_pos hb]]
 simp only [oS]
 by_cases h : 0 ≤ m.fNext.getD s.toNat 0
 ·rw [AK h, if_pos h, show DN (0 ≤ m.fNext.getD s.toNat 0) = some () from by unfold DN; rw [if_pos h]]; rfl
 ·rw [AH h, if_neg h]
theorem Qm (N : Nat) (p : Ak) (m : Ah) (hN : N ≤ 1000000) (h1 : p.fVersions.length < N) (h2 : m.fBase.length = p.fVersions.length) (h3 : m.fNext.length = p.fVersions.length) (j : Option Int) :
  Ej N p m (fun _ => j) N 0 = B8 (DE (LZ m) 0 p.fVersions) j := by
 have := Dh (Ej N p m (fun _ => j)) p.fVersions j (LZ m)
  (fun n i x hx => by
   have hi := (lI.1 hx).1
   rw [Ej, AK (by omega), Bn, hx]
   simp only [oS, Bi]
   rw [DH (d := 0) (by omega), DH (d := 0) (by omega), AZ (by omega)]
   simp only [oS]
   unfold LZ
   generalize m.fBase.getD i 0 = a
   generalize m.fNext.getD i 0 = b
   by_cases k7 : a = b
   ·subst k7
    by_cases k3 : a < 0 <;> by_cases k4 : x ≤ a <;> by_cases k5 : a < -1 <;> simp [k3, k4, k5, B8]
   ·have k8 : (a == b) = false := beq_eq_false_iff_ne.2 k7
    by_cases k3 : a < 0 <;> by_cases k4 : x ≤ a <;> by_cases k5 : b < -1 <;> by_cases k6 : x ≤ b <;> simp [k3, k4, k5, k6, k7, k8, B8])
  (fun n => by rw [Ej, AH (by omega)]) N 0 (by omega) (by omega)
 simpa using this
theorem Qf (N : Nat) (p : Ak) (m : Ah) (hN : N ≤ 1000000) (h1 : p.fVersions.length < N) (h2 : m.fBase.length = p.fVersions.length) (h3 : m.fNext.length = p.fVersions.length) (j : Option Int) :
  Co N p m (fun _ => j) N 0 = B8 (DE (LZ m) 0 p.fVersions) j := by
 have := Dh (Co N p m (fun _ => j)) p.fVersions j (LZ m)
  (fun n i x hx => by
   have hi := (lI.1 hx).1
   rw [Co, AK (by omega), show Bf p.fVersions (i : Int) = some x from by rw [Bn, hx]]
   simp only [oS, Bi]
   rw [DH (d := 0) (by omega), DH (d := 0) (by omega), AZ (by omega)]
   simp only [oS]
   unfold LZ
   generalize m.fBase.getD i 0 = a
   generalize m.fNext.getD i 0 = b
   by_cases k7 : a = b
   ·subst k7
    by_cases k3 : a < 0 <;> by_cases k4 : x ≤ a <;> by_cases k5 : a < -1 <;> simp [k3, k4, k5, B8]
   ·have k8 : (a == b) = false := beq_eq_false_iff_ne.2 k7
    by_cases k3 : a < 0 <;> by_cases k4 : x ≤ a <;> by_cases k5 : b < -1 <;> by_cases k6 : x ≤ b <;> simp [k3, k4, k5, k6, k7, k8, B8])
  (fun n => by rw [Co, AH (by omega)]) N 0 (by omega) (by omega)
 simpa using this
structure MixServ (p : Ak) (m : Ah) : Prop where
 base : m.fBase.length = p.fVersions.length
 next : m.fNext.length = p.fVersions.length
 held : m.fHeld.length = p.fTables.length
 b0 : ∀ i, i < p.fVersions.length → 0 ≤ m.fBase.getD i 0 ∧ m.fBase.getD i 0 < p.fVersions.getD i 0
 n0 : ∀ i, i < p.fVersions.length → -1 ≤ m.fNext.getD i 0 ∧ m.fNext.getD i 0 < p.fVersions.getD i 0
 ne : ∀ i, i < p.fVersions.length → m.fBase.getD i 0 ≠ m.fNext.getD i 0
theorem Qu {p : Ak} {m : Ah} (h2 : m.fBase.length = p.fVersions.length) (h3 : m.fNext.length = p.fVersions.length) (h4 : m.fHeld.length = p.fTables.length) (h : DE (LZ m) 0 p.fVersions = none) : MixServ p m := by
 have key : ∀ i, i < p.fVersions.length → ¬ (m.fBase.getD i 0 < 0 ∨ p.fVersions.getD i 0 ≤ m.fBase.getD i 0 ∨ m.fNext.getD i 0 < -1 ∨ p.fVersions.getD i 0 ≤ m.fNext.getD i 0) ∧ ¬ m.fBase.getD i 0 = m.fNext.getD i 0 := by
  intro i hi
  have hx : p.fVersions[i]? = some (p.fVersions.getD i 0) := by rw [lD]; simp [hi]
  have := GH h i _ hx
  rw [Nat.zero_add] at this
  unfold LZ at this
  split at this
  ·cases this
  ·split at this
   ·cases this
   ·rename_i k1 k2; exact ⟨k1, k2⟩
 exact ⟨h2, h3, h4, fun i hi => by have := (key i hi).1; omega, fun i hi => by have := (key i hi).1; omega, fun i hi => (key i hi).2⟩
theorem Ru {m : Ah} (hw : J0 I4 m.fHeld) {i : Nat} (h : i < m.fHeld.length) : I4 (m.fHeld.getD i 0) := by
 refine hw _ ?_
 rw [lD, List.getElem?_eq_getElem h]
 exact List.getElem_mem _
theorem Lu (N : Nat) (t : AR) : Fv N t = some (Ck t) := by
 unfold Fv Ck
 simp only [Bi]
 cases h : t.fKind == 3 <;> simp
theorem F6 (N : Nat) (t : AR) : Bt N t = some (Ck t) := MF N t
theorem Si (N : Nat) (p : Ak) (m : Ah) (hN : N ≤ 1000000) (h1 : p.fTables.length < N) (hp : B7 p) (hm : MixServ p m) (hw : J0 I4 m.fHeld) (j : Option Int) :
  D5 N p m (fun _ => j) N 0 = B8 (DE (JC p m) 0 p.fTables) j := by
 have := Dh (D5 N p m (fun _ => j)) p.fTables j (JC p m)
  (fun n i x hx => by
   have hi := (lI.1 hx).1
   have hin := JJ (hp.tab x (lM hx))
   have hheld := Ru hw (show i < m.fHeld.length from by rw [hm.held]; exact hi)
   have hv := KV hp.ver hin.1 hin.2.1
   rw [D5, AK (by omega), Bn, hx]
   simp only [oS, Bi, Lu]
   rw [LV N m x.fFrom hin.1 (by rw [hm.base]; exact hin.2.1) (by rw [hm.next]; exact hin.2.1) (hm.b0 _ (by omega)).1, EP (d := 0) hin.1 hin.2.1, DH (d := 0) (show i < m.fHeld.length from by rw [hm.held]; exact hi), AZ (by omega)]
   simp only [oS]
   rw [show DN (0 ≤ p.fVersions.getD x.fFrom.toNat 0) = some () from by unfold DN; rw [if_pos (by omega)]]
   simp only [oS]
   unfold JC VC
   rw [Ud hheld, U0 hheld]
   generalize Dz .u8 (GW m x.fFrom.toNat) (m.fHeld.getD i 0) = A
   generalize Dz .u8 (m.fHeld.getD i 0) (wI .u8 (CJ .u8 1 (p.fVersions.getD x.fFrom.toNat 0) - 1)) = B
   generalize m.fHeld.getD i 0 = H
   cases Ck x
   ·simp only [Ax, bne_self_eq_false]
    by_cases k : H = 0
    ·simp [k, B8]
    ·have : (H != 0) = true := bne_iff_ne.2 k
     simp [k, this, B8]
   ·simp only [AN]
    by_cases k : A = 0
    ·by_cases k2 : B = 0
     ·simp [k, k2, B8]
     ·have : (B != 0) = true := bne_iff_ne.2 k2
      simp [k, k2, this, B8]
    ·have : (A != 0) = true := bne_iff_ne.2 k
     simp [k, this, B8])
  (fun n => by rw [D5, AH (by omega)]) N 0 (by omega) (by omega)
 simpa using this
theorem RS (N : Nat) (p : Ak) (m : Ah) (hN : N ≤ 1000000) (h1 : p.fTables.length < N) (hp : B7 p) (hm : MixServ p m) (j : Option Int) :
  Cd N p m (fun _ => j) N 0 = B8 (DE (JC p m) 0 p.fTables) j := by
 have := Dh (Cd N p m (fun _ => j)) p.fTables j (JC p m)
  (fun n i x hx => by
   have hi := (lI.1 hx).1
   have hin := JJ (hp.tab x (lM hx))
   have hv := KV hp.ver hin.1 hin.2.1
   rw [Cd, AK (by omega), Bn, hx]
   simp only [oS, Bi, F6]
   rw [IW N m x.fFrom hin.1 (by rw [hm.base]; exact hin.2.1) (by rw [hm.next]; exact hin.2.1) (hm.b0 _ (by omega)).1, EP (d := 0) hin.1 hin.2.1, DH (d := 0) (show i < m.fHeld.length from by rw [hm.held]; exact hi), AZ (by omega)]
   simp only [oS]
   rw [show DN (0 ≤ p.fVersions.getD x.fFrom.toNat 0) = some () from by unfold DN; rw [if_pos (by omega)]]
   simp only [oS]
   unfold JC VC
   generalize Dz .u8 (GW m x.fFrom.toNat) (m.fHeld.getD i 0) = A
   generalize Dz .u8 (m.fHeld.getD i 0) (wI .u8 (CJ .u8 1 (p.fVersions.getD x.fFrom.toNat 0) - 1)) = B
   generalize m.fHeld.getD i 0 = H
   cases Ck x
   ·simp only [Bool.not_false, AN, Ax]
    by_cases k : H = 0
    ·simp [k, B8]
    ·have : (H != 0) = true := bne_iff_ne.2 k
     simp [k, this, B8]
   ·simp only [Bool.not_true, Ax, AN]
    by_cases k : A = 0
    ·by_cases k2 : B = 0
     ·simp [k, k2, B8]
     ·have : (B != 0) = true := bne_iff_ne.2 k2
      simp [k, k2, this, B8]
    ·have : (A != 0) = true := bne_iff_ne.2 k
     by_cases k2 : B = 0
     ·simp [k, k2, this, B8]
     ·have h5 : (B != 0) = true := bne_iff_ne.2 k2
      simp [k, h5, B8])
  (fun n => by rw [Cd, AH (by omega)]) N 0 (by omega) (by omega)
 simpa using this
theorem IL (N : Nat) (p : Ak) (m : Ah) (hN : N ≤ 1000000) (h : 20 ≤ N) (hw : J0 I4 m.fHeld) : EV N p m = some (DW p m) := by
 unfold EV DW
 rw [Ma N p hN h]
 simp only [oS, Bi]
 by_cases k0 : DT p = 0
 ·have hp : B7 p := by
   rcases IH p with h | h
   ·exact h.2
   ·omega
  have hnv := hp.nv
  have hnt := hp.nt
  rw [k0]
  simp only [bne_self_eq_false, Ax, ne_eq, not_true_eq_false, if_false]
  by_cases k1 : m.fBase.length = p.fVersions.length
  ·by_cases k2 : m.fNext.length = p.fVersions.length
   ·by_cases k3 : m.fHeld.length = p.fTables.length
    ·rw [k1, k2, k3]
     simp only [bne_self_eq_false, Ax, not_true_eq_false, or_self, if_false]
     rw [Qm N p m hN (by omega) k1 k2]
     cases hs : DE (LZ m) 0 p.fVersions with
     | some r => rfl
     | none =>
      simp only [B8]
      rw [Si N p m hN (by omega) hp (Qu k1 k2 k3 hs) hw]
      cases DE (JC p m) 0 p.fTables <;> rfl
    ·have : ((m.fHeld.length : Int) != (p.fTables.length : Int)) = true := bne_iff_ne.2 (by omega)
     rw [this, k1, k2]; simp [k3]
   ·have : ((m.fNext.length : Int) != (p.fVersions.length : Int)) = true := bne_iff_ne.2 (by omega)
    rw [this, k1]; simp [k2]
  ·have : ((m.fBase.length : Int) != (p.fVersions.length : Int)) = true := bne_iff_ne.2 (by omega)
   rw [this]; simp [k1]
 ·rw [bne_iff_ne.2 k0]; simp [k0]
theorem Ki (N : Nat) (p : Ak) (m : Ah) (hN : N ≤ 1000000) (h : 20 ≤ N) : Dm N p m = some (DW p m) := by
 unfold Dm DW
 rw [NX N p hN h]
 simp only [oS, Bi]
 by_cases k0 : DT p = 0
 ·have hp : B7 p := by
   rcases IH p with h | h
   ·exact h.2
   ·omega
  have hnv := hp.nv
  have hnt := hp.nt
  rw [k0]
  simp only [bne_self_eq_false, Ax, ne_eq, not_true_eq_false, if_false]
  by_cases k1 : m.fBase.length = p.fVersions.length
  ·by_cases k2 : m.fNext.length = p.fVersions.length
   ·by_cases k3 : m.fHeld.length = p.fTables.length
    ·rw [k1, k2, k3]
     simp only [bne_self_eq_false, Ax, not_true_eq_false, or_self, if_false]
     rw [Qf N p m hN (by omega) k1 k2]
     cases hs : DE (LZ m) 0 p.fVersions with
     | some r => rfl
     | none =>
      simp only [B8]
      rw [RS N p m hN (by omega) hp (Qu k1 k2 k3 hs)]
      cases DE (JC p m) 0 p.fTables <;> rfl
    ·have : ((m.fHeld.length : Int) != (p.fTables.length : Int)) = true := bne_iff_ne.2 (by omega)
     rw [this, k1, k2]; simp [k3]
   ·have : ((m.fNext.length : Int) != (p.fVersions.length : Int)) = true := bne_iff_ne.2 (by omega)
    rw [this, k1]; simp [k2]
  ·have : ((m.fBase.length : Int) != (p.fVersions.length : Int)) = true := bne_iff_ne.2 (by omega)
   rw [this]; simp [k1]
 ·rw [bne_iff_ne.2 k0]; simp [k0]
@[simp] theorem Be {α β : Type} (k : α) (f : α → β) : Bi k f = f k := rfl
@[simp] theorem Ua {p : Prop} [Decidable p] (h : p) : DN p = some () := by unfold DN; rw [if_pos h]
theorem AD {β : Type} {p : Prop} [Decidable p] (h : p) (f : Unit → Option β) : (DN p).bind f = f () := by rw [Ua h]; rfl
theorem VQ {α : Type} (b : Bool) (x y : Option α) : AW b x y = if b = true then x else y := by cases b <;> rfl
def D7 {α β : Type} (g : Nat → α → List β) : Nat → List α → List β
 | _, [] => []
 | i, x :: xs => g i x ++ D7 g (i + 1) xs
def IE {α A : Type} (f : Nat → α → A → A) : Nat → List α → A → A
 | _, [], a => a
 | i, x :: xs, a => IE f (i + 1) xs (f i x a)
theorem Md {α β : Type} (g : Nat → α → List β) : ∀ (i : Nat) (xs ys : List α), D7 g i (xs ++ ys) = D7 g i xs ++ D7 g (i + xs.length) ys
 | i, [], ys => by simp [D7]
 | i, x :: xs, ys => by
  rw [List.cons_append, D7, D7, Md g (i + 1) xs ys, List.append_assoc, List.length_cons, Nat.add_assoc, Nat.add_comm 1]
theorem Lj {α β : Type} {g : Nat → α → List β} {y : β} : ∀ {i : Nat} {xs : List α}, y ∈ D7 g i xs ↔ ∃ j x, xs[j]? = some x ∧ y ∈ g (i + j) x
 | _, [] => by simp [D7]
 | i, x :: xs => by
  rw [D7, List.mem_append, Lj]
  constructor
  ·rintro (h | ⟨j, z, hz, h⟩)
   ·exact ⟨0, x, rfl, h⟩
   ·exact ⟨j + 1, z, by simpa using hz, by rwa [show i + (j + 1) = i + 1 + j from by omega]⟩
  ·rintro ⟨j, z, hz, h⟩
   cases j with
   | zero => simp at hz; subst hz; exact .inl h
   | succ j => exact .inr ⟨j, z, by simpa using hz, by rwa [show i + 1 + j = i + (j + 1) from by omega]⟩
theorem FG {α β : Type} {g : Nat → α → List β} {c : Nat} : ∀ {i : Nat} {xs : List α}, (∀ j x, xs[j]? = some x → (g (i + j) x).length ≤ c) → (D7 g i xs).length ≤ c * xs.length
 | _, [], _ => by simp [D7]
 | i, x :: xs, h => by
  have h1 := h 0 x rfl
  have h2 := FG (g := g) (c := c) (i := i + 1) (xs := xs) fun j y hy => by
   have := h (j + 1) y (by simpa using hy)
   rwa [show i + (j + 1) = i + 1 + j from by omega] at this
  rw [D7, List.length_append, List.length_cons, Nat.mul_add]
  simp only [Nat.add_zero] at h1
  omega
theorem IU {α A S R : Type} (L : Nat → S → Option R) (mk : A → Int → S) (xs : List α) (j : A → Option R) (f : Nat → α → A → A) (I : Nat → A → Prop)
  (hs : ∀ (n i : Nat) (x : α) (a : A), xs[i]? = some x → I i a → L (n + 1) (mk a (i : Int)) = L n (mk (f i x a) ((i + 1 : Nat) : Int)) ∧ I (i + 1) (f i x a))
  (he : ∀ (n : Nat) (a : A), I xs.length a → L (n + 1) (mk a (xs.length : Int)) = j a) :
  ∀ (n i : Nat) (a : A), i ≤ xs.length → xs.length - i < n → I i a → L n (mk a (i : Int)) = j (IE f i (xs.drop i) a) ∧ I xs.length (IE f i (xs.drop i) a)
 | 0, i, _, _, h, _ => by omega
 | n + 1, i, a, hi, h, ha => by
  by_cases h1 : i < xs.length
  ·have hx : xs[i]? = some xs[i] := by simp [h1]
   obtain ⟨e1, e2⟩ := hs n i _ a hx ha
   rw [e1, Hy hx, IE]
   exact IU L mk xs j f I hs he n (i + 1) _ (by omega) (by omega) e2
  ·have : i = xs.length := by omega
   subst this
   rw [List.drop_eq_nil_of_le (Nat.le_refl _), IE]
   exact ⟨he n a ha, ha⟩
theorem N4 {α β : Type} (g : Nat → α → List β) : ∀ (i : Nat) (xs : List α) (acc : List β), IE (fun i x a => a ++ g i x) i xs acc = acc ++ D7 g i xs
 | _, [], acc => by simp [IE, D7]
 | i, x :: xs, acc => by rw [IE, N4 g (i + 1) xs, D7, List.append_assoc]
theorem F7 {α β S R : Type} (L : Nat → S → Option R) (mk : List β → Int → S) (xs : List α) (j : List β → Option R) (g : Nat → α → List β) (c B : Nat)
  (hg : ∀ i x, xs[i]? = some x → (g i x).length ≤ c)
  (hs : ∀ (n i : Nat) (x : α) (a : List β), xs[i]? = some x → a.length + (g i x).length ≤ B → L (n + 1) (mk a (i : Int)) = L n (mk (a ++ g i x) ((i + 1 : Nat) : Int)))
  (he : ∀ (n : Nat) (a : List β), L (n + 1) (mk a (xs.length : Int)) = j a) (n : Nat) (a : List β) (hn : xs.length < n) (ha : a.length + c * xs.length ≤ B) :
  L n (mk a 0) = j (a ++ D7 g 0 xs) := by
 have := IU L mk xs j (fun i x a => a ++ g i x) (fun i b => i ≤ xs.length ∧ b.length ≤ a.length + c * i)
  (fun n i x b hx hb => by
   have h1 := hg i x hx
   have hi := (lI.1 hx).1
   have h2 : c * (i + 1) ≤ c * xs.length := Nat.mul_le_mul_left c hi
   have h3 : c * (i + 1) = c * i + c := Nat.mul_succ c i
   refine ⟨hs n i x b hx (by have := hb.2; omega), hi, ?_⟩
   rw [List.length_append]
   have := hb.2
   omega)
  (fun n b _ => he n b) n 0 a (Nat.zero_le _) (by omega) ⟨Nat.zero_le _, by omega⟩
 have h2 := this.1
 rw [List.drop_zero, N4] at h2
 exact h2
def Di (s : Int) (v : Nat) : Bool := s.toNat.testBit v
def H7 (m : Ah) (s v : Nat) : Bool := decide (m.fBase.getD s 0 = (v : Int)) || decide (m.fNext.getD s 0 = (v : Int))
theorem Wu : ∀ (s : Fin 256) (v : Fin 8), Fq .u8 (El .u8 (s.val : Int) (v.val : Int)) 1 = if Di (s.val : Int) v.val then 1 else 0 := by decide +kernel
theorem PP {s : Int} {v : Nat} (h0 : 0 ≤ s) (h1 : s ≤ 255) (hv : v < 8) : Fq .u8 (El .u8 s (v : Int)) 1 = if Di s v then 1 else 0 := by
 obtain ⟨k, rfl⟩ := Int.eq_ofNat_of_zero_le h0
 exact Wu ⟨k, by omega⟩ ⟨v, hv⟩
theorem Qz {s : Int} {v : Nat} (h0 : 0 ≤ s) (h1 : s ≤ 255) (hv : v < 8) : (Fq .u8 (El .u8 s (v : Int)) 1 == 0) = !Di s v := by
 rw [PP h0 h1 hv]; cases Di s v <;> rfl
theorem Rb {s : Int} {v : Nat} (h0 : 0 ≤ s) (h1 : s ≤ 255) (hv : v < 8) : (Fq .u8 (El .u8 s (v : Int)) 1 == 1) = Di s v := by
 rw [PP h0 h1 hv]; cases Di s v <;> rfl
theorem La {s : Int} {v : Nat} (h1 : s ≤ 255) (hv : 8 ≤ v) : Di s v = false := by
 unfold Di
 apply Nat.testBit_lt_two_pow
 have : (2 : Nat) ^ 8 ≤ 2 ^ v := Nat.pow_le_pow_right (by omega) hv
 omega
theorem NN : ∀ (b : Fin 8) (v : Fin 8), Di (CJ .u8 1 (b.val : Int)) v.val = decide (b.val = v.val) ∧ 0 ≤ CJ .u8 1 (b.val : Int) ∧ CJ .u8 1 (b.val : Int) ≤ 255 := by decide +kernel
theorem VG : ∀ (b n : Fin 8) (v : Fin 8), Di (MC .u8 (CJ .u8 1 (b.val : Int)) (CJ .u8 1 (n.val : Int))) v.val = (decide (b.val = v.val) || decide (n.val = v.val))
  ∧ 0 ≤ MC .u8 (CJ .u8 1 (b.val : Int)) (CJ .u8 1 (n.val : Int)) ∧ MC .u8 (CJ .u8 1 (b.val : Int)) (CJ .u8 1 (n.val : Int)) ≤ 255 := by decide +kernel
theorem Rx {m : Ah} {s : Nat} (hb0 : 0 ≤ m.fBase.getD s 0) (hb1 : m.fBase.getD s 0 < 8) (hn1 : m.fNext.getD s 0 < 8) :
  (∀ v, Di (GW m s) v = H7 m s v) ∧ 0 ≤ GW m s ∧ GW m s ≤ 255 := by
 unfold GW H7
 obtain ⟨b, hb⟩ := Int.eq_ofNat_of_zero_le hb0
 rw [hb] at hb1 ⊢
 by_cases h : 0 ≤ m.fNext.getD s 0
 ·obtain ⟨n, hn⟩ := Int.eq_ofNat_of_zero_le h
  rw [hn] at hn1 ⊢
  rw [if_pos (by omega)]
  have h1 := VG ⟨b, by omega⟩ ⟨n, by omega⟩
  refine ⟨fun v => ?_, (h1 0).2⟩
  by_cases hv : v < 8
  ·rw [(h1 ⟨v, hv⟩).1]
   simp only [Int.ofNat_inj]
  ·rw [La (h1 0).2.2 (by omega)]
   simp; omega
 ·rw [if_neg h]
  have h1 := NN ⟨b, by omega⟩
  refine ⟨fun v => ?_, (h1 0).2⟩
  have h3 : decide (m.fNext.getD s 0 = (v : Int)) = false := decide_eq_false (by omega)
  rw [h3, Bool.or_false]
  by_cases hv : v < 8
  ·rw [(h1 ⟨v, hv⟩).1]
   simp only [Int.ofNat_inj]
  ·rw [La (h1 0).2.2 (by omega)]
   simp; omega
theorem S4 {a : Nat} (h : a < 256) : (BitVec.ofInt 8 (a : Int)).toNat = a := by
 simp; omega
theorem Ob {a b : Int} (ha : 0 ≤ a ∧ a ≤ 255) (hb : 0 ≤ b ∧ b ≤ 255) : Dz .u8 a b = 0 ↔ ∀ v, Di a v = true → Di b v = true := by
 obtain ⟨a, rfl⟩ := Int.eq_ofNat_of_zero_le ha.1
 obtain ⟨b, rfl⟩ := Int.eq_ofNat_of_zero_le hb.1
 have hA := S4 (a := a) (by omega)
 have hB := S4 (a := b) (by omega)
 unfold Dz Di
 simp only [IntKind.bits, Int.toNat_natCast]
 have hx : ∀ x : BitVec 8, wI .u8 (x.toNat : Int) = (x.toNat : Int) := by
  intro x
  have := x.isLt
  simp [wI, IntKind.signed, IntKind.bits]
  omega
 rw [hx]
 constructor
 ·intro h v hv
  have h0 : (BitVec.ofInt 8 (a : Int) &&& ~~~BitVec.ofInt 8 (b : Int)) = (BitVec.ofNat 8 0) := by
   apply BitVec.eq_of_toNat_eq
   simp only [BitVec.toNat_ofNat, Nat.zero_mod]
   exact Int.ofNat_inj.1 h
  by_cases hv8 : v < 8
  ·have h1 : (BitVec.ofInt 8 (a : Int) &&& ~~~BitVec.ofInt 8 (b : Int)).getLsbD v = false := by rw [h0]; simp
   rw [BitVec.getLsbD_and, BitVec.getLsbD_not] at h1
   have e1 : (BitVec.ofInt 8 (a : Int)).getLsbD v = a.testBit v := by unfold BitVec.getLsbD; rw [hA]
   have e2 : (BitVec.ofInt 8 (b : Int)).getLsbD v = b.testBit v := by unfold BitVec.getLsbD; rw [hB]
   rw [e1, e2, hv] at h1
   simpa [hv8] using h1
  ·have := La (s := (a : Int)) (v := v) (by omega) (by omega)
   unfold Di at this
   rw [Int.toNat_natCast, hv] at this
   cases this
 ·intro h
  have h0 : (BitVec.ofInt 8 (a : Int) &&& ~~~BitVec.ofInt 8 (b : Int)) = (BitVec.ofNat 8 0) := by
   apply BitVec.eq_of_getLsbD_eq
   intro i hi
   rw [BitVec.getLsbD_and, BitVec.getLsbD_not]
   have e1 : (BitVec.ofInt 8 (a : Int)).getLsbD i = a.testBit i := by unfold BitVec.getLsbD; rw [hA]
   have e2 : (BitVec.ofInt 8 (b : Int)).getLsbD i = b.testBit i := by unfold BitVec.getLsbD; rw [hB]
   rw [e1, e2]
   have := h i
   cases h3 : a.testBit i
   ·simp
   ·rw [this h3]; simp
  have h2 : ∀ x : BitVec 8, x = (BitVec.ofNat 8 0) → (x.toNat : Int) = 0 := fun x hx => by rw [hx]; rfl
  exact h2 _ h0
theorem VN : ∀ n : Fin 9, (∀ v : Fin 8, Di (wI .u8 (CJ .u8 1 (n.val : Int) - 1)) v.val = decide (v.val < n.val)) ∧ 0 ≤ wI .u8 (CJ .u8 1 (n.val : Int) - 1) ∧ wI .u8 (CJ .u8 1 (n.val : Int) - 1) ≤ 255 := by decide +kernel
theorem Sz {n : Int} (h0 : 0 ≤ n) (h1 : n ≤ 8) : (∀ v, Di (wI .u8 (CJ .u8 1 n - 1)) v = decide ((v : Int) < n)) ∧ 0 ≤ wI .u8 (CJ .u8 1 n - 1) ∧ wI .u8 (CJ .u8 1 n - 1) ≤ 255 := by
 obtain ⟨n, rfl⟩ := Int.eq_ofNat_of_zero_le h0
 have h := VN ⟨n, by omega⟩
 refine ⟨fun v => ?_, h.2⟩
 by_cases hv : v < 8
 ·rw [h.1 ⟨v, hv⟩]; simp
 ·rw [La h.2.2 (by omega)]
  symm; apply decide_eq_false; omega
structure EH (p : Ak) (m : Ah) : Prop extends MixServ p m where
 range : ∀ i, i < p.fTables.length → 0 ≤ m.fHeld.getD i 0 ∧ m.fHeld.getD i 0 ≤ 255
 low : ∀ i t, p.fTables[i]? = some t → Ck t = true → ∀ v, H7 m t.fFrom.toNat v = true → Di (m.fHeld.getD i 0) v = true
 high : ∀ i t, p.fTables[i]? = some t → Ck t = true → ∀ v, Di (m.fHeld.getD i 0) v = true → (v : Int) < p.fVersions.getD t.fFrom.toNat 0
 none : ∀ i t, p.fTables[i]? = some t → Ck t = false → m.fHeld.getD i 0 = 0
theorem I6 {p : Ak} (hp : B7 p) {i : Nat} (hi : i < p.fVersions.length) : 1 ≤ p.fVersions.getD i 0 ∧ p.fVersions.getD i 0 ≤ 6 := by
 have := KV (i := (i : Int)) hp.ver (by omega) (by omega)
 simpa using this
theorem Is {p : Ak} {m : Ah} (hp : B7 p) (hm : MixServ p m) {s : Nat} (hs : s < p.fVersions.length) :
  (∀ v, Di (GW m s) v = H7 m s v) ∧ 0 ≤ GW m s ∧ GW m s ≤ 255 := by
 have h1 := hm.b0 s hs
 have h2 := hm.n0 s hs
 have h3 := I6 hp hs
 exact Rx h1.1 (by omega) (by omega)
theorem Rc {p : Ak} {m : Ah} (hp : B7 p) (hm : MixServ p m) {i : Nat} {t : AR} (ht : p.fTables[i]? = some t) (hr : 0 ≤ m.fHeld.getD i 0 ∧ m.fHeld.getD i 0 ≤ 255) :
  JC p m i t = none ↔ ((Ck t = true → (∀ v, H7 m t.fFrom.toNat v = true → Di (m.fHeld.getD i 0) v = true) ∧ (∀ v, Di (m.fHeld.getD i 0) v = true → (v : Int) < p.fVersions.getD t.fFrom.toNat 0)) ∧ (Ck t = false → m.fHeld.getD i 0 = 0)) := by
 have hin := JJ (hp.tab t (lM ht))
 have hrun := Is hp hm (s := t.fFrom.toNat) (by omega)
 have hver := I6 hp (i := t.fFrom.toNat) (by omega)
 have hall := Sz (n := p.fVersions.getD t.fFrom.toNat 0) (by omega) (by omega)
 unfold JC VC
 have e1 := Ob hrun.2 hr
 have e2 := Ob hr hall.2
 cases hst : Ck t
 ·simp
 ·simp only [if_true, true_implies, Bool.true_eq_false, false_implies, and_true, ite_eq_right_iff, reduceCtorEq, imp_false, not_or, Decidable.not_not]
  rw [e1, e2]
  simp only [hrun.1, hall.1, decide_eq_true_eq]
theorem HR {p : Ak} {m : Ah} (hw : J0 I4 m.fHeld) (h : DW p m = 0) : B7 p ∧ EH p m := by
 unfold DW at h
 split at h
 ·rename_i k; exact (k h).elim
 ·rename_i k0
  have hp : B7 p := by
   rcases IH p with h | h
   ·exact h.2
   ·omega
  split at h
  ·cases h
  ·rename_i k1
   have b1 : m.fBase.length = p.fVersions.length := Decidable.not_not.1 fun h => k1 (.inl h)
   have b2 : m.fNext.length = p.fVersions.length := Decidable.not_not.1 fun h => k1 (.inr (.inl h))
   have b3 : m.fHeld.length = p.fTables.length := Decidable.not_not.1 fun h => k1 (.inr (.inr h))
   cases hs : DE (LZ m) 0 p.fVersions with
   | some r =>
    obtain ⟨j, x, _, he⟩ := E1 hs
    rw [hs] at h
    unfold LZ at he
    simp only [B8, Option.getD_some] at h
    split at he
    ·cases he; cases h
    ·split at he
     ·cases he; cases h
     ·cases he
   | none =>
    have hm := Qu b1 b2 b3 hs
    rw [hs] at h
    simp only [B8] at h
    cases ht : DE (JC p m) 0 p.fTables with
    | some r =>
     obtain ⟨j, x, _, he⟩ := E1 ht
     rw [ht] at h
     simp only [Option.getD_some] at h
     subst h
     unfold JC at he
     split at he
     ·split at he <;> cases he
     ·split at he <;> cases he
    | none =>
     have hr : ∀ i, i < p.fTables.length → 0 ≤ m.fHeld.getD i 0 ∧ m.fHeld.getD i 0 ≤ 255 := fun i hi => Jb (Ru hw (by omega))
     have key : ∀ i t, p.fTables[i]? = some t → _ := fun i t hi => (Rc hp hm hi (hr i (lI.1 hi).1)).1 (by have := GH ht i t hi; rwa [Nat.zero_add] at this)
     exact ⟨hp, hm, hr, fun i t hi hst => ((key i t hi).1 hst).1, fun i t hi hst => ((key i t hi).1 hst).2, fun i t hi hst => (key i t hi).2 hst⟩
theorem EW {α R : Type} {f : Nat → α → Option R} : ∀ {i : Nat} {xs : List α}, (∀ j x, xs[j]? = some x → f (i + j) x = none) → DE f i xs = none
 | _, [], _ => rfl
 | i, y :: ys, h => by
  rw [HB, show f i y = none from h 0 y rfl]
  exact EW fun j x hx => by
   have := h (j + 1) x (by simpa using hx)
   rwa [show i + (j + 1) = i + 1 + j from by omega] at this
theorem Qg {p : Ak} (hp : B7 p) (hr : ∀ i, i < p.fVersions.length → 0 ≤ p.fNow.getD i 0 ∧ p.fNow.getD i 0 < p.fVersions.getD i 0 ∧ 0 ≤ p.fTarget.getD i 0 ∧ p.fTarget.getD i 0 < p.fVersions.getD i 0) : DT p = 0 := by
 have := hp.nv
 have := hp.nt
 have := hp.now
 have := hp.tgt
 unfold DT
 rw [if_neg (by omega), if_neg (by omega)]
 have h1 : DE (Gb p) 0 p.fVersions = none := EW fun j x hx => by
  have hj := (lI.1 hx).1
  have h1 := hr j hj
  have h2 := I6 hp hj
  have e : p.fVersions.getD j 0 = x := by rw [lD, hx]; rfl
  rw [e] at h1 h2
  unfold Gb
  rw [Nat.zero_add, if_neg (by omega)]
 have h2 : DE (Mc p) 0 p.fTables = none := EW fun j x hx => by
  unfold Mc
  rw [if_pos (hp.tab x (lM hx))]
 rw [h1, h2]; rfl
theorem E7 {p : Ak} (h : DT p = 0) : B7 p ∧ ∀ i, i < p.fVersions.length → 0 ≤ p.fNow.getD i 0 ∧ p.fNow.getD i 0 < p.fVersions.getD i 0 ∧ 0 ≤ p.fTarget.getD i 0 ∧ p.fTarget.getD i 0 < p.fVersions.getD i 0 := by
 have hp : B7 p := by
  rcases IH p with h | h
  ·exact h.2
  ·omega
 refine ⟨hp, fun i hi => ?_⟩
 have h1 := hp.nv
 have h2 := hp.nt
 have h3 := hp.now
 have h4 := hp.tgt
 unfold DT at h
 rw [if_neg (by omega), if_neg (by omega)] at h
 cases hs : DE (Gb p) 0 p.fVersions with
 | some r =>
  obtain ⟨j, x, _, he⟩ := E1 hs
  rw [hs] at h
  unfold Gb at he
  split at he
  ·cases he; cases h
  ·cases he
 | none =>
  have hx : p.fVersions[i]? = some (p.fVersions.getD i 0) := by rw [lD]; simp [hi]
  have := GH hs i _ hx
  rw [Nat.zero_add] at this
  unfold Gb at this
  split at this
  ·cases this
  ·rename_i hn; omega
theorem Mz {p : Ak} {m : Ah} (hv : DT p = 0) (hm : EH p m) : DW p m = 0 := by
 obtain ⟨hp, _⟩ := E7 hv
 unfold DW
 rw [hv, if_neg (by simp), if_neg (by have := hm.base; have := hm.next; have := hm.held; omega)]
 have h1 : DE (LZ m) 0 p.fVersions = none := EW fun j x hx => by
  have hj := (lI.1 hx).1
  have e : p.fVersions.getD j 0 = x := by rw [lD, hx]; rfl
  have h1 := hm.b0 j hj
  have h2 := hm.n0 j hj
  have h3 := hm.ne j hj
  rw [e] at h1 h2
  unfold LZ
  rw [Nat.zero_add, if_neg (by omega), if_neg h3]
 have h2 : DE (JC p m) 0 p.fTables = none := EW fun j x hx => by
  have hj := (lI.1 hx).1
  rw [Nat.zero_add]
  exact (Rc hp hm.toMixServ hx (hm.range j hj)).2 ⟨fun hst => ⟨hm.low j x hx hst, hm.high j x hx hst⟩, fun hst => hm.none j x hx hst⟩
 rw [h1, h2]; rfl
def Oh {α : Type} (g : Nat → α → Bool) : Nat → List α → Bool
 | _, [] => false
 | i, x :: xs => g i x || Oh g (i + 1) xs
theorem LH {α β : Type} (g : Nat → α → List β) (h : Nat → α → Bool) : ∀ (i : Nat) (xs : List α) (a : List β) (b : Bool),
  IE (fun i x (s : List β × Bool) => (s.1 ++ g i x, s.2 || h i x)) i xs (a, b) = (a ++ D7 g i xs, b || Oh h i xs)
 | _, [], a, b => by simp [IE, D7, Oh]
 | i, x :: xs, a, b => by rw [IE, LH g h, D7, Oh, List.append_assoc, Bool.or_assoc]
def gC (i u : Nat) (m : Ah) (t : AR) (v : Nat) (ok : Bool) : List Ag :=
 if H7 m t.fTo.toNat v && (!ok && !t.fAware) then [⟨(i : Int), (u : Int), (v : Int)⟩] else []
def hC (m : Ah) (t : AR) (v : Nat) (ok : Bool) : Bool := H7 m t.fTo.toNat v && ok
def J8 (i : Nat) (m : Ah) (t : AR) (u : Nat) (row : List Bool) : List Ag :=
 D7 (gC i u m t) 0 row ++ if t.fAware && !Oh (hC m t) 0 row then [⟨(i : Int), (u : Int), -1⟩] else []
def Te (m : Ah) (i : Nat) (t : AR) (u : Nat) : Bool := if Ck t then Di (m.fHeld.getD i 0) u else H7 m t.fFrom.toNat u
def J9 (m : Ah) (i : Nat) (t : AR) : List Ag := D7 (fun u row => if Te m i t u then J8 i m t u row else []) 0 t.fOK
def Jg (p : Ak) (m : Ah) : List Ag := D7 (J9 m) 0 p.fTables
structure N7 (p : Ak) (t : AR) : Prop where
 kind : 1 ≤ t.fKind ∧ t.fKind ≤ 4
 aware : t.fAware = true → Ck t = false
 from0 : 0 ≤ t.fFrom ∧ t.fFrom < (p.fVersions.length : Int)
 to0 : 0 ≤ t.fTo ∧ t.fTo < (p.fVersions.length : Int)
 okL : (t.fOK.length : Int) = p.fVersions.getD t.fFrom.toNat 0
 okR : ∀ row, row ∈ t.fOK → (row.length : Int) = p.fVersions.getD t.fTo.toNat 0
 reL : t.fKind = 4 → (t.fRewrite.length : Int) = p.fVersions.getD t.fFrom.toNat 0
 reR : ∀ row, row ∈ t.fRewrite → (row.length : Int) = p.fVersions.getD t.fFrom.toNat 0
 reD : t.fKind = 4 → Jm t.fRewrite = none
 reN : t.fKind ≠ 4 → t.fRewrite = []
theorem KS {p : Ak} {t : AR} (h : Em p t = 0) : N7 p t := by
 unfold Em at h
 split at h
 ·cases h
 rename_i h1
 split at h
 ·cases h
 rename_i h2
 simp only at h
 split at h
 ·cases h
 rename_i h3
 have h3 : sq t.fOK (p.fVersions.getD t.fFrom.toNat 0) (p.fVersions.getD t.fTo.toNat 0) = true := by simpa using h3
 have h3 := NI h3
 have ha : t.fAware = true → Ck t = false := by
  intro ha
  unfold Ck
  rw [Bool.or_eq_false_iff, beq_eq_false_iff_ne, beq_eq_false_iff_ne]
  exact ⟨fun hk => h1 (.inr (.inr ⟨ha, .inl hk⟩)), fun hk => h1 (.inr (.inr ⟨ha, .inr hk⟩))⟩
 split at h
 ·rename_i h4
  split at h
  ·cases h
  rename_i h5
  have h5 : sq t.fRewrite (p.fVersions.getD t.fFrom.toNat 0) (p.fVersions.getD t.fFrom.toNat 0) = true := by simpa using h5
  have h5 := NI h5
  refine ⟨by omega, ha, by omega, by omega, h3.1, h3.2, fun _ => h5.1, h5.2, fun _ => ?_, fun h => (h h4).elim⟩
  cases hd : Jm t.fRewrite with
  | none => rfl
  | some r =>
   obtain ⟨j, x, _, hx⟩ := E1 hd
   rw [hd] at h
   split at hx
   ·cases hx
   ·cases hx; cases h
 ·rename_i h4
  split at h
  ·rename_i h5
   have h5 := List.eq_nil_of_length_eq_zero h5
   refine ⟨by omega, ha, by omega, by omega, h3.1, h3.2, fun h => (h4 h).elim, fun row hr => ?_, fun h => (h4 h).elim, fun _ => h5⟩
   rw [h5] at hr; cases hr
  ·cases h
theorem Lh {R : Type} (b : Bool) (acc : List Ag) (x : Ag) (j : List Ag → Option R) (h : acc.length + 1 ≤ D2) :
  AW b ((DN (acc.length + ([x] : List Ag).length ≤ D2)).bind fun _ => j (acc ++ [x])) (j acc) = j (acc ++ if b then [x] else []) := by
 cases b
 ·simp
 ·rw [AN, AD (by simpa using h)]; rfl
theorem Rd (N : Nat) (m : Ah) (t : AR) (i u : Nat) (row : List Bool) (R : Int) (b1 b2 acc : List Ag) (j : List Ag × Bool → Option (List Ag))
  (hN : N ≤ 1000000) (h8 : 8 ≤ N) (hrow : row.length ≤ 6) (hacc : acc.length + 6 ≤ D2) (hR0 : 0 ≤ R) (hR1 : R ≤ 255) (hRb : ∀ v, Di R v = H7 m t.fTo.toNat v) :
  Cc N (b1, (i : Int)) t R (b2, (u : Int)) row j N (acc, false, 0) = j (acc ++ D7 (gC i u m t) 0 row, Oh (hC m t) 0 row) := by
 have := IU (A := List Ag × Bool) (Cc N (b1, (i : Int)) t R (b2, (u : Int)) row j) (fun a k => (a.1, a.2, k)) row (fun a => j a) (fun v ok s => (s.1 ++ gC i u m t v ok, s.2 || hC m t v ok))
  (fun v a => v ≤ row.length ∧ a.1.length ≤ acc.length + v)
  (fun n v ok a hx ha => by
   have hv := (lI.1 hx).1
   obtain ⟨c, f⟩ := a
   simp only at ha
   refine ⟨?_, by omega, ?_⟩
   ·rw [Cc]
    simp only [Be]
    rw [AK (by omega), Bn, hx]
    simp only [oS]
    rw [AD (by omega), Qz hR0 hR1 (by omega), hRb, AZ (by omega), Lh _ _ _ (fun l => Cc N (b1, (i : Int)) t R (b2, (u : Int)) row j n (l, true, ((v + 1 : Nat) : Int))) (by omega)]
    unfold gC hC
    rw [Lh _ _ _ (fun l => Cc N (b1, (i : Int)) t R (b2, (u : Int)) row j n (l, ok, ((v + 1 : Nat) : Int))) (by omega)]
    cases H7 m t.fTo.toNat v
    ·simp
    ·cases ok <;> cases f <;> cases t.fAware <;> simp
   ·simp only [gC, List.length_append]
    split <;> simp <;> omega)
  (fun n a _ => by
   rw [Cc]
   simp only [Be]
   rw [AH (by omega)]) N 0 (acc, false) (by omega) (by omega) ⟨by omega, by simp⟩
 have h2 := this.1
 rw [List.drop_zero, LH, Bool.false_or] at h2
 exact h2
theorem NG {p : Ak} {t : AR} (hp : B7 p) (ht : N7 p t) : t.fOK.length ≤ 6 ∧ ∀ row, row ∈ t.fOK → row.length ≤ 6 := by
 have h1 := KV hp.ver ht.from0.1 ht.from0.2
 have h2 := KV hp.ver ht.to0.1 ht.to0.2
 have h3 := ht.okL
 exact ⟨by omega, fun row hr => by have := ht.okR row hr; omega⟩
theorem R7 (i u : Nat) (m : Ah) (t : AR) (v : Nat) (ok : Bool) : (gC i u m t v ok).length ≤ 1 := by
 unfold gC; split <;> simp
theorem RQ (i : Nat) (m : Ah) (t : AR) (u : Nat) (row : List Bool) (h : row.length ≤ 6) : (J8 i m t u row).length ≤ 7 := by
 unfold J8
 rw [List.length_append]
 have := FG (g := gC i u m t) (c := 1) (i := 0) (xs := row) (fun j x _ => R7 _ _ _ _ _ _)
 split <;> simp <;> omega
theorem R5 (i : Nat) (m : Ah) (t : AR) (u : Nat) (row : List Bool) (h : row.length ≤ 6) : (if Te m i t u = true then J8 i m t u row else []).length ≤ 7 := by
 have := RQ i m t u row h
 split <;> simp <;> omega
theorem Np {p : Ak} {t : AR} (hp : B7 p) (ht : N7 p t) (i : Nat) (m : Ah) : (J9 m i t).length ≤ 42 := by
 have h1 := NG hp ht
 have := FG (g := fun u row => if Te m i t u = true then J8 i m t u row else []) (c := 7) (i := 0) (xs := t.fOK) (fun j x hx => R5 i m t _ x (h1.2 x (lM hx)))
 unfold J9
 omega
theorem Mx (N : Nat) (p : Ak) (m : Ah) (t : AR) (i : Nat) (W R : Int) (b1 acc : List Ag) (j : List Ag → Option (List Ag))
  (hN : N ≤ 1000000) (h8 : 8 ≤ N) (hp : B7 p) (ht : N7 p t) (hacc : acc.length + 42 ≤ 10000) (hR0 : 0 ≤ R) (hR1 : R ≤ 255) (hRb : ∀ v, Di R v = H7 m t.fTo.toNat v) (hW0 : 0 ≤ W) (hW1 : W ≤ 255) (hWb : ∀ v, Di W v = Te m i t v) :
  CF N (b1, (i : Int)) t R W j N (acc, 0) = j (acc ++ J9 m i t) := by
 have hl := NG hp ht
 exact F7 (CF N (b1, (i : Int)) t R W j) (fun a k => (a, k)) t.fOK j (fun u row => if Te m i t u then J8 i m t u row else []) 7 10000
  (fun u row hx => R5 i m t u row (hl.2 row (lM hx)))
  (fun n u row a hx ha => by
   have hu := (lI.1 hx).1
   have hrow := hl.2 row (lM hx)
   rw [CF]
   simp only [Be]
   rw [AK (by omega), AD (by omega), Qz hW0 hW1 (by omega), hWb, Bn, hx]
   simp only [oS]
   rw [Rd N m t i u row R b1 a a _ hN h8 hrow (by unfold D2; omega) hR0 hR1 hRb, AZ (by omega)]
   cases hw : Te m i t u
   ·simp
   ·simp only [Bool.not_true, Ax, if_true, J8]
    have h1 := FG (g := gC i u m t) (c := 1) (i := 0) (xs := row) (fun j x _ => R7 _ _ _ _ _ _)
    have := Lh (R := List Ag) (t.fAware && !Oh (hC m t) 0 row) (a ++ D7 (gC i u m t) 0 row) ⟨(i : Int), (u : Int), -1⟩ (fun l => CF N (b1, (i : Int)) t R W j n (l, ((u + 1 : Nat) : Int))) (by rw [List.length_append]; unfold D2; rw [hw, if_pos rfl] at ha; omega)
    rw [← List.append_assoc, ← this]
    cases t.fAware <;> cases Oh (hC m t) 0 row <;> rfl)
  (fun n a => by
   rw [CF]
   simp only [Be]
   rw [AH (by omega)]) N acc (by omega) (by omega)
theorem QU (N : Nat) (p : Ak) (m : Ah) (t : AR) (i u : Nat) (row : List Bool) (b1 b2 acc : List Ag) (j : List Ag × Bool → Option (List Ag))
  (hN : N ≤ 1000000) (h8 : 8 ≤ N) (hp : B7 p) (hm : MixServ p m) (ht : N7 p t) (hu : t.fOK[u]? = some row) (hacc : acc.length + 6 ≤ D2) :
  BD N p m (b1, (i : Int)) t (b2, (u : Int)) j N (acc, false, 0) = j (acc ++ D7 (gC i u m t) 0 row, Oh (hC m t) 0 row) := by
 have hrow := (NG hp ht).2 row (lM hu)
 have hR := Is hp hm (s := t.fTo.toNat) (by have := ht.to0; omega)
 have hlen := ht.okR row (lM hu)
 have hto := ht.to0
 have := IU (A := List Ag × Bool) (BD N p m (b1, (i : Int)) t (b2, (u : Int)) j) (fun a k => (a.1, a.2, k)) row (fun a => j a) (fun v ok s => (s.1 ++ gC i u m t v ok, s.2 || hC m t v ok))
  (fun v a => v ≤ row.length ∧ a.1.length ≤ acc.length + v)
  (fun n v ok a hx ha => by
   have hv := (lI.1 hx).1
   obtain ⟨c, f⟩ := a
   simp only at ha
   refine ⟨?_, by omega, ?_⟩
   ·rw [BD]
    simp only [Be]
    rw [EP (d := 0) hto.1 hto.2, IW N m t.fTo hto.1 (by rw [hm.base]; exact hto.2) (by rw [hm.next]; exact hto.2) (hm.b0 _ (by omega)).1, Bn, hu]
    simp only [oS]
    unfold CK
    rw [AK (by omega), Bn, hx, AD (by omega), Rb hR.2.1 hR.2.2 (by omega), hR.1]
    simp only [oS]
    rw [AZ (by omega), Lh _ _ _ (fun l => BD N p m (b1, (i : Int)) t (b2, (u : Int)) j n (l, true, ((v + 1 : Nat) : Int))) (by omega)]
    unfold gC hC
    rw [Lh _ _ _ (fun l => BD N p m (b1, (i : Int)) t (b2, (u : Int)) j n (l, ok, ((v + 1 : Nat) : Int))) (by omega)]
    cases H7 m t.fTo.toNat v
    ·simp
    ·cases ok <;> cases f <;> cases t.fAware <;> simp
   ·simp only [gC, List.length_append]
    split <;> simp <;> omega)
  (fun n a _ => by
   rw [BD]
   simp only [Be]
   rw [EP (d := 0) hto.1 hto.2]
   simp only [oS]
   rw [AH (by omega)]) N 0 (acc, false) (by omega) (by omega) ⟨by omega, by simp⟩
 have h2 := this.1
 rw [List.drop_zero, LH, Bool.false_or] at h2
 exact h2
theorem Mt (N : Nat) (p : Ak) (m : Ah) (t : AR) (i : Nat) (W : Int) (b1 acc : List Ag) (j : List Ag → Option (List Ag))
  (hN : N ≤ 1000000) (h8 : 8 ≤ N) (hp : B7 p) (hm : MixServ p m) (ht : N7 p t) (hacc : acc.length + 42 ≤ 10000) (hW0 : 0 ≤ W) (hW1 : W ≤ 255) (hWb : ∀ v, Di W v = Te m i t v) :
  BT N p m (b1, (i : Int)) t W j N (acc, 0) = j (acc ++ J9 m i t) := by
 have hl := NG hp ht
 have hfr := ht.from0
 have hok := ht.okL
 exact F7 (BT N p m (b1, (i : Int)) t W j) (fun a k => (a, k)) t.fOK j (fun u row => if Te m i t u then J8 i m t u row else []) 7 10000
  (fun u row hx => R5 i m t u row (hl.2 row (lM hx)))
  (fun n u row a hx ha => by
   have hu := (lI.1 hx).1
   have hrow := hl.2 row (lM hx)
   rw [BT]
   simp only [Be]
   rw [EP (d := 0) hfr.1 hfr.2]
   simp only [oS]
   unfold CK
   rw [AK (by omega), AD (by omega), Rb hW0 hW1 (by omega), hWb]
   simp only [oS]
   rw [QU N p m t i u row b1 a a _ hN h8 hp hm ht hx (by unfold D2; omega), AZ (by omega)]
   cases hw : Te m i t u
   ·simp
   ·simp only [Bool.not_true, Ax, if_true, J8]
    have h1 := FG (g := gC i u m t) (c := 1) (i := 0) (xs := row) (fun j x _ => R7 _ _ _ _ _ _)
    have := Lh (R := List Ag) (t.fAware && !Oh (hC m t) 0 row) (a ++ D7 (gC i u m t) 0 row) ⟨(i : Int), (u : Int), -1⟩ (fun l => BT N p m (b1, (i : Int)) t W j n (l, ((u + 1 : Nat) : Int))) (by rw [List.length_append]; unfold D2; rw [hw, if_pos rfl] at ha; omega)
    rw [← List.append_assoc, ← this]
    cases t.fAware <;> cases Oh (hC m t) 0 row <;> rfl)
  (fun n a => by
   rw [BT]
   simp only [Be]
   rw [EP (d := 0) hfr.1 hfr.2]
   simp only [oS]
   rw [AH (by omega)]) N acc (by omega) (by omega)
theorem MU (N : Nat) (p : Ak) (m : Ah) (hN : N ≤ 1000000) (h20 : 20 ≤ N) (hp : B7 p) (hm : EH p m) : FI N p m = some (Jg p m) := by
 unfold FI
 have hnt := hp.nt
 rw [F7 (DI N p m _) (fun a k => (a, k)) p.fTables some (J9 m) 42 9000
  (fun i t hx => Np hp (KS (hp.tab t (lM hx))) i m)
  (fun n i t a hx ha => by
   have hi := (lI.1 hx).1
   have ht := KS (hp.tab t (lM hx))
   have hto := ht.to0
   have hfr := ht.from0
   have hR := Is hp hm.toMixServ (s := t.fTo.toNat) (by omega)
   have hF := Is hp hm.toMixServ (s := t.fFrom.toNat) (by omega)
   have hH := hm.range i hi
   rw [DI]
   simp only [Be]
   rw [AK (by omega), Bn, hx]
   simp only [oS, Lu]
   rw [LV N m t.fFrom hfr.1 (by rw [hm.base]; exact hfr.2) (by rw [hm.next]; exact hfr.2) (hm.b0 _ (by omega)).1, LV N m t.fTo hto.1 (by rw [hm.base]; exact hto.2) (by rw [hm.next]; exact hto.2) (hm.b0 _ (by omega)).1, DH (d := 0) (by rw [hm.held]; exact hi), AZ (by omega)]
   simp only [oS]
   cases hs : Ck t
   ·rw [Ax, Mx N p m t i _ _ a a _ hN (by omega) hp ht (by omega) hR.2.1 hR.2.2 hR.1 hF.2.1 hF.2.2 (fun v => by unfold Te; rw [hs, hF.1]; rfl)]
   ·rw [AN, Mx N p m t i _ _ a a _ hN (by omega) hp ht (by omega) hR.2.1 hR.2.2 hR.1 hH.1 hH.2 (fun v => by unfold Te; rw [hs]; rfl)])
  (fun n a => by
   rw [DI]
   simp only [Be]
   rw [AH (by omega)]) N [] (by omega) (by simp; omega)]
 rfl
theorem MW (N : Nat) (p : Ak) (m : Ah) (hN : N ≤ 1000000) (h20 : 20 ≤ N) (hp : B7 p) (hm : EH p m) : EI N p m = some (Jg p m) := by
 unfold EI
 have hnt := hp.nt
 rw [F7 (CW N p m _) (fun a k => (a, k)) p.fTables some (J9 m) 42 9000
  (fun i t hx => Np hp (KS (hp.tab t (lM hx))) i m)
  (fun n i t a hx ha => by
   have hi := (lI.1 hx).1
   have ht := KS (hp.tab t (lM hx))
   have hto := ht.to0
   have hfr := ht.from0
   have hF := Is hp hm.toMixServ (s := t.fFrom.toNat) (by omega)
   have hH := hm.range i hi
   rw [CW]
   simp only [Be]
   rw [AK (by omega), Bn, hx]
   simp only [oS, F6]
   rw [IW N m t.fFrom hfr.1 (by rw [hm.base]; exact hfr.2) (by rw [hm.next]; exact hfr.2) (hm.b0 _ (by omega)).1, DH (d := 0) (by rw [hm.held]; exact hi), AZ (by omega)]
   simp only [oS]
   cases hs : Ck t
   ·rw [Ax, Mt N p m t i _ a a _ hN (by omega) hp hm.toMixServ ht (by omega) hF.2.1 hF.2.2 (fun v => by unfold Te; rw [hs, hF.1]; rfl)]
   ·rw [AN, Mt N p m t i _ a a _ hN (by omega) hp hm.toMixServ ht (by omega) hH.1 hH.2 (fun v => by unfold Te; rw [hs]; rfl)])
  (fun n a => by
   rw [CW]
   simp only [Be]
   rw [AH (by omega)]) N [] (by omega) (by simp; omega)]
 rfl
theorem Fb {A S R : Type} (L : Nat → S → Option R) (mk : A → Int → S) (len : Nat) (j : A → Option R) (I : Nat → A → Prop)
  (hs : ∀ (n i : Nat) (a : A), i < len → I i a → ∃ a', L (n + 1) (mk a (i : Int)) = L n (mk a' ((i + 1 : Nat) : Int)) ∧ I (i + 1) a')
  (he : ∀ (n : Nat) (a : A), I len a → L (n + 1) (mk a (len : Int)) = j a) :
  ∀ (n i : Nat) (a : A), i ≤ len → len - i < n → I i a → ∃ a', L n (mk a (i : Int)) = j a' ∧ I len a'
 | 0, i, _, _, h, _ => by omega
 | n + 1, i, a, hi, h, ha => by
  by_cases h1 : i < len
  ·obtain ⟨a', e1, e2⟩ := hs n i a h1 ha
   rw [e1]
   exact Fb L mk len j I hs he n (i + 1) _ (by omega) (by omega) e2
  ·have : i = len := by omega
   subst this
   exact ⟨a, he n a ha, ha⟩
theorem JB {α : Type} {xs ys : List α} {i : Nat} {d : α} (h : i < xs.length) : (xs ++ ys).getD i d = xs.getD i d := by
 rw [lD, lD, List.getElem?_append_left h]
theorem Ju {α : Type} {xs : List α} {y : α} {i : Nat} {d : α} (h : i = xs.length) : (xs ++ [y]).getD i d = y := by
 subst h; rw [lD, List.getElem?_append_right (Nat.le_refl _)]; simp
theorem Gz {α : Type} {P : Nat → α → Prop} {xs : List α} {y : α} {d : α} {n : Nat} (hn : xs.length = n) (h : ∀ k, k < n → P k (xs.getD k d)) (hy : P n y) : ∀ k, k < n + 1 → P k ((xs ++ [y]).getD k d) := by
 intro k hk
 by_cases h1 : k < n
 ·rw [JB (by omega)]; exact h k h1
 ·have : k = n := by omega
  subst this
  rw [Ju hn.symm]; exact hy
theorem SS (x : BitVec 8) : wI .u8 (x.toNat : Int) = (x.toNat : Int) := by
 have := x.isLt
 simp [wI, IntKind.signed, IntKind.bits]
 omega
theorem UE {a : Int} (h : 0 ≤ a ∧ a ≤ 255) : wI .u8 a = a := by
 simp [wI, IntKind.signed, IntKind.bits]
 omega
theorem Kp {a : Nat} (h : a < 256) (i : Nat) : (BitVec.ofInt 8 (a : Int)).toNat.testBit i = a.testBit i := by rw [S4 h]
theorem V7 {a b : Int} (ha : 0 ≤ a ∧ a ≤ 255) (hb : 0 ≤ b ∧ b ≤ 255) : (∀ v, Di (MC .u8 a b) v = (Di a v || Di b v)) ∧ 0 ≤ MC .u8 a b ∧ MC .u8 a b ≤ 255 := by
 obtain ⟨a, rfl⟩ := Int.eq_ofNat_of_zero_le ha.1
 obtain ⟨b, rfl⟩ := Int.eq_ofNat_of_zero_le hb.1
 have e : MC .u8 (a : Int) (b : Int) = ((BitVec.ofInt 8 (a : Int) ||| BitVec.ofInt 8 (b : Int)).toNat : Int) := SS _
 have hlt := (BitVec.ofInt 8 (a : Int) ||| BitVec.ofInt 8 (b : Int)).isLt
 rw [e]
 refine ⟨fun v => ?_, by omega, by omega⟩
 unfold Di
 simp only [Int.toNat_natCast, BitVec.toNat_or, Nat.testBit_or]
 rw [Kp (by omega), Kp (by omega)]
theorem UD {a b : Int} (ha : 0 ≤ a ∧ a ≤ 255) (hb : 0 ≤ b ∧ b ≤ 255) : (∀ v, Di (Fq .u8 a b) v = (Di a v && Di b v)) ∧ 0 ≤ Fq .u8 a b ∧ Fq .u8 a b ≤ 255 := by
 obtain ⟨a, rfl⟩ := Int.eq_ofNat_of_zero_le ha.1
 obtain ⟨b, rfl⟩ := Int.eq_ofNat_of_zero_le hb.1
 have e : Fq .u8 (a : Int) (b : Int) = ((BitVec.ofInt 8 (a : Int) &&& BitVec.ofInt 8 (b : Int)).toNat : Int) := SS _
 have hlt := (BitVec.ofInt 8 (a : Int) &&& BitVec.ofInt 8 (b : Int)).isLt
 rw [e]
 refine ⟨fun v => ?_, by omega, by omega⟩
 unfold Di
 simp only [Int.toNat_natCast, BitVec.toNat_and, Nat.testBit_and]
 rw [Kp (by omega), Kp (by omega)]
theorem Lz {l : List Int} (hw : J0 I4 l) (i : Nat) : 0 ≤ l.getD i 0 ∧ l.getD i 0 ≤ 255 := by
 by_cases h : i < l.length
 ·have : l.getD i 0 ∈ l := by rw [lD, List.getElem?_eq_getElem h]; exact List.getElem_mem _
  exact Jb (hw _ this)
 ·rw [lD, List.getElem?_eq_none (by omega)]
  exact ⟨by decide, by decide⟩
theorem M2 (N : Nat) {l : List Int} (hw : J0 I4 l) (i : Nat) : DG N l (i : Int) = some (l.getD i 0) := by
 unfold DG
 have h2 := Lz hw i
 by_cases h : i < l.length
 ·rw [AK (by omega), DH (d := 0) h]
  simp only [oS]
  rw [CM (by omega) (by omega)]
 ·rw [AH (by omega), lD, List.getElem?_eq_none (by omega)]; rfl
theorem Pu (N : Nat) {l : List Int} (hw : J0 I4 l) (i : Nat) : Ei N l (i : Int) = some (l.getD i 0) := by
 unfold Ei
 have h2 := Lz hw i
 by_cases h : i < l.length
 ·rw [AK (by omega), DH (d := 0) h]
  simp only [oS]
  rw [CM (by omega) (by omega)]
 ·rw [AH (by omega), lD, List.getElem?_eq_none (by omega)]; rfl
def W4 (n b : Int) : Int := Int.tmod b n
def WS (n b k : Int) : Int := if 0 < Int.tmod k n then Int.tmod (Int.tmod b n + Int.tmod k n) n else -1
theorem E8 {a n : Int} (ha : 0 ≤ a) (hn : 0 < n) : 0 ≤ Int.tmod a n ∧ Int.tmod a n < n := ⟨Int.tmod_nonneg n ha, Int.tmod_lt_of_pos a hn⟩
theorem UI {n b k : Int} (hn : 0 < n) (hb : 0 ≤ b) (hk : 0 ≤ k) : (0 ≤ W4 n b ∧ W4 n b < n) ∧ (-1 ≤ WS n b k ∧ WS n b k < n) ∧ W4 n b ≠ WS n b k := by
 unfold W4 WS
 have h1 := E8 hb hn
 have h2 := E8 hk hn
 split
 ·rename_i h
  have h3 := E8 (a := Int.tmod b n + Int.tmod k n) (by omega) hn
  refine ⟨h1, by omega, fun he => ?_⟩
  generalize Int.tmod b n = x at *
  generalize Int.tmod k n = y at *
  rw [Int.tmod_eq_emod_of_nonneg (by omega)] at he
  by_cases hxy : x + y < n
  ·rw [Int.emod_eq_of_lt (by omega) hxy] at he; omega
  ·have : (x + y) % n = x + y - n := by
    rw [← Int.emod_eq_of_lt (show 0 ≤ x + y - n by omega) (show x + y - n < n by omega)]
    simp
   omega
 ·exact ⟨h1, by omega, by omega⟩
structure ax (p : Ak) (x : B1) (m : Ah) : Prop where
 bl : m.fBase.length = p.fVersions.length
 nl : m.fNext.length = p.fVersions.length
 hl : m.fHeld.length = p.fTables.length
 b : ∀ k, k < p.fVersions.length → m.fBase.getD k 0 = W4 (p.fVersions.getD k 0) (x.fBase.getD k 0)
 n : ∀ k, k < p.fVersions.length → m.fNext.getD k 0 = WS (p.fVersions.getD k 0) (x.fBase.getD k 0) (x.fNext.getD k 0)
 r : ∀ k, k < p.fTables.length → 0 ≤ m.fHeld.getD k 0 ∧ m.fHeld.getD k 0 ≤ 255
 s : ∀ k t, p.fTables[k]? = some t → Ck t = true → ∀ v, Di (m.fHeld.getD k 0) v = (H7 m t.fFrom.toNat v || (Di (x.fHeld.getD k 0) v && decide ((v : Int) < p.fVersions.getD t.fFrom.toNat 0)))
 z : ∀ k t, p.fTables[k]? = some t → Ck t = false → m.fHeld.getD k 0 = 0
def Ui (p : Ak) (x : B1) (bs ns : List Int) (k : Nat) (y : Int) : Prop :=
 ∀ t, p.fTables[k]? = some t → Ck t = true → ∀ v, Di y v = (H7 ⟨bs, ns, []⟩ t.fFrom.toNat v || (Di (x.fHeld.getD k 0) v && decide ((v : Int) < p.fVersions.getD t.fFrom.toNat 0)))
def UJ (p : Ak) (k : Nat) (y : Int) : Prop := ∀ t, p.fTables[k]? = some t → Ck t = false → y = 0
theorem aq (N : Nat) (p : Ak) (x : B1) (hN : N ≤ 1000000) (h20 : 20 ≤ N) (hp : B7 p) (hw : Fk x) : ∃ m, Fp N p x = some m ∧ ax p x m ∧ EH p m := by
 obtain ⟨w1, w2, w3, _⟩ := hw
 have hnv := hp.nv
 have hnt := hp.nt
 unfold Fp
 obtain ⟨⟨bs, ns⟩, e, h1, h2, h3, h4⟩ := Fb (A := List Int × List Int) (C4 N p x fun v2 => BB N p x v2 (fun v15 => some (Ah.mk v2.1 v2.2 v15)) N ([], 0)) (fun a k => (a.1, a.2, k)) p.fVersions.length
  (fun v2 => BB N p x v2 (fun v15 => some (Ah.mk v2.1 v2.2 v15)) N ([], 0))
  (fun i a => a.1.length = i ∧ a.2.length = i ∧ (∀ k, k < i → a.1.getD k 0 = W4 (p.fVersions.getD k 0) (x.fBase.getD k 0)) ∧ (∀ k, k < i → a.2.getD k 0 = WS (p.fVersions.getD k 0) (x.fBase.getD k 0) (x.fNext.getD k 0)))
  (fun n i a hi ha => by
   obtain ⟨bs, ns⟩ := a
   obtain ⟨h1, h2, h3, h4⟩ := ha
   simp only at h1 h2 h3 h4
   have hv := I6 hp hi
   have hb := Lz w1 i
   have hk := Lz w2 i
   have m1 := E8 (n := p.fVersions.getD i 0) hb.1 (by omega)
   have m2 := E8 (n := p.fVersions.getD i 0) hk.1 (by omega)
   refine ⟨(bs ++ [W4 (p.fVersions.getD i 0) (x.fBase.getD i 0)], ns ++ [WS (p.fVersions.getD i 0) (x.fBase.getD i 0) (x.fNext.getD i 0)]), ?_, ?_⟩
   ·rw [C4]
    simp only [Be]
    rw [AK (by omega), DH (d := 0) hi, M2 N w1, M2 N w2]
    simp only [oS]
    rw [AD (by omega), AZ (by omega), CM (n := _ + _) (by omega) (by omega)]
    simp only [AD (show p.fVersions.getD i 0 ≠ 0 by omega)]
    have l1 : bs.length + ([Int.tmod (x.fBase.getD i 0) (p.fVersions.getD i 0)] : List Int).length ≤ D2 := by rw [h1]; unfold D2; simp; omega
    have l2 : ∀ y : Int, ns.length + ([y] : List Int).length ≤ D2 := by intro y; rw [h2]; unfold D2; simp; omega
    simp only [AD l1, AD (l2 _)]
    unfold W4 WS
    by_cases h : 0 < Int.tmod (x.fNext.getD i 0) (p.fVersions.getD i 0)
    ·rw [AK h, if_pos h]
    ·rw [AH h, if_neg h]
   ·refine ⟨by simp [h1], by simp [h2], Gz (P := fun k y => y = _) h1 h3 rfl, Gz (P := fun k y => y = _) h2 h4 rfl⟩)
  (fun n a _ => by
   rw [C4]
   simp only [Be]
   rw [AH (by omega)]) N 0 ([], []) (Nat.zero_le _) (by omega) ⟨rfl, rfl, fun k hk => by omega, fun k hk => by omega⟩
 simp only at h1 h2 h3 h4
 have e' : C4 N p x (fun v2 => BB N p x v2 (fun v15 => some (Ah.mk v2.1 v2.2 v15)) N ([], 0)) N ([], [], 0) = _ := e
 rw [e']
 have hrng : ∀ k, k < p.fVersions.length → (0 ≤ bs.getD k 0 ∧ bs.getD k 0 < p.fVersions.getD k 0) ∧ (-1 ≤ ns.getD k 0 ∧ ns.getD k 0 < p.fVersions.getD k 0) ∧ bs.getD k 0 ≠ ns.getD k 0 := by
  intro k hk
  rw [h3 k hk, h4 k hk]
  exact UI (by have := I6 hp hk; omega) (Lz w1 k).1 (Lz w2 k).1
 obtain ⟨hs, e2, g1, g2, g3, g4⟩ := Fb (A := List Int) (BB N p x (bs, ns) (fun v15 => some (Ah.mk bs ns v15))) (fun a k => (a, k)) p.fTables.length (fun v15 => some (Ah.mk bs ns v15))
  (fun i a => a.length = i ∧ (∀ k, k < i → 0 ≤ a.getD k 0 ∧ a.getD k 0 ≤ 255) ∧
   (∀ k, k < i → Ui p x bs ns k (a.getD k 0)) ∧
   (∀ k, k < i → UJ p k (a.getD k 0)))
  (fun n i a hi ha => by
   obtain ⟨k1, k2, k3, k4⟩ := ha
   have hx : p.fTables[i]? = some p.fTables[i] := by simp [hi]
   generalize p.fTables[i] = t at hx
   have ht := KS (hp.tab t (lM hx))
   have hfr := ht.from0
   have hv := I6 hp (i := t.fFrom.toNat) (by omega)
   have hr := hrng t.fFrom.toNat (by omega)
   have hrun := Rx (m := ⟨bs, ns, a⟩) (s := t.fFrom.toNat) hr.1.1 (show bs.getD _ 0 < 8 by omega) (show ns.getD _ 0 < 8 by omega)
   have hall := Sz (n := p.fVersions.getD t.fFrom.toNat 0) (by omega) (by omega)
   have hh := Lz w3 i
   have e1 := UD hh hall.2
   have e2 := V7 hrun.2 e1.2
   cases hst : Ck t
   ·refine ⟨a ++ [0], ?_, by simp [k1], Gz (P := fun _ y => 0 ≤ y ∧ y ≤ 255) k1 k2 (by omega), Gz (P := Ui p x bs ns) k1 k3 (fun t' ht' hs' => by rw [hx] at ht'; cases ht'; rw [hst] at hs'; cases hs'), Gz (P := UJ p) k1 k4 (fun _ _ _ => rfl)⟩
    rw [BB]
    simp only [Be]
    rw [AK (by omega), Bn, hx]
    simp only [oS, F6, hst, Ax]
    rw [AD (by rw [k1]; unfold D2; simp; omega), AZ (by omega)]
   ·refine ⟨a ++ [MC .u8 (GW ⟨bs, ns, a⟩ t.fFrom.toNat) (Fq .u8 (x.fHeld.getD i 0) (wI .u8 (CJ .u8 1 (p.fVersions.getD t.fFrom.toNat 0) - 1)))], ?_, by simp [k1], Gz (P := fun _ y => 0 ≤ y ∧ y ≤ 255) k1 k2 e2.2, Gz (P := Ui p x bs ns) k1 k3 (fun t' ht' _ v => by
      rw [hx] at ht'; cases ht'
      rw [e2.1, e1.1, hall.1, hrun.1]; rfl), Gz (P := UJ p) k1 k4 (fun t' ht' hs' => by rw [hx] at ht'; cases ht'; rw [hst] at hs'; cases hs')⟩
    rw [BB]
    simp only [Be]
    rw [AK (by omega), Bn, hx]
    simp only [oS, F6, hst, AN]
    rw [EP (d := 0) hfr.1 hfr.2]
    simp only [oS]
    rw [AD (by omega), IW N ⟨bs, ns, a⟩ t.fFrom hfr.1 (show _ < (bs.length : Int) by omega) (show _ < (ns.length : Int) by omega) hr.1.1, M2 N w3]
    simp only [oS]
    rw [AD (by rw [k1]; unfold D2; simp; omega), AZ (by omega), UE hh])
  (fun n a _ => by
   rw [BB]
   simp only [Be]
   rw [AH (by omega)]) N 0 [] (Nat.zero_le _) (by omega) ⟨rfl, fun k hk => by omega, fun k hk => by omega, fun k hk => by omega⟩
 have e2' : BB N p x (bs, ns) (fun v15 => some (Ah.mk bs ns v15)) N ([], 0) = _ := e2
 refine ⟨⟨bs, ns, hs⟩, e2', ⟨h1, h2, g1, h3, h4, g2, fun k t ht hst => g3 k (lI.1 ht).1 t ht hst, fun k t ht hst => g4 k (lI.1 ht).1 t ht hst⟩, ?_⟩
 refine ⟨⟨h1, h2, g1, fun i hi => (hrng i hi).1, fun i hi => (hrng i hi).2.1, fun i hi => (hrng i hi).2.2⟩, g2, ?_, ?_, fun k t ht hst => g4 k (lI.1 ht).1 t ht hst⟩
 ·intro k t ht hst v hv
  rw [g3 k (lI.1 ht).1 t ht hst v]
  rw [show H7 ⟨bs, ns, []⟩ t.fFrom.toNat v = true from hv]; rfl
 ·intro k t ht hst v hv
  have hin := (KS (hp.tab t (lM ht))).from0
  have hr := hrng t.fFrom.toNat (by omega)
  have hv : Di (hs.getD k 0) v = true := hv
  rw [g3 k (lI.1 ht).1 t ht hst v] at hv
  simp only [Bool.or_eq_true, Bool.and_eq_true, decide_eq_true_eq, H7] at hv
  rcases hv with (h | h) | h
  ·omega
  ·omega
  ·exact h.2
theorem WT {l : List (List Bool)} {n m : Int} (h1 : (l.length : Int) = n) (h2 : ∀ row, row ∈ l → (row.length : Int) = m) : sq l n m = true := by
 unfold sq
 simp only [Bool.and_eq_true, decide_eq_true_eq, List.all_eq_true]
 exact ⟨h1, h2⟩
theorem Xd {p : Ak} {t : AR} (h : N7 p t) : Em p t = 0 := by
 have hk := h.kind
 have hf := h.from0
 have ht := h.to0
 unfold Em
 rw [if_neg, if_neg (by omega)]
 ·simp only [WT h.okL h.okR]
  rw [if_neg (by simp)]
  by_cases h4 : t.fKind = 4
  ·rw [if_pos h4, WT (h.reL h4) h.reR, if_neg (by simp), h.reD h4]; rfl
  ·rw [if_neg h4, h.reN h4]; rfl
 ·rintro (h1 | h1 | ⟨h1, h2⟩)
  ·omega
  ·omega
  ·have := h.aware h1
   unfold Ck at this
   rw [Bool.or_eq_false_iff, beq_eq_false_iff_ne, beq_eq_false_iff_ne] at this
   omega
theorem U7 (N : Nat) (m bad : Int) (diag : Bool) (i : Nat) (acc : List (List Bool)) {R : Type} (j : List Bool → Option (List (List Bool))) (hN : N ≤ 1000000) (h20 : 20 ≤ N) (hm : 0 ≤ m ∧ m ≤ 6) (hi : i < 6) :
  ∃ row, CH N m bad diag (acc, (i : Int)) j N ([], 0) = j row ∧ (row.length : Int) = m ∧ (diag = true → (i : Int) < m → row.getD i false = true) := by
 obtain ⟨M, rfl⟩ := Int.eq_ofNat_of_zero_le hm.1
 obtain ⟨row, e, h1, h2⟩ := Fb (A := List Bool) (CH N (M : Int) bad diag (acc, (i : Int)) j) (fun a k => (a, k)) M j
  (fun k a => a.length = k ∧ ∀ q, q < k → diag = true → q = i → a.getD q false = true)
  (fun n k a hk ha => by
   refine ⟨a ++ [(diag && decide (i = k)) || (Int.tmod (El .u16 bad ((3 * i + k : Nat) : Int)) 2 == 0)], ?_, by simp [ha.1], Gz (P := fun q y => diag = true → q = i → y = true) ha.1 ha.2 (fun h1 h2 => by simp [h1, h2])⟩
   rw [CH]
   simp only [Be]
   rw [AK (by omega), AZ (by omega), CM (n := 3 * (i : Int)) (by omega) (by omega), CM (n := 3 * (i : Int) + (k : Int)) (by omega) (by omega)]
   have l1 : ∀ y : Bool, a.length + ([y] : List Bool).length ≤ D2 := by intro y; rw [ha.1]; unfold D2; simp; omega
   simp only [AD (l1 _), AD (show (0 : Int) ≤ 3 * (i : Int) + (k : Int) by omega)]
   have e1 : ((3 * i + k : Nat) : Int) = 3 * (i : Int) + (k : Int) := by omega
   rw [e1]
   have e2 : (((i : Nat) : Int) == ((k : Nat) : Int)) = decide (i = k) := by
    by_cases h : i = k
    ·simp [h]
    ·rw [decide_eq_false h]; exact beq_eq_false_iff_ne.2 (by omega)
   rw [e2]
   cases diag <;> cases decide (i = k) <;> rfl)
  (fun n a _ => by
   rw [CH]
   simp only [Be]
   rw [AH (by omega)]) N 0 [] (Nat.zero_le _) (by omega) ⟨rfl, fun q hq => by omega⟩
 exact ⟨row, e, by omega, fun hd hlt => h2 i (by omega) hd rfl⟩
theorem S3 (N : Nat) (n m bad : Int) (diag : Bool) (hN : N ≤ 1000000) (h20 : 20 ≤ N) (hn : 0 ≤ n ∧ n ≤ 6) (hm : 0 ≤ m ∧ m ≤ 6) :
  ∃ l, Eh N n m bad diag = some l ∧ (l.length : Int) = n ∧ (∀ row, row ∈ l → (row.length : Int) = m) ∧ (diag = true → n = m → Jm l = none) := by
 obtain ⟨M, rfl⟩ := Int.eq_ofNat_of_zero_le hn.1
 unfold Eh
 obtain ⟨l, e, h1, h2⟩ := Fb (A := List (List Bool)) (CB N (M : Int) m bad diag (fun v => some v)) (fun a k => (a, k)) M some
  (fun k a => a.length = k ∧ ∀ q, q < k → (((a.getD q []).length : Nat) : Int) = m ∧ (diag = true → (q : Int) < m → (a.getD q []).getD q false = true))
  (fun n k a hk ha => by
   obtain ⟨row, e, h1, h2⟩ := U7 (R := Unit) N m bad diag k a (fun (v5 : List Bool) =>
    (DN (a.length + (([v5] : List (List Bool))).length ≤ D2)).bind fun _ =>
    CB N (M : Int) m bad diag (fun v => some v) n (a ++ (([v5] : List (List Bool))), (wI .i64 ((k : Int) + 1)))) hN h20 hm (by omega)
   refine ⟨a ++ [row], ?_, by simp [ha.1], Gz (P := fun q y => ((y.length : Nat) : Int) = m ∧ (diag = true → (q : Int) < m → y.getD q false = true)) ha.1 ha.2 ⟨h1, h2⟩⟩
   rw [CB]
   simp only [Be]
   rw [AK (by omega), e, AD (by rw [ha.1]; unfold D2; simp; omega), AZ (by omega)])
  (fun n a _ => by
   rw [CB]
   simp only [Be]
   rw [AH (by omega)]) N 0 [] (Nat.zero_le _) (by omega) ⟨rfl, fun q hq => by omega⟩
 have key : ∀ q row, l[q]? = some row → l.getD q [] = row := fun q row hq => by rw [lD, hq]; rfl
 refine ⟨l, e, by omega, fun row hr => ?_, fun hd hnm => ?_⟩
 ·obtain ⟨q, hq⟩ := List.mem_iff_getElem?.1 hr
  have := (h2 q (by have := (lI.1 hq).1; omega)).1
  rwa [key q row hq] at this
 ·unfold Jm
  refine EW fun q row hq => ?_
  have hlt := (lI.1 hq).1
  have := (h2 q (by omega)).2 hd (by omega)
  rw [key q row hq] at this
  rw [Nat.zero_add, this]; rfl
structure W3 (p : Ak) : Prop where
 valid : DT p = 0
 nv : p.fVersions.length ≤ 3
 nt : p.fTables.length ≤ 4
 v3 : ∀ v, v ∈ p.fVersions → v ≤ 3
theorem Tr {p q : Ak} (h : p.fVersions = q.fVersions) (t : AR) : Em p t = Em q t := by
 unfold Em; rw [h]
theorem au (N : Nat) (d : CU) (hN : N ≤ 1000000) (h20 : 20 ≤ N) (hw : Gk d) : ∃ p ok, Fu N d = some (p, ok) ∧ (ok = true → W3 p) := by
 obtain ⟨w1, w2, w3, w4, _⟩ := hw
 unfold Fu
 simp only [Be]
 by_cases k1 : 3 < d.fVersions.length
 ·rw [AK (by omega)]; exact ⟨_, false, rfl, fun h => by cases h⟩
 by_cases k2 : 4 < d.fLinks.length
 ·rw [AH (by omega), decide_eq_true (by omega : (4 : Int) < (d.fLinks.length : Int))]; exact ⟨_, false, rfl, fun h => by cases h⟩
 rw [AH (by omega), decide_eq_false (by omega : ¬ (4 : Int) < (d.fLinks.length : Int)), Ax]
 obtain ⟨⟨vs, ns, ts⟩, e, h1, h2, h3, h4⟩ := Fb (A := List Int × List Int × List Int) (C3 N d fun v5 => BP N d v5 (fun v16 => some (Ak.mk v5.1 v5.2.1 v5.2.2 v16, true)) N ([], 0)) (fun a k => (a.1, a.2.1, a.2.2, k)) d.fVersions.length
  (fun v5 => BP N d v5 (fun v16 => some (Ak.mk v5.1 v5.2.1 v5.2.2 v16, true)) N ([], 0))
  (fun i a => a.1.length = i ∧ a.2.1.length = i ∧ a.2.2.length = i ∧ (∀ k, k < i → (1 ≤ a.1.getD k 0 ∧ a.1.getD k 0 ≤ 3) ∧ (0 ≤ a.2.1.getD k 0 ∧ a.2.1.getD k 0 < a.1.getD k 0) ∧ (0 ≤ a.2.2.getD k 0 ∧ a.2.2.getD k 0 < a.1.getD k 0)))
  (fun n i a hi ha => by
   obtain ⟨vs, ns, ts⟩ := a
   obtain ⟨h1, h2, h3, h4⟩ := ha
   simp only at h1 h2 h3 h4
   have hv := Lz w1 i
   have hb := Lz w2 i
   have hk := Lz w3 i
   have hm := E8 (n := 3) hv.1 (by omega)
   obtain ⟨v, hvd⟩ : ∃ v, v = 1 + Int.tmod (d.fVersions.getD i 0) 3 := ⟨_, rfl⟩
   have m1 := E8 (n := v) hb.1 (by omega)
   have m2 := E8 (n := v) hk.1 (by omega)
   refine ⟨(vs ++ [v], ns ++ [Int.tmod (d.fNow.getD i 0) v], ts ++ [Int.tmod (d.fTarget.getD i 0) v]), ?_, by simp [h1], by simp [h2], by simp [h3], ?_⟩
   ·rw [C3]
    simp only [Be]
    rw [AK (by omega), DH (d := 0) hi, Pu N w2, Pu N w3]
    simp only [oS]
    rw [CM (n := Int.tmod _ _) (by omega) (by omega), CM (n := 1 + _) (by omega) (by omega), ← hvd, AZ (by omega)]
    have l1 : ∀ y : Int, vs.length + ([y] : List Int).length ≤ D2 := by intro y; rw [h1]; unfold D2; simp; omega
    have l2 : ∀ y : Int, ns.length + ([y] : List Int).length ≤ D2 := by intro y; rw [h2]; unfold D2; simp; omega
    have l3 : ∀ y : Int, ts.length + ([y] : List Int).length ≤ D2 := by intro y; rw [h3]; unfold D2; simp; omega
    simp only [AD (l1 _), AD (l2 _), AD (l3 _), AD (show v ≠ 0 by omega)]
   ·intro k hk
    simp only
    by_cases hki : k < i
    ·rw [JB (by omega), JB (by omega), JB (by omega)]; exact h4 k hki
    ·have : k = i := by omega
     subst this
     rw [Ju h1.symm, Ju h2.symm, Ju h3.symm]
     omega)
  (fun n a _ => by
   rw [C3]
   simp only [Be]
   rw [AH (by omega)]) N 0 ([], [], []) (Nat.zero_le _) (by omega) ⟨rfl, rfl, rfl, fun k hk => by omega⟩
 simp only at h1 h2 h3 h4
 have e' : C3 N d (fun v5 => BP N d v5 (fun v16 => some (Ak.mk v5.1 v5.2.1 v5.2.2 v16, true)) N ([], 0)) N ([], [], [], 0) = _ := e
 rw [e']
 have hvs : ∀ v, v ∈ vs → 1 ≤ v ∧ v ≤ 3 := by
  intro v hv
  obtain ⟨q, hq⟩ := List.mem_iff_getElem?.1 hv
  have := (h4 q (by have := (lI.1 hq).1; omega)).1
  rwa [lD, hq] at this
 have fin : ∀ tabs : List AR, tabs.length ≤ 4 → (∀ t, t ∈ tabs → Em ⟨vs, ns, ts, []⟩ t = 0) → W3 ⟨vs, ns, ts, tabs⟩ := by
  intro tabs ht h
  have hp : B7 ⟨vs, ns, ts, tabs⟩ := ⟨show vs.length ≤ 6 by omega, show tabs.length ≤ 12 by omega, show ns.length = vs.length by omega, show ts.length = vs.length by omega, fun v hv => by have := hvs v hv; omega, fun t ht => by rw [← h t ht]; exact Tr rfl t⟩
  exact ⟨Qg hp fun i hi => by have := h4 i (by have : i < vs.length := hi; omega); simp only; omega, show vs.length ≤ 3 by omega, ht, fun v hv => (hvs v hv).2⟩
 by_cases k3 : vs.length = 0
 ·refine ⟨_, true, ?_, fun _ => fin [] (by simp) (fun t ht => by cases ht)⟩
  obtain ⟨M, rfl⟩ : ∃ M, N = M + 1 := ⟨N - 1, by omega⟩
  rw [BP]
  simp only [Be]
  rw [k3]
  by_cases k4 : (0 : Int) < (d.fLinks.length : Int)
  ·rw [AK k4]; rfl
  ·rw [AH k4]; rfl
 obtain ⟨tabs, e2, g1, g2⟩ := Fb (A := List AR) (BP N d (vs, ns, ts) (fun v16 => some (Ak.mk vs ns ts v16, true))) (fun a k => (a, k)) d.fLinks.length (fun v16 => some (Ak.mk vs ns ts v16, true))
  (fun i a => a.length = i ∧ ∀ t, t ∈ a → Em ⟨vs, ns, ts, []⟩ t = 0)
  (fun n i a hi ha => by
   have hx : d.fLinks[i]? = some d.fLinks[i] := by simp [hi]
   generalize d.fLinks[i] = l at hx
   obtain ⟨u1, u2, u3, _, u5, u6, _⟩ := w4 l (lM hx)
   have u1 := Jb u1
   have u2 := Jb u2
   have u3 := Jb u3
   have mk := E8 (n := 4) u1.1 (by omega)
   have hL : (0 : Int) < (vs.length : Int) := by omega
   have mf := E8 (n := (vs.length : Int)) u2.1 hL
   have mt := E8 (n := (vs.length : Int)) u3.1 hL
   rw [BP]
   simp only [Be]
   rw [AK (by omega), decide_eq_true hL, AN, Bn, hx]
   simp only [oS]
   rw [AD (by omega), AD (by omega), CM (n := l.fFrom) (by omega) (by omega), CM (n := l.fTo) (by omega) (by omega), CM (n := Int.tmod l.fKind 4) (by omega) (by omega), CM (n := 1 + _) (by omega) (by omega), AZ (by omega)]
   simp only [MF, oS]
   rw [EP (d := 0) mf.1 mf.2, EP (d := 0) mt.1 mt.2]
   simp only [oS]
   have hA : ∀ q : Int, 0 ≤ q → q < (vs.length : Int) → 1 ≤ vs.getD q.toNat 0 ∧ vs.getD q.toNat 0 ≤ 3 := fun q h0 h1 => (h4 q.toNat (by omega)).1
   have hf := hA _ mf.1 mf.2
   have ht := hA _ mt.1 mt.2
   obtain ⟨A, eA, a1, a2, _⟩ := S3 N (vs.getD (Int.tmod l.fFrom (vs.length : Int)).toNat 0) (vs.getD (Int.tmod l.fTo (vs.length : Int)).toNat 0) l.fBad false hN h20 (by omega) (by omega)
   obtain ⟨B, eB, b1, b2, b3⟩ := S3 N (vs.getD (Int.tmod l.fFrom (vs.length : Int)).toNat 0) (vs.getD (Int.tmod l.fFrom (vs.length : Int)).toNat 0) l.fLost true hN h20 (by omega) (by omega)
   rw [eA, eB]
   simp only [oS]
   have l1 : ∀ y : AR, a.length + ([y] : List AR).length ≤ D2 := by intro y; rw [ha.1]; unfold D2; simp; omega
   simp only [AD (l1 _)]
   obtain ⟨kd, hkd⟩ : ∃ kd, kd = 1 + Int.tmod l.fKind 4 := ⟨_, rfl⟩
   rw [← hkd]
   have fin2 : ∀ (aw : Bool) (re : List (List Bool)), (aw = true → (kd == 3 || kd == 4) = false) → ((kd = 4 → re = B) ∧ (kd ≠ 4 → re = [])) →
     Em ⟨vs, ns, ts, []⟩ (AR.mk kd (Int.tmod l.fFrom (vs.length : Int)) (Int.tmod l.fTo (vs.length : Int)) aw A re) = 0 := by
    intro aw re haw hre
    refine Xd ⟨show 1 ≤ kd ∧ kd ≤ 4 by omega, haw, mf, mt, a1, a2, fun h => by rw [hre.1 h]; exact b1, fun row hr => ?_, fun h => by rw [hre.1 h]; exact b3 rfl rfl, fun h => hre.2 h⟩
    by_cases h4 : kd = 4
    ·simp only at hr; rw [hre.1 h4] at hr; exact b2 row hr
    ·simp only at hr; rw [hre.2 h4] at hr; cases hr
   have app : ∀ t, Em ⟨vs, ns, ts, []⟩ t = 0 → (a ++ [t]).length = i + 1 ∧ ∀ t', t' ∈ a ++ [t] → Em ⟨vs, ns, ts, []⟩ t' = 0 := by
    intro t ht
    refine ⟨by simp [ha.1], fun t' ht' => ?_⟩
    rcases List.mem_append.1 ht' with h | h
    ·exact ha.2 t' h
    ·rw [List.mem_singleton.1 h]; exact ht
   by_cases h4 : kd = 4
   ·have e4 : (kd == 4) = true := beq_iff_eq.2 h4
    have hre : (kd = 4 → B = B) ∧ (kd ≠ 4 → B = []) := ⟨fun _ => rfl, fun h => (h h4).elim⟩
    rw [e4]
    simp only [AN, Bool.or_true, Bool.not_true]
    cases l.fAware
    ·exact ⟨_, rfl, app _ (fin2 false B (fun h => by cases h) hre)⟩
    ·exact ⟨_, rfl, app _ (fin2 false B (fun h => by cases h) hre)⟩
   ·have e4 : (kd == 4) = false := beq_eq_false_iff_ne.2 h4
    have hre : (kd = 4 → ([] : List (List Bool)) = B) ∧ (kd ≠ 4 → ([] : List (List Bool)) = []) := ⟨fun h => (h4 h).elim, fun _ => rfl⟩
    rw [e4]
    simp only [Ax, Bool.or_false]
    cases l.fAware
    ·exact ⟨_, rfl, app _ (fin2 false [] (fun h => by cases h) hre)⟩
    ·cases e3 : kd == 3
     ·exact ⟨_, rfl, app _ (fin2 true [] (fun _ => by rw [e3, e4]; rfl) hre)⟩
     ·exact ⟨_, rfl, app _ (fin2 false [] (fun h => by cases h) hre)⟩)
  (fun n a _ => by
   rw [BP]
   simp only [Be]
   rw [AH (by omega), Ax]) N 0 [] (Nat.zero_le _) (by omega) ⟨rfl, fun t ht => by cases ht⟩
 exact ⟨_, true, e2, fun _ => fin tabs (by omega) g2⟩
def IJ : List Int → Nat → Nat
 | [], _ => 0
 | _, 0 => 0
 | n :: ns, q + 1 => (if 0 ≤ n then 1 else 0) + IJ ns q
theorem I8 (l : List Int) : IJ l 0 = 0 := by cases l <;> rfl
theorem HK : ∀ (l : List Int) (q : Nat), q < l.length → IJ l (q + 1) = IJ l q + if 0 ≤ l.getD q 0 then 1 else 0
 | [], q, h => by simp at h
 | n :: ns, 0, _ => by simp [IJ, I8]
 | n :: ns, q + 1, h => by
  rw [IJ, HK ns q (by simpa using h), IJ, List.getD_cons_succ, Nat.add_assoc]
theorem OI (l : List Int) {a b : Nat} (h : a ≤ b) (hb : b ≤ l.length) : IJ l a ≤ IJ l b := by
 induction b with
 | zero => rw [Nat.le_zero.1 h]; exact Nat.le_refl _
 | succ b ih =>
  by_cases h1 : a = b + 1
  ·rw [h1]; exact Nat.le_refl _
  ·have := ih (by omega) (by omega)
   rw [HK l b (by omega)]; omega
theorem KR (l : List Int) : ∀ q, q ≤ l.length → IJ l q ≤ q
 | 0, _ => by rw [I8]; exact Nat.le_refl _
 | q + 1, h => by
  have := KR l q (by omega)
  rw [HK l q h]
  split <;> omega
def MP (l : List Int) (k q : Nat) : Int := if 0 ≤ l.getD q 0 ∧ k.testBit (IJ l q) = true then -1 else l.getD q 0
def Vt (l : List Int) (k : Nat) : List Int := (List.range l.length).map (MP l k)
def XJ (m : Ah) (k : Nat) : Ah := ⟨m.fBase, Vt m.fNext k, m.fHeld⟩
def Gn (m : Ah) : List Ah := (List.range (2 ^ IJ m.fNext m.fNext.length)).map (XJ m)
theorem Mh (l : List Int) (k : Nat) : (Vt l k).length = l.length := by simp [Vt]
theorem Qh (l : List Int) (k q : Nat) (h : q < l.length) : (Vt l k).getD q 0 = MP l k q := by
 unfold Vt; rw [lD, List.getElem?_map, List.getElem?_range h]; rfl
theorem JO {l1 l2 : List Int} (h1 : l1.length = l2.length) (h : ∀ q, q < l1.length → l1.getD q 0 = l2.getD q 0) : l1 = l2 := by
 apply List.ext_getElem h1
 intro q h2 h3
 have := h q h2
 rw [lD, lD, List.getElem?_eq_getElem h2, List.getElem?_eq_getElem h3] at this
 exact this
theorem SA : ∀ (k : Fin 64) (b : Fin 7), Fq .i64 (El .i64 (k.val : Int) (b.val : Int)) 1 = (if k.val.testBit b.val then 1 else 0) ∧ Int.tmod (El .i64 (k.val : Int) (b.val : Int)) 2 = (if k.val.testBit b.val then 1 else 0) := by decide +kernel
theorem Wm : ∀ n : Fin 7, CJ .i64 1 (n.val : Int) = ((2 ^ n.val : Nat) : Int) := by decide +kernel
structure OC (m x : Ah) : Prop where
 base : x.fBase = m.fBase
 held : x.fHeld = m.fHeld
 len : x.fNext.length = m.fNext.length
 next : ∀ q, q < m.fNext.length → x.fNext.getD q 0 = m.fNext.getD q 0 ∨ (0 ≤ m.fNext.getD q 0 ∧ x.fNext.getD q 0 = -1)
theorem OC.refl (m : Ah) : OC m m := ⟨rfl, rfl, rfl, fun _ _ => .inl rfl⟩
theorem OC.trans {a b c : Ah} (h1 : OC a b) (h2 : OC b c) : OC a c :=
 ⟨h2.base.trans h1.base, h2.held.trans h1.held, h2.len.trans h1.len, fun q hq => by
  have e1 := h1.next q hq
  have e2 := h2.next q (by rw [h1.len]; exact hq)
  omega⟩
theorem Uf (m : Ah) (k : Nat) : OC m (XJ m k) :=
 ⟨rfl, rfl, Mh _ _, fun q hq => by
  show (Vt m.fNext k).getD q 0 = _ ∨ _ ∧ (Vt m.fNext k).getD q 0 = _
  rw [Qh _ _ _ hq]; unfold MP
  split
  ·rename_i h; exact .inr ⟨h.1, rfl⟩
  ·exact .inl rfl⟩
theorem Su : ∀ (l x : List Int), x.length = l.length → (∀ q, q < l.length → x.getD q 0 = l.getD q 0 ∨ (0 ≤ l.getD q 0 ∧ x.getD q 0 = -1)) → ∃ k, k < 2 ^ IJ l l.length ∧ ∀ q, q < l.length → x.getD q 0 = MP l k q
 | [], x, h, _ => ⟨0, by simp [IJ], fun q hq => by simp at hq⟩
 | n :: ns, [], h, _ => by simp at h
 | n :: ns, y :: ys, h, hq => by
  obtain ⟨k, hk, hk2⟩ := Su ns ys (by simpa using h) (fun q hq' => by have := hq (q + 1) (by simpa using hq'); simpa using this)
  have h0 := hq 0 (by simp)
  simp only [List.getD_cons_zero] at h0
  by_cases hn : 0 ≤ n
  ·refine ⟨2 * k + if y = n then 0 else 1, ?_, ?_⟩
   ·rw [List.length_cons, IJ, if_pos hn, Nat.pow_add]
    split <;> omega
   ·intro q hq'
    cases q with
    | zero =>
     simp only [List.getD_cons_zero, MP, I8]
     by_cases hy : y = n
     ·simp [hy]
     ·rw [if_neg hy, if_pos ⟨hn, by simp⟩]; omega
    | succ q =>
     have := hk2 q (by simpa using hq')
     simp only [List.getD_cons_succ, MP, IJ, if_pos hn] at this ⊢
     rw [this, Nat.add_comm 1, Nat.testBit_succ]
     have : (2 * k + if y = n then 0 else 1) / 2 = k := by split <;> omega
     rw [this]
  ·refine ⟨k, ?_, ?_⟩
   ·rw [List.length_cons, IJ, if_neg hn, Nat.zero_add]; exact hk
   ·intro q hq'
    cases q with
    | zero =>
     simp only [List.getD_cons_zero, MP, I8]
     rw [if_neg (fun h => hn h.1)]
     omega
    | succ q =>
     have := hk2 q (by simpa using hq')
     simp only [List.getD_cons_succ, MP, IJ, if_neg hn, Nat.zero_add] at this ⊢
     exact this
theorem LD {m x : Ah} : x ∈ Gn m ↔ OC m x := by
 unfold Gn
 rw [List.mem_map]
 constructor
 ·rintro ⟨k, _, rfl⟩; exact Uf m k
 ·intro h
  obtain ⟨k, hk, hq⟩ := Su m.fNext x.fNext h.len h.next
  refine ⟨k, List.mem_range.2 hk, ?_⟩
  have : Vt m.fNext k = x.fNext := JO (by rw [Mh, h.len]) fun q hq' => by
   rw [Mh] at hq'
   rw [Qh _ _ _ hq', hq q hq']
  unfold XJ
  rw [this, ← h.base, ← h.held]
theorem XI {m x : Ah} (h : OC m x) {s : Nat} (hs : s < m.fNext.length) {v : Nat} (hv : H7 x s v = true) : H7 m s v = true := by
 unfold H7 at hv ⊢
 rw [h.base] at hv
 have := h.next s hs
 simp only [Bool.or_eq_true, decide_eq_true_eq] at hv ⊢
 omega
theorem Uw {p : Ak} {m x : Ah} (hp : B7 p) (hm : EH p m) (h : OC m x) : EH p x := by
 refine ⟨⟨by rw [h.base]; exact hm.base, by rw [h.len]; exact hm.next, by rw [h.held]; exact hm.held, fun i hi => by rw [h.base]; exact hm.b0 i hi, fun i hi => ?_, fun i hi => ?_⟩, fun i hi => by rw [h.held]; exact hm.range i hi, fun i t ht hs v hv => ?_, fun i t ht hs v hv => ?_, fun i t ht hs => by rw [h.held]; exact hm.none i t ht hs⟩
 ·have h1 := hm.n0 i hi
  have h2 := h.next i (by rw [hm.next]; exact hi)
  have h3 := I6 hp hi
  omega
 ·have h1 := hm.ne i hi
  have h2 := h.next i (by rw [hm.next]; exact hi)
  have h3 := hm.b0 i hi
  rw [h.base]
  omega
 ·have hin := (KS (hp.tab t (lM ht))).from0
  rw [h.held]
  exact hm.low i t ht hs v (XI h (by rw [hm.next]; omega) hv)
 ·rw [h.held] at hv
  exact hm.high i t ht hs v hv
theorem Lb (N : Nat) (l : List Int) (h : l.length ≤ D2) : BA N l = some l := by
 unfold BA
 rw [AD (by simpa using h)]; rfl
theorem PB (N : Nat) (l : List Int) (h : l.length ≤ D2) : BM N l = some l := by
 unfold BM
 rw [AD (by simpa using h)]; rfl
theorem I1 {l : List Int} {i q : Nat} {y : Int} (hi : i < l.length) : (l.set i y).getD q 0 = if q = i then y else l.getD q 0 := by
 rw [lD, lD, List.getElem?_set]
 by_cases h : i = q
 ·subst h; simp [hi]
 ·rw [if_neg h, if_neg (fun e => h e.symm)]
theorem Vy {l : List Int} {a b : Nat} (ha : a < l.length) (hb : b < l.length) (h1 : 0 ≤ l.getD a 0) (h2 : 0 ≤ l.getD b 0) (h : IJ l a = IJ l b) : a = b := by
 rcases Nat.lt_trichotomy a b with h3 | h3 | h3
 ·have := OI l (a := a + 1) (b := b) h3 (by omega)
  rw [HK l a ha, if_pos h1] at this; omega
 ·exact h3
 ·have := OI l (a := b + 1) (b := a) h3 (by omega)
  rw [HK l b hb, if_pos h2] at this; omega
structure TR (l : List Int) (o : List Int) : Prop where
 len : o.length = IJ l l.length
 at_ : ∀ b, b < o.length → ∃ i : Nat, o.getD b 0 = (i : Int) ∧ i < l.length ∧ 0 ≤ l.getD i 0 ∧ IJ l i = b
theorem QG (N : Nat) (l o : List Int) (k : Nat) (acc : List Ah) (hN : N ≤ 1000000) (h20 : 20 ≤ N) (hl : l.length ≤ 6) (ho : TR l o) (hk : k < 64) (j : List Int → Option (List Ah × Int)) :
  Db N o (acc, (k : Int)) j N (l, 0) = j (Vt l k) := by
 have hol := KR l l.length (Nat.le_refl _)
 have hoL := ho.len
 obtain ⟨x, e, h1, h2⟩ := Fb (A := List Int) (Db N o (acc, (k : Int)) j) (fun a k => (a, k)) o.length j
  (fun b a => a.length = l.length ∧ ∀ q, q < l.length → a.getD q 0 = if 0 ≤ l.getD q 0 ∧ IJ l q < b ∧ k.testBit (IJ l q) = true then -1 else l.getD q 0)
  (fun n b a hb ha => by
   obtain ⟨i, hi1, hi2, hi3, hi4⟩ := ho.at_ b hb
   have hbit := SA ⟨k, hk⟩ ⟨b, by omega⟩
   rw [Db]
   simp only [Be]
   rw [AK (by omega), DH (d := 0) hb]
   simp only [oS]
   rw [AD (by omega), hi1, hbit.1, DH (d := 0) (show i < a.length by rw [ha.1]; exact hi2), AZ (by omega)]
   simp only [oS, Int.toNat_natCast]
   cases hkb : k.testBit b
   ·refine ⟨a, rfl, ha.1, fun q hq => ?_⟩
    rw [ha.2 q hq]
    by_cases hqb : IJ l q = b
    ·rw [hqb, hkb]; simp
    ·by_cases h3 : IJ l q < b
     ·have : IJ l q < b + 1 := by omega
      simp [h3, this]
     ·have : ¬ IJ l q < b + 1 := by omega
      simp [h3, this]
   ·refine ⟨a.set i (-1), rfl, by simp [ha.1], fun q hq => ?_⟩
    rw [I1 (by rw [ha.1]; exact hi2), ha.2 q hq]
    by_cases hqi : q = i
    ·subst hqi
     rw [if_pos rfl, if_pos ⟨hi3, by omega, by rw [hi4]; exact hkb⟩]
    ·rw [if_neg hqi]
     by_cases h0 : 0 ≤ l.getD q 0
     ·have hne : IJ l q ≠ b := fun h => hqi (Vy hq hi2 h0 hi3 (by omega))
      by_cases h3 : IJ l q < b
      ·have : IJ l q < b + 1 := by omega
       simp [h3, this]
      ·have : ¬ IJ l q < b + 1 := by omega
       simp [h3, this]
     ·rw [if_neg (fun h => h0 h.1), if_neg (fun h => h0 h.1)])
  (fun n a _ => by
   rw [Db]
   simp only [Be]
   rw [AH (by omega)]) N 0 l (Nat.zero_le _) (by omega) ⟨rfl, fun q hq => by simp⟩
 have e' : Db N o (acc, (k : Int)) j N (l, 0) = j x := e
 rw [e']
 congr 1
 refine JO (by rw [Mh, h1]) fun q hq => ?_
 rw [h1] at hq
 rw [h2 q hq, Qh _ _ _ hq, MP]
 by_cases h0 : 0 ≤ l.getD q 0
 ·have h3 := OI l (a := q + 1) (b := l.length) hq (Nat.le_refl _)
  rw [HK l q hq, if_pos h0] at h3
  have : IJ l q < o.length := by omega
  simp [this]
 ·rw [if_neg (fun h => h0 h.1), if_neg (fun h => h0 h.1)]
theorem RB (N : Nat) (m : Ah) (k : Nat) (acc : List Ah) (hN : N ≤ 1000000) (h20 : 20 ≤ N) (hl : m.fNext.length ≤ 6) (hk : k < 64) (j : List Int → Option (List Ah)) :
  B9 N m (acc, (k : Int)) j N (m.fNext, 0, 0) = j (Vt m.fNext k) := by
 obtain ⟨⟨x, pl⟩, e, h1, h2, h3⟩ := Fb (A := List Int × Nat) (B9 N m (acc, (k : Int)) j) (fun a k => (a.1, (a.2 : Int), k)) m.fNext.length (fun a => j a.1)
  (fun i a => a.2 = IJ m.fNext i ∧ a.1.length = m.fNext.length ∧ ∀ q, q < m.fNext.length → a.1.getD q 0 = if q < i then MP m.fNext k q else m.fNext.getD q 0)
  (fun n i a hi ha => by
   obtain ⟨a, pl⟩ := a
   obtain ⟨a1, a2, a3⟩ := ha
   simp only at a1 a2 a3
   have hple := KR m.fNext i (by omega)
   have hbit := SA ⟨k, hk⟩ ⟨pl, by omega⟩
   have hs := HK m.fNext i hi
   rw [B9]
   simp only [Be]
   rw [AK (by omega), DH (d := 0) hi]
   simp only [oS]
   rw [AZ (by omega)]
   by_cases h0 : m.fNext.getD i 0 < 0
   ·rw [AK h0]
    refine ⟨(a, pl), rfl, by simp only; rw [hs, if_neg (by omega), a1]; rfl, a2, fun q hq => ?_⟩
    simp only
    rw [a3 q hq]
    by_cases hqi : q = i
    ·subst hqi
     rw [if_neg (by omega), if_pos (by omega), MP, if_neg (by omega)]
    ·by_cases h4 : q < i
     ·rw [if_pos h4, if_pos (by omega)]
     ·rw [if_neg h4, if_neg (by omega)]
   ·rw [AH h0, AD (by omega), DH (d := 0) (show i < a.length by omega), hbit.2, AZ (by omega)]
    simp only [oS, Int.toNat_natCast]
    cases hkb : k.testBit pl
    ·refine ⟨(a, pl + 1), rfl, by simp only; rw [hs, if_pos (by omega), a1], a2, fun q hq => ?_⟩
     simp only
     rw [a3 q hq]
     by_cases hqi : q = i
     ·subst hqi
      rw [if_neg (by omega), if_pos (by omega), MP, ← a1, hkb]; simp
     ·by_cases h4 : q < i
      ·rw [if_pos h4, if_pos (by omega)]
      ·rw [if_neg h4, if_neg (by omega)]
    ·refine ⟨(a.set i (-1), pl + 1), rfl, by simp only; rw [hs, if_pos (by omega), a1], by simp [a2], fun q hq => ?_⟩
     simp only
     rw [I1 (by omega), a3 q hq]
     by_cases hqi : q = i
     ·subst hqi
      rw [if_pos rfl, if_pos (by omega), MP, ← a1, if_pos ⟨by omega, hkb⟩]
     ·rw [if_neg hqi]
      by_cases h4 : q < i
      ·rw [if_pos h4, if_pos (by omega)]
      ·rw [if_neg h4, if_neg (by omega)])
  (fun n a _ => by
   rw [B9]
   simp only [Be]
   rw [AH (by omega)]) N 0 (m.fNext, 0) (Nat.zero_le _) (by omega) ⟨(I8 _).symm, rfl, fun q hq => by simp⟩
 have e' : B9 N m (acc, (k : Int)) j N (m.fNext, 0, 0) = j x := e
 rw [e']
 congr 1
 simp only at h2 h3
 refine JO (by rw [Mh, h2]) fun q hq => ?_
 rw [h2] at hq
 rw [h3 q hq, if_pos hq, Qh _ _ _ hq]
theorem Ux (N : Nat) (m : Ah) (hN : N ≤ 1000000) (h20 : 20 ≤ N) (hl : m.fNext.length ≤ 6) (j : List Int → Option (List Ah × Int)) :
  ∃ o, D9 N m j N ([], 0) = j o ∧ TR m.fNext o := by
 obtain ⟨o, e, h1, h2⟩ := Fb (A := List Int) (D9 N m j) (fun a k => (a, k)) m.fNext.length j
  (fun i o => o.length = IJ m.fNext i ∧ ∀ b, b < o.length → ∃ q : Nat, o.getD b 0 = (q : Int) ∧ q < m.fNext.length ∧ 0 ≤ m.fNext.getD q 0 ∧ IJ m.fNext q = b)
  (fun n i o hi ho => by
   have hple := KR m.fNext i (by omega)
   have hs := HK m.fNext i hi
   rw [D9]
   simp only [Be]
   rw [AK (by omega), DH (d := 0) hi]
   simp only [oS]
   rw [AZ (by omega)]
   by_cases h0 : 0 ≤ m.fNext.getD i 0
   ·rw [AK h0, AD (by rw [ho.1]; unfold D2; simp; omega)]
    refine ⟨o ++ [(i : Int)], rfl, by rw [hs, if_pos h0, ← ho.1]; simp, ?_⟩
    rw [List.length_append]
    exact Gz (P := fun b y => ∃ q : Nat, y = (q : Int) ∧ q < m.fNext.length ∧ 0 ≤ m.fNext.getD q 0 ∧ IJ m.fNext q = b) rfl ho.2 ⟨i, rfl, hi, h0, ho.1.symm⟩
   ·rw [AH h0]
    exact ⟨o, rfl, by rw [hs, if_neg h0, ho.1]; rfl, ho.2⟩)
  (fun n a _ => by
   rw [D9]
   simp only [Be]
   rw [AH (by omega)]) N 0 [] (Nat.zero_le _) (by omega) ⟨(I8 _).symm, fun b hb => by simp at hb⟩
 exact ⟨o, e, h1, h2⟩
theorem LN {n : Nat} (h : n ≤ 6) : 2 ^ n ≤ 64 := Nat.pow_le_pow_right (n := 2) (by omega) h
theorem NM {n : Nat} (h : n ≤ 6) : CJ .i64 1 (n : Int) = ((2 ^ n : Nat) : Int) := Wm ⟨n, by omega⟩
theorem K1 {β : Type} (f : Nat → β) (n : Nat) : (List.range (n + 1)).map f = (List.range n).map f ++ [f n] := by
 rw [List.range_succ, List.map_append]; rfl
theorem OS (N : Nat) (p : Ak) (m : Ah) (hN : N ≤ 1000000) (h20 : 100 ≤ N) (hw : J0 I4 m.fHeld) (hv : DW p m = 0) : G8 N p m = some (Gn m, 0) := by
 obtain ⟨hp, hm⟩ := HR hw hv
 have hnv := hp.nv
 have hnt := hp.nt
 have hl : m.fNext.length ≤ 6 := by rw [hm.next]; omega
 unfold G8
 rw [IL N p m hN (by omega) hw, hv]
 simp only [oS, bne_self_eq_false, Ax]
 obtain ⟨o, e, ho⟩ := Ux N m hN (by omega) hl (fun (v4 : (List Int)) =>
   (DN (0 ≤ (v4.length : Int))).bind fun _ =>
   Dd N m v4 (fun (v12 : (List Ah)) =>
    some (v12, 0)) N (([] : List Ah), 0))
 rw [e, AD (by omega)]
 have hoL := ho.len
 have hol := KR m.fNext m.fNext.length (Nat.le_refl _)
 have hpow := LN (show IJ m.fNext m.fNext.length ≤ 6 by omega)
 obtain ⟨a, e2, h1⟩ := Fb (A := List Ah) (Dd N m o fun v12 => some (v12, 0)) (fun a k => (a, k)) (2 ^ IJ m.fNext m.fNext.length) (fun v12 => some (v12, 0))
  (fun i a => a = (List.range i).map (XJ m))
  (fun n i a hi ha => by
   refine ⟨a ++ [XJ m i], ?_, by rw [K1, ha]⟩
   have hal : a.length = i := by rw [ha]; simp
   rw [Dd]
   rw [hoL, NM (n := IJ m.fNext m.fNext.length) (by omega), AK (by omega), Lb N m.fBase (by have := hm.base; unfold D2; omega), Lb N m.fNext (by unfold D2; omega), PB N m.fHeld (by have := hm.held; unfold D2; omega)]
   simp only [oS]
   rw [QG N m.fNext o i a hN (by omega) hl ho (by omega), AD (by rw [hal]; unfold D2; simp; omega), AZ (by omega)]
   rfl)
  (fun n a _ => by
   rw [Dd]
   rw [hoL, NM (n := IJ m.fNext m.fNext.length) (by omega), AH (by simp)]) N 0 [] (Nat.zero_le _) (by omega) rfl
 have e2' : Dd N m o (fun v12 => some (v12, 0)) N ([], 0) = some (a, 0) := e2
 rw [e2', h1]; rfl
theorem R9 (N : Nat) (m : Ah) (h1 : m.fBase.length ≤ D2) (h2 : m.fNext.length ≤ D2) (h3 : m.fHeld.length ≤ D2) : Eo N m = some m := by
 unfold Eo
 rw [AD (by simpa using h1), AD (by simpa using h2), AD (by simpa using h3)]; rfl
theorem Sc (N : Nat) (m : Ah) (hN : N ≤ 1000000) (h20 : 100 ≤ N) (h1 : m.fBase.length ≤ 100) (hl : m.fNext.length ≤ 6) (h3 : m.fHeld.length ≤ 100) : Ev N m = some (Gn m) := by
 unfold Ev
 obtain ⟨c, e, hc⟩ := Fb (A := Nat) (CR N m (fun (v2 : Int) =>
  BQ N m v2 (fun (v8 : (List Ah)) => some v8) N (([] : List Ah), 0))) (fun a k => ((a : Int), k)) m.fNext.length (fun a => BQ N m (a : Int) (fun (v8 : (List Ah)) => some v8) N (([] : List Ah), 0))
  (fun i a => a = IJ m.fNext i)
  (fun n i a hi ha => by
   have hple := KR m.fNext i (by omega)
   have hs := HK m.fNext i hi
   rw [CR]
   simp only [Be]
   rw [AK (by omega), DH (d := 0) hi]
   simp only [oS]
   rw [AZ (by omega), AZ (by omega)]
   by_cases h0 : 0 ≤ m.fNext.getD i 0
   ·rw [AK h0]
    exact ⟨a + 1, rfl, by rw [hs, if_pos h0, ha]⟩
   ·rw [AH h0]
    exact ⟨a, rfl, by rw [hs, if_neg h0, ha]; rfl⟩)
  (fun n a _ => by
   rw [CR]
   simp only [Be]
   rw [AH (by omega)]) N 0 0 (Nat.zero_le _) (by omega) (I8 _).symm
 have e' : CR N m (fun (v2 : Int) => BQ N m v2 (fun (v8 : (List Ah)) => some v8) N (([] : List Ah), 0)) N (0, 0) = _ := e
 rw [e', hc]
 have hol := KR m.fNext m.fNext.length (Nat.le_refl _)
 have hpow := LN (show IJ m.fNext m.fNext.length ≤ 6 by omega)
 obtain ⟨a, e2, h1⟩ := Fb (A := List Ah) (BQ N m (IJ m.fNext m.fNext.length : Int) fun v8 => some v8) (fun a k => (a, k)) (2 ^ IJ m.fNext m.fNext.length) some
  (fun i a => a = (List.range i).map (XJ m))
  (fun n i a hi ha => by
   refine ⟨a ++ [XJ m i], ?_, by rw [K1, ha]⟩
   have hal : a.length = i := by rw [ha]; simp
   rw [BQ]
   rw [AD (by omega), NM (n := IJ m.fNext m.fNext.length) (by omega), AK (by omega), R9 N m (by unfold D2; omega) (by unfold D2; omega) (by unfold D2; omega)]
   simp only [oS]
   rw [RB N m i a hN (by omega) hl (by omega), AD (by rw [hal]; unfold D2; simp; omega), AZ (by omega)]
   rfl)
  (fun n a _ => by
   rw [BQ]
   rw [AD (by omega), NM (n := IJ m.fNext m.fNext.length) (by omega), AH (by simp)]) N 0 [] (Nat.zero_le _) (by omega) rfl
 have e2' : BQ N m (IJ m.fNext m.fNext.length : Int) (fun v8 => some v8) N ([], 0) = some a := e2
 rw [e2', h1]; rfl
theorem Sa (N : Nat) (p : Ak) (m : Ah) (hN : N ≤ 1000000) (h20 : 100 ≤ N) (hp : B7 p) (hm : EH p m) : Ev N m = some (Gn m) := by
 have := hp.nv
 have := hp.nt
 exact Sc N m hN h20 (by rw [hm.base]; omega) (by rw [hm.next]; omega) (by rw [hm.held]; omega)
theorem Pd {p : Ak} {m : Ah} (hm : EH p m) : J0 I4 m.fHeld := by
 intro x hx
 obtain ⟨q, hq⟩ := List.mem_iff_getElem?.1 hx
 have h1 := (lI.1 hq).1
 have := hm.range q (by rw [← hm.held]; exact h1)
 rw [lD, hq] at this
 unfold I4
 simp only [Option.getD_some] at this
 simp [Lit.wf, IntKind.min, IntKind.max, IntKind.signed, IntKind.bits]
 omega
def KL (p : Ak) (x : Ah) : Option (Ah × Ag) := match Jg p x with
 | [] => none
 | c :: _ => some (x, c)
def JH (p : Ak) (m : Ah) : Option (Ah × Ag) := DE (fun _ x => KL p x) 0 (Gn m)
def GR : Ah := ⟨[], [], []⟩
def Rr : Ag := ⟨0, 0, 0⟩
def K3 (p : Ak) (m : Ah) : Ah × Ag × Int := match JH p m with
 | some (x, c) => (x, c, 0)
 | none => (GR, Rr, 15)
theorem NV {m : Ah} (hl : m.fNext.length ≤ 6) : (Gn m).length ≤ 64 := by
 unfold Gn
 have hol := KR m.fNext m.fNext.length (Nat.le_refl _)
 have hpow := LN (show IJ m.fNext m.fNext.length ≤ 6 by omega)
 simpa using hpow
theorem N8 {α R R' : Type} (f : Nat → α → Option R) (g : R → R') : ∀ (i : Nat) (xs : List α), DE (fun i x => (f i x).map g) i xs = (DE f i xs).map g
 | _, [] => rfl
 | i, x :: xs => by
  rw [HB, HB]
  cases f i x
  ·exact N8 f g (i + 1) xs
  ·rfl
theorem PT (N : Nat) (p : Ak) (m : Ah) (hN : N ≤ 1000000) (h20 : 100 ≤ N) (hw : J0 I4 m.fHeld) (hv : DW p m = 0) : GI N p m = some (K3 p m) := by
 obtain ⟨hp, hm⟩ := HR hw hv
 have hnv := hp.nv
 unfold GI
 rw [OS N p m hN h20 hw hv]
 simp only [oS, bne_self_eq_false, Ax]
 have hal := NV (m := m) (by rw [hm.next]; omega)
 have := Dh (EQ N p (Gn m, 0) fun _ => some (GR, Rr, 15)) (Gn m) (some (GR, Rr, 15)) (fun _ x => (KL p x).map fun y => (y.1, y.2, 0))
  (fun n i x hx => by
   have hi := (lI.1 hx).1
   have hx2 := Uw hp hm (LD.1 (lM hx))
   rw [EQ, AK (by simp only; omega)]
   simp only [Bn, hx, oS]
   rw [MU N p x hN (by omega) hp hx2, AZ (by omega)]
   simp only [oS, KL]
   cases Jg p x with
   | nil => rfl
   | cons c cs => rw [AK (by simp only [List.length_cons]; omega)]; rfl)
  (fun n => by rw [EQ, AH (by simp)]) N 0 (Nat.zero_le _) (by omega)
 rw [List.drop_zero, N8] at this
 exact this.trans (by
  unfold K3 JH
  cases DE (fun _ x => KL p x) 0 (Gn m) <;> rfl)
theorem Qd (N : Nat) (p : Ak) (m : Ah) (hN : N ≤ 1000000) (h20 : 100 ≤ N) (hw : J0 I4 m.fHeld) (hv : DW p m = 0) : ED N p m = some (K3 p m) := by
 obtain ⟨hp, hm⟩ := HR hw hv
 have hnv := hp.nv
 unfold ED Fc
 rw [Ki N p m hN (by omega), hv, Sa N p m hN h20 hp hm]
 simp only [oS, bne_self_eq_false, Ax]
 have hal := NV (m := m) (by rw [hm.next]; omega)
 have := Dh (CV N p (Gn m, 0) fun _ => some (GR, Rr, 15)) (Gn m) (some (GR, Rr, 15)) (fun _ x => (KL p x).map fun y => (y.1, y.2, 0))
  (fun n i x hx => by
   have hi := (lI.1 hx).1
   have hx2 := Uw hp hm (LD.1 (lM hx))
   rw [CV, AK (by simp only; omega)]
   simp only [Bn, hx, oS]
   rw [MW N p x hN (by omega) hp hx2, AZ (by omega)]
   simp only [oS, KL]
   cases Jg p x with
   | nil => rfl
   | cons c cs => rw [AK (by simp only [List.length_cons]; omega)]; rfl)
  (fun n => by rw [CV, AH (by simp)]) N 0 (Nat.zero_le _) (by omega)
 rw [List.drop_zero, N8] at this
 exact this.trans (by
  unfold K3 JH
  cases DE (fun _ x => KL p x) 0 (Gn m) <;> rfl)
theorem QF {N : Nat} {a b : Ah} (hN : N ≤ 1000000) (h1 : a.fBase.length < N) (h2 : a.fNext.length < N) (h3 : a.fHeld.length < N) (h4 : b.fHeld.length < N) (wa : J0 I4 a.fHeld) (wb : J0 I4 b.fHeld) : Ed N a b = some (Tj a b) := by
 unfold Ed
 rw [OA h1 hN, OA h2 hN, Nc h3 hN wa, Nc h4 hN wb]
 simp only [oS]
 rw [OA h3 hN]
 unfold Tj PC
 by_cases h1 : IR a.fBase b.fBase = 0
 ·simp only [h1, PC]
  by_cases h2 : IR a.fNext b.fNext = 0
  ·simp only [h2]
   by_cases h3 : IR a.fHeld b.fHeld = 0 <;> simp [h3]
  ·have : (IR a.fNext b.fNext != 0) = true := by simpa using h2
   simp [h2, this]
 ·have : (IR a.fBase b.fBase != 0) = true := by simpa using h1
  simp [h1, this]
theorem QH {N : Nat} {a : Ah} (hN : N ≤ 1000000) (h1 : a.fBase.length < N) (h2 : a.fNext.length < N) (h3 : a.fHeld.length < N) (wa : J0 I4 a.fHeld) : C0 N a a = some true := by
 unfold C0
 rw [QF hN h1 h2 h3 h3 wa wa, Pa]; rfl
theorem Tw {N : Nat} {p : Ak} {a : Ah} (hN : N ≤ 1000000) (h20 : 100 ≤ N) (hp : B7 p) (ha : EH p a) : C0 N a a = some true := by
 have := hp.nv
 have := hp.nt
 exact QH hN (by rw [ha.base]; omega) (by rw [ha.next]; omega) (by rw [ha.held]; omega) (Pd ha)
theorem NB (N : Nat) (a : List Ag) (hN : N ≤ 1000000) (h : a.length < N) : BO N a a = some true := by
 unfold BO
 rw [bne_self_eq_false, Ax]
 have := Dh (B2 N a a fun _ => some true) a (some true) (fun _ _ => none)
  (fun n i x hx => by
   have hi := (lI.1 hx).1
   rw [B2, AK (by omega)]
   simp only [Bn, hx, oS, beq_self_eq_true, Bool.and_self, Bool.not_true, Ax]
   rw [AZ (by omega)]; rfl)
  (fun n => by rw [B2, AH (by simp)]) N 0 (Nat.zero_le _) (by omega)
 refine this.trans ?_
 rw [EW (fun _ _ _ => rfl)]; rfl
open Go
theorem Nr (x : BitVec 8) : wI .u8 (x.toNat : Int) = (x.toNat : Int) := by
 have := x.isLt
 simp [wI, IntKind.signed, IntKind.bits]
 omega
theorem Q6 (x : BitVec 8) : 0 ≤ (x.toNat : Int) ∧ (x.toNat : Int) ≤ 255 := by
 have := x.isLt
 omega
theorem TH (x : BitVec 8) (v : Nat) : Di (x.toNat : Int) v = x.getLsbD v := by
 unfold Di; rw [Int.toNat_natCast]; rfl
theorem PN {a : Int} (ha : 0 ≤ a ∧ a ≤ 255) (v : Nat) : (BitVec.ofInt 8 a).getLsbD v = Di a v := by
 obtain ⟨a, rfl⟩ := Int.eq_ofNat_of_zero_le ha.1
 unfold BitVec.getLsbD Di
 rw [S4 (by omega), Int.toNat_natCast]
theorem RV {a b : Int} (ha : 0 ≤ a ∧ a ≤ 255) (hb : 0 ≤ b ∧ b ≤ 255) : (∀ v, Di (Dz .u8 a b) v = (Di a v && !Di b v)) ∧ 0 ≤ Dz .u8 a b ∧ Dz .u8 a b ≤ 255 := by
 have e : Dz .u8 a b = ((BitVec.ofInt 8 a &&& ~~~BitVec.ofInt 8 b).toNat : Int) := Nr (BitVec.ofInt 8 a &&& ~~~BitVec.ofInt 8 b)
 rw [e]
 refine ⟨fun v => ?_, Q6 _⟩
 rw [TH, BitVec.getLsbD_and, BitVec.getLsbD_not, PN ha, PN hb]
 by_cases h : v < 8
 ·simp [h]
 ·rw [La ha.2 (by omega)]; simp
theorem Se {a b : Int} (ha : 0 ≤ a ∧ a ≤ 255) (hb : 0 ≤ b ∧ b ≤ 255) : (∀ v, Di (MC .u8 a b) v = (Di a v || Di b v)) ∧ 0 ≤ MC .u8 a b ∧ MC .u8 a b ≤ 255 := by
 have e : MC .u8 a b = ((BitVec.ofInt 8 a ||| BitVec.ofInt 8 b).toNat : Int) := Nr (BitVec.ofInt 8 a ||| BitVec.ofInt 8 b)
 rw [e]
 refine ⟨fun v => ?_, Q6 _⟩
 rw [TH, BitVec.getLsbD_or, PN ha, PN hb]
theorem VE {b : Nat} (hb : b < 8) : (∀ v, Di (CJ .u8 1 (b : Int)) v = decide (b = v)) ∧ 0 ≤ CJ .u8 1 (b : Int) ∧ CJ .u8 1 (b : Int) ≤ 255 := by
 refine ⟨fun v => ?_, (NN ⟨b, hb⟩ ⟨0, by omega⟩).2⟩
 by_cases h : v < 8
 ·exact (NN ⟨b, hb⟩ ⟨v, h⟩).1
 ·rw [La (NN ⟨b, hb⟩ ⟨0, by omega⟩).2.2 (by omega)]
  symm; apply decide_eq_false; omega
theorem TG (N : Nat) {s : Int} {v : Nat} (hs : 0 ≤ s ∧ s ≤ 255) (hv : v < 8) : CK N s (v : Int) = some (Di s v) := by
 unfold CK
 rw [AD (by omega), PP hs.1 hs.2 hv]
 cases Di s v <;> rfl
def WO (v : Nat) : Nat := ((List.range 8).find? fun u => v.testBit u).getD 8
def Ze (v : Nat) : Nat := ((List.range 8).filter fun u => v.testBit u).length
theorem W6 : ∀ v : Fin 256, Dc 0 (v.val : Int) = some (WO v.val : Int) := by decide +kernel
theorem Yc (N : Nat) {v : Nat} (h : v < 256) : Dc N (v : Int) = some (WO v : Int) := W6 ⟨v, h⟩
theorem Ws : ∀ v : Fin 256, v.val ≠ 0 → WO v.val < 8 ∧ Di (v.val : Int) (WO v.val) = true ∧ 0 ≤ Fq .u8 (v.val : Int) (wI .u8 ((v.val : Int) - 1)) ∧ Fq .u8 (v.val : Int) (wI .u8 ((v.val : Int) - 1)) ≤ 255 ∧
  Ze (Fq .u8 (v.val : Int) (wI .u8 ((v.val : Int) - 1))).toNat + 1 = Ze v.val ∧
  ∀ u : Fin 8, Di (Fq .u8 (v.val : Int) (wI .u8 ((v.val : Int) - 1))) u.val = (Di (v.val : Int) u.val && decide (u.val ≠ WO v.val)) := by decide +kernel
theorem Ye (v : Nat) : Ze v ≤ 8 := by
 have := List.length_filter_le (fun u => v.testBit u) (List.range 8)
 simpa [Ze] using this
theorem Rl (N : Nat) (t : AR) (b : Int) (rw_ : Nat → Bool) : ∀ (k n v : Nat), Ze v ≤ k → k < n → v < 256 →
  (∀ u, u < 8 → Di (v : Int) u = true → ∃ row, Bf t.fRewrite (u : Int) = some row ∧ Bf row b = some (rw_ u)) →
  DR N t b (fun _ => some true) n (v : Int) = some ((List.range 8).all fun u => !Di (v : Int) u || rw_ u)
 | k, 0, v, _, h, _, _ => by omega
 | k, n + 1, v, hk, hn, hv, hr => by
  rw [DR]
  by_cases h0 : v = 0
  ·subst h0
   have : (((0 : Nat) : Int) != 0) = false := rfl
   rw [this, Ax]
   congr 1
  ·have h1 : ((v : Int) != 0) = true := bne_iff_ne.2 (by omega)
   obtain ⟨l1, l2, l3, l4, l5, l6⟩ := Ws ⟨v, hv⟩ h0
   simp only at l1 l2 l3 l4 l5 l6
   obtain ⟨row, e1, e2⟩ := hr _ l1 l2
   rw [h1, AN, Yc N hv]
   simp only [oS, e1, e2]
   obtain ⟨w, hw⟩ := Int.eq_ofNat_of_zero_le l3
   rw [hw] at l4 l5 l6 ⊢
   rw [Int.toNat_natCast] at l5
   cases hq : rw_ (WO v)
   ·rw [Bool.not_false, AN]
    congr 1
    symm
    rw [List.all_eq_false]
    exact ⟨WO v, by simpa using l1, by rw [l2, hq]; simp⟩
   ·rw [Bool.not_true, Ax]
    match k, hk with
    | 0, hk => exfalso; omega
    | k + 1, hk =>
    rw [Rl N t b rw_ k n w (by omega) (by omega) (by omega) (fun u hu hb => hr u hu (by have := l6 ⟨u, hu⟩; simp only at this; rw [hb] at this; simpa using (Bool.and_eq_true_iff.1 this.symm).1))]
    congr 1
    rw [Bool.eq_iff_iff, List.all_eq_true, List.all_eq_true]
    refine ⟨fun h u hu => ?_, fun h u hu => ?_⟩
    ·have hu8 : u < 8 := by simpa using hu
     have h3 := h u hu
     have h4 := l6 ⟨u, hu8⟩
     simp only at h4
     rw [h4] at h3
     by_cases e : u = WO v
     ·rw [e, hq]; simp
     ·simpa [e] using h3
    ·have hu8 : u < 8 := by simpa using hu
     have h3 := h u hu
     have h4 := l6 ⟨u, hu8⟩
     simp only at h4
     rw [h4]
     cases hb : Di (v : Int) u
     ·simp
     ·rw [hb] at h3; simp at h3; simp [h3]
theorem QT (N : Nat) (m : Ah) (s : Int) (h0 : 0 ≤ s) (h1 : s < (m.fBase.length : Int)) (h2 : s < (m.fNext.length : Int)) (hb : 0 ≤ m.fBase.getD s.toNat 0) : F3 N m s = some (GW m s.toNat) := by
 unfold F3 GW
 rw [EP (d := 0) h0 h1, EP (d := 0) h0 h2]
 simp only [oS, Bi]
 rw [show DN (0 ≤ m.fBase.getD s.toNat 0) = some () from by unfold DN; rw [if_pos hb]]
 simp only [oS]
 by_cases h : 0 ≤ m.fNext.getD s.toNat 0
 ·rw [AK h, if_pos h, show DN (0 ≤ m.fNext.getD s.toNat 0) = some () from by unfold DN; rw [if_pos h]]; rfl
 ·rw [AH h, if_neg h]
theorem KG (N : Nat) (t : AR) : FH N t = some (Ck t) := by
 unfold FH Ck
 simp only [Bi]
 cases h : t.fKind == 3 <;> simp
def Hx (s : Av) : Bool := decide (1 ≤ s.fKind ∧ s.fKind ≤ 4 ∧ 0 ≤ s.fIndex ∧ 0 ≤ s.fVersion) && (s.fKind == 1 || s.fVersion == 0)
def Gj (p : Ak) (s : Av) : Bool :=
 if s.fKind = 3 then decide (s.fIndex < (p.fTables.length : Int)) else decide (s.fIndex < (p.fVersions.length : Int)) && (s.fKind != 1 || decide (s.fVersion < p.fVersions.getD s.fIndex.toNat 0))
theorem O2 (N : Nat) (s : Av) : Ha N s = some (Hx s) := by
 unfold Ha Hx Vn
 simp only [Bi]
 by_cases h1 : (if s.fVersion < s.fIndex then s.fVersion else s.fIndex) < 0
 ·rw [AK h1, AN, decide_eq_false (by split at h1 <;> omega)]; rfl
 ·rw [AH h1]
  by_cases h2 : s.fKind < 1
  ·rw [AK h2, AN, decide_eq_false (by omega)]; rfl
  ·rw [AH h2]
   by_cases h3 : 4 < s.fKind
   ·rw [decide_eq_true h3, AN, decide_eq_false (by omega)]; rfl
   ·rw [decide_eq_false h3, Ax, decide_eq_true (by split at h1 <;> omega), Bool.true_and]
    cases h4 : s.fKind == 1 <;> simp
theorem P2 (N : Nat) (s : Av) : EC N s = some (Hx s) := by
 unfold EC Hx
 simp only [Bi]
 by_cases h1 : 1 ≤ s.fKind
 ·rw [AK h1]
  by_cases h2 : s.fKind ≤ 4
  ·rw [AK h2]
   by_cases h3 : 0 ≤ s.fIndex
   ·rw [AK h3]
    by_cases h4 : 0 ≤ s.fVersion
    ·rw [AK h4, decide_eq_true (by omega), Bool.true_and]
     cases h5 : s.fKind == 1 <;> simp
    ·rw [AH h4, decide_eq_false (by omega)]; rfl
   ·rw [AH h3, decide_eq_false (by omega)]; rfl
  ·rw [AH h2, decide_eq_false (by omega)]; rfl
 ·rw [AH h1, decide_eq_false (by omega)]; rfl
theorem Ol (N : Nat) (p : Ak) (s : Av) (hv : Hx s = true) : GE N p s = some (Gj p s) := by
 have h0 : 0 ≤ s.fIndex := by
  unfold Hx at hv
  rw [Bool.and_eq_true, decide_eq_true_iff] at hv
  exact hv.1.2.2.1
 unfold GE Gj
 simp only [Bi]
 by_cases h1 : s.fKind = 3
 ·rw [if_pos h1, beq_iff_eq.2 h1, AN]
 ·rw [if_neg h1, beq_eq_false_iff_ne.2 h1, Ax]
  by_cases h2 : s.fIndex < (p.fVersions.length : Int)
  ·rw [AK h2, decide_eq_true h2, Bool.true_and]
   cases h3 : s.fKind != 1
   ·rw [Ax, EP (d := 0) h0 h2, Bool.false_or]; rfl
   ·rw [AN]; rfl
  ·rw [AH h2, decide_eq_false h2]; rfl
def SZ (s : Av) (t : AR) : Bool := t.fFrom == s.fIndex && Ck t
def TC (s : Av) (i : Nat) (t : AR) (a : List Int) : List Int := if SZ s t = true then a.set i (MC .u8 (a.getD i 0) (CJ .u8 1 s.fVersion)) else a
def Jf (p : Ak) (s : Av) (held : List Int) : List Int := IE (TC s) 0 p.fTables held
theorem NA {R : Type} (N : Nat) (p : Ak) (s : Av) (held : List Int) (hv : 0 ≤ s.fVersion) (hl : held.length = p.fTables.length) (h12 : p.fTables.length < N) (hN : N ≤ 1000000) (j : List Int → Option (Bool × List Int × List Int)) :
  D6 N p s j N (held, 0) = j (Jf p s held) ∧ (Jf p s held).length = p.fTables.length := by
 have := IU (D6 N p s j) (fun a i => (a, i)) p.fTables j (TC s) (fun i a => a.length = p.fTables.length)
  (fun n i x a hx ha => by
   have hi := (lI.1 hx).1
   rw [D6, AK (by simp only; omega)]
   simp only [Be, Bn, hx, oS, KG, AZ (show i < 1000000 by omega)]
   have e2 : a[i]? = some (a.getD i 0) := by rw [lD]; simp [show i < a.length from by omega]
   unfold TC SZ
   cases h1 : x.fFrom == s.fIndex
   ·rw [Ax, Ax, Bool.false_and, if_neg (by simp)]; exact ⟨rfl, ha⟩
   ·rw [AN, Bool.true_and]
    cases h2 : Ck x
    ·rw [Ax, if_neg (by simp)]; exact ⟨rfl, ha⟩
    ·rw [AN, e2, if_pos rfl]
     simp only [oS]
     rw [AD hv]
     exact ⟨rfl, by simpa using ha⟩)
  (fun n a ha => by rw [D6, AH (by simp)]) N 0 held (Nat.zero_le _) (by omega) hl
 rw [List.drop_zero] at this
 exact this
theorem N3 (N : Nat) (p : Ak) (s : Av) (held : List Int) (hv : 0 ≤ s.fVersion) (hl : held.length = p.fTables.length) (h12 : p.fTables.length < N) (hN : N ≤ 1000000) (j : List Int → Option (Ah × Bool)) :
  Ce N p s j N (held, 0) = j (Jf p s held) := by
 have := IU (Ce N p s j) (fun a i => (a, i)) p.fTables j (TC s) (fun i a => a.length = p.fTables.length)
  (fun n i x a hx ha => by
   have hi := (lI.1 hx).1
   rw [Ce, AK (by simp only; omega)]
   simp only [Be, Bn, hx, oS, F6, AZ (show i < 1000000 by omega)]
   have e2 : a[i]? = some (a.getD i 0) := by rw [lD]; simp [show i < a.length from by omega]
   unfold TC SZ
   cases h1 : x.fFrom == s.fIndex
   ·rw [Ax, Ax, Bool.false_and, if_neg (by simp)]; exact ⟨rfl, ha⟩
   ·rw [AN, Bool.true_and]
    cases h2 : Ck x
    ·rw [Ax, if_neg (by simp)]; exact ⟨rfl, ha⟩
    ·rw [AN, e2, if_pos rfl]
     simp only [oS]
     rw [AD hv]
     exact ⟨rfl, by simpa using ha⟩)
  (fun n a ha => by rw [Ce, AH (by simp)]) N 0 held (Nat.zero_le _) (by omega) hl
 rw [List.drop_zero] at this
 exact this.1
def Lx (m : Ah) (t : AR) (u : Nat) : Bool := (t.fRewrite.getD u []).getD (m.fBase.getD t.fFrom.toNat 0).toNat false
def Ov (m : Ah) (i : Nat) (t : AR) (u : Nat) : Bool := Di (m.fHeld.getD i 0) u && !H7 m t.fFrom.toNat u
def Iy (p : Ak) (m : Ah) (i : Nat) (t : AR) : Bool := t.fKind == 4 && (List.range 8).any fun u => Ov m i t u && !Lx m t u
def Ga (p : Ak) (m : Ah) (s : Av) : Option Ah :=
 let i := s.fIndex.toNat
 if s.fKind = 1 then (if 0 ≤ m.fNext.getD i 0 ∨ m.fBase.getD i 0 = s.fVersion then none else some ⟨m.fBase, m.fNext.set i s.fVersion, Jf p s m.fHeld⟩)
 else if s.fKind = 3 then match p.fTables[i]? with
  | none => none
  | some t => if Ck t = false ∨ m.fHeld.getD i 0 = GW m t.fFrom.toNat ∨ Iy p m i t = true then none else some ⟨m.fBase, m.fNext, m.fHeld.set i (GW m t.fFrom.toNat)⟩
 else if m.fNext.getD i 0 < 0 then none
 else some ⟨if s.fKind = 2 then m.fBase.set i (m.fNext.getD i 0) else m.fBase, m.fNext.set i (-1), m.fHeld⟩
def EE (p : Ak) (m : Ah) (s : Av) : Ah × Int :=
 if Hx s = false then (GR, 1) else if Gj p s = false then (GR, 4) else match Ga p m s with
  | none => (GR, 11)
  | some x => (x, 0)
end Go.Lift
namespace Go.Lift
open Option renaming bind_some → oS
open List renaming mem_of_getElem? → lM
open List renaming getElem?_eq_some_iff → lI
open List renaming getD_eq_getElem?_getD → lD
open Go
section clear
variable {p : Ak} {m : Ah} {i : Nat} {t : AR}
theorem T2 (hp : B7 p) (hm : EH p m) (ht : p.fTables[i]? = some t) (hs : Ck t = true) {u : Nat} (h : Di (m.fHeld.getD i 0) u = true) : (u : Int) < p.fVersions.getD t.fFrom.toNat 0 ∧ u < 6 ∧ t.fFrom.toNat < p.fVersions.length := by
 have h1 := hm.high i t ht hs u h
 have hin := JJ (hp.tab t (lM ht))
 have h2 := I6 hp (i := t.fFrom.toNat) (by omega)
 exact ⟨h1, by omega, by omega⟩
theorem UU (hp : B7 p) (hm : EH p m) (ht : p.fTables[i]? = some t) (hs : Ck t = true) (h4 : t.fKind = 4) {u : Nat} (h : Di (m.fHeld.getD i 0) u = true) :
  Bf t.fRewrite (u : Int) = some (t.fRewrite.getD u []) ∧ Bf (t.fRewrite.getD u []) (m.fBase.getD t.fFrom.toNat 0) = some (Lx m t u) := by
 have hT := KS (hp.tab t (lM ht))
 obtain ⟨h1, h2, h3⟩ := T2 hp hm ht hs h
 have hl := hT.reL h4
 have e : t.fRewrite[u]? = some (t.fRewrite.getD u []) := by rw [lD]; simp [show u < t.fRewrite.length from by omega]
 have hr := hT.reR _ (lM e)
 have hb := hm.b0 t.fFrom.toNat h3
 refine ⟨by rw [Bn, e], ?_⟩
 unfold Lx
 obtain ⟨b, hb'⟩ := Int.eq_ofNat_of_zero_le hb.1
 rw [hb'] at hb ⊢
 rw [Int.toNat_natCast]
 exact DH (by omega)
theorem OW (N : Nat) (hN : N ≤ 1000000) (h20 : 100 ≤ N) (hp : B7 p) (hm : EH p m) (ht : p.fTables[i]? = some t) :
  Hc N p m (i : Int) = some (if Ck t = false ∨ m.fHeld.getD i 0 = GW m t.fFrom.toNat ∨ Iy p m i t = true then (false, m.fHeld) else (true, m.fHeld.set i (GW m t.fFrom.toNat))) := by
 have hi := (lI.1 ht).1
 have hin := JJ (hp.tab t (lM ht))
 have hb := hm.base
 have hnx := hm.next
 have hh := hm.held
 have hr := Is hp hm.toMixServ (s := t.fFrom.toNat) (by omega)
 have hrg := hm.range i hi
 have eh : Bf m.fHeld (i : Int) = some (m.fHeld.getD i 0) := DH (by omega)
 unfold Hc
 simp only [Be, Bn, ht, oS, KG]
 have eh' : m.fHeld[i]? = some (m.fHeld.getD i 0) := by rw [← Bn, eh]
 cases hs : Ck t
 ·rw [Bool.not_false, AN, if_pos (.inl rfl)]
 ·rw [Bool.not_true, Ax, QT N m _ hin.1 (by omega) (by omega) (hm.b0 _ (by omega)).1]
  simp only [oS, eh']
  by_cases h1 : m.fHeld.getD i 0 = GW m t.fFrom.toNat
  ·rw [beq_iff_eq.2 h1, AN, AN, if_pos (.inr (.inl h1))]
  ·rw [beq_eq_false_iff_ne.2 h1, Ax]
   by_cases h4 : t.fKind = 4
   ·rw [beq_iff_eq.2 h4, AN, EP (d := 0) hin.1 (by omega)]
    simp only [oS]
    obtain ⟨a1, a2, a3⟩ := RV hrg hr.2
    obtain ⟨w, hw⟩ := Int.eq_ofNat_of_zero_le a2
    unfold FY
    rw [hw] at a1 a3 ⊢
    rw [Rl N t _ (Lx m t) 8 N w (Ye _) (by omega) (by omega) (fun u hu hbu => by
     have := a1 u; rw [hbu] at this
     exact ⟨_, UU hp hm ht hs h4 (Bool.and_eq_true_iff.1 this.symm).1⟩)]
    simp only [oS]
    have e : (!(List.range 8).all fun u => !Di (w : Int) u || Lx m t u) = Iy p m i t := by
     unfold Iy
     rw [beq_iff_eq.2 h4, Bool.true_and, List.not_all_eq_any_not]
     congr 1
     funext u
     rw [a1 u, hr.1 u]
     unfold Ov
     cases Di (m.fHeld.getD i 0) u <;> cases H7 m t.fFrom.toNat u <;> cases Lx m t u <;> rfl
    rw [e]
    cases hst : Iy p m i t
    ·rw [Ax, if_neg (by rintro (h | h | h); cases h; exact h1 h; cases h)]; rfl
    ·rw [AN, if_pos (.inr (.inr rfl))]
   ·have e : Iy p m i t = false := by unfold Iy; rw [beq_eq_false_iff_ne.2 h4]; rfl
    rw [beq_eq_false_iff_ne.2 h4, Ax, Ax, e, if_neg (by rintro (h | h | h); cases h; exact h1 h; cases h)]; rfl
theorem NW (N : Nat) (hN : N ≤ 1000000) (h20 : 100 ≤ N) (hp : B7 p) (hm : EH p m) (ht : p.fTables[i]? = some t) (hs : Ck t = true) (s : Av) (hsi : s.fIndex = (i : Int)) (j : Option (Ah × Bool)) :
  BW N p m s t (GW m t.fFrom.toNat) (fun _ => j) N 0 = if Iy p m i t = true then some (GR, false) else j := by
 have hi := (lI.1 ht).1
 have hin := JJ (hp.tab t (lM ht))
 have hb := hm.base
 have hh := hm.held
 have hr := Is hp hm.toMixServ (s := t.fFrom.toNat) (by omega)
 have hrg := hm.range i hi
 have hver := I6 hp (i := t.fFrom.toNat) (by omega)
 obtain ⟨nv, hnv⟩ := Int.eq_ofNat_of_zero_le (show 0 ≤ p.fVersions.getD t.fFrom.toNat 0 by omega)
 have eh' : m.fHeld[i]? = some (m.fHeld.getD i 0) := by rw [lD]; simp [show i < m.fHeld.length from by omega]
 have := Dh (BW N p m s t (GW m t.fFrom.toNat) fun _ => j) (List.range nv) j (fun u _ => if (Ov m i t u && (t.fKind == 4 && !Lx m t u)) = true then some (GR, false) else none)
  (fun n u x hx => by
   have hu : u < nv := by
    have := (lI.1 hx).1
    simpa using this
   rw [BW, EP (d := 0) hin.1 (by omega), hnv]
   simp only [oS]
   rw [AK (by omega)]
   simp only [Be, hsi, Bn, eh', oS]
   rw [TG N hrg (by omega), AZ (by omega)]
   simp only [oS]
   cases h1 : Di (m.fHeld.getD i 0) u
   ·have e : Ov m i t u = false := by unfold Ov; rw [h1]; rfl
    rw [Ax, Ax, Ax, e]; rfl
   ·rw [AN, TG N hr.2 (by omega), hr.1 u]
    simp only [oS]
    have e : Ov m i t u = !H7 m t.fFrom.toNat u := by unfold Ov; rw [h1]; rfl
    rw [← e]
    cases h2 : Ov m i t u
    ·rw [Ax, Ax]; rfl
    ·rw [AN]
     by_cases h4 : t.fKind = 4
     ·obtain ⟨e1, e2⟩ := UU hp hm ht hs h4 h1
      rw [Bn] at e1
      rw [beq_iff_eq.2 h4, AN, e1, EP (d := 0) hin.1 (by omega)]
      simp only [oS]
      rw [e2]
      simp only [oS]
      cases Lx m t u <;> rfl
     ·rw [beq_eq_false_iff_ne.2 h4, Ax, Ax]; rfl)
  (fun n => by
   rw [BW, EP (d := 0) hin.1 (by omega), hnv]
   simp only [oS, List.length_range]
   rw [AH (by omega)]) N 0 (Nat.zero_le _) (by simp; omega)
 have e0 : BW N p m s t (GW m t.fFrom.toNat) (fun _ => j) N 0 = _ := this
 rw [e0, List.drop_zero]
 by_cases hst : Iy p m i t = true
 ·rw [if_pos hst]
  unfold Iy at hst
  rw [Bool.and_eq_true, List.any_eq_true] at hst
  obtain ⟨h4, u, hu, h5⟩ := hst
  rw [Bool.and_eq_true] at h5
  have h6 : Di (m.fHeld.getD i 0) u = true := by have := h5.1; unfold Ov at this; exact (Bool.and_eq_true_iff.1 this).1
  have h7 := T2 hp hm ht hs h6
  cases hsc : DE (fun u (_ : Nat) => if (Ov m i t u && (t.fKind == 4 && !Lx m t u)) = true then some (GR, false) else none) 0 (List.range nv) with
  | some r =>
   obtain ⟨q, x, hx, hf⟩ := E1 hsc
   split at hf
   ·cases hf; rfl
   ·cases hf
  | none =>
   exfalso
   have hx : (List.range nv)[u]? = some u := List.getElem?_range (by omega)
   have := GH hsc u u hx
   rw [Nat.zero_add, h5.1, h4, h5.2] at this
   cases this
 ·rw [if_neg hst]
  have : DE (fun u (_ : Nat) => if (Ov m i t u && (t.fKind == 4 && !Lx m t u)) = true then some (GR, false) else none) 0 (List.range nv) = none := EW fun q x hx => by
   rw [Nat.zero_add]
   split
   ·rename_i h5
    exfalso; apply hst
    rw [Bool.and_eq_true, Bool.and_eq_true] at h5
    unfold Iy
    rw [h5.2.1, Bool.true_and, List.any_eq_true]
    have hq : q < nv := by
     have := (lI.1 hx).1
     simpa using this
    exact ⟨q, List.mem_range.2 (by omega), by rw [h5.1, h5.2.2]; rfl⟩
   ·rfl
  rw [this]; rfl
end clear
end Go.Lift
namespace Go.Lift
open Option renaming bind_some → oS
open List renaming mem_of_getElem? → lM
open Go
theorem J5 {s : Av} (h : Hx s = true) : 1 ≤ s.fKind ∧ s.fKind ≤ 4 ∧ 0 ≤ s.fIndex ∧ 0 ≤ s.fVersion ∧ (s.fKind ≠ 1 → s.fVersion = 0) := by
 unfold Hx at h
 rw [Bool.and_eq_true, decide_eq_true_iff, Bool.or_eq_true, beq_iff_eq, beq_iff_eq] at h
 exact ⟨h.1.1, h.1.2.1, h.1.2.2.1, h.1.2.2.2, fun hk => h.2.elim (fun e => (hk e).elim) id⟩
theorem Le {p : Ak} {s : Av} (h : Gj p s = true) : (s.fKind = 3 → s.fIndex < (p.fTables.length : Int)) ∧ (s.fKind ≠ 3 → s.fIndex < (p.fVersions.length : Int)) ∧ (s.fKind = 1 → s.fVersion < p.fVersions.getD s.fIndex.toNat 0) := by
 unfold Gj at h
 split at h
 ·rename_i hk
  rw [decide_eq_true_iff] at h
  exact ⟨fun _ => h, fun hn => (hn hk).elim, fun h1 => by omega⟩
 ·rename_i hk
  rw [Bool.and_eq_true, decide_eq_true_iff, Bool.or_eq_true, decide_eq_true_iff, bne_iff_ne] at h
  exact ⟨fun h3 => (hk h3).elim, fun _ => h.1, fun h1 => h.2.elim (fun hn => (hn h1).elim) id⟩
theorem S9 (N : Nat) {p : Ak} {m : Ah} (hp : B7 p) (hm : EH p m) : Gu N m = some m := by
 have hnv := hp.nv
 have hnt := hp.nt
 have h1 := hm.base
 have h2 := hm.next
 have h3 := hm.held
 unfold Gu
 rw [Lb N _ (by simp only [D2]; omega), Lb N _ (by simp only [D2]; omega), PB N _ (by simp only [D2]; omega)]
 rfl
theorem Lv (N : Nat) (hN : N ≤ 1000000) (h20 : 100 ≤ N) {p : Ak} {m : Ah} (hp : B7 p) (hm : EH p m) {s : Av} (hv : Hx s = true) (hx : Gj p s = true) :
  ∃ o, Fx N p m s = some (o, (Ga p m s).isSome) ∧ ∀ x, Ga p m s = some x → o = x := by
 obtain ⟨k1, k4, i0, v0, vk⟩ := J5 hv
 obtain ⟨x3, xn, x1⟩ := Le hx
 have hnv := hp.nv
 have hnt := hp.nt
 have hb := hm.base
 have hn := hm.next
 have hh := hm.held
 obtain ⟨i, hi⟩ := Int.eq_ofNat_of_zero_le i0
 unfold Fx Ga
 rw [S9 N hp hm]
 simp only [oS, Be]
 by_cases hk1 : s.fKind = 1
 ·have hi1 : (i : Int) < p.fVersions.length := by have := xn (by omega); omega
  rw [beq_iff_eq.2 hk1, AN, if_pos hk1]
  unfold Ig
  simp only [Be, hi, Int.toNat_natCast]
  rw [DH (d := 0) (show i < m.fNext.length by omega)]
  simp only [oS]
  by_cases c1 : 0 ≤ m.fNext.getD i 0
  ·rw [AK c1, AN, if_pos (.inl c1)]
   exact ⟨_, rfl, fun x hx => by cases hx⟩
  ·rw [AH c1, DH (d := 0) (show i < m.fBase.length by omega)]
   simp only [oS]
   by_cases c2 : m.fBase.getD i 0 = s.fVersion
   ·rw [beq_iff_eq.2 c2, AN, if_pos (.inr c2)]
    exact ⟨_, rfl, fun x hx => by cases hx⟩
   ·rw [beq_eq_false_iff_ne.2 c2, Ax, (NA (R := Unit) N p s m.fHeld v0 hh (by omega) hN _).1, if_neg (by rintro (h | h); exact c1 h; exact c2 h)]
    exact ⟨_, rfl, fun x hx => by cases hx; rfl⟩
 ·rw [beq_eq_false_iff_ne.2 hk1, Ax, if_neg hk1]
  by_cases hk3 : s.fKind = 3
  ·have hi3 : i < p.fTables.length := by have := x3 hk3; omega
   have ht : p.fTables[i]? = some p.fTables[i] := by simp [hi3]
   rw [beq_iff_eq.2 hk3, AN, if_pos hk3, hi, OW N hN h20 hp hm ht]
   simp only [oS, Int.toNat_natCast, ht]
   split
   ·exact ⟨_, rfl, fun x hx => by cases hx⟩
   ·exact ⟨_, rfl, fun x hx => by cases hx; rfl⟩
  ·have hi1 : (i : Int) < p.fVersions.length := by have := xn hk3; omega
   rw [beq_eq_false_iff_ne.2 hk3, Ax, if_neg hk3, hi, DH (d := 0) (show i < m.fNext.length by omega)]
   simp only [oS, Int.toNat_natCast]
   by_cases c1 : m.fNext.getD i 0 < 0
   ·rw [AK c1, if_pos c1]
    exact ⟨_, rfl, fun x hx => by cases hx⟩
   ·rw [AH c1, if_neg c1]
    by_cases hk2 : s.fKind = 2
    ·rw [beq_iff_eq.2 hk2, AN, DH (d := 0) (show i < m.fBase.length by omega), if_pos hk2]
     exact ⟨_, rfl, fun x hx => by cases hx; rfl⟩
    ·rw [beq_eq_false_iff_ne.2 hk2, Ax, if_neg hk2]
     exact ⟨_, rfl, fun x hx => by cases hx; rfl⟩
theorem OO (N : Nat) (hN : N ≤ 1000000) (h20 : 100 ≤ N) {p : Ak} {m : Ah} (hp : B7 p) (hm : EH p m) (s : Av) : Hg N p m s = some (EE p m s) := by
 unfold Hg EE
 rw [O2]
 simp only [oS]
 cases hv : Hx s
 ·rw [Bool.not_false, AN, if_pos rfl]; rfl
 ·rw [Bool.not_true, Ax, if_neg (by simp), Ol N p s hv]
  simp only [oS]
  cases hx : Gj p s
  ·rw [Bool.not_false, AN, if_pos rfl]; rfl
  ·rw [Bool.not_true, Ax, if_neg (by simp)]
   obtain ⟨o, e, ho⟩ := Lv N hN h20 hp hm hv hx
   rw [e]
   simp only [oS]
   cases ha : Ga p m s with
   | none => rfl
   | some x => rw [ho x ha]; rfl
theorem Mn (N : Nat) (hN : N ≤ 1000000) (h20 : 100 ≤ N) {p : Ak} {m : Ah} (hp : B7 p) (hm : EH p m) {s : Av} (hv : Hx s = true) (hx : Gj p s = true) :
  C2 N p m s = some (match Ga p m s with | none => (GR, false) | some x => (x, true)) := by
 obtain ⟨k1, k4, i0, v0, vk⟩ := J5 hv
 obtain ⟨x3, xn, x1⟩ := Le hx
 have hnv := hp.nv
 have hnt := hp.nt
 have hb := hm.base
 have hn := hm.next
 have hh := hm.held
 obtain ⟨i, hi⟩ := Int.eq_ofNat_of_zero_le i0
 unfold C2 Ga
 rw [AD (by simp [D2]; omega), AD (by simp [D2]; omega), AD (by simp [D2]; omega)]
 simp only [oS, Be, List.nil_append]
 by_cases hk1 : s.fKind = 1
 ·have hi1 : (i : Int) < p.fVersions.length := by have := xn (by omega); omega
  rw [beq_iff_eq.2 hk1, AN, if_pos hk1]
  simp only [hi, Int.toNat_natCast]
  rw [DH (d := 0) (show i < m.fNext.length by omega)]
  simp only [oS]
  by_cases c1 : 0 ≤ m.fNext.getD i 0
  ·rw [AK c1, AN, if_pos (.inl c1)]; rfl
  ·rw [AH c1, DH (d := 0) (show i < m.fBase.length by omega)]
   simp only [oS]
   by_cases c2 : m.fBase.getD i 0 = s.fVersion
   ·rw [beq_iff_eq.2 c2.symm, AN, if_pos (.inr c2)]; rfl
   ·rw [beq_eq_false_iff_ne.2 (fun h => c2 h.symm), Ax, N3 N p s m.fHeld v0 hh (by omega) hN _, if_neg (by rintro (h | h); exact c1 h; exact c2 h)]
 ·rw [beq_eq_false_iff_ne.2 hk1, Ax, if_neg hk1]
  by_cases hk3 : s.fKind = 3
  ·have hi3 : i < p.fTables.length := by have := x3 hk3; omega
   have ht : p.fTables[i]? = some p.fTables[i] := by simp [hi3]
   have hin := JJ (hp.tab _ (lM ht))
   have eh' : Bf m.fHeld (i : Int) = some (m.fHeld.getD i 0) := DH (by omega)
   rw [beq_eq_false_iff_ne.2 (show s.fKind ≠ 2 by omega), Ax, beq_iff_eq.2 hk3, AN, if_pos hk3, hi, Bn, ht]
   simp only [oS, F6, Int.toNat_natCast, ht]
   cases hs : Ck p.fTables[i]
   ·rw [Bool.not_false, AN, if_pos (.inl rfl)]; rfl
   ·rw [Bool.not_true, Ax, IW N m _ hin.1 (by omega) (by omega) (hm.b0 _ (by omega)).1, eh']
    simp only [oS]
    by_cases h1 : m.fHeld.getD i 0 = GW m (p.fTables[i]).fFrom.toNat
    ·rw [beq_iff_eq.2 h1, AN, if_pos (.inr (.inl h1))]; rfl
    ·rw [beq_eq_false_iff_ne.2 h1, Ax]
     rw [NW N hN h20 hp hm ht hs s hi]
     cases hst : Iy p m i p.fTables[i]
     ·rw [if_neg (by simp), if_neg (by rintro (h | h | h); cases h; exact h1 h; cases h)]
     ·rw [if_pos rfl, if_pos (.inr (.inr rfl))]
  ·have hi1 : (i : Int) < p.fVersions.length := by have := xn hk3; omega
   rw [if_neg hk3, hi, DH (d := 0) (show i < m.fNext.length by omega)]
   simp only [oS, Int.toNat_natCast]
   by_cases hk2 : s.fKind = 2
   ·rw [beq_iff_eq.2 hk2, AN, if_pos hk2]
    by_cases c1 : m.fNext.getD i 0 < 0
    ·rw [AK c1, if_pos c1]; rfl
    ·rw [AH c1, if_neg c1, DH (d := 0) (show i < m.fBase.length by omega)]; rfl
   ·rw [beq_eq_false_iff_ne.2 hk2, Ax, beq_eq_false_iff_ne.2 hk3, Ax, if_neg hk2]
    by_cases c1 : m.fNext.getD i 0 < 0
    ·rw [AK c1, if_pos c1]; rfl
    ·rw [AH c1, if_neg c1]
end Go.Lift
namespace Go.Lift
open Option renaming bind_some → oS
open List renaming mem_of_getElem? → lM
open List renaming getElem?_eq_some_iff → lI
open Go
theorem QR (s : Av) : ∀ (xs : List AR) (i : Nat) (a : List Int), i + xs.length ≤ a.length → (IE (TC s) i xs a).length = a.length ∧ ∀ q, (IE (TC s) i xs a).getD q 0 = match (if i ≤ q then xs[q - i]? else none) with
  | some t => if SZ s t = true then MC .u8 (a.getD q 0) (CJ .u8 1 s.fVersion) else a.getD q 0
  | none => a.getD q 0
 | [], i, a, _ => by
  refine ⟨rfl, fun q => ?_⟩
  split
  ·rename_i h; split at h
   ·simp at h
   ·cases h
  ·rfl
 | x :: xs, i, a, hl => by
  have hl' : i + (xs.length + 1) ≤ a.length := by simpa using hl
  have ha : (TC s i x a).length = a.length := by unfold TC; split <;> simp
  obtain ⟨ih1, ih2⟩ := QR s xs (i + 1) (TC s i x a) (by omega)
  refine ⟨by rw [IE, ih1, ha], fun q => ?_⟩
  rw [IE, ih2 q]
  have hu : (TC s i x a).getD q 0 = if q = i ∧ SZ s x = true then MC .u8 (a.getD q 0) (CJ .u8 1 s.fVersion) else a.getD q 0 := by
   unfold TC
   by_cases hc : SZ s x = true
   ·rw [if_pos hc, I1 (by omega)]
    by_cases hq : q = i
    ·subst hq; rw [if_pos rfl, if_pos ⟨rfl, hc⟩]
    ·rw [if_neg hq, if_neg (fun h => hq h.1)]
   ·rw [if_neg hc, if_neg (fun h => hc h.2)]
  by_cases h1 : i + 1 ≤ q
  ·rw [if_pos h1, if_pos (show i ≤ q by omega), hu, if_neg (by omega)]
   rw [show (x :: xs)[q - i]? = xs[q - (i + 1)]? from by rw [show q - i = (q - (i + 1)) + 1 from by omega, List.getElem?_cons_succ]]
  ·rw [if_neg h1]
   by_cases h2 : q = i
   ·subst h2
    rw [if_pos (Nat.le_refl _), Nat.sub_self, hu]
    simp
   ·rw [if_neg (show ¬ i ≤ q by omega), hu, if_neg (by omega)]
theorem Tv {p : Ak} {s : Av} {held : List Int} (hl : held.length = p.fTables.length) : (Jf p s held).length = p.fTables.length ∧ ∀ q t, p.fTables[q]? = some t → (Jf p s held).getD q 0 = if SZ s t = true then MC .u8 (held.getD q 0) (CJ .u8 1 s.fVersion) else held.getD q 0 := by
 obtain ⟨h1, h2⟩ := QR s p.fTables 0 held (by omega)
 refine ⟨h1.trans hl, fun q t ht => ?_⟩
 have := h2 q
 rw [if_pos (Nat.zero_le _), Nat.sub_zero, ht] at this
 exact this
theorem NQ {m : Ah} {s v : Nat} : H7 m s v = true ↔ m.fBase.getD s 0 = (v : Int) ∨ m.fNext.getD s 0 = (v : Int) := by
 unfold H7; rw [Bool.or_eq_true, decide_eq_true_iff, decide_eq_true_iff]
theorem TO {p : Ak} {m x : Ah} (hp : B7 p) (hm : EH p m) {s : Av} (hv : Hx s = true) (hx : Gj p s = true) (h : Ga p m s = some x) : EH p x := by
 obtain ⟨k1, k4, i0, v0, vk⟩ := J5 hv
 obtain ⟨x3, xn, x1⟩ := Le hx
 obtain ⟨i, hi⟩ := Int.eq_ofNat_of_zero_le i0
 have hb := hm.base
 have hn := hm.next
 have hh := hm.held
 unfold Ga at h
 simp only [hi, Int.toNat_natCast] at h
 rw [hi, Int.toNat_natCast] at x1
 split at h
 ·rename_i hk1
  have hi1 : i < p.fVersions.length := by have := xn (by omega); omega
  have hx1 := x1 hk1
  have hvi := I6 hp hi1
  split at h
  ·cases h
  rename_i hc
  cases h
  obtain ⟨u1, u2⟩ := Tv (s := s) hh
  obtain ⟨b, hbv⟩ := Int.eq_ofNat_of_zero_le v0
  have hob := VE (b := b) (by omega)
  have hN : ∀ q, (m.fNext.set i s.fVersion).getD q 0 = if q = i then s.fVersion else m.fNext.getD q 0 := fun q => I1 (by omega)
  refine { base := hb, next := by simpa using hn, held := u1, b0 := hm.b0, n0 := fun q hq => ?_, ne := fun q hq => ?_, range := fun q hq => ?_, low := fun q t ht hs v hr => ?_, high := fun q t ht hs v hbit => ?_, none := fun q t ht hs => ?_ }
  ·show -1 ≤ (m.fNext.set i s.fVersion).getD q 0 ∧ (m.fNext.set i s.fVersion).getD q 0 < _
   rw [hN q]
   split
   ·rename_i e; subst e; omega
   ·exact hm.n0 q hq
  ·show m.fBase.getD q 0 ≠ (m.fNext.set i s.fVersion).getD q 0
   rw [hN q]
   split
   ·rename_i e; subst e; exact fun h => hc (.inr h)
   ·exact hm.ne q hq
  ·have ht : p.fTables[q]? = some p.fTables[q] := by simp [hq]
   show 0 ≤ (Jf p s m.fHeld).getD q 0 ∧ (Jf p s m.fHeld).getD q 0 ≤ 255
   rw [u2 q _ ht, hbv]
   split
   ·exact (Se (hm.range q hq) hob.2).2
   ·exact hm.range q hq
  ·have hq := (lI.1 ht).1
   show Di ((Jf p s m.fHeld).getD q 0) v = true
   have hin := JJ (hp.tab t (lM ht))
   rw [NQ] at hr
   have hr : m.fBase.getD t.fFrom.toNat 0 = (v : Int) ∨ (m.fNext.set i s.fVersion).getD t.fFrom.toNat 0 = (v : Int) := hr
   rw [hN] at hr
   rw [u2 q t ht, hbv]
   have hlow := hm.low q t ht hs v
   rw [NQ] at hlow
   by_cases hf : t.fFrom.toNat = i
   ·have hup : SZ s t = true := by unfold SZ; rw [hs, Bool.and_true, beq_iff_eq, hi]; omega
    rw [if_pos hup, (Se (hm.range q hq) hob.2).1, hob.1 v, Bool.or_eq_true, decide_eq_true_iff]
    rw [if_pos hf] at hr
    rcases hr with h | h
    ·exact .inl (hlow (.inl h))
    ·right; omega
   ·rw [if_neg hf] at hr
    have hup : SZ s t = false := by unfold SZ; rw [hs, Bool.and_true, beq_eq_false_iff_ne, hi]; omega
    rw [hup, if_neg (by simp)]
    exact hlow hr
  ·have hq := (lI.1 ht).1
   have hbit : Di ((Jf p s m.fHeld).getD q 0) v = true := hbit
   have hin := JJ (hp.tab t (lM ht))
   rw [u2 q t ht, hbv] at hbit
   split at hbit
   ·rename_i hup
    rw [(Se (hm.range q hq) hob.2).1, hob.1 v, Bool.or_eq_true, decide_eq_true_iff] at hbit
    rcases hbit with h | h
    ·exact hm.high q t ht hs v h
    ·unfold SZ at hup
     rw [hs, Bool.and_true, beq_iff_eq, hi] at hup
     rw [hup, Int.toNat_natCast]; omega
   ·exact hm.high q t ht hs v hbit
  ·show (Jf p s m.fHeld).getD q 0 = 0
   have hup : SZ s t = false := by unfold SZ; rw [hs, Bool.and_false]
   rw [u2 q t ht, hup, if_neg (by simp)]
   exact hm.none q t ht hs
 ·rename_i hk1
  split at h
  ·rename_i hk3
   have hi3 : i < p.fTables.length := by have := x3 hk3; omega
   have ht0 : p.fTables[i]? = some p.fTables[i] := by simp [hi3]
   rw [ht0] at h
   simp only at h
   split at h
   ·cases h
   rename_i hc
   cases h
   have hin0 := JJ (hp.tab _ (lM ht0))
   have hr0 := Is hp hm.toMixServ (s := (p.fTables[i]).fFrom.toNat) (by omega)
   have hs0 : Ck p.fTables[i] = true := by
    cases hs : Ck p.fTables[i]
    ·exact (hc (.inl hs)).elim
    ·rfl
   have hH : ∀ q, (m.fHeld.set i (GW m (p.fTables[i]).fFrom.toNat)).getD q 0 = if q = i then GW m (p.fTables[i]).fFrom.toNat else m.fHeld.getD q 0 := fun q => I1 (by omega)
   refine { base := hb, next := hn, held := by simpa using hh, b0 := hm.b0, n0 := hm.n0, ne := hm.ne, range := fun q hq => ?_, low := fun q t ht hs v hr => ?_, high := fun q t ht hs v hbit => ?_, none := fun q t ht hs => ?_ }
   ·show 0 ≤ (m.fHeld.set i (GW m (p.fTables[i]).fFrom.toNat)).getD q 0 ∧ (m.fHeld.set i (GW m (p.fTables[i]).fFrom.toNat)).getD q 0 ≤ 255
    rw [hH q]
    split
    ·exact hr0.2
    ·exact hm.range q hq
   ·show Di ((m.fHeld.set i (GW m (p.fTables[i]).fFrom.toNat)).getD q 0) v = true
    have hr : H7 m t.fFrom.toNat v = true := hr
    rw [hH q]
    split
    ·rename_i e; subst e
     rw [ht0] at ht; cases ht
     rw [hr0.1]; exact hr
    ·exact hm.low q t ht hs v hr
   ·have hbit : Di ((m.fHeld.set i (GW m (p.fTables[i]).fFrom.toNat)).getD q 0) v = true := hbit
    rw [hH q] at hbit
    split at hbit
    ·rename_i e; subst e
     rw [ht0] at ht; cases ht
     rw [hr0.1] at hbit
     exact hm.high q _ ht0 hs0 v (hm.low q _ ht0 hs0 v hbit)
    ·exact hm.high q t ht hs v hbit
   ·show (m.fHeld.set i (GW m (p.fTables[i]).fFrom.toNat)).getD q 0 = 0
    rw [hH q, if_neg (fun e => by subst e; rw [ht0] at ht; cases ht; rw [hs0] at hs; cases hs)]
    exact hm.none q t ht hs
  ·rename_i hk3
   have hi1 : i < p.fVersions.length := by have := xn hk3; omega
   have hvi := I6 hp hi1
   split at h
   ·cases h
   rename_i hc
   cases h
   have hN : ∀ q, (m.fNext.set i (-1)).getD q 0 = if q = i then -1 else m.fNext.getD q 0 := fun q => I1 (by omega)
   have hB : ∀ q, (if s.fKind = 2 then m.fBase.set i (m.fNext.getD i 0) else m.fBase).getD q 0 = if s.fKind = 2 ∧ q = i then m.fNext.getD i 0 else m.fBase.getD q 0 := fun q => by
    by_cases hk2 : s.fKind = 2
    ·rw [if_pos hk2, I1 (by omega)]
     by_cases e : q = i
     ·rw [if_pos e, if_pos ⟨hk2, e⟩]
     ·rw [if_neg e, if_neg (fun h => e h.2)]
    ·rw [if_neg hk2, if_neg (fun h => hk2 h.1)]
   have hrun : ∀ q v, H7 ⟨if s.fKind = 2 then m.fBase.set i (m.fNext.getD i 0) else m.fBase, m.fNext.set i (-1), m.fHeld⟩ q v = true → H7 m q v = true := fun q v hr => by
    rw [NQ] at hr ⊢
    simp only [hN q, hB q] at hr
    by_cases e : q = i
    ·subst e
     rw [if_pos rfl] at hr
     by_cases hk2 : s.fKind = 2
     ·rw [if_pos ⟨hk2, rfl⟩] at hr; omega
     ·rw [if_neg (fun h => hk2 h.1)] at hr; omega
    ·rw [if_neg e, if_neg (fun h => e h.2)] at hr; exact hr
   refine { base := by simp only; split <;> simp [hb], next := by simpa using hn, held := hh, b0 := fun q hq => ?_, n0 := fun q hq => ?_, ne := fun q hq => ?_, range := hm.range, low := fun q t ht hs v hr => hm.low q t ht hs v (hrun _ _ hr), high := hm.high, none := hm.none }
   ·simp only [hB q]
    split
    ·rename_i e; obtain ⟨_, e⟩ := e; subst e
     have := hm.n0 q hq
     omega
    ·exact hm.b0 q hq
   ·simp only [hN q]
    split
    ·rename_i e; subst e; omega
    ·exact hm.n0 q hq
   ·simp only [hB q, hN q]
    have h1 := hm.b0 q hq
    by_cases e : q = i
    ·rw [if_pos e]
     split
     ·rename_i e2; obtain ⟨_, e2⟩ := e2; subst e2; omega
     ·omega
    ·rw [if_neg e, if_neg (fun h => e h.2)]; exact hm.ne q hq
theorem PL (N : Nat) (hN : N ≤ 1000000) (h20 : 100 ≤ N) {p : Ak} {m : Ah} (hw : J0 I4 m.fHeld) (s : Av) : EB N p m s = some (if DW p m = 0 then EE p m s else (GR, DW p m)) := by
 unfold EB EE
 rw [Ki N p m hN (by omega)]
 simp only [oS, Be]
 by_cases hval : DW p m = 0
 ·obtain ⟨hp, hm⟩ := HR hw hval
  rw [if_pos hval, hval, bne_self_eq_false, Ax, P2]
  simp only [oS]
  cases hv : Hx s
  ·rw [Bool.not_false, AN, if_pos rfl]; rfl
  ·rw [Bool.not_true, Ax, if_neg (by simp)]
   obtain ⟨k1, k4, i0, v0, vk⟩ := J5 hv
   have key : ∀ b : Bool, Gj p s = b → (if b = false then (GR, (4 : Int)) else match Ga p m s with | none => (GR, 11) | some x => (x, 0)) = (if b = false then (GR, (4 : Int)) else match Ga p m s with | none => (GR, 11) | some x => (x, 0)) := fun _ _ => rfl
   have tail : Gj p s = true → ((C2 N p m s).bind fun v15 => AW (!v15.2) (some (Ah.mk [] [] [], (11 : Int))) (some (v15.1, 0))) = some (match Ga p m s with | none => (GR, 11) | some x => (x, 0)) := fun hx => by
    rw [Mn N hN h20 hp hm hv hx]
    cases Ga p m s <;> rfl
   have zz : (Ah.mk [] [] [], (4 : Int)) = (GR, 4) := rfl
   by_cases hk3 : s.fKind = 3
   ·rw [beq_iff_eq.2 hk3, AN, show (s.fKind != 3) = false from by rw [hk3]; rfl]
    have hX : Gj p s = decide (s.fIndex < (p.fTables.length : Int)) := by unfold Gj; rw [if_pos hk3]
    by_cases c : (p.fTables.length : Int) ≤ s.fIndex
    ·rw [AK c, AN, hX, decide_eq_false (by omega), if_pos rfl]; rfl
    ·have hx : Gj p s = true := by rw [hX, decide_eq_true (by omega)]
     rw [AH c, Ax, Ax, beq_eq_false_iff_ne.2 (show s.fKind ≠ 1 by omega), Ax, Ax, hx, if_neg (by simp)]
     exact tail hx
   ·rw [beq_eq_false_iff_ne.2 hk3, Ax, bne_iff_ne.2 hk3, AN]
    have hX : Gj p s = (decide (s.fIndex < (p.fVersions.length : Int)) && (s.fKind != 1 || decide (s.fVersion < p.fVersions.getD s.fIndex.toNat 0))) := by unfold Gj; rw [if_neg hk3]
    by_cases c : (p.fVersions.length : Int) ≤ s.fIndex
    ·rw [decide_eq_true c, AN, hX, decide_eq_false (show ¬ s.fIndex < (p.fVersions.length : Int) by omega), Bool.false_and, if_pos rfl]; rfl
    ·rw [decide_eq_false c, Ax]
     by_cases hk1 : s.fKind = 1
     ·rw [beq_iff_eq.2 hk1, AN, EP (d := 0) i0 (by omega)]
      simp only [oS]
      by_cases c2 : p.fVersions.getD s.fIndex.toNat 0 ≤ s.fVersion
      ·rw [decide_eq_true c2, AN, hX, decide_eq_false (show ¬ s.fVersion < p.fVersions.getD s.fIndex.toNat 0 by omega), show (s.fKind != 1) = false from by rw [hk1]; rfl, Bool.false_or, Bool.and_false, if_pos rfl]; rfl
      ·have hx : Gj p s = true := by rw [hX, decide_eq_true (by omega), decide_eq_true (by omega), Bool.or_true]; rfl
       rw [decide_eq_false c2, Ax, hx, if_neg (by simp)]
       exact tail hx
     ·have hx : Gj p s = true := by rw [hX, decide_eq_true (by omega), bne_iff_ne.2 hk1]; rfl
      rw [beq_eq_false_iff_ne.2 hk1, Ax, Ax, hx, if_neg (by simp)]
      exact tail hx
 ·rw [if_neg hval, bne_iff_ne.2 hval, AN]; rfl
theorem O1 (N : Nat) (hN : N ≤ 1000000) (h20 : 100 ≤ N) {p : Ak} {m : Ah} (hw : J0 I4 m.fHeld) (s : Av) : FA N p m s = some (if DW p m = 0 then EE p m s else (GR, DW p m)) := by
 unfold FA
 rw [IL N p m hN (by omega) hw]
 simp only [oS]
 by_cases hval : DW p m = 0
 ·obtain ⟨hp, hm⟩ := HR hw hval
  rw [if_pos hval, hval, bne_self_eq_false, Ax, OO N hN h20 hp hm s]; rfl
 ·rw [if_neg hval, bne_iff_ne.2 hval, AN]; rfl
theorem MX {p : Ak} {m : Ah} (hp : B7 p) (hm : EH p m) {s : Av} (h : (EE p m s).2 = 0) : EH p (EE p m s).1 := by
 unfold EE at h ⊢
 split at h
 ·cases h
 rename_i h1
 rw [if_neg h1]
 split at h
 ·cases h
 rename_i h2
 rw [if_neg h2]
 cases ha : Ga p m s with
 | none => rw [ha] at h; cases h
 | some x => exact TO hp hm (by simpa using h1) (by simpa using h2) ha
end Go.Lift
namespace Go.Lift
open Go
section
variable {N : Nat} {p : Ak} {l : List Av}
end
end Go.Lift
namespace Go.Lift
open Go
structure XV (p : Ak) (m x : Ah) : Prop where
 base : m.fBase = x.fBase
 next : m.fNext = x.fNext
 held : ∀ i, i < p.fTables.length → ∀ v, Di (m.fHeld.getD i 0) v = true → Di (x.fHeld.getD i 0) v = true
theorem XV.refl (p : Ak) (m : Ah) : XV p m m := ⟨rfl, rfl, fun _ _ _ h => h⟩
theorem XV.trans {p : Ak} {a b c : Ah} (h : XV p a b) (g : XV p b c) : XV p a c := ⟨h.base.trans g.base, h.next.trans g.next, fun i hi v hv => g.held i hi v (h.held i hi v hv)⟩
end Go.Lift
namespace Go.Lift
open Option renaming bind_some → oS
open List renaming mem_of_getElem? → lM
open List renaming getElem?_eq_some_iff → lI
open Go
def MI (i : Nat) (n : Int) : List Av := (List.range n.toNat).map fun v => ⟨1, (i : Int), ((v : Nat) : Int), ⟩
def Hd (p : Ak) : List Av := D7 MI 0 p.fVersions ++ ((List.range p.fVersions.length).map fun i => (⟨2, ((i : Nat) : Int), 0⟩ : Av)) ++ ((List.range p.fTables.length).map fun i => (⟨3, ((i : Nat) : Int), 0⟩ : Av))
def Gf (p : Ak) (m : Ah) : List Av := (Hd p).filter fun s => (EE p m s).2 == 0
theorem Sw {p : Ak} (hp : B7 p) : (Hd p).length ≤ 54 := by
 have h1 : (D7 MI 0 p.fVersions).length ≤ 6 * p.fVersions.length := FG fun j x hx => by
  have := hp.ver x (lM hx)
  simp [MI]; omega
 have := hp.nv
 have := hp.nt
 unfold Hd
 simp only [List.length_append, List.length_map, List.length_range]
 omega
theorem Rm (N : Nat) (hN : N ≤ 1000000) (h20 : 100 ≤ N) {p : Ak} (hp : B7 p) : Im N p = some (Hd p) := by
 have hnv := hp.nv
 have hnt := hp.nt
 unfold Im
 have l1 := F7 (Dq N p fun v2 => CD N p (fun v10 => BK N p (fun v14 => some v14) N (v10, 0)) N (v2, 0)) (fun a i => (a, i)) p.fVersions (fun v2 => CD N p (fun v10 => BK N p (fun v14 => some v14) N (v10, 0)) N (v2, 0)) MI 6 100
  (fun i x hx => by have := hp.ver x (lM hx); simp [MI]; omega)
  (fun n i x a hx hl => by
   have hi := (lI.1 hx).1
   have hx6 := hp.ver x (lM hx)
   obtain ⟨k, hk⟩ := Int.eq_ofNat_of_zero_le (show 0 ≤ x by omega)
   rw [Dq, AK (by simp only; omega)]
   simp only [Bn, hx, oS, AZ (show i < 1000000 by omega)]
   subst hk
   obtain ⟨a', e, ha⟩ := Fb (EJ N (a, (i : Int)) (k : Int) fun v6 => Dq N p (fun v2 => CD N p (fun v10 => BK N p (fun v14 => some v14) N (v10, 0)) N (v2, 0)) n (v6, ((i + 1 : Nat) : Int))) (fun b v => (b, v)) k (fun v6 => Dq N p (fun v2 => CD N p (fun v10 => BK N p (fun v14 => some v14) N (v10, 0)) N (v2, 0)) n (v6, ((i + 1 : Nat) : Int)))
    (fun v b => b = a ++ (List.range v).map fun v => (⟨1, (i : Int), ((v : Nat) : Int)⟩ : Av))
    (fun n v b hv hb => by
     subst hb
     rw [EJ, AK (by simp only; omega), AD (by simp [D2]; simp [MI] at hl; omega), AZ (by omega)]
     exact ⟨_, rfl, by rw [List.range_succ, List.map_append, List.append_assoc]; rfl⟩)
    (fun n b hb => by rw [EJ, AH (by simp)]) N 0 a (Nat.zero_le _) (by omega) (by simp)
   have e' : EJ N (a, (i : Int)) (k : Int) (fun v6 => Dq N p (fun v2 => CD N p (fun v10 => BK N p (fun v14 => some v14) N (v10, 0)) N (v2, 0)) n (v6, ((i + 1 : Nat) : Int))) N (a, 0) = _ := e
   rw [e', ha]; rfl)
  (fun n a => by rw [Dq, AH (by simp)]) N [] (by omega) (by simp; omega)
 have l1' : Dq N p (fun v2 => CD N p (fun v10 => BK N p (fun v14 => some v14) N (v10, 0)) N (v2, 0)) N (([] : List Av), 0) = _ := l1
 rw [l1', List.nil_append]
 have hA : (D7 MI 0 p.fVersions).length ≤ 6 * p.fVersions.length := FG fun j x hx => by
  have := hp.ver x (lM hx)
  simp [MI]; omega
 generalize hAe : D7 MI 0 p.fVersions = A at hA
 obtain ⟨b', e2, hb⟩ := Fb (CD N p fun v10 => BK N p (fun v14 => some v14) N (v10, 0)) (fun b v => (b, v)) p.fVersions.length (fun v10 => BK N p (fun v14 => some v14) N (v10, 0))
  (fun v b => b = A ++ (List.range v).map fun i => (⟨2, ((i : Nat) : Int), 0⟩ : Av))
  (fun n v b hv hb => by
   subst hb
   rw [CD, AK (by simp only; omega), AD (by simp [D2]; omega), AZ (by omega)]
   exact ⟨_, rfl, by rw [List.range_succ, List.map_append, List.append_assoc]; rfl⟩)
  (fun n b hb => by rw [CD, AH (by simp)]) N 0 A (Nat.zero_le _) (by omega) (by simp)
 have e2' : CD N p (fun v10 => BK N p (fun v14 => some v14) N (v10, 0)) N (A, 0) = _ := e2
 rw [e2', hb]
 generalize hBe : A ++ (List.range p.fVersions.length).map (fun i => (⟨2, ((i : Nat) : Int), 0⟩ : Av)) = B
 have hB : B.length ≤ 50 := by rw [← hBe]; simp; omega
 obtain ⟨c', e3, hc⟩ := Fb (BK N p fun v14 => some v14) (fun b v => (b, v)) p.fTables.length (fun v14 => some v14)
  (fun v b => b = B ++ (List.range v).map fun i => (⟨3, ((i : Nat) : Int), 0⟩ : Av))
  (fun n v b hv hb => by
   subst hb
   rw [BK, AK (by simp only; omega), AD (by simp [D2]; omega), AZ (by omega)]
   exact ⟨_, rfl, by rw [List.range_succ, List.map_append, List.append_assoc]; rfl⟩)
  (fun n b hb => by rw [BK, AH (by simp)]) N 0 B (Nat.zero_le _) (by omega) (by simp)
 have e3' : BK N p (fun v14 => some v14) N (B, 0) = _ := e3
 rw [e3', hc, ← hBe, ← hAe]; rfl
end Go.Lift
namespace Go.Lift
open Option renaming bind_some → oS
open List renaming mem_of_getElem? → lM
open List renaming getElem?_eq_some_iff → lI
open List renaming getD_eq_getElem?_getD → lD
open Go
theorem O6 {p : Ak} (hp : B7 p) {s : Av} (h : s ∈ Hd p) : Hx s = true ∧ Gj p s = true := by
 have hnv := hp.nv
 unfold Hd at h
 rcases List.mem_append.1 h with h | h
 ·rcases List.mem_append.1 h with h | h
  ·obtain ⟨j, x, hx, hk⟩ := Lj.1 h
   rw [Nat.zero_add] at hk
   unfold MI at hk
   obtain ⟨v, hv, rfl⟩ := List.mem_map.1 hk
   have hx6 := hp.ver x (lM hx)
   have hv := List.mem_range.1 hv
   have hj := (lI.1 hx).1
   refine ⟨by unfold Hx; simp, ?_⟩
   unfold Gj
   have e : p.fVersions.getD j 0 = x := by rw [lD, hx]; rfl
   simp only
   rw [if_neg (by omega), decide_eq_true (by omega), Int.toNat_natCast, e, decide_eq_true (by omega), Bool.or_true]; rfl
  ·obtain ⟨v, hv, rfl⟩ := List.mem_map.1 h
   have hv := List.mem_range.1 hv
   refine ⟨by unfold Hx; simp, ?_⟩
   unfold Gj
   simp only
   rw [if_neg (by omega), decide_eq_true (by omega)]; rfl
 ·obtain ⟨v, hv, rfl⟩ := List.mem_map.1 h
  have hv := List.mem_range.1 hv
  refine ⟨by unfold Hx; simp, ?_⟩
  unfold Gj
  simp only
  rw [if_pos trivial, decide_eq_true (by omega)]
theorem UZ {p : Ak} {m : Ah} {s : Av} (hv : Hx s = true) (hx : Gj p s = true) : ((EE p m s).2 == 0) = (Ga p m s).isSome := by
 unfold EE
 rw [hv, hx, if_neg (by simp), if_neg (by simp)]
 cases Ga p m s <;> rfl
theorem Ri (N : Nat) (hN : N ≤ 1000000) (h20 : 100 ≤ N) {p : Ak} {m : Ah} (hp : B7 p) (hm : EH p m) {s : Av} (h : s ∈ Hd p) :
  DL N s p.fVersions p.fNow p.fTarget p.fTables m.fBase m.fNext m.fHeld = some (!((EE p m s).2 == 0)) := by
 obtain ⟨hv, hx⟩ := O6 hp h
 unfold DL
 obtain ⟨o, e, _⟩ := Lv N hN h20 hp hm hv hx
 have e' : Fx N ⟨p.fVersions, p.fNow, p.fTarget, p.fTables⟩ ⟨m.fBase, m.fNext, m.fHeld⟩ s = some (o, (Ga p m s).isSome) := e
 rw [e', UZ hv hx]; rfl
theorem R2 (N : Nat) (hN : N ≤ 1000000) (a : List Av) (f : Av → Option Bool) (g : Av → Bool) (h : a.length < N) (hf : ∀ x, x ∈ a → f x = some (g x)) :
  B0 N a f = some ((DE (fun i x => if g x = true then some (i : Int) else none) 0 a).getD (-1)) := by
 unfold B0
 have := Dh (Bm N a f fun _ => some (-1)) a (some (-1)) (fun i x => if g x = true then some (i : Int) else none)
  (fun n i x hx => by
   have hi := (lI.1 hx).1
   rw [Bm, AK (by omega), Bn, hx]
   simp only [oS]
   rw [hf x (lM hx), AZ (by omega)]
   simp only [oS]
   cases g x <;> rfl)
  (fun n => by rw [Bm, AH (by simp)]) N 0 (Nat.zero_le _) (by omega)
 refine this.trans ?_
 rw [List.drop_zero]
 cases DE (fun i x => if g x = true then some (i : Int) else none) 0 a <;> rfl
theorem O0 {α : Type} {l : List α} {i : Nat} {v : α} (h : i < l.length) : (l.set i v).take (i + 1) = l.take i ++ [v] := by
 rw [List.take_add_one, List.take_set_of_le (Nat.le_refl i)]
 congr 1
 simp [h]
theorem QQ (N : Nat) (hN : N ≤ 1000000) (a : List Av) (f : Av → Option Bool) (g : Av → Bool) (h : a.length < N) (h9 : a.length ≤ 1000) (hf : ∀ x, x ∈ a → f x = some (g x)) :
  ∃ X n, BX N a f = some (n, X) ∧ n ≤ X.length ∧ X.take n = a.filter fun x => !g x := by
 unfold BX
 rw [R2 N hN a f g h hf]
 simp only [oS]
 cases hs : DE (fun i x => if g x = true then some (i : Int) else none) 0 a with
 | none =>
  refine ⟨a, a.length, rfl, Nat.le_refl _, ?_⟩
  rw [List.take_length]
  symm
  rw [List.filter_eq_self]
  intro x hx
  obtain ⟨j, hj⟩ := List.mem_iff_getElem?.1 hx
  have := GH hs j x hj
  cases hg : g x
  ·rfl
  ·rw [hg] at this; cases this
 | some r =>
  obtain ⟨j, x, hx, hr⟩ := E1 hs
  rw [Nat.zero_add] at hr
  split at hr
  ·rename_i hg
   cases hr
   have hj := (lI.1 hx).1
   have e0 : ((some (j : Int)).getD (-1) == (-1 : Int)) = false := beq_eq_false_iff_ne.2 (by simp only [Option.getD_some]; omega)
   rw [e0, Ax]
   simp only [Option.getD_some]
   rw [AZ (by omega)]
   -- what lies before the first that goes is kept
   have hpre : (a.take (j + 1)).filter (fun x => !g x) = a.take j := by
    rw [List.take_add_one, hx, List.filter_append]
    have h1 : (a.take j).filter (fun x => !g x) = a.take j := by
     rw [List.filter_eq_self]
     intro y hy
     obtain ⟨q, hq⟩ := List.mem_iff_getElem?.1 hy
     have hql := (lI.1 hq).1
     simp at hql
     rw [List.getElem?_take_of_lt (by omega)] at hq
     cases hgy : g y
     ·rfl
     ·exfalso
      have : ∀ (xs : List Av) (i j q : Nat) (y : Av), DE (fun i x => if g x = true then some (i : Int) else none) i xs = some ((i + j : Nat) : Int) → q < j → xs[q]? = some y → g y = true → False := by
       intro xs
       induction xs with
       | nil => intro i j q y _ _ hq; simp at hq
       | cons z zs ih =>
        intro i j q y hs hqj hq hgy
        rw [HB] at hs
        cases hz : g z
        ·rw [hz] at hs
         cases q with
         | zero => simp at hq; subst hq; rw [hz] at hgy; cases hgy
         | succ q =>
          cases j with
          | zero => omega
          | succ j => exact ih (i + 1) j q y (by rw [show i + 1 + j = i + (j + 1) from by omega]; exact hs) (by omega) (by simpa using hq) hgy
        ·rw [hz] at hs
         have hs : (some (i : Int)) = some ((i + j : Nat) : Int) := hs
         have := Option.some.inj hs
         omega
      exact this a 0 j q y (by rw [Nat.zero_add]; exact hs) (by omega) hq hgy
    rw [h1]
    simp [hg]
   obtain ⟨b, e, hb⟩ := Fb (Bc N f fun v4 => (DN ((0 : Int) ≤ v4.2 ∧ (v4.2).toNat ≤ v4.1.length ∧ v4.1.length ≤ v4.1.length)).bind fun _ =>
     (DN ((0 : Int) ≤ v4.2 ∧ 0 ≤ (v4.2).toNat ∧ (v4.2).toNat ≤ (H5 v4.1 ((v4.2).toNat) (List.replicate ((v4.1.length - (v4.2).toNat)) ((Av.mk 0 0 0)))).length)).bind fun _ =>
     some ((v4.2).toNat, H5 v4.1 ((v4.2).toNat) (List.replicate ((v4.1.length - (v4.2).toNat)) ((Av.mk 0 0 0)))))
    (fun (b : List Av × Nat) i => (b.1, ((b.2 : Nat) : Int), i)) a.length (fun b => (DN ((0 : Int) ≤ ((b.2 : Nat) : Int) ∧ (((b.2 : Nat) : Int)).toNat ≤ b.1.length ∧ b.1.length ≤ b.1.length)).bind fun _ =>
     (DN ((0 : Int) ≤ ((b.2 : Nat) : Int) ∧ 0 ≤ (((b.2 : Nat) : Int)).toNat ∧ (((b.2 : Nat) : Int)).toNat ≤ (H5 b.1 ((((b.2 : Nat) : Int)).toNat) (List.replicate ((b.1.length - (((b.2 : Nat) : Int)).toNat)) ((Av.mk 0 0 0)))).length)).bind fun _ =>
     some ((((b.2 : Nat) : Int)).toNat, H5 b.1 ((((b.2 : Nat) : Int)).toNat) (List.replicate ((b.1.length - (((b.2 : Nat) : Int)).toNat)) ((Av.mk 0 0 0)))))
    (fun i b => b.1.length = a.length ∧ b.2 ≤ i ∧ b.1.drop i = a.drop i ∧ b.1.take b.2 = (a.take i).filter fun x => !g x)
    (fun n i b hi hb => by
     obtain ⟨b1, b2, b3, b4⟩ := hb
     rw [Bc, AK (by simp only; omega)]
     have hai : a[i]? = some a[i] := by simp [hi]
     have hbi : b.1[i]? = some a[i] := by
      have := congrArg (fun l => l[0]?) b3
      simp only [List.getElem?_drop, Nat.add_zero] at this
      rw [this, hai]
     simp only [Be, Bn, hbi, oS]
     rw [hf a[i] (List.getElem_mem hi), AZ (i := i) (by omega)]
     simp only [oS]
     have hnext : b.1.drop (i + 1) = a.drop (i + 1) := by
      have := congrArg (List.drop 1) b3
      rwa [List.drop_drop, List.drop_drop] at this
     cases hgi : g a[i]
     ·rw [Bool.not_false, AN]
      have hbj : b.1[b.2]? = some b.1[b.2] := by simp [show b.2 < b.1.length from by omega]
      rw [hbj, AZ (i := b.2) (by omega)]
      refine ⟨(b.1.set b.2 a[i], b.2 + 1), rfl, by simpa using b1, by simp only; omega, ?_, ?_⟩
      ·simp only
       rw [List.drop_set_of_lt (by omega), hnext]
      ·simp only
       rw [O0 (by omega), b4, List.take_add_one, hai, List.filter_append]
       simp [hgi]
     ·rw [Bool.not_true, Ax]
      refine ⟨b, rfl, b1, by omega, hnext, ?_⟩
      rw [b4, List.take_add_one, hai, List.filter_append]
      simp [hgi])
    (fun n b hb => by rw [Bc, AH (by simp [hb.1])]) N (j + 1) (a, j) (by omega) (by omega) ⟨rfl, by simp only; omega, rfl, hpre.symm⟩
   obtain ⟨b1, b2, b3, b4⟩ := hb
   have e' : Bc N f (fun v4 => (DN ((0 : Int) ≤ v4.2 ∧ (v4.2).toNat ≤ v4.1.length ∧ v4.1.length ≤ v4.1.length)).bind fun _ =>
     (DN ((0 : Int) ≤ v4.2 ∧ 0 ≤ (v4.2).toNat ∧ (v4.2).toNat ≤ (H5 v4.1 ((v4.2).toNat) (List.replicate ((v4.1.length - (v4.2).toNat)) ((Av.mk 0 0 0)))).length)).bind fun _ =>
     some ((v4.2).toNat, H5 v4.1 ((v4.2).toNat) (List.replicate ((v4.1.length - (v4.2).toNat)) ((Av.mk 0 0 0))))) N (a, (j : Int), ((j + 1 : Nat) : Int)) = _ := e
   rw [e']
   have hsl : (H5 b.1 b.2 (List.replicate (b.1.length - b.2) (Av.mk 0 0 0))).length = b.1.length := Ja (by rw [List.length_replicate]; omega)
   simp only [Int.toNat_natCast]
   rw [AD ⟨by omega, by omega, Nat.le_refl _⟩, AD ⟨by omega, by omega, by rw [hsl]; omega⟩]
   refine ⟨_, _, rfl, by rw [hsl]; omega, ?_⟩
   unfold H5
   rw [List.append_assoc, List.take_append_of_le_length (by simp; omega), List.take_take, Nat.min_self, b4, List.take_length]
  ·cases hr
theorem Sd (N : Nat) (hN : N ≤ 1000000) (h20 : 100 ≤ N) {p : Ak} {m : Ah} (hv : DT p = 0) (hm : EH p m) : DX N p m = some (Gf p m, 0) := by
 obtain ⟨hp, _⟩ := E7 hv
 unfold DX
 rw [IL N p m hN (by omega) (Pd hm), Mz hv hm]
 simp only [oS, bne_self_eq_false, Ax]
 rw [Rm N hN h20 hp]
 simp only [oS]
 have hl := Sw hp
 obtain ⟨X, n, e, h1, h2⟩ := QQ N hN (Hd p) (fun x => DL N x p.fVersions p.fNow p.fTarget p.fTables m.fBase m.fNext m.fHeld) (fun s => !((EE p m s).2 == 0)) (by omega) (by omega) (fun x hx => Ri N hN h20 hp hm hx)
 rw [e]
 simp only [oS]
 rw [AD h1, h2]
 unfold Gf
 simp
theorem Iq {β : Type} (g : Nat → List β) : ∀ n : Nat, D7 (fun i (_ : Nat) => g i) 0 (List.range n) = (List.range n).flatMap g
 | 0 => rfl
 | n + 1 => by rw [List.range_succ, Md, Iq g n, List.flatMap_append]; simp [D7]
def Vs (p : Ak) (m : Ah) (s : Av) : Bool := (EE p m s).2 == 0
def gS (p : Ak) (m : Ah) (k : Int) (i v : Nat) : List Av := if Vs p m ⟨k, (i : Int), (v : Int)⟩ = true then [⟨k, (i : Int), (v : Int)⟩] else []
def bS (p : Ak) (m : Ah) (k : Int) (i : Nat) : List Av := (List.range 6).flatMap (gS p m k i)
def R4 (p : Ak) : Nat := max p.fVersions.length p.fTables.length
def kS (p : Ak) (m : Ah) (k : Int) : List Av := (List.range (R4 p)).flatMap (bS p m k)
theorem KW {β : Type} (f : Nat → β) (q : β → Bool) : ∀ n : Nat, ((List.range n).flatMap fun v => if q (f v) = true then [f v] else []) = ((List.range n).map f).filter q
 | 0 => rfl
 | n + 1 => by
  rw [List.range_succ, List.flatMap_append, KW f q n, List.map_append, List.filter_append]
  cases h : q (f n) <;> simp [h]
theorem KP {β : Type} (g : Nat → List β) (a : Nat) (h : ∀ v, a ≤ v → g v = []) : ∀ n, a ≤ n → (List.range n).flatMap g = (List.range a).flatMap g
 | 0, hn => by rw [Nat.le_zero.1 hn]
 | n + 1, hn => by
  by_cases h1 : a = n + 1
  ·rw [h1]
  ·rw [List.range_succ, List.flatMap_append, KP g a h n (by omega)]
   simp [h n (by omega)]
theorem UG (p : Ak) (m : Ah) (k : Int) (i v : Nat) : (gS p m k i v).length ≤ 1 := by unfold gS; split <;> simp
theorem Ut (p : Ak) (m : Ah) (k : Int) (i : Nat) : (bS p m k i).length ≤ 6 := by
 unfold bS
 rw [← Iq]
 have := FG (g := fun i' (_ : Nat) => gS p m k i i') (c := 1) (i := 0) (xs := List.range 6) fun j x _ => UG p m k i _
 simpa using this
theorem Xy {p : Ak} (hp : B7 p) (m : Ah) (k : Int) : (kS p m k).length ≤ 72 := by
 have h1 := hp.nv
 have h2 := hp.nt
 unfold kS
 rw [← Iq]
 have := FG (g := fun i' (_ : Nat) => bS p m k i') (c := 6) (i := 0) (xs := List.range (R4 p)) fun j x _ => Ut p m k _
 simp only [List.length_range] at this
 have h3 : R4 p ≤ 12 := by unfold R4; omega
 omega
theorem XA {p : Ak} {m : Ah} {s : Av} (h : Vs p m s = true) : Hx s = true ∧ Gj p s = true := by
 unfold Vs EE at h
 split at h
 ·cases h
 ·rename_i h1
  split at h
  ·cases h
  ·rename_i h2
   exact ⟨by simpa using h1, by simpa using h2⟩
theorem Mj {p : Ak} {m : Ah} {k : Int} {i v : Nat} (h : Vs p m ⟨k, (i : Int), (v : Int)⟩ = true) : (k = 3 → i < p.fTables.length) ∧ (k ≠ 3 → i < p.fVersions.length) ∧ (k = 1 → (v : Int) < p.fVersions.getD i 0) ∧ (k ≠ 1 → v = 0) := by
 obtain ⟨h1, h2⟩ := XA h
 obtain ⟨a1, a2, a3, a4, a5⟩ := J5 h1
 obtain ⟨b1, b2, b3⟩ := Le h2
 simp only [Int.toNat_natCast] at *
 exact ⟨fun e => by have := b1 e; omega, fun e => by have := b2 e; omega, b3, fun e => by have := a5 e; omega⟩
theorem TJ {p : Ak} (hp : B7 p) (m : Ah) : kS p m 1 ++ kS p m 2 ++ kS p m 3 = Gf p m := by
 have hnv := hp.nv
 have hnt := hp.nt
 unfold Gf Hd
 rw [List.filter_append, List.filter_append]
 have e1 : kS p m 1 = (D7 MI 0 p.fVersions).filter fun s => (EE p m s).2 == 0 := by
  unfold kS
  rw [KP (bS p m 1) p.fVersions.length (fun i hi => by
   unfold bS
   rw [List.flatMap_eq_nil_iff]
   intro v _
   unfold gS
   rw [if_neg]
   intro h
   have := (Mj h).2.1 (by decide)
   omega) (R4 p) (by unfold R4; omega)]
  have e : ∀ (xs : List Int) (i : Nat), (∀ j x, xs[j]? = some x → 1 ≤ x ∧ x ≤ 6 ∧ p.fVersions.getD (i + j) 0 = x) → ((List.range xs.length).flatMap fun j => bS p m 1 (i + j)) = (D7 MI i xs).filter fun s => (EE p m s).2 == 0 := by
   intro xs
   induction xs with
   | nil => intro i _; rfl
   | cons x xs ih =>
    intro i hx
    rw [List.length_cons, List.range_succ_eq_map, List.flatMap_cons, List.flatMap_map, D7, List.filter_append]
    have ih' := ih (i + 1) (fun j y hy => by
     have := hx (j + 1) y (by simpa using hy)
     rw [show i + 1 + j = i + (j + 1) from by omega]; exact this)
    have hx0 := hx 0 x rfl
    rw [Nat.add_zero] at hx0
    congr 1
    ·rw [Nat.add_zero]
     unfold bS MI
     rw [KP (gS p m 1 i) x.toNat (fun v hv => by
      unfold gS
      rw [if_neg]
      intro h
      have := (Mj h).2.2.1 rfl
      rw [hx0.2.2] at this
      omega) 6 (by omega)]
     exact KW (fun v => (⟨1, (i : Int), ((v : Nat) : Int)⟩ : Av)) (Vs p m) x.toNat
    ·rw [← ih']
     congr 1
     funext j
     rw [show i + (j + 1) = i + 1 + j from by omega]
  have := e p.fVersions 0 (fun j x hx => by
   have h1 := hp.ver x (lM hx)
   refine ⟨h1.1, h1.2, ?_⟩
   rw [Nat.zero_add, lD, hx]; rfl)
  simp only [Nat.zero_add] at this
  exact this
 have e23 : ∀ (k : Int) (n : Nat), k ≠ 1 → n ≤ R4 p → (∀ i v, Vs p m ⟨k, ((i : Nat) : Int), ((v : Nat) : Int)⟩ = true → i < n) → kS p m k = (((List.range n).map fun i => (⟨k, ((i : Nat) : Int), 0⟩ : Av)).filter fun s => (EE p m s).2 == 0) := by
  intro k n hk hn hi
  unfold kS
  rw [KP (bS p m k) n (fun i hi' => by
   unfold bS
   rw [List.flatMap_eq_nil_iff]
   intro v _
   unfold gS
   rw [if_neg]
   intro h
   have := hi i v h
   omega) (R4 p) hn]
  show _ = List.filter (Vs p m) _
  rw [← KW (fun i => (⟨k, ((i : Nat) : Int), 0⟩ : Av)) (Vs p m) n]
  congr 1
  funext i
  unfold bS
  rw [KP (gS p m k i) 1 (fun v hv => by
   unfold gS
   rw [if_neg]
   intro h
   have := (Mj h).2.2.2 hk
   omega) 6 (by omega)]
  simp [gS]
 rw [e1, e23 2 p.fVersions.length (by decide) (by unfold R4; omega) (fun i v h => (Mj h).2.1 (by decide)), e23 3 p.fTables.length (by decide) (by unfold R4; omega) (fun i v h => (Mj h).1 rfl)]
theorem QN (a b : Nat) : Tq (a : Int) (b : Int) = ((max a b : Nat) : Int) := by
 unfold Tq
 omega
theorem Qs (N : Nat) (hN : N ≤ 1000000) (h20 : 100 ≤ N) {p : Ak} {m : Ah} (hv : DT p = 0) (hm : EH p m) : EL N p m = some (Gf p m) := by
 obtain ⟨hp, _⟩ := E7 hv
 have hnv := hp.nv
 have hnt := hp.nt
 have hmx : R4 p ≤ 12 := by unfold R4; omega
 unfold EL
 have hmix := Mz hv hm
 -- one number
 have inn : ∀ (k : Int) (c0 a : List Av) (i : Nat) (d0 : List Av) (j : List Av → Option (List Av)), a.length ≤ 1000 →
   Cr N p m (c0, k) (d0, (i : Int)) j N (a, 0) = j (a ++ bS p m k i) := by
  intro k c0 a i d0 j ha
  have := F7 (Cr N p m (c0, k) (d0, (i : Int)) j) (fun a i => (a, i)) (List.range 6) j (fun v _ => gS p m k i v) 1 2000
   (fun v x _ => UG _ _ _ _ _)
   (fun n v x a hx hl => by
    have hi := (lI.1 hx).1
    simp only [List.length_range] at hi
    rw [Cr, AK (by simp only; omega)]
    simp only [Be]
    rw [PL N hN h20 (Pd hm), if_pos hmix]
    simp only [oS, AZ (show v < 1000000 by omega)]
    unfold gS Vs
    cases hq : (EE p m ⟨k, (i : Int), (v : Int)⟩).2 == 0
    ·rw [Ax, if_neg (by simp), List.append_nil]
    ·rw [AN, if_pos rfl, AD (by simp [D2]; unfold gS Vs at hl; rw [hq] at hl; simp at hl; omega)])
   (fun n a => by rw [Cr, AH (by simp)]) N a (by simp; omega) (by simp; omega)
  rw [Iq] at this
  exact this
 have mid : ∀ (k : Int) (c0 a : List Av) (j : List Av → Option (List Av)), a.length ≤ 500 →
   Cs N p m (c0, k) j N (a, 0) = j (a ++ kS p m k) := by
  intro k c0 a j ha
  have := F7 (Cs N p m (c0, k) j) (fun a i => (a, i)) (List.range (R4 p)) j (fun i _ => bS p m k i) 6 900
   (fun v x _ => Ut _ _ _ _)
   (fun n i x a hx hl => by
    have hi := (lI.1 hx).1
    simp only [List.length_range] at hi
    rw [Cs, AK (by simp only; rw [QN]; unfold R4 at hi; omega)]
    rw [inn k c0 a i a _ (by omega)]
    simp only [AZ (show i < 1000000 by omega)])
   (fun n a => by rw [Cs, AH (by simp [QN, R4])]) N a (by simp; omega) (by simp; omega)
  rw [Iq] at this
  exact this
 have hk := Xy hp m
 have go : ∀ (k : Int) (n : Nat) (a : List Av), k ≤ 3 → 1 ≤ k → a.length ≤ 300 → BN N p m (fun v2 => some v2) (n + 1) (a, k) = BN N p m (fun v2 => some v2) n (a ++ kS p m k, k + 1) := by
  intro k n a h1 h2 ha
  rw [BN, AK h1]
  rw [mid k a a _ (by omega), CM (by omega) (by omega)]
 obtain ⟨N', hN'⟩ : ∃ q, N = q + 4 := ⟨N - 4, by omega⟩
 have e0 : BN N p m (fun v2 => some v2) N ([], 1) = BN N p m (fun v2 => some v2) (N' + 4) ([], 1) := by rw [hN']
 rw [e0, go 1 (N' + 3) [] (by decide) (by decide) (by simp), List.nil_append]
 rw [show (1 : Int) + 1 = 2 from rfl, go 2 (N' + 2) _ (by decide) (by decide) (by have := hk 1; omega)]
 rw [show (2 : Int) + 1 = 3 from rfl, go 3 (N' + 1) _ (by decide) (by decide) (by have h1 := hk 1; have h2 := hk 2; rw [List.length_append]; omega)]
 rw [BN, AH (by simp), TJ hp]
end Go.Lift
namespace Go.Lift
namespace Bfs
section
variable {α σ : Type}
def code (rk : σ → Nat) (K : Nat) (w : List σ) : Nat := w.foldl (fun c s => c * K + rk s) 0
def Z0 (rk : σ → Nat) (K : Nat) (w : List σ) : Prop := ∀ s, s ∈ w → 1 ≤ rk s ∧ rk s ≤ K
theorem Z0.snoc {rk : σ → Nat} {K : Nat} {w : List σ} {s : σ} (h : Z0 rk K w) (hs : 1 ≤ rk s ∧ rk s ≤ K) : Z0 rk K (w ++ [s]) := by
 intro x hx; rcases List.mem_append.1 hx with h1 | h1
 ·exact h x h1
 ·rw [List.mem_singleton.1 h1]; exact hs
abbrev Nd (α σ : Type) := α × Int × σ
def put [DecidableEq α] (i : Nat) (l : List (Nd α σ)) (q : σ × α) : List (Nd α σ) := if (l.any fun n => decide (n.1 = q.2)) = true then l else l ++ [(q.2, (i : Int), q.1)]
def UF [DecidableEq α] (most i : Nat) : List (σ × α) → List (Nd α σ) → Option (List (Nd α σ))
 | [], l => some l
 | q :: qs, l => if most < (put i l q).length then none else UF most i qs (put i l q)
def go [DecidableEq α] (nxt : α → List (σ × α)) (most : Nat) : Nat → Nat → List (Nd α σ) → Option (List (Nd α σ))
 | 0, _, _ => none
 | n + 1, i, l => match l[i]? with
  | none => some l
  | some nd => (UF most i (nxt nd.1) l).bind fun l' => go nxt most n (i + 1) l'
def run (nxt : α → List (σ × α)) (x : α) : List σ → α → Prop
 | [], y => y = x
 | s :: w, y => ∃ z, (s, z) ∈ nxt x ∧ run nxt z w y
theorem Jh {nxt : α → List (σ × α)} : ∀ {u w : List σ} {x y : α}, run nxt x (u ++ w) y ↔ ∃ z, run nxt x u z ∧ run nxt z w y
 | [], w, x, y => by simp [run]
 | s :: u, w, x, y => by
  simp only [List.cons_append, run]
  constructor
  ·rintro ⟨z, h1, h2⟩
   obtain ⟨z', h3, h4⟩ := Jh.1 h2
   exact ⟨z', ⟨z, h1, h3⟩, h4⟩
  ·rintro ⟨z', ⟨z, h1, h3⟩, h4⟩
   exact ⟨z, h1, Jh.2 ⟨z', h3, h4⟩⟩
end
end Bfs
end Go.Lift
namespace Go.Lift
open Go
theorem Oy : ∀ {l : List Int}, PC l = 0 → ∀ x, x ∈ l → x = 0
 | [], _, x, hx => by cases hx
 | y :: ys, h, x, hx => by
  unfold PC at h
  split at h
  ·rename_i hy
   rcases List.mem_cons.1 hx with rfl | hx
   ·exact hy
   ·exact Oy h x hx
  ·rename_i hy; exact absurd h hy
theorem Tf {a b : Ah} (h : Tj a b = 0) : a = b := by
 have := Oy h
 have h1 := NH _ _ (this (IR a.fBase b.fBase) (by simp))
 have h2 := NH _ _ (this (IR a.fNext b.fNext) (by simp))
 have h3 := NH _ _ (this (IR a.fHeld b.fHeld) (by simp))
 cases a; cases b; simp only at h1 h2 h3; subst h1; subst h2; subst h3; rfl
instance ab : DecidableEq Ah := fun a b => if h : Tj a b = 0 then isTrue (Tf h) else isFalse (fun e => h (by rw [e]; exact Pa b))
end Go.Lift
namespace Go.Lift
open Option renaming bind_some → oS
open List renaming mem_of_getElem? → lM
open List renaming getElem?_eq_some_iff → lI
open Go
def I5 (p : Ak) (m : Ah) (_ : Nat) (s : Av) : List A1 := match JH p (EE p m s).1 with
 | some (x, c) => [⟨s, x, c⟩]
 | none => []
def JD (p : Ak) (m : Ah) : List A1 := D7 (I5 p m) 0 (Gf p m)
theorem LW (p : Ak) (m : Ah) (i : Nat) (s : Av) : (I5 p m i s).length ≤ 1 := by
 unfold I5; split <;> simp
theorem LT {p : Ak} (hp : B7 p) (m : Ah) : (Gf p m).length ≤ 54 := Nat.le_trans (List.length_filter_le _ _) (Sw hp)
theorem K4 {p : Ak} (hp : B7 p) (m : Ah) : (JD p m).length ≤ 54 := by
 have := FG (g := I5 p m) (c := 1) (i := 0) (xs := Gf p m) fun j x _ => LW p m _ x
 have h2 := LT hp m
 unfold JD; omega
theorem Ld {p : Ak} {m : Ah} {s : Av} (h : s ∈ Gf p m) : s ∈ Hd p ∧ (EE p m s).2 = 0 := by
 unfold Gf at h
 have := List.mem_filter.1 h
 exact ⟨this.1, by simpa using this.2⟩
theorem T7 {N : Nat} (hN : N ≤ 1000000) (h20 : 100 ≤ N) {p : Ak} {m : Ah} (hp : B7 p) (hm : EH p m) {s : Av} (hs : s ∈ Gf p m) : ∃ b, C2 N p m s = some ((EE p m s).1, b) := by
 obtain ⟨h1, h2⟩ := Ld hs
 obtain ⟨h3, h4⟩ := O6 hp h1
 rw [Mn N hN h20 hp hm h3 h4]
 unfold EE at h2 ⊢
 rw [h3, h4, if_neg (by simp), if_neg (by simp)] at h2 ⊢
 cases h : Ga p m s with
 | none => rw [h] at h2; cases h2
 | some x => exact ⟨true, rfl⟩
theorem Pm (p : Ak) (x : Ah) : ((K3 p x).2.2 == 0) = (JH p x).isSome := by
 unfold K3
 cases JH p x with
 | none => rfl
 | some q => rfl
theorem Rg (N : Nat) (hN : N ≤ 1000000) (h20 : 100 ≤ N) {p : Ak} {m : Ah} (hw : J0 I4 m.fHeld) : DX N p m = some (if DW p m = 0 then (Gf p m, 0) else ([], DW p m)) := by
 by_cases h : DW p m = 0
 ·rw [if_pos h]
  have hv : DT p = 0 := Decidable.byContradiction fun hc => by unfold DW at h; rw [if_pos hc] at h; exact hc h
  exact Sd N hN h20 hv (HR hw h).2
 ·rw [if_neg h]
  unfold DX
  rw [IL N p m hN (by omega) hw]
  simp only [oS]
  rw [bne_iff_ne.2 h, AN]
theorem QS {p : Ak} {m : Ah} (h : DW p m = 0) : DT p = 0 := Decidable.byContradiction fun hc => by unfold DW at h; rw [if_pos hc] at h; exact hc h
theorem Sm (N : Nat) (hN : N ≤ 1000000) (h20 : 100 ≤ N) {p : Ak} {m : Ah} (hw : J0 I4 m.fHeld) : Fs N p m = some (if DW p m = 0 then (JD p m, 0) else ([], DW p m)) := by
 unfold Fs
 rw [Rg N hN h20 hw]
 simp only [oS]
 by_cases h : DW p m = 0
 ·rw [if_pos h, if_pos h]
  have hv := QS h
  obtain ⟨hp, hm⟩ := HR hw h
  have hl := LT hp m
  simp only [bne_self_eq_false, Ax]
  have := F7 (C1 N p m (Gf p m, 0) fun v4 => some (v4, 0)) (fun a i => (a, i)) (Gf p m) (fun v4 => some (v4, 0)) (I5 p m) 1 1000
   (fun i s _ => LW p m i s)
   (fun n i s a hs hl2 => by
    have hi := (lI.1 hs).1
    have hsm := lM hs
    have hst := (Ld hsm).2
    have hxo := MX hp hm hst
    rw [C1, AK (by simp only; omega)]
    simp only [Be, Bn, hs, oS]
    rw [O1 N hN h20 hw, if_pos h]
    simp only [oS]
    rw [PT N p _ hN h20 (Pd hxo) (Mz hv hxo)]
    simp only [oS]
    rw [Pm, AZ (by omega)]
    unfold I5 K3
    cases hb : JH p (EE p m s).1 with
    | none => rw [Option.isSome_none, Ax, List.append_nil]
    | some q =>
     rw [Option.isSome_some, AN]
     rw [AD (by simp [D2]; have := hl2; unfold I5 at this; rw [hb] at this; simp at this; omega)])
   (fun n a => by rw [C1, AH (by simp)]) N [] (by omega) (by simp; omega)
  have e : C1 N p m (Gf p m, 0) (fun v4 => some (v4, 0)) N (([] : List A1), 0) = _ := this
  rw [e]; rfl
 ·rw [if_neg h, if_neg h]
  simp only
  rw [bne_iff_ne.2 h, AN]
theorem OT (N : Nat) (hN : N ≤ 1000000) (h20 : 100 ≤ N) {p : Ak} {m : Ah} (hv : DT p = 0) (hm : EH p m) : Ep N p m = some (JD p m) := by
 obtain ⟨hp, _⟩ := E7 hv
 have hl := LT hp m
 unfold Ep
 rw [Qs N hN h20 hv hm]
 simp only [oS]
 have := F7 (Ch N p m (Gf p m) fun v3 => some v3) (fun a i => (a, i)) (Gf p m) (fun v3 => some v3) (I5 p m) 1 1000
  (fun i s _ => LW p m i s)
  (fun n i s a hs hl2 => by
   have hi := (lI.1 hs).1
   have hsm := lM hs
   have hst := (Ld hsm).2
   have hxo := MX hp hm hst
   obtain ⟨b, ea⟩ := T7 hN h20 hp hm hsm
   rw [Ch, AK (by simp only; omega)]
   simp only [Be, Bn, hs, oS, ea]
   rw [Qd N p _ hN h20 (Pd hxo) (Mz hv hxo)]
   simp only [oS]
   rw [Pm, AZ (by omega)]
   unfold I5 K3
   cases hb : JH p (EE p m s).1 with
   | none => rw [Option.isSome_none, Ax, List.append_nil]
   | some q =>
    rw [Option.isSome_some, AN]
    rw [AD (by simp [D2]; have := hl2; unfold I5 at this; rw [hb] at this; simp at this; omega)])
  (fun n a => by rw [Ch, AH (by simp)]) N [] (by omega) (by simp; omega)
 have e : Ch N p m (Gf p m) (fun v3 => some v3) N (([] : List A1), 0) = _ := this
 rw [e]; rfl
def Ln (p : Ak) (_ : Nat) (m : Ah) : Option Int := if DW p m = 0 then none else some (DW p m)
def Hs (p : Ak) (l : List Ah) : Int := if DT p ≠ 0 then DT p else (DE (Ln p) 0 l).getD 0
theorem R0 (N : Nat) (hN : N ≤ 1000000) (h20 : 100 ≤ N) (p : Ak) (l : List Ah) (hl : l.length < N) : EF N p l = some (Hs p l) := by
 unfold EF
 rw [NX N p hN (by omega)]
 simp only [oS]
 unfold Hs
 by_cases hv : DT p = 0
 ·rw [hv, bne_self_eq_false, Ax, if_neg (by simp)]
  have := Dh (Cp N p l fun _ => some 0) l (some 0) (Ln p)
   (fun n i m hm => by
    have hi := (lI.1 hm).1
    rw [Cp, AK (by omega), Bn, hm]
    simp only [oS]
    rw [Ki N p m hN (by omega), AZ (by omega)]
    simp only [oS]
    unfold Ln
    by_cases h : DW p m = 0
    ·rw [h, bne_self_eq_false, Ax, if_pos rfl]; rfl
    ·rw [bne_iff_ne.2 h, AN, if_neg h]; rfl)
   (fun n => by rw [Cp, AH (by simp)]) N 0 (Nat.zero_le _) (by omega)
  have e : Cp N p l (fun _ => some 0) N 0 = _ := this
  rw [e, List.drop_zero]
  cases DE (Ln p) 0 l <;> rfl
 ·rw [bne_iff_ne.2 hv, AN, if_pos hv]
theorem L0 {p : Ak} {l : List Ah} (h : Hs p l = 0) : DT p = 0 ∧ ∀ m, m ∈ l → DW p m = 0 := by
 unfold Hs at h
 by_cases hv : DT p = 0
 ·refine ⟨hv, fun m hm => ?_⟩
  rw [if_neg (by simp [hv])] at h
  obtain ⟨j, hj⟩ := List.mem_iff_getElem?.1 hm
  cases hs : DE (Ln p) 0 l with
  | none =>
   have := GH hs j m hj
   unfold Ln at this
   split at this
   ·assumption
   ·cases this
  | some r =>
   rw [hs] at h
   obtain ⟨k, x, _, hr⟩ := E1 hs
   unfold Ln at hr
   split at hr
   ·cases hr
   ·rename_i hne
    cases hr; exact absurd h hne
 ·rw [if_pos hv] at h; exact absurd h hv
def GK (p : Ak) (l : List Ah) : List A1 := D7 (fun _ m => JD p m) 0 l
theorem Jv {p : Ak} (hp : B7 p) (l : List Ah) : (GK p l).length ≤ 54 * l.length := FG fun _ m _ => K4 hp m
theorem Ly (N : Nat) (hN : N ≤ 1000000) (h20 : 100 ≤ N) (p : Ak) (l : List Ah) (hl : l.length < N) (hl2 : l.length ≤ 1000) (hw : ∀ m, m ∈ l → J0 I4 m.fHeld) : Cn N p l = some (if Hs p l = 0 then (GK p l, 0) else ([], Hs p l)) := by
 unfold Cn
 rw [R0 N hN h20 p l hl]
 simp only [oS]
 by_cases h : Hs p l = 0
 ·obtain ⟨hv, hall⟩ := L0 h
  obtain ⟨hp, _⟩ := E7 hv
  rw [if_pos h, h, bne_self_eq_false, Ax]
  have := F7 (Cf N p l fun v4 => some (v4, 0)) (fun a i => (a, i)) l (fun v4 => some (v4, 0)) (fun _ m => JD p m) 54 100000
   (fun i m _ => K4 hp m)
   (fun n i m a hm hl3 => by
    have hi := (lI.1 hm).1
    have hmm := lM hm
    rw [Cf, AK (by simp only; omega)]
    simp only [Bn, hm, oS]
    rw [OT N hN h20 hv (HR (hw m hmm) (hall m hmm)).2, AZ (by omega)]
    simp only [oS]
    rw [AD (by simp [D2]; omega)])
   (fun n a => by rw [Cf, AH (by simp)]) N [] (by omega) (by simp; omega)
  have e : Cf N p l (fun v4 => some (v4, 0)) N (([] : List A1), 0) = _ := this
  rw [e]; rfl
 ·rw [if_neg h, bne_iff_ne.2 h, AN]
theorem TU {p : Ak} {m x : Ah} {c : Ag} (hp : B7 p) (hm : EH p m) (h : JH p m = some (x, c)) : EH p x := by
 unfold JH at h
 obtain ⟨j, y, hy, hb⟩ := E1 h
 have hab : OC m y := LD.1 (lM hy)
 unfold KL at hb
 split at hb
 ·cases hb
 ·cases hb; exact Uw hp hm hab
theorem TA {p : Ak} {m : Ah} (hp : B7 p) (hm : EH p m) : ∀ b, b ∈ JD p m → EH p b.fMix := by
 intro b hb
 obtain ⟨j, s, hs, hb⟩ := Lj.1 hb
 unfold I5 at hb
 split at hb
 ·rename_i x c h
  rw [List.mem_singleton.1 hb]
  exact TU hp (MX hp hm (Ld (lM hs)).2) h
 ·cases hb
theorem QW (N : Nat) (hN : N ≤ 1000000) (h20 : 100 ≤ N) {p : Ak} (hp : B7 p) (a : List A1) (h : a.length < N) (hs : ∀ b, b ∈ a → EH p b.fMix) : Cu N a a = some true := by
 unfold Cu
 rw [bne_self_eq_false, Ax]
 have := Dh (CG N a a fun _ => some true) a (some true) (fun _ _ => none)
  (fun n i b hb => by
   have hi := (lI.1 hb).1
   rw [CG, AK (by omega)]
   simp only [Be, Bn, hb, oS, beq_self_eq_true, Bool.and_self, Bool.not_true, Ax]
   have e := Tw hN h20 hp (hs b (lM hb))
   rw [show (Ah.mk b.fMix.fBase b.fMix.fNext b.fMix.fHeld) = b.fMix from rfl, e, AZ (by omega)]
   rfl)
  (fun n => by rw [CG, AH (by simp)]) N 0 (Nat.zero_le _) (by omega)
 have e : CG N a a (fun _ => some true) N 0 = _ := this
 rw [e, List.drop_zero, EW (fun _ _ _ => rfl)]; rfl
end Go.Lift
namespace Go.Lift
open IntKind renaming wrap → wI
open Option renaming bind_some → oS
open List renaming mem_of_getElem? → lM
open Go
open Go.Sort (swp insInner insOuter insertionSort siftDown heapBuild heapPop heapSort)
section
variable {α : Type} [Inhabited α]
theorem wn {e : Int} {n : Nat} (h : e = (n : Int)) (hn : n < 1000000000) : wI .i64 e = (n : Int) := by
 subst h; exact CM (by omega) (by omega)
theorem gi {d : Array α} {i : Nat} (h : i < d.size) : Bf d.toList (i : Int) = some d[i]! := by
 rw [Bn]
 simp [h, getElem!_pos]
theorem IZ {β γ : Type} {l : List β} {i : Nat} (h : i < l.length) (X : Option γ) : ((Bf l (i : Int)).bind fun _ => X) = X := by
 rw [Bn, List.getElem?_eq_getElem h]; rfl
theorem ES (d : Array α) (i j : Nat) : (swp d i j).toList = (d.toList.set i d[j]!).set j d[i]! := by
 unfold swp; simp
theorem Bx (d : Array α) (i j : Nat) : (swp d i j).size = d.size := by unfold swp; simp
def Dk (P : α → Prop) (d : Array α) : Prop := ∀ x, x ∈ d.toList → P x
theorem Dk.get {P : α → Prop} {d : Array α} (h : Dk P d) {i : Nat} (hi : i < d.size) : P d[i]! := by
 have := gi hi
 rw [Bn] at this
 exact h _ (lM this)
theorem Dk.swp {P : α → Prop} {d : Array α} (h : Dk P d) {i j : Nat} (hi : i < d.size) (hj : j < d.size) : Dk P (swp d i j) := by
 intro x hx
 rw [ES] at hx
 rcases List.mem_or_eq_of_mem_set hx with hx | hx
 ·rcases List.mem_or_eq_of_mem_set hx with hx | hx
  ·exact h x hx
  ·rw [hx]; exact h.get hj
 ·rw [hx]; exact h.get hi
variable {P : α → Prop} {cmp : α × α → Option Int} {c : α → α → Int}
def Cq (c : α → α → Int) (x y : α) : Bool := decide (c x y < 0)
theorem Vl (hc : ∀ x y, P x → P y → cmp (x, y) = some (c x y)) (N a : Nat) (J : List α → Option (List α)) : ∀ (n j : Nat) (d : Array α), j < n → j < d.size → d.size ≤ 100000 → Dk P d →
  Gs.insertionSort_L4 N (a : Int) cmp J n (d.toList, (j : Int)) = J (insInner (Cq c) a j d).toList ∧ (insInner (Cq c) a j d).size = d.size ∧ Dk P (insInner (Cq c) a j d)
 | 0, j, d, h, _, _, _ => by omega
 | n + 1, j, d, h, hj, hs, hA => by
  rw [Gs.insertionSort_L4]
  simp only [Be]
  rcases j with _ | j
  ·rw [AH (by omega), Ax]
   exact ⟨rfl, rfl, hA⟩
  ·simp only [wn (e := ((j + 1 : Nat) : Int) - 1) (n := j) (by omega) (by omega), gi hj, gi (show j < d.size by omega), oS, Int.toNat_natCast]
   rw [hc _ _ (hA.get hj) (hA.get (by omega))]
   simp only [oS]
   rw [IZ (by simp; omega), ← ES]
   rw [insInner]
   by_cases ha : a < j + 1
   ·rw [AK (by omega), VQ]
    by_cases hl : c d[j + 1]! d[j]! < 0
    ·rw [if_pos (decide_eq_true hl), if_pos (by simp [ha, Cq, hl])]
     have := Vl hc N a J n j (swp d (j + 1) j) (by omega) (by rw [Bx]; omega) (by rw [Bx]; exact hs) (hA.swp hj (by omega))
     rw [Bx] at this
     exact this
    ·rw [if_neg (by simpa using hl), if_neg (by simp [Cq, hl])]
     exact ⟨rfl, rfl, hA⟩
   ·rw [AH (by omega), Ax, if_neg (by simp [ha])]
    exact ⟨rfl, rfl, hA⟩
theorem Sr (hc : ∀ x y, P x → P y → cmp (x, y) = some (c x y)) (N a b : Nat) (J : List α → Option (List α)) : ∀ (n i : Nat) (d : Array α), b - i < n → b ≤ d.size → d.size < N → d.size ≤ 100000 → i ≤ 200000 → Dk P d →
  Gs.insertionSort_L1 N (a : Int) (b : Int) cmp J n (d.toList, (i : Int)) = J (insOuter (Cq c) a b i d).toList ∧ (insOuter (Cq c) a b i d).size = d.size ∧ Dk P (insOuter (Cq c) a b i d)
 | 0, i, d, h, _, _, _, _, _ => by omega
 | n + 1, i, d, h, hb, hN, hs, hi2, hA => by
  rw [Gs.insertionSort_L1, insOuter]
  by_cases hi : i < b
  ·rw [AK (by simp only; omega), if_pos hi]
   obtain ⟨e1, e2, e3⟩ := Vl hc N a (fun v5 => Gs.insertionSort_L1 N (a : Int) (b : Int) cmp J n (v5, ((i + 1 : Nat) : Int))) N i d (by omega) (by omega) hs hA
   simp only [wn (e := (i : Int) + 1) (n := i + 1) (by omega) (by omega)]
   rw [e1]
   have := Sr hc N a b J n (i + 1) (insInner (Cq c) a i d) (by omega) (by omega) (by omega) (by omega) (by omega) e3
   rw [e2] at this
   exact this
  ·rw [AH (by simp only; omega), if_neg hi]
   exact ⟨rfl, rfl, hA⟩
theorem Xs (hc : ∀ x y, P x → P y → cmp (x, y) = some (c x y)) {N a b : Nat} {d : Array α} (hab : a ≤ b) (hb : b ≤ d.size) (hN : d.size < N) (hs : d.size ≤ 100000) (hA : Dk P d) :
  Gs.insertionSort N d.toList (a : Int) (b : Int) cmp = some (insertionSort (Cq c) d a b).toList ∧ (insertionSort (Cq c) d a b).size = d.size ∧ Dk P (insertionSort (Cq c) d a b) := by
 unfold Gs.insertionSort
 rw [wn (e := (a : Int) + 1) (n := a + 1) (by omega) (by omega)]
 exact Sr hc N a b (fun v2 => some v2) N (a + 1) d (by omega) hb hN hs (by omega) hA
theorem Qx (hc : ∀ x y, P x → P y → cmp (x, y) = some (c x y)) {N hi first : Nat} : ∀ (n root : Nat) (d : Array α), hi - root < n → first + hi ≤ d.size → d.size ≤ 100000 → root ≤ 100000 → Dk P d → root < hi ∨ hi = 0 ∨ True → (2 * root + 1 < hi → root < hi) →
  Gs.siftDown_L1 N (hi : Int) (first : Int) cmp (fun v2 => some v2) n (d.toList, (root : Int)) = some (siftDown (Cq c) hi first root d).toList ∧ (siftDown (Cq c) hi first root d).size = d.size ∧ Dk P (siftDown (Cq c) hi first root d)
 | 0, root, d, h, _, _, _, _, _, _ => by omega
 | n + 1, root, d, h, hf, hs, hr, hA, _, _ => by
  rw [Gs.siftDown_L1, siftDown]
  simp only [Be]
  have e1 : wI .i64 ((wI .i64 (2 * (root : Int))) + 1) = ((2 * root + 1 : Nat) : Int) := by
   rw [wn (e := 2 * (root : Int)) (n := 2 * root) (by omega) (by omega), wn (n := 2 * root + 1) (by omega) (by omega)]
  have e2 : wI .i64 (((2 * root + 1 : Nat) : Int) + 1) = ((2 * root + 2 : Nat) : Int) := wn (by omega) (by omega)
  have e3 : wI .i64 ((first : Int) + ((2 * root + 1 : Nat) : Int)) = ((first + (2 * root + 1) : Nat) : Int) := by
   by_cases hx : first < 200000
   ·exact wn (by omega) (by omega)
   ·omega
  have e4 : wI .i64 ((first : Int) + (root : Int)) = ((first + root : Nat) : Int) := wn (by omega) (by omega)
  have e5 : wI .i64 (((first + (2 * root + 1) : Nat) : Int) + 1) = ((first + (2 * root + 1) + 1 : Nat) : Int) := wn (by omega) (by omega)
  have e6 : wI .i64 ((first : Int) + ((2 * root + 2 : Nat) : Int)) = ((first + (2 * root + 2) : Nat) : Int) := wn (by omega) (by omega)
  simp only [e1, e2, e3, e4, e5]
  by_cases h1 : 2 * root + 1 ≥ hi
  ·rw [AK (by omega), dif_pos h1]
   exact ⟨rfl, rfl, hA⟩
  ·rw [AH (by omega), dif_neg h1]
   -- what follows when the child is known
   have tail : ∀ ch : Nat, ch < hi → root < ch → wI .i64 ((first : Int) + (ch : Int)) = ((first + ch : Nat) : Int) →
     (((Bf d.toList ((first + root : Nat) : Int)).bind fun v11 => (Bf d.toList (wI .i64 ((first : Int) + (ch : Int)))).bind fun v12 => (cmp (v11, v12)).bind fun v13 => AW (!(decide (v13 < 0))) (some d.toList)
      ((Bf d.toList (wI .i64 ((first : Int) + (ch : Int)))).bind fun v15 => (Bf d.toList ((first + root : Nat) : Int)).bind fun v16 => (Bf d.toList ((first + root : Nat) : Int)).bind fun _ =>
       (Bf (d.toList.set (((first + root : Nat) : Int)).toNat v15) (wI .i64 ((first : Int) + (ch : Int)))).bind fun _ =>
       Gs.siftDown_L1 N (hi : Int) (first : Int) cmp (fun v2 => some v2) n ((d.toList.set (((first + root : Nat) : Int)).toNat v15).set ((wI .i64 ((first : Int) + (ch : Int)))).toNat v16, (ch : Int)))) =
      some (if !Cq c d[first + root]! d[first + ch]! then d else siftDown (Cq c) hi first ch (swp d (first + root) (first + ch))).toList) ∧
     (if !Cq c d[first + root]! d[first + ch]! then d else siftDown (Cq c) hi first ch (swp d (first + root) (first + ch))).size = d.size ∧ Dk P (if !Cq c d[first + root]! d[first + ch]! then d else siftDown (Cq c) hi first ch (swp d (first + root) (first + ch))) := by
    intro ch h2 h3 h4
    have a1 : first + root < d.size := by omega
    have a2 : first + ch < d.size := by omega
    simp only [h4, gi a1, gi a2, oS, Int.toNat_natCast]
    rw [hc _ _ (hA.get a1) (hA.get a2)]
    simp only [oS]
    rw [IZ (by simp; omega), ← ES]
    unfold Cq
    cases hl : decide (c d[first + root]! d[first + ch]! < 0)
    ·rw [Bool.not_false, AN, if_pos rfl]
     exact ⟨rfl, rfl, hA⟩
    ·rw [Bool.not_true, Ax, if_neg (by simp)]
     have := Qx hc (N := N) (hi := hi) (first := first) n ch (swp d (first + root) (first + ch)) (by omega) (by rw [Bx]; omega) (by rw [Bx]; exact hs) (by omega) (hA.swp a1 a2) (.inl h2) (fun _ => h2)
     rw [Bx] at this
     exact this
   have t1 := tail (2 * root + 1) (by omega) (by omega) e3
   rw [e3] at t1
   by_cases h2 : 2 * root + 1 + 1 < hi
   ·rw [AK (by omega)]
    simp only [gi (show first + (2 * root + 1) < d.size by omega), gi (show first + (2 * root + 1) + 1 < d.size by omega), oS] at t1 ⊢
    rw [hc _ _ (hA.get (by omega)) (hA.get (by omega))]
    simp only [oS]
    have t2 := tail (2 * root + 2) (by omega) (by omega) e6
    rw [e6] at t2
    cases hl : decide (c d[first + (2 * root + 1)]! d[first + (2 * root + 1) + 1]! < 0)
    ·rw [Ax, if_neg (by simp [Cq, hl])]
     exact t1
    ·rw [AN, if_pos (by simp [Cq, h2]; simpa using hl), dif_pos (show 2 * root + 2 < hi by omega)]
     simp only [e6]
     exact t2
   ·rw [AH (by omega), Ax, if_neg (by simp [h2])]
    exact t1
theorem OM (hc : ∀ x y, P x → P y → cmp (x, y) = some (c x y)) {N a b : Nat} (hab : a ≤ b) (J : List α → Option (List α)) : ∀ (n k : Nat) (d : Array α), k < n → b ≤ d.size → d.size < N → d.size ≤ 100000 → k ≤ 100000 → Dk P d →
  Gs.heapSort_L1 N (a : Int) (b : Int) cmp J n (d.toList, (k : Int) - 1) = J (heapBuild (Cq c) (b - a) a k d).toList ∧ (heapBuild (Cq c) (b - a) a k d).size = d.size ∧ Dk P (heapBuild (Cq c) (b - a) a k d)
 | 0, k, d, h, _, _, _, _, _ => by omega
 | n + 1, k, d, h, hb, hN, hs, hk, hA => by
  rw [Gs.heapSort_L1]
  rcases k with _ | k
  ·rw [AH (by simp only; omega)]
   exact ⟨rfl, rfl, hA⟩
  ·have e0 : (((k + 1 : Nat) : Int) - 1) = (k : Int) := by omega
   simp only [e0]
   rw [AK (by omega)]
   unfold Gs.siftDown
   rw [wn (e := (b : Int) - (a : Int)) (n := b - a) (by omega) (by omega)]
   obtain ⟨e1, e2, e3⟩ := Qx hc (N := N) (hi := b - a) (first := a) N k d (by omega) (by omega) hs (by omega) hA (.inr (.inr trivial)) (fun _ => by omega)
   rw [e1]
   simp only [oS, heapBuild]
   have ew : wI .i64 ((k : Int) - 1) = (k : Int) - 1 := CM (by omega) (by omega)
   rw [ew]
   have := OM hc (N := N) hab J n k (siftDown (Cq c) (b - a) a k d) (by omega) (by omega) (by omega) (by omega) (by omega) e3
   rw [e2] at this
   exact this
theorem QI (hc : ∀ x y, P x → P y → cmp (x, y) = some (c x y)) {N a b : Nat} (hab : a ≤ b) (J : List α → Option (List α)) : ∀ (n k : Nat) (d : Array α), k < n → a + k ≤ d.size → d.size < N → d.size ≤ 100000 → Dk P d →
  Gs.heapSort_L5 N (a : Int) cmp J n (d.toList, (k : Int) - 1) = J (heapPop (Cq c) a k d).toList ∧ (heapPop (Cq c) a k d).size = d.size ∧ Dk P (heapPop (Cq c) a k d)
 | 0, k, d, h, _, _, _, _ => by omega
 | n + 1, k, d, h, hb, hN, hs, hA => by
  rw [Gs.heapSort_L5]
  rcases k with _ | k
  ·rw [AH (by simp only; omega)]
   exact ⟨rfl, rfl, hA⟩
  ·have e0 : (((k + 1 : Nat) : Int) - 1) = (k : Int) := by omega
   have a1 : a + k < d.size := by omega
   have a2 : a < d.size := by omega
   have e1 : wI .i64 ((a : Int) + (k : Int)) = ((a + k : Nat) : Int) := wn (by omega) (by omega)
   simp only [e0, e1]
   rw [AK (by omega)]
   simp only [gi a1, gi a2, oS, Int.toNat_natCast]
   rw [IZ (by simp; omega), ← ES]
   unfold Gs.siftDown
   obtain ⟨f1, f2, f3⟩ := Qx hc (N := N) (hi := k) (first := a) N 0 (swp d a (a + k)) (by omega) (by rw [Bx]; omega) (by rw [Bx]; exact hs) (by omega) (hA.swp a2 a1) (.inr (.inr trivial)) (fun _ => by omega)
   have f1' : Gs.siftDown_L1 N (k : Int) (a : Int) cmp (fun v2 => some v2) N ((swp d a (a + k)).toList, 0) = _ := f1
   rw [f1']
   rw [Bx] at f2
   simp only [oS, heapPop]
   have ew : wI .i64 ((k : Int) - 1) = (k : Int) - 1 := CM (by omega) (by omega)
   rw [ew]
   have := QI hc (N := N) hab J n k (siftDown (Cq c) k a 0 (swp d a (a + k))) (by omega) (by omega) (by omega) (by omega) f3
   rw [f2] at this
   exact this
theorem V5 (hc : ∀ x y, P x → P y → cmp (x, y) = some (c x y)) {N a b : Nat} {d : Array α} (hab : a < b) (hb : b ≤ d.size) (hN : d.size < N) (hs : d.size ≤ 100000) (hA : Dk P d) :
  Gs.heapSort N d.toList (a : Int) (b : Int) cmp = some (heapSort (Cq c) d a b).toList ∧ (heapSort (Cq c) d a b).size = d.size ∧ Dk P (heapSort (Cq c) d a b) := by
 unfold Gs.heapSort heapSort
 have e1 : wI .i64 (Int.tdiv (wI .i64 ((wI .i64 ((b : Int) - (a : Int))) - 1)) 2) = (((b - a - 1) / 2 + 1 : Nat) : Int) - 1 := by
  rw [wn (e := (b : Int) - (a : Int)) (n := b - a) (by omega) (by omega), wn (e := ((b - a : Nat) : Int) - 1) (n := b - a - 1) (by omega) (by omega)]
  rw [wn (n := (b - a - 1) / 2) (by rw [Int.tdiv_eq_ediv_of_nonneg (by omega)]; omega) (by omega)]
  omega
 have e2 : wI .i64 ((wI .i64 ((b : Int) - (a : Int))) - 1) = (((b - a : Nat) : Int)) - 1 := by
  rw [wn (e := (b : Int) - (a : Int)) (n := b - a) (by omega) (by omega)]
  exact CM (by omega) (by omega)
 rw [e1, e2]
 obtain ⟨f1, f2, f3⟩ := OM hc (N := N) (a := a) (b := b) (by omega) (fun v2 => Gs.heapSort_L5 N (a : Int) cmp (fun v6 => some v6) N (v2, (((b - a : Nat) : Int)) - 1)) N ((b - a - 1) / 2 + 1) d (by omega) hb hN hs (by omega) hA
 rw [f1]
 obtain ⟨g1, g2, g3⟩ := QI hc (N := N) (a := a) (b := b) (by omega) (fun v6 => some v6) N (b - a) (heapBuild (Cq c) (b - a) a ((b - a - 1) / 2 + 1) d) (by omega) (by omega) (by omega) (by omega) f3
 rw [g1]
 exact ⟨rfl, by rw [g2, f2], g3⟩
end
end Go.Lift
namespace Go.Lift
open IntKind renaming wrap → wI
open Option renaming bind_some → oS
open Go
open Go.Sort (swp scanUp scanDown partLoop partition partEqLoop partitionEqual scanSorted shiftDown shiftUp partialIns partialInsertionSort reverseLoop reverseRange)
section
variable {α : Type} [Inhabited α] {P : α → Prop} {cmp : α × α → Option Int} {c : α → α → Int}
theorem Pk (N : Nat) (J : List α → Option (List α)) : ∀ (n i j : Nat) (d : Array α), j - i < n → j < d.size → d.size ≤ 100000 → i ≤ 100000 → Dk P d →
  Gs.reverseRange_L1 N J n (d.toList, (i : Int), (j : Int)) = J (reverseLoop i j d).toList ∧ (reverseLoop i j d).size = d.size ∧ Dk P (reverseLoop i j d)
 | 0, i, j, d, h, _, _, _, _ => by omega
 | n + 1, i, j, d, h, hj, hs, hi, hA => by
  rw [Gs.reverseRange_L1, reverseLoop]
  by_cases hij : i < j
  ·rw [AK (by simp only; omega), if_pos hij]
   simp only [gi hj, gi (show i < d.size by omega), oS, Int.toNat_natCast]
   rw [IZ (by simp; omega), ← ES, wn (e := (i : Int) + 1) (n := i + 1) (by omega) (by omega), wn (e := (j : Int) - 1) (n := j - 1) (by omega) (by omega)]
   have := Pk N J n (i + 1) (j - 1) (swp d i j) (by omega) (by rw [Bx]; omega) (by rw [Bx]; exact hs) (by omega) (hA.swp (by omega) hj)
   rw [Bx] at this
   exact this
  ·rw [AH (by simp only; omega), if_neg hij]
   exact ⟨rfl, rfl, hA⟩
theorem Xn {N a b : Nat} {d : Array α} (hab : a < b) (hb : b ≤ d.size) (hN : d.size < N) (hs : d.size ≤ 100000) (hA : Dk P d) :
  Gs.reverseRange N d.toList (a : Int) (b : Int) cmp = some (reverseRange d a b).toList ∧ (reverseRange d a b).size = d.size ∧ Dk P (reverseRange d a b) := by
 unfold Gs.reverseRange reverseRange
 rw [wn (e := (b : Int) - 1) (n := b - 1) (by omega) (by omega)]
 exact Pk N (fun v2 => some v2) N a (b - 1) d (by omega) (by omega) hs (by omega) hA
theorem Nb (hc : ∀ x y, P x → P y → cmp (x, y) = some (c x y)) (N b : Nat) {d : Array α} (hb : b ≤ d.size) (hs : d.size ≤ 100000) (hA : Dk P d) (x y : Int) (J : Int → Option (Bool × List α)) : ∀ (n i : Nat), b - i < n → 1 ≤ i → i ≤ 100001 →
  Gs.partialInsertionSort_L5 N (b : Int) cmp (d.toList, x, y) J n (i : Int) = J (scanSorted (Cq c) d b i : Nat)
 | 0, i, h, _, _ => by omega
 | n + 1, i, h, hi, hi2 => by
  rw [Gs.partialInsertionSort_L5, scanSorted]
  simp only [Be]
  by_cases h1 : i < b
  ·rw [AK (by omega)]
   simp only [wn (e := (i : Int) - 1) (n := i - 1) (by omega) (by omega), gi (show i < d.size by omega), gi (show i - 1 < d.size by omega), oS]
   rw [hc _ _ (hA.get (by omega)) (hA.get (by omega))]
   simp only [oS]
   cases hl : decide (c d[i]! d[i - 1]! < 0)
   ·rw [Bool.not_false, AN, if_pos (by simp [h1, Cq, hl]), wn (e := (i : Int) + 1) (n := i + 1) (by omega) (by omega)]
    exact Nb hc N b hb hs hA x y J n (i + 1) (by omega) (by omega) (by omega)
   ·rw [Bool.not_true, Ax, if_neg (by simp [Cq, hl])]
  ·rw [AH (by omega), Ax, if_neg (by simp [h1])]
theorem KC (lt : α → α → Bool) (d : Array α) (b : Nat) : ∀ (n i : Nat), b - i < n → i ≤ scanSorted lt d b i ∧ (i ≤ b → scanSorted lt d b i ≤ b)
 | 0, i, h => by omega
 | n + 1, i, h => by
  rw [scanSorted]
  by_cases h1 : (decide (i < b) && !lt d[i]! d[i - 1]!) = true
  ·rw [if_pos h1]
   simp only [Bool.and_eq_true, decide_eq_true_eq] at h1
   have := KC lt d b n (i + 1) (by omega)
   omega
  ·rw [if_neg h1]; omega
theorem Oj (hc : ∀ x y, P x → P y → cmp (x, y) = some (c x y)) (N : Nat) (J : List α → Option (Bool × List α)) : ∀ (n j : Nat) (d : Array α), j < n → j < d.size → d.size ≤ 100000 → Dk P d →
  Gs.partialInsertionSort_L21 N cmp J n (d.toList, (j : Int)) = J (shiftDown (Cq c) j d).toList ∧ (shiftDown (Cq c) j d).size = d.size ∧ Dk P (shiftDown (Cq c) j d)
 | 0, j, d, h, _, _, _ => by omega
 | n + 1, j, d, h, hj, hs, hA => by
  rw [Gs.partialInsertionSort_L21]
  rcases j with _ | j
  ·rw [AH (by simp)]
   exact ⟨rfl, rfl, hA⟩
  ·rw [AK (by simp only; omega)]
   simp only [wn (e := ((j + 1 : Nat) : Int) - 1) (n := j) (by omega) (by omega), gi hj, gi (show j < d.size by omega), oS, Int.toNat_natCast]
   rw [hc _ _ (hA.get hj) (hA.get (by omega))]
   simp only [oS]
   rw [IZ (by simp; omega), ← ES]
   rw [shiftDown]
   cases hl : decide (c d[j + 1]! d[j]! < 0)
   ·rw [Bool.not_false, AN, if_pos (by simp [Cq, hl])]
    exact ⟨rfl, rfl, hA⟩
   ·rw [Bool.not_true, Ax, if_neg (by simp [Cq, hl])]
    have := Oj hc N J n j (swp d (j + 1) j) (by omega) (by rw [Bx]; omega) (by rw [Bx]; exact hs) (hA.swp hj (by omega))
    rw [Bx] at this
    exact this
theorem Q4 (hc : ∀ x y, P x → P y → cmp (x, y) = some (c x y)) (N b : Nat) (J : List α → Option (Bool × List α)) : ∀ (n j : Nat) (d : Array α), b - j < n → 1 ≤ j → j ≤ 100001 → b ≤ d.size → d.size ≤ 100000 → Dk P d →
  Gs.partialInsertionSort_L33 N (b : Int) cmp J n (d.toList, (j : Int)) = J (shiftUp (Cq c) b j d).toList ∧ (shiftUp (Cq c) b j d).size = d.size ∧ Dk P (shiftUp (Cq c) b j d)
 | 0, j, d, h, _, _, _, _, _ => by omega
 | n + 1, j, d, h, hj, hj2, hb, hs, hA => by
  rw [Gs.partialInsertionSort_L33, shiftUp]
  by_cases h1 : j < b
  ·rw [AK (by simp only; omega), if_pos h1]
   simp only [wn (e := (j : Int) - 1) (n := j - 1) (by omega) (by omega), gi (show j < d.size by omega), gi (show j - 1 < d.size by omega), oS, Int.toNat_natCast]
   rw [hc _ _ (hA.get (by omega)) (hA.get (by omega))]
   simp only [oS]
   rw [IZ (by simp; omega), ← ES]
   cases hl : decide (c d[j]! d[j - 1]! < 0)
   ·rw [Bool.not_false, AN, if_pos (by simp [Cq, hl])]
    exact ⟨rfl, rfl, hA⟩
   ·rw [Bool.not_true, Ax, if_neg (by simp [Cq, hl]), wn (e := (j : Int) + 1) (n := j + 1) (by omega) (by omega)]
    have := Q4 hc N b J n (j + 1) (swp d j (j - 1)) (by omega) (by omega) (by omega) (by rw [Bx]; exact hb) (by rw [Bx]; exact hs) (hA.swp (by omega) (by omega))
    rw [Bx] at this
    exact this
  ·rw [AH (by simp only; omega), if_neg h1]
   exact ⟨rfl, rfl, hA⟩
theorem Kl (hc : ∀ x y, P x → P y → cmp (x, y) = some (c x y)) {N a b : Nat} (J : List α → Option (Bool × List α)) (hJ : ∀ l, J l = some (false, l)) : ∀ (s i : Nat) (n : Nat) (d : Array α), s < n → s ≤ 5 → a < i → i ≤ b → b ≤ d.size → d.size < N → d.size ≤ 100000 → Dk P d →
  Gs.partialInsertionSort_L1 N (a : Int) (b : Int) cmp J n (d.toList, (i : Int), ((5 - s : Nat) : Int)) = some ((partialIns (Cq c) a b s i d).2, (partialIns (Cq c) a b s i d).1.toList) ∧ (partialIns (Cq c) a b s i d).1.size = d.size ∧ Dk P (partialIns (Cq c) a b s i d).1
 | s, i, 0, d, h, _, _, _, _, _, _, _ => by omega
 | 0, i, n + 1, d, h, _, _, _, hb, hN, hs, hA => by
  rw [Gs.partialInsertionSort_L1, AH (by simp), hJ]
  exact ⟨rfl, rfl, hA⟩
 | s + 1, i, n + 1, d, h, h5, hai, hib, hb, hN, hs, hA => by
  rw [Gs.partialInsertionSort_L1, AK (by simp only; omega)]
  simp only [Be]
  rw [Nb hc N b hb hs hA _ _ _ N i (by omega) (by omega) (by omega)]
  obtain ⟨g1, g2⟩ := KC (Cq c) d b (b + 1) i (by omega)
  have g2 := g2 hib
  unfold partialIns
  simp only
  generalize hk : scanSorted (Cq c) d b i = k at g1 g2
  have e5 : wI .i64 (((5 - (s + 1) : Nat) : Int) + 1) = ((5 - s : Nat) : Int) := wn (by omega) (by omega)
  by_cases h1 : k = b
  ·rw [if_pos h1, show (((k : Nat) : Int) == (b : Int)) = true from beq_iff_eq.2 (by omega), AN]
   exact ⟨rfl, rfl, hA⟩
  ·rw [if_neg h1, show (((k : Nat) : Int) == (b : Int)) = false from beq_eq_false_iff_ne.2 (by omega), Ax, wn (e := (b : Int) - (a : Int)) (n := b - a) (by omega) (by omega)]
   by_cases h2 : b - a < 50
   ·rw [if_pos h2, AK (by omega)]
    exact ⟨rfl, rfl, hA⟩
   ·rw [if_neg h2, AH (by omega)]
    have k1 : k < d.size := by omega
    have k2 : k - 1 < d.size := by omega
    simp only [wn (e := (k : Int) - 1) (n := k - 1) (by omega) (by omega), gi k1, gi k2, oS, Int.toNat_natCast]
    rw [IZ (by simp; omega)]
    simp only [← ES]
    rw [wn (e := (k : Int) - (a : Int)) (n := k - a) (by omega) (by omega), e5]
    have hA1 := hA.swp (i := k) (j := k - 1) k1 k2
    have hs1 := Bx d k (k - 1)
    -- the second shift and the next step
    have fin : ∀ d2 : Array α, d2.size = d.size → Dk P d2 →
      (AW (decide (2 ≤ (wI .i64 ((b : Int) - (k : Int)))))
        (Gs.partialInsertionSort_L33 N (b : Int) cmp (fun v34 => Gs.partialInsertionSort_L1 N (a : Int) (b : Int) cmp J n (v34, (k : Int), ((5 - s : Nat) : Int))) N (d2.toList, (wI .i64 ((k : Int) + 1))))
        (Gs.partialInsertionSort_L1 N (a : Int) (b : Int) cmp J n (d2.toList, (k : Int), ((5 - s : Nat) : Int))) =
       some ((partialIns (Cq c) a b s k (if b - k ≥ 2 then shiftUp (Cq c) b (k + 1) d2 else d2)).2, (partialIns (Cq c) a b s k (if b - k ≥ 2 then shiftUp (Cq c) b (k + 1) d2 else d2)).1.toList)) ∧
       (partialIns (Cq c) a b s k (if b - k ≥ 2 then shiftUp (Cq c) b (k + 1) d2 else d2)).1.size = d.size ∧ Dk P (partialIns (Cq c) a b s k (if b - k ≥ 2 then shiftUp (Cq c) b (k + 1) d2 else d2)).1 := by
     intro d2 z1 z2
     rw [wn (e := (b : Int) - (k : Int)) (n := b - k) (by omega) (by omega), wn (e := (k : Int) + 1) (n := k + 1) (by omega) (by omega)]
     by_cases h3 : b - k ≥ 2
     ·rw [AK (by omega), if_pos h3]
      obtain ⟨f1, f2, f3⟩ := Q4 hc N b (fun v34 => Gs.partialInsertionSort_L1 N (a : Int) (b : Int) cmp J n (v34, (k : Int), ((5 - s : Nat) : Int))) N (k + 1) d2 (by omega) (by omega) (by omega) (by omega) (by omega) z2
      rw [f1]
      have := Kl hc (N := N) (a := a) (b := b) J hJ s k n (shiftUp (Cq c) b (k + 1) d2) (by omega) (by omega) (by omega) (by omega) (by omega) (by omega) (by omega) f3
      rw [f2, z1] at this
      exact this
     ·rw [AH (by omega), if_neg h3]
      have := Kl hc (N := N) (a := a) (b := b) J hJ s k n d2 (by omega) (by omega) (by omega) (by omega) (by omega) (by omega) (by omega) z2
      rw [z1] at this
      exact this
    by_cases h4 : k - a ≥ 2
    ·rw [AK (by omega), if_pos h4]
     obtain ⟨f1, f2, f3⟩ := Oj hc N (fun v22 => AW (decide (2 ≤ (wI .i64 ((b : Int) - (k : Int)))))
        (Gs.partialInsertionSort_L33 N (b : Int) cmp (fun v34 => Gs.partialInsertionSort_L1 N (a : Int) (b : Int) cmp J n (v34, (k : Int), ((5 - s : Nat) : Int))) N (v22, (wI .i64 ((k : Int) + 1))))
        (Gs.partialInsertionSort_L1 N (a : Int) (b : Int) cmp J n (v22, (k : Int), ((5 - s : Nat) : Int)))) N (k - 1) (swp d k (k - 1)) (by omega) (by omega) (by omega) hA1
     rw [f1]
     exact fin _ (by rw [f2, hs1]) f3
    ·rw [AH (by omega), if_neg h4]
     exact fin _ hs1 hA1
theorem R8 (hc : ∀ x y, P x → P y → cmp (x, y) = some (c x y)) {N a b : Nat} {d : Array α} (hab : a < b) (hb : b ≤ d.size) (hN : d.size < N) (h6 : 6 ≤ N) (hs : d.size ≤ 100000) (hA : Dk P d) :
  Gs.partialInsertionSort N d.toList (a : Int) (b : Int) cmp = some ((partialInsertionSort (Cq c) d a b).2, (partialInsertionSort (Cq c) d a b).1.toList) ∧ (partialInsertionSort (Cq c) d a b).1.size = d.size ∧ Dk P (partialInsertionSort (Cq c) d a b).1 := by
 unfold Gs.partialInsertionSort partialInsertionSort
 rw [wn (e := (a : Int) + 1) (n := a + 1) (by omega) (by omega)]
 exact Kl hc (fun v2 => some (false, v2)) (fun _ => rfl) 5 (a + 1) N d (by omega) (Nat.le_refl _) (by omega) (by omega) hb hN hs hA
end
end Go.Lift
namespace Go.Lift
open Option renaming bind_some → oS
open Go
open Go.Sort (swp scanUp scanDown partLoop partition partEqLoop partitionEqual scanUp_ge scanDown_le scanUp_spec scanDown_spec guard_of)
section
variable {α : Type} [Inhabited α] {P : α → Prop} {cmp : α × α → Option Int} {c : α → α → Int}
theorem WA (hc : ∀ x y, P x → P y → cmp (x, y) = some (c x y)) (N a : Nat) {d : Array α} (ha : a < d.size) (hs : d.size ≤ 100000) (hA : Dk P d) (x : Int) {j : Nat} (hj : j < d.size) (J : Int → Option (Int × List α)) : ∀ (n i : Nat), j + 1 - i < n → i ≤ 100001 →
  Gs.partitionEqual_L7 N (a : Int) cmp (d.toList, x, (j : Int)) J n (i : Int) = J (scanUp (fun x => !Cq c d[a]! x) d j i : Nat)
 | 0, i, h, _ => by omega
 | n + 1, i, h, hi => by
  rw [Gs.partitionEqual_L7, scanUp]
  simp only [Be]
  by_cases h1 : i ≤ j
  ·rw [AK (by omega)]
   simp only [gi ha, gi (show i < d.size by omega), oS]
   rw [hc _ _ (hA.get ha) (hA.get (by omega))]
   simp only [oS]
   cases hl : decide (c d[a]! d[i]! < 0)
   ·rw [Bool.not_false, AN, if_pos (by simp [h1, Cq, hl]), wn (e := (i : Int) + 1) (n := i + 1) (by omega) (by omega)]
    exact WA hc N a ha hs hA x hj J n (i + 1) (by omega) (by omega)
   ·rw [Bool.not_true, Ax, if_neg (by simp [Cq, hl])]
  ·rw [AH (by omega), Ax, if_neg (by simp [h1])]
theorem SK (hc : ∀ x y, P x → P y → cmp (x, y) = some (c x y)) (N a : Nat) {d : Array α} (ha : a < d.size) (hs : d.size ≤ 100000) (hA : Dk P d) (x y : Int) {i : Nat} (hi : 1 ≤ i) (J : Int → Option (Int × List α)) : ∀ (n j : Nat), j < n → j < d.size →
  Gs.partitionEqual_L15 N (a : Int) cmp (d.toList, x, y) (i : Int) J n (j : Int) = J (scanDown (fun x => Cq c d[a]! x) d i j : Nat)
 | 0, j, h, _ => by omega
 | n + 1, j, h, hj => by
  rw [Gs.partitionEqual_L15]
  simp only [Be]
  rcases j with _ | j
  ·rw [AH (by omega), Ax]; rfl
  ·rw [scanDown]
   by_cases h1 : i ≤ j + 1
   ·rw [AK (by omega)]
    simp only [gi ha, gi hj, oS]
    rw [hc _ _ (hA.get ha) (hA.get hj)]
    simp only [oS]
    cases hl : decide (c d[a]! d[j + 1]! < 0)
    ·rw [Ax, if_neg (by simp [Cq, hl])]
    ·rw [AN, if_pos (by simp [h1, Cq, hl]), wn (e := ((j + 1 : Nat) : Int) - 1) (n := j) (by omega) (by omega)]
     exact SK hc N a ha hs hA x y hi J n j (by omega) (by omega)
   ·rw [AH (by omega), Ax, if_neg (by simp [h1])]
theorem SO (hc : ∀ x y, P x → P y → cmp (x, y) = some (c x y)) (N a : Nat) (J : List α × Int → Option (Int × List α)) : ∀ (n i j : Nat) (d : Array α), j + 1 - i < n → a < d.size → d.size + 1 < N → d.size ≤ 100000 → 1 ≤ i → i ≤ j + 2 → j < d.size → Dk P d →
  Gs.partitionEqual_L5 N (a : Int) cmp J n (d.toList, (i : Int), (j : Int)) = J ((partEqLoop (Cq c) a i j d).2.toList, ((partEqLoop (Cq c) a i j d).1 : Int)) ∧ (partEqLoop (Cq c) a i j d).2.size = d.size ∧ Dk P (partEqLoop (Cq c) a i j d).2 ∧ i ≤ (partEqLoop (Cq c) a i j d).1 ∧ ∀ B, i ≤ B → j + 1 ≤ B → (partEqLoop (Cq c) a i j d).1 ≤ B
 | 0, i, j, d, h, _, _, _, _, _, _, _ => by omega
 | n + 1, i, j, d, h, ha, hN, hs, hi, hij, hj, hA => by
  rw [Gs.partitionEqual_L5]
  have u1 := scanUp_ge (fun x => !Cq c d[a]! x) d j i
  have u2 := (scanUp_spec (fun x => !Cq c d[a]! x) d j _ i rfl).2.1
  rw [WA hc N a ha hs hA _ hj _ N i (by omega) (by omega)]
  rw [partEqLoop]
  simp only
  generalize hi2 : scanUp (fun x => !Cq c d[a]! x) d j i = i2 at u1 u2
  have d1 := scanDown_le (fun x => Cq c d[a]! x) d i2 j
  have d2 := (scanDown_spec (fun x => Cq c d[a]! x) d i2 j).2.1
  rw [SK hc N a ha hs hA _ _ (show 1 ≤ i2 by omega) _ N j (by omega) hj]
  generalize hj2 : scanDown (fun x => Cq c d[a]! x) d i2 j = j2 at d1 d2
  by_cases h1 : i2 > j2
  ·rw [if_pos h1, AK (by omega)]
   refine ⟨rfl, rfl, hA, u1, fun B h2 h3 => ?_⟩
   by_cases h4 : i ≤ j + 1
   ·exact Nat.le_trans (u2 h4) h3
   ·rw [Go.Sort.scanUp, if_neg (by simp; omega)] at hi2
    simp only; omega
  ·rw [if_neg h1, AH (by omega), dif_pos (guard_of u1 d1 h1)]
   have k1 : i2 < d.size := by omega
   have k2 : j2 < d.size := by omega
   simp only [gi k1, gi k2, oS, Int.toNat_natCast]
   rw [IZ (by simp; omega)]
   simp only [← ES]
   rw [wn (e := (i2 : Int) + 1) (n := i2 + 1) (by omega) (by omega), wn (e := (j2 : Int) - 1) (n := j2 - 1) (by omega) (by omega)]
   obtain ⟨g1, g2, g3, g4, g5⟩ := SO hc N a J n (i2 + 1) (j2 - 1) (swp d i2 j2) (by omega) (by rw [Bx]; omega) (by rw [Bx]; omega) (by rw [Bx]; omega) (by omega) (by omega) (by rw [Bx]; omega) (hA.swp k1 k2)
   rw [Bx] at g2
   exact ⟨g1, g2, g3, by omega, fun B h2 h3 => g5 B (by omega) (by omega)⟩
theorem Y8 (hc : ∀ x y, P x → P y → cmp (x, y) = some (c x y)) {N a b pv : Nat} {d : Array α} (hab : a < b) (hap : a ≤ pv) (hpb : pv < b) (hb : b ≤ d.size) (hN : d.size + 1 < N) (hs : d.size ≤ 100000) (hA : Dk P d) :
  Gs.partitionEqual N d.toList (a : Int) (b : Int) (pv : Int) cmp = some (((partitionEqual (Cq c) d a b pv).1 : Int), (partitionEqual (Cq c) d a b pv).2.toList) ∧ (partitionEqual (Cq c) d a b pv).2.size = d.size ∧ Dk P (partitionEqual (Cq c) d a b pv).2 ∧ a < (partitionEqual (Cq c) d a b pv).1 ∧ (partitionEqual (Cq c) d a b pv).1 ≤ b := by
 unfold Gs.partitionEqual partitionEqual
 have k1 : a < d.size := by omega
 have k2 : pv < d.size := by omega
 simp only [gi k1, gi k2, oS, Int.toNat_natCast]
 rw [IZ (by simp; omega)]
 simp only [← ES]
 rw [wn (e := (a : Int) + 1) (n := a + 1) (by omega) (by omega), wn (e := (b : Int) - 1) (n := b - 1) (by omega) (by omega)]
 obtain ⟨g1, g2, g3, g4, g5⟩ := SO hc N a (fun v6 => some (v6.2, v6.1)) N (a + 1) (b - 1) (swp d a pv) (by omega) (by rw [Bx]; omega) (by rw [Bx]; omega) (by rw [Bx]; omega) (by omega) (by omega) (by rw [Bx]; omega) (hA.swp k1 k2)
 rw [Bx] at g2
 exact ⟨g1, g2, g3, by omega, g5 b (by omega) (by omega)⟩
theorem WE (hc : ∀ x y, P x → P y → cmp (x, y) = some (c x y)) (N a : Nat) {d : Array α} (ha : a < d.size) (hs : d.size ≤ 100000) (hA : Dk P d) (x : Int) {j : Nat} (hj : j < d.size) (J : Int → Option (Int × Bool × List α)) : ∀ (n i : Nat), j + 1 - i < n → i ≤ 100001 →
  Gs.partition_L32 N (a : Int) cmp (d.toList, x, (j : Int)) J n (i : Int) = J (scanUp (fun x => Cq c x d[a]!) d j i : Nat)
 | 0, i, h, _ => by omega
 | n + 1, i, h, hi => by
  rw [Gs.partition_L32, scanUp]
  simp only [Be]
  by_cases h1 : i ≤ j
  ·rw [AK (by omega)]
   simp only [gi ha, gi (show i < d.size by omega), oS]
   rw [hc _ _ (hA.get (by omega)) (hA.get ha)]
   simp only [oS]
   cases hl : decide (c d[i]! d[a]! < 0)
   ·rw [Ax, if_neg (by simp [Cq, hl])]
   ·rw [AN, if_pos (by simp [h1, Cq, hl]), wn (e := (i : Int) + 1) (n := i + 1) (by omega) (by omega)]
    exact WE hc N a ha hs hA x hj J n (i + 1) (by omega) (by omega)
  ·rw [AH (by omega), Ax, if_neg (by simp [h1])]
theorem So (hc : ∀ x y, P x → P y → cmp (x, y) = some (c x y)) (N a : Nat) {d : Array α} (ha : a < d.size) (hs : d.size ≤ 100000) (hA : Dk P d) (x y : Int) {i : Nat} (hi : 1 ≤ i) (J : Int → Option (Int × Bool × List α)) : ∀ (n j : Nat), j < n → j < d.size →
  Gs.partition_L40 N (a : Int) cmp (d.toList, x, y) (i : Int) J n (j : Int) = J (scanDown (fun x => !Cq c x d[a]!) d i j : Nat)
 | 0, j, h, _ => by omega
 | n + 1, j, h, hj => by
  rw [Gs.partition_L40]
  simp only [Be]
  rcases j with _ | j
  ·rw [AH (by omega), Ax]; rfl
  ·rw [scanDown]
   by_cases h1 : i ≤ j + 1
   ·rw [AK (by omega)]
    simp only [gi ha, gi hj, oS]
    rw [hc _ _ (hA.get hj) (hA.get ha)]
    simp only [oS]
    cases hl : decide (c d[j + 1]! d[a]! < 0)
    ·rw [Bool.not_false, AN, if_pos (by simp [h1, Cq, hl]), wn (e := ((j + 1 : Nat) : Int) - 1) (n := j) (by omega) (by omega)]
     exact So hc N a ha hs hA x y hi J n j (by omega) (by omega)
    ·rw [Bool.not_true, Ax, if_neg (by simp [Cq, hl])]
   ·rw [AH (by omega), Ax, if_neg (by simp [h1])]
theorem SD (hc : ∀ x y, P x → P y → cmp (x, y) = some (c x y)) (N a : Nat) (J : List α × Int → Option (Int × Bool × List α)) : ∀ (n i j : Nat) (d : Array α), j + 1 - i < n → a < d.size → d.size + 1 < N → d.size ≤ 100000 → 1 ≤ i → i ≤ j + 2 → j < d.size → Dk P d →
  Gs.partition_L30 N (a : Int) cmp J n (d.toList, (i : Int), (j : Int)) = J ((partLoop (Cq c) a i j d).2.toList, ((partLoop (Cq c) a i j d).1 : Int)) ∧ (partLoop (Cq c) a i j d).2.size = d.size ∧ Dk P (partLoop (Cq c) a i j d).2 ∧ (partLoop (Cq c) a i j d).1 ≤ j ∧ ∀ A, A + 1 ≤ i → A ≤ j → A ≤ (partLoop (Cq c) a i j d).1
 | 0, i, j, d, h, _, _, _, _, _, _, _ => by omega
 | n + 1, i, j, d, h, ha, hN, hs, hi, hij, hj, hA => by
  rw [Gs.partition_L30]
  have u1 := scanUp_ge (fun x => Cq c x d[a]!) d j i
  have u2 := (scanUp_spec (fun x => Cq c x d[a]!) d j _ i rfl).2.1
  rw [WE hc N a ha hs hA _ hj _ N i (by omega) (by omega)]
  rw [partLoop]
  simp only
  generalize hi2 : scanUp (fun x => Cq c x d[a]!) d j i = i2 at u1 u2
  have d1 := scanDown_le (fun x => !Cq c x d[a]!) d i2 j
  rw [So hc N a ha hs hA _ _ (show 1 ≤ i2 by omega) _ N j (by omega) hj]
  generalize hj2 : scanDown (fun x => !Cq c x d[a]!) d i2 j = j2 at d1
  by_cases h1 : i2 > j2
  ·rw [if_pos h1, AK (by omega)]
   refine ⟨rfl, rfl, hA, d1, fun A h2 h3 => ?_⟩
   by_cases h4 : i ≤ j + 1
   ·have := (scanDown_spec (fun x => !Cq c x d[a]!) d i2 j).2.1 (u2 h4)
    rw [hj2] at this
    simp only; omega
   ·have : j2 = j := by
     rw [← hj2]
     rcases j with _ | j
     ·rfl
     ·rw [scanDown, if_neg (by simp; omega)]
    simp only; omega
  ·rw [if_neg h1, AH (by omega), dif_pos (guard_of u1 d1 h1)]
   have k1 : i2 < d.size := by omega
   have k2 : j2 < d.size := by omega
   simp only [gi k1, gi k2, oS, Int.toNat_natCast]
   rw [IZ (by simp; omega)]
   simp only [← ES]
   rw [wn (e := (i2 : Int) + 1) (n := i2 + 1) (by omega) (by omega), wn (e := (j2 : Int) - 1) (n := j2 - 1) (by omega) (by omega)]
   obtain ⟨g1, g2, g3, g4, g5⟩ := SD hc N a J n (i2 + 1) (j2 - 1) (swp d i2 j2) (by omega) (by rw [Bx]; omega) (by rw [Bx]; omega) (by rw [Bx]; omega) (by omega) (by omega) (by rw [Bx]; omega) (hA.swp k1 k2)
   rw [Bx] at g2
   exact ⟨g1, g2, g3, by omega, fun A h2 h3 => g5 A (by omega) (by omega)⟩
theorem U2 (hc : ∀ x y, P x → P y → cmp (x, y) = some (c x y)) (N a pv b : Nat) {p0 : List α} {v1 v2 : α} {d : Array α} (hd : (p0.set ((a : Int)).toNat v1).set ((pv : Int)).toNat v2 = d.toList) (ha : a < d.size) (hs : d.size ≤ 100000) (hA : Dk P d) (hb : b ≤ d.size) (hb1 : 1 ≤ b) (J : Int → Option (Int × Bool × List α)) : ∀ (n i : Nat), b - i < n → i ≤ 100001 →
  Gs.partition_L5 N p0 (a : Int) (b : Int) (pv : Int) cmp v1 v2 J n (i : Int) = J (scanUp (fun x => Cq c x d[a]!) d (b - 1) i : Nat)
 | 0, i, h, _ => by omega
 | n + 1, i, h, hi => by
  rw [Gs.partition_L5, scanUp]
  simp only [Be, hd]
  rw [wn (e := (b : Int) - 1) (n := b - 1) (by omega) (by omega)]
  by_cases h1 : i ≤ b - 1
  ·rw [AK (by omega)]
   simp only [gi ha, gi (show i < d.size by omega), oS]
   rw [hc _ _ (hA.get (by omega)) (hA.get ha)]
   simp only [oS]
   cases hl : decide (c d[i]! d[a]! < 0)
   ·rw [Ax, if_neg (by simp [Cq, hl])]
   ·rw [AN, if_pos (by simp [h1, Cq, hl]), wn (e := (i : Int) + 1) (n := i + 1) (by omega) (by omega)]
    exact U2 hc N a pv b hd ha hs hA hb hb1 J n (i + 1) (by omega) (by omega)
  ·rw [AH (by omega), Ax, if_neg (by simp [h1])]
theorem QK (hc : ∀ x y, P x → P y → cmp (x, y) = some (c x y)) (N a pv : Nat) {p0 : List α} {v1 v2 : α} {d : Array α} (hd : (p0.set ((a : Int)).toNat v1).set ((pv : Int)).toNat v2 = d.toList) (ha : a < d.size) (hs : d.size ≤ 100000) (hA : Dk P d) {i : Nat} (hi : 1 ≤ i) (J : Int → Option (Int × Bool × List α)) : ∀ (n j : Nat), j < n → j < d.size →
  Gs.partition_L13 N p0 (a : Int) (pv : Int) cmp v1 v2 (i : Int) J n (j : Int) = J (scanDown (fun x => !Cq c x d[a]!) d i j : Nat)
 | 0, j, h, _ => by omega
 | n + 1, j, h, hj => by
  rw [Gs.partition_L13]
  simp only [Be, hd]
  rcases j with _ | j
  ·rw [AH (by omega), Ax]; rfl
  ·rw [scanDown]
   by_cases h1 : i ≤ j + 1
   ·rw [AK (by omega)]
    simp only [gi ha, gi hj, oS]
    rw [hc _ _ (hA.get hj) (hA.get ha)]
    simp only [oS]
    cases hl : decide (c d[j + 1]! d[a]! < 0)
    ·rw [Bool.not_false, AN, if_pos (by simp [h1, Cq, hl]), wn (e := ((j + 1 : Nat) : Int) - 1) (n := j) (by omega) (by omega)]
     exact QK hc N a pv hd ha hs hA hi J n j (by omega) (by omega)
    ·rw [Bool.not_true, Ax, if_neg (by simp [Cq, hl])]
   ·rw [AH (by omega), Ax, if_neg (by simp [h1])]
theorem Yd (hc : ∀ x y, P x → P y → cmp (x, y) = some (c x y)) {N a b pv : Nat} {d0 : Array α} (hab : a < b) (hap : a ≤ pv) (hpb : pv < b) (hb : b ≤ d0.size) (hN : d0.size + 1 < N) (hs : d0.size ≤ 100000) (hA0 : Dk P d0) :
  Gs.partition N d0.toList (a : Int) (b : Int) (pv : Int) cmp = some (((partition (Cq c) d0 a b pv).1 : Int), (partition (Cq c) d0 a b pv).2.1, (partition (Cq c) d0 a b pv).2.2.toList) ∧ (partition (Cq c) d0 a b pv).2.2.size = d0.size ∧ Dk P (partition (Cq c) d0 a b pv).2.2 ∧ a ≤ (partition (Cq c) d0 a b pv).1 ∧ (partition (Cq c) d0 a b pv).1 < b := by
 unfold Gs.partition partition
 have k1 : a < d0.size := by omega
 have k2 : pv < d0.size := by omega
 simp only [gi k1, gi k2, oS]
 have hd : (d0.toList.set ((a : Int)).toNat d0[pv]!).set ((pv : Int)).toNat d0[a]! = (swp d0 a pv).toList := by rw [ES]; rfl
 have hsz := Bx d0 a pv
 have hA := hA0.swp k1 k2
 generalize swp d0 a pv = d at hd hsz hA
 rw [IZ (by simp; omega)]
 simp only [Int.toNat_natCast] at hd ⊢
 rw [wn (e := (a : Int) + 1) (n := a + 1) (by omega) (by omega), wn (e := (b : Int) - 1) (n := b - 1) (by omega) (by omega)]
 have u1 := scanUp_ge (fun x => Cq c x d[a]!) d (b - 1) (a + 1)
 have u2 := (scanUp_spec (fun x => Cq c x d[a]!) d (b - 1) _ (a + 1) rfl).2.1
 rw [U2 hc N a pv b (p0 := d0.toList) (by simpa using hd) (by omega) (by omega) hA (by omega) (by omega) _ N (a + 1) (by omega) (by omega)]
 generalize hi2 : scanUp (fun x => Cq c x d[a]!) d (b - 1) (a + 1) = i at u1 u2
 have d1 := scanDown_le (fun x => !Cq c x d[a]!) d i (b - 1)
 rw [QK hc N a pv (p0 := d0.toList) (by simpa using hd) (by omega) (by omega) hA (show 1 ≤ i by omega) _ N (b - 1) (by omega) (by omega)]
 generalize hj2 : scanDown (fun x => !Cq c x d[a]!) d i (b - 1) = j at d1
 have a1 : a < d.size := by omega
 have a2 : j < d.size := by omega
 by_cases h1 : i > j
 ·rw [if_pos h1, AK (by omega)]
  simp only [hd, gi a1, gi a2, oS, Int.toNat_natCast]
  rw [IZ (by simp; omega)]
  simp only [← ES]
  refine ⟨trivial, by rw [Bx]; omega, hA.swp a2 a1, ?_, by omega⟩
  have := (scanDown_spec (fun x => !Cq c x d[a]!) d i (b - 1)).2.1 (u2 (by omega))
  rw [hj2] at this
  omega
 ·rw [if_neg h1, AH (by omega)]
  have a3 : i < d.size := by omega
  simp only [hd, gi a3, gi a2, oS, Int.toNat_natCast]
  rw [IZ (by simp; omega)]
  simp only [← ES]
  rw [wn (e := (i : Int) + 1) (n := i + 1) (by omega) (by omega), wn (e := (j : Int) - 1) (n := j - 1) (by omega) (by omega)]
  obtain ⟨g1, g2, g3, g4, g5⟩ := SD hc N a (fun v31 => (Bf v31.1 (a : Int)).bind fun v53 => (Bf v31.1 v31.2).bind fun v54 => (Bf v31.1 v31.2).bind fun _ => (Bf (v31.1.set ((v31.2).toNat) v53) (a : Int)).bind fun _ =>
     some (v31.2, false, (v31.1.set ((v31.2).toNat) v53).set a v54)) N (i + 1) (j - 1) (swp d i j) (by omega) (by rw [Bx]; omega) (by rw [Bx]; omega) (by rw [Bx]; omega) (by omega) (by omega) (by rw [Bx]; omega) (hA.swp a3 a2)
  rw [Bx] at g2
  rw [g1]
  generalize hr : partLoop (Cq c) a (i + 1) (j - 1) (swp d i j) = r at g2 g3 g4 g5
  have b1 : a < r.2.size := by omega
  have b2 : r.1 < r.2.size := by omega
  simp only [gi b1, gi b2, oS, Int.toNat_natCast]
  rw [IZ (by simp; omega)]
  simp only [← ES]
  exact ⟨trivial, by rw [Bx]; omega, g3.swp b2 b1, g5 a (by omega) (by omega), by omega⟩
end
end Go.Lift
namespace Go.Lift
open IntKind renaming wrap → wI
open Option renaming bind_some → oS
open Go
open Go.Sort (swp order2 median medianAdjacent choosePivot Hint xorNext bitsLen breakStep breakPatterns pdq insertionSort heapSort reverseRange partialInsertionSort partitionEqual partition)
theorem Kf {n : Nat} (h : n < 18446744073709551616) : wI .u64 (n : Int) = (n : Int) := by
 show ((n : Int) % (18446744073709551616 : Int)) = n
 exact Int.emod_eq_of_lt (by omega) (by omega)
theorem We (n : Nat) : wI .u64 (n : Int) = ((n % 18446744073709551616 : Nat) : Int) := by
 show ((n : Int) % (18446744073709551616 : Int)) = _
 omega
theorem TM (r : UInt64) : r.toNat < 18446744073709551616 := UInt64.toNat_lt r
theorem XC (r : UInt64) : BitVec.ofInt 64 (r.toNat : Int) = r.toBitVec := by
 rw [BitVec.ofInt_natCast]
 apply BitVec.eq_of_toNat_eq
 rw [BitVec.toNat_ofNat]
 exact Nat.mod_eq_of_lt (TM r)
theorem Vw (r s : UInt64) : Hh .u64 (r.toNat : Int) (s.toNat : Int) = ((r ^^^ s).toNat : Int) := by
 show wI .u64 (((BitVec.ofInt 64 (r.toNat : Int) ^^^ BitVec.ofInt 64 (s.toNat : Int)).toNat : Nat) : Int) = _
 rw [XC, XC]
 exact Kf (BitVec.isLt _)
theorem Sy (r k : UInt64) (q : Nat) (hq : k.toNat = q) (h64 : q < 64) (hs : CJ .u64 (r.toNat : Int) (q : Int) = wI .u64 ((r.toNat : Int) * 2 ^ q)) : CJ .u64 (r.toNat : Int) (q : Int) = ((r <<< k).toNat : Int) := by
 rw [hs, UInt64.toNat_shiftLeft, hq, Nat.mod_eq_of_lt h64, Nat.shiftLeft_eq]
 rw [show ((r.toNat : Int) * 2 ^ q) = ((r.toNat * 2 ^ q : Nat) : Int) from by simp, We]
theorem Y7 (r : UInt64) : CJ .u64 (r.toNat : Int) 13 = ((r <<< 13).toNat : Int) := Sy r 13 13 rfl (by decide) rfl
theorem YD (r : UInt64) : CJ .u64 (r.toNat : Int) 17 = ((r <<< 17).toNat : Int) := Sy r 17 17 rfl (by decide) rfl
theorem aC (r : UInt64) : El .u64 (r.toNat : Int) 7 = ((r >>> 7).toNat : Int) := by
 show (r.toNat : Int).fdiv (128 : Int) = _
 rw [UInt64.toNat_shiftRight, show (7 : UInt64).toNat % 64 = 7 from rfl, Nat.shiftRight_eq_div_pow]
 rw [Int.fdiv_eq_ediv_of_nonneg _ (by omega)]
 omega
theorem Vp (N : Nat) (r : UInt64) : Ea N (r.toNat : Int) = some (((xorNext r).toNat : Int), ((xorNext r).toNat : Int)) := by
 unfold Ea xorNext
 simp only [Y7, Vw, aC, YD]
theorem V1 (r : UInt64) {m : Nat} (h : m < 18446744073709551616) : Fq .u64 (r.toNat : Int) (m : Int) = ((r.toNat &&& m : Nat) : Int) := by
 show wI .u64 (((BitVec.ofInt 64 (r.toNat : Int) &&& BitVec.ofInt 64 (m : Int)).toNat : Nat) : Int) = _
 rw [XC, BitVec.ofInt_natCast, BitVec.toNat_and, BitVec.toNat_ofNat, Nat.mod_eq_of_lt h]
 exact Kf (Nat.lt_of_le_of_lt Nat.and_le_left (TM r))
theorem Vx : ((List.range 1001).all fun n => decide (DB 0 (n : Int) = some ((bitsLen n : Nat) : Int))) = true := by kernel_rfl
theorem YT (N : Nat) : DB N = DB 0 := rfl
theorem U1 (N : Nat) {n : Nat} (h : n ≤ 1000) : DB N (n : Int) = some ((bitsLen n : Nat) : Int) := by
 rw [YT]
 exact of_decide_eq_true (List.all_eq_true.1 Vx n (List.mem_range.2 (by omega)))
theorem SG {n : Nat} (h : n ≤ 1000) : bitsLen n ≤ 10 := by
 have : ((List.range 1001).all fun n => decide (bitsLen n ≤ 10)) = true := by kernel_rfl
 exact of_decide_eq_true (List.all_eq_true.1 this n (List.mem_range.2 (by omega)))
theorem SX {n : Nat} (h : n ≤ 1000) (h1 : 1 ≤ n) : n < 1 <<< bitsLen n ∧ 1 <<< bitsLen n ≤ 2 * n ∧ 2 ≤ 1 <<< bitsLen n := by
 have : ((List.range 1001).all fun n => decide (1 ≤ n → n < 1 <<< bitsLen n ∧ 1 <<< bitsLen n ≤ 2 * n ∧ 2 ≤ 1 <<< bitsLen n)) = true := by kernel_rfl
 exact of_decide_eq_true (List.all_eq_true.1 this n (List.mem_range.2 (by omega))) h1
theorem T6 (N : Nat) {n : Nat} (h : n ≤ 1000) (h1 : 1 ≤ n) : DV N (n : Int) = some ((1 <<< bitsLen n : Nat) : Int) := by
 unfold DV
 rw [Kf (by omega), U1 N h]
 simp only [oS]
 rw [AD (by omega)]
 have hb := SG h
 have := SX h h1
 have e : CJ .u64 1 ((bitsLen n : Nat) : Int) = wI .u64 (((1 <<< bitsLen n : Nat)) : Int) := by
  unfold CJ
  rw [show min (((bitsLen n : Nat) : Int)).toNat (IntKind.bits .u64) = bitsLen n from by
   rw [Int.toNat_natCast]; show min _ 64 = _; omega]
  rw [Nat.shiftLeft_eq]
  simp
 rw [e, Kf (by omega)]
section
variable {α : Type} [Inhabited α] {P : α → Prop} {cmp : α × α → Option Int} {c : α → α → Int}
theorem LP (N a b m : Nat) (hm : m < 1000000) {d : Array α} {r : UInt64} {idx0 : Nat} (hab : a + 8 ≤ b) (hb : b ≤ d.size) (hs : d.size ≤ 1000) (hml : b - a < m ∧ m ≤ 2 * (b - a)) (h0 : idx0 < d.size) (h1 : idx0 ≤ a + (b - a) / 4 * 2 + 1) (h2 : a ≤ idx0) (J : List α → Option (List α)) (n : Nat) (hA : Dk P d) :
  Gs.breakPatterns_L3 N (a : Int) (b : Int) (m : Int) J (n + 1) (d.toList, (r.toNat : Int), (idx0 : Int)) = Gs.breakPatterns_L3 N (a : Int) (b : Int) (m : Int) J n ((breakStep a (b - a) m (r, d) idx0).2.toList, ((breakStep a (b - a) m (r, d) idx0).1.toNat : Int), ((idx0 + 1 : Nat) : Int)) ∧ (breakStep a (b - a) m (r, d) idx0).2.size = d.size ∧ Dk P (breakStep a (b - a) m (r, d) idx0).2 := by
 rw [Gs.breakPatterns_L3]
 have el : wI .i64 ((b : Int) - (a : Int)) = ((b - a : Nat) : Int) := wn (by omega) (by omega)
 have e4 : wI .i64 (Int.tdiv ((b - a : Nat) : Int) 4) = (((b - a) / 4 : Nat) : Int) := wn (by rw [Int.tdiv_eq_ediv_of_nonneg (by omega)]; omega) (by omega)
 have f2x : wI .i64 ((((b - a) / 4 : Nat) : Int) * 2) = (((b - a) / 4 * 2 : Nat) : Int) := wn (by omega) (by omega)
 have g2x : wI .i64 ((a : Int) + (((b - a) / 4 * 2 : Nat) : Int)) = ((a + (b - a) / 4 * 2 : Nat) : Int) := wn (by omega) (by omega)
 have e1 : wI .i64 (((a + (b - a) / 4 * 2 : Nat) : Int) + 1) = ((a + (b - a) / 4 * 2 + 1 : Nat) : Int) := wn (by omega) (by omega)
 simp only [el, e4, f2x, g2x, e1]
 rw [AK (by omega), Vp]
 simp only [oS, Be]
 rw [show wI .u64 ((m : Int) - 1) = ((m - 1 : Nat) : Int) from by rw [show ((m : Int) - 1) = ((m - 1 : Nat) : Int) from by omega]; exact Kf (by omega)]
 rw [V1 _ (by omega)]
 have hle : (xorNext r).toNat &&& (m - 1) ≤ m - 1 := Nat.and_le_right
 unfold breakStep
 simp only
 generalize ho : (xorNext r).toNat &&& (m - 1) = o at hle
 rw [wn (e := ((o : Nat) : Int)) (n := o) rfl (by omega)]
 have fin : ∀ q : Nat, q < b - a → ((Bf d.toList (wI .i64 ((a : Int) + (q : Int)))).bind fun v9 => (Bf d.toList (idx0 : Int)).bind fun v10 => (Bf d.toList (idx0 : Int)).bind fun _ =>
   (Bf (d.toList.set ((idx0 : Int)).toNat v9) (wI .i64 ((a : Int) + (q : Int)))).bind fun _ =>
    Gs.breakPatterns_L3 N (a : Int) (b : Int) (m : Int) J n ((d.toList.set ((idx0 : Int)).toNat v9).set ((wI .i64 ((a : Int) + (q : Int)))).toNat v10, ((xorNext r).toNat : Int), (wI .i64 ((idx0 : Int) + 1)))) =
   Gs.breakPatterns_L3 N (a : Int) (b : Int) (m : Int) J n ((swp d idx0 (a + q)).toList, ((xorNext r).toNat : Int), ((idx0 + 1 : Nat) : Int)) ∧ (swp d idx0 (a + q)).size = d.size ∧ Dk P (swp d idx0 (a + q)) := by
  intro q hq
  have k1 : a + q < d.size := by omega
  rw [wn (e := (a : Int) + (q : Int)) (n := a + q) (by omega) (by omega), wn (e := (idx0 : Int) + 1) (n := idx0 + 1) (by omega) (by omega)]
  simp only [gi k1, gi h0, oS, Int.toNat_natCast]
  rw [IZ (by simp; omega), ← ES]
  exact ⟨rfl, Bx _ _ _, hA.swp h0 k1⟩
 by_cases hge : b - a ≤ o
 ·rw [AK (by omega), if_pos hge, wn (e := ((o : Nat) : Int) - ((b - a : Nat) : Int)) (n := o - (b - a)) (by omega) (by omega)]
  exact fin (o - (b - a)) (by omega)
 ·rw [AH (by omega), if_neg hge]
  exact fin o (by omega)
theorem Um {N a b : Nat} {d : Array α} (hab : a + 8 ≤ b) (hb : b ≤ d.size) (hN : d.size < N) (hs : d.size ≤ 1000) (h6 : 6 ≤ N) (hA : Dk P d) :
  Gs.breakPatterns N d.toList (a : Int) (b : Int) cmp = some (breakPatterns d a b).toList ∧ (breakPatterns d a b).size = d.size ∧ Dk P (breakPatterns d a b) := by
 unfold Gs.breakPatterns breakPatterns
 simp only
 rw [wn (e := (b : Int) - (a : Int)) (n := b - a) (by omega) (by omega), AK (by omega), if_pos (by omega), T6 N (by omega) (by omega)]
 simp only [oS]
 have hp := SX (n := b - a) (by omega) (by omega)
 rw [Kf (by omega)]
 have e4 : wI .i64 (Int.tdiv ((b - a : Nat) : Int) 4) = (((b - a) / 4 : Nat) : Int) := wn (by rw [Int.tdiv_eq_ediv_of_nonneg (by omega)]; omega) (by omega)
 have f2x : wI .i64 ((((b - a) / 4 : Nat) : Int) * 2) = (((b - a) / 4 * 2 : Nat) : Int) := wn (by omega) (by omega)
 have g2x : wI .i64 ((a : Int) + (((b - a) / 4 * 2 : Nat) : Int)) = ((a + (b - a) / 4 * 2 : Nat) : Int) := wn (by omega) (by omega)
 have e1y : wI .i64 (((a + (b - a) / 4 * 2 : Nat) : Int) - 1) = ((a + (b - a) / 4 * 2 - 1 : Nat) : Int) := wn (by omega) (by omega)
 simp only [e4, f2x, g2x, e1y]
 generalize hm : 1 <<< bitsLen (b - a) = m at hp
 have hr0 : ((b - a : Nat) : Int) = ((UInt64.ofNat (b - a)).toNat : Int) := by
  rw [UInt64.toNat_ofNat', Nat.mod_eq_of_lt (by omega)]
 rw [hr0]
 generalize hi : a + (b - a) / 4 * 2 - 1 = i0
 generalize UInt64.ofNat (b - a) = r0
 obtain ⟨N', rfl⟩ : ∃ q, N = q + 4 := ⟨N - 4, by omega⟩
 obtain ⟨f1, f2, f3⟩ := LP (N' + 4) a b m (by omega) (r := r0) (idx0 := i0) hab hb hs ⟨hp.1, hp.2.1⟩ (by omega) (by omega) (by omega) (fun v4 => some v4) (N' + 3) hA
 rw [f1]
 generalize hs1 : breakStep a (b - a) m (r0, d) i0 = s1 at f2 f3
 obtain ⟨r1, d1⟩ := s1
 simp only at f2 f3 ⊢
 obtain ⟨g1, g2, g3⟩ := LP (N' + 4) a b m (by omega) (r := r1) (d := d1) (idx0 := i0 + 1) hab (by omega) (by omega) ⟨hp.1, hp.2.1⟩ (by omega) (by omega) (by omega) (fun v4 => some v4) (N' + 2) f3
 rw [g1]
 generalize hs2 : breakStep a (b - a) m (r1, d1) (i0 + 1) = s2 at g2 g3
 obtain ⟨r2, d2⟩ := s2
 simp only at g2 g3 ⊢
 obtain ⟨k1, k2, k3⟩ := LP (N' + 4) a b m (by omega) (r := r2) (d := d2) (idx0 := i0 + 1 + 1) hab (by omega) (by omega) ⟨hp.1, hp.2.1⟩ (by omega) (by omega) (by omega) (fun v4 => some v4) (N' + 1) g3
 rw [k1, Gs.breakPatterns_L3]
 have el : wI .i64 ((b : Int) - (a : Int)) = ((b - a : Nat) : Int) := wn (by omega) (by omega)
 have e4 : wI .i64 (Int.tdiv ((b - a : Nat) : Int) 4) = (((b - a) / 4 : Nat) : Int) := wn (by rw [Int.tdiv_eq_ediv_of_nonneg (by omega)]; omega) (by omega)
 have f2x : wI .i64 ((((b - a) / 4 : Nat) : Int) * 2) = (((b - a) / 4 * 2 : Nat) : Int) := wn (by omega) (by omega)
 have g2x : wI .i64 ((a : Int) + (((b - a) / 4 * 2 : Nat) : Int)) = ((a + (b - a) / 4 * 2 : Nat) : Int) := wn (by omega) (by omega)
 have e1 : wI .i64 (((a + (b - a) / 4 * 2 : Nat) : Int) + 1) = ((a + (b - a) / 4 * 2 + 1 : Nat) : Int) := wn (by omega) (by omega)
 simp only [el, e4, f2x, g2x, e1]
 rw [AH (by omega)]
 exact ⟨rfl, k2.trans (g2.trans f2), k3⟩
theorem R1 (hc : ∀ x y, P x → P y → cmp (x, y) = some (c x y)) (N : Nat) {d : Array α} {a b s : Nat} (ha : a < d.size) (hb : b < d.size) (hs : s < 1000) (hA : Dk P d) : Gs.order2 N d.toList (a : Int) (b : Int) (s : Int) cmp = some (((order2 (Cq c) d a b s).1 : Int), ((order2 (Cq c) d a b s).2.1 : Int), ((order2 (Cq c) d a b s).2.2 : Int)) ∧
  (order2 (Cq c) d a b s).1 < d.size ∧ (order2 (Cq c) d a b s).2.1 < d.size ∧ (order2 (Cq c) d a b s).2.2 ≤ s + 1 := by
 unfold Gs.order2 order2
 simp only [gi ha, gi hb, oS]
 rw [hc _ _ (hA.get hb) (hA.get ha)]
 simp only [oS]
 rw [wn (e := (s : Int) + 1) (n := s + 1) (by omega) (by omega)]
 cases hl : decide (c d[b]! d[a]! < 0)
 ·rw [Ax, if_neg (by simp [Cq, hl])]
  exact ⟨rfl, ha, hb, by simp⟩
 ·rw [AN, if_pos (by simp [Cq, hl])]
  exact ⟨rfl, hb, ha, by simp⟩
theorem RX (hc : ∀ x y, P x → P y → cmp (x, y) = some (c x y)) (N : Nat) {d : Array α} {a b e s : Nat} (ha : a < d.size) (hb : b < d.size) (he : e < d.size) (hs : s < 900) (hA : Dk P d) : Gs.median N d.toList (a : Int) (b : Int) (e : Int) (s : Int) cmp = some (((median (Cq c) d a b e s).1 : Int), ((median (Cq c) d a b e s).2 : Int)) ∧ (median (Cq c) d a b e s).1 < d.size ∧ (median (Cq c) d a b e s).2 ≤ s + 3 := by
 unfold Gs.median median
 simp only
 obtain ⟨f1, f2, f3, f4⟩ := R1 hc N ha hb (show s < 1000 by omega) hA
 rw [f1]
 simp only [oS]
 obtain ⟨g1, g2, g3, g4⟩ := R1 hc N f3 he (show (order2 (Cq c) d a b s).2.2 < 1000 by omega) hA
 rw [g1]
 simp only [oS]
 obtain ⟨k1, k2, k3, k4⟩ := R1 hc N f2 g2 (show (order2 (Cq c) d (order2 (Cq c) d a b s).2.1 e (order2 (Cq c) d a b s).2.2).2.2 < 1000 by omega) hA
 rw [k1]
 exact ⟨rfl, k3, by omega⟩
theorem RK (hc : ∀ x y, P x → P y → cmp (x, y) = some (c x y)) (N : Nat) {d : Array α} {a s : Nat} (h1 : 1 ≤ a) (ha : a + 1 < d.size) (hs : s < 900) (hz : d.size ≤ 100000) (hA : Dk P d) : Gs.medianAdjacent N d.toList (a : Int) (s : Int) cmp = some (((medianAdjacent (Cq c) d a s).1 : Int), ((medianAdjacent (Cq c) d a s).2 : Int)) ∧ (medianAdjacent (Cq c) d a s).1 < d.size ∧ (medianAdjacent (Cq c) d a s).2 ≤ s + 3 := by
 unfold Gs.medianAdjacent medianAdjacent
 rw [wn (e := (a : Int) - 1) (n := a - 1) (by omega) (by omega), wn (e := (a : Int) + 1) (n := a + 1) (by omega) (by omega)]
 obtain ⟨f1, f2, f3⟩ := RX hc N (d := d) (a := a - 1) (b := a) (e := a + 1) (by omega) (by omega) ha hs hA
 rw [f1]
 exact ⟨rfl, f2, f3⟩
def M9 : Hint → Int
 | .unknown => 0
 | .increasing => 1
 | .decreasing => 2
theorem T5 (hc : ∀ x y, P x → P y → cmp (x, y) = some (c x y)) (N : Nat) {d : Array α} {a b : Nat} (hab : a + 12 < b) (hb : b ≤ d.size) (hz : d.size ≤ 100000) (hA : Dk P d) : Gs.choosePivot N d.toList (a : Int) (b : Int) cmp = some (((choosePivot (Cq c) d a b).1 : Int), M9 (choosePivot (Cq c) d a b).2) := by
 unfold Gs.choosePivot choosePivot
 simp only [Be]
 have el : wI .i64 ((b : Int) - (a : Int)) = ((b - a : Nat) : Int) := wn (by omega) (by omega)
 have e4 : wI .i64 (Int.tdiv ((b - a : Nat) : Int) 4) = (((b - a) / 4 : Nat) : Int) := wn (by rw [Int.tdiv_eq_ediv_of_nonneg (by omega)]; omega) (by omega)
 have f1 : wI .i64 ((((b - a) / 4 : Nat) : Int) * 1) = (((b - a) / 4 * 1 : Nat) : Int) := wn (by omega) (by omega)
 have f2 : wI .i64 ((((b - a) / 4 : Nat) : Int) * 2) = (((b - a) / 4 * 2 : Nat) : Int) := wn (by omega) (by omega)
 have f3 : wI .i64 ((((b - a) / 4 : Nat) : Int) * 3) = (((b - a) / 4 * 3 : Nat) : Int) := wn (by omega) (by omega)
 have g1 : wI .i64 ((a : Int) + (((b - a) / 4 * 1 : Nat) : Int)) = ((a + (b - a) / 4 * 1 : Nat) : Int) := wn (by omega) (by omega)
 have g2 : wI .i64 ((a : Int) + (((b - a) / 4 * 2 : Nat) : Int)) = ((a + (b - a) / 4 * 2 : Nat) : Int) := wn (by omega) (by omega)
 have g3 : wI .i64 ((a : Int) + (((b - a) / 4 * 3 : Nat) : Int)) = ((a + (b - a) / 4 * 3 : Nat) : Int) := wn (by omega) (by omega)
 simp only [el, e4, f1, f2, f3, g1, g2, g3]
 generalize hi : a + (b - a) / 4 * 1 = i
 generalize hj : a + (b - a) / 4 * 2 = j
 generalize hk : a + (b - a) / 4 * 3 = k
 have hsw : ∀ (p s : Nat), (AW (((s : Nat) : Int) == 0) (some ((p : Int), (1 : Int))) (AW (((s : Nat) : Int) == 12) (some ((p : Int), (2 : Int))) (some ((p : Int), (0 : Int))))) = some ((p : Int), M9 (if s = 0 then .increasing else if s = 12 then .decreasing else .unknown)) := by
  intro p s
  by_cases h0 : s = 0
  ·subst h0; rfl
  ·rw [if_neg h0, show (((s : Nat) : Int) == 0) = false from beq_eq_false_iff_ne.2 (by omega), Ax]
   by_cases h12 : s = 12
   ·subst h12; rfl
   ·rw [if_neg h12, show (((s : Nat) : Int) == 12) = false from beq_eq_false_iff_ne.2 (by omega), Ax]; rfl
 rw [AK (by omega), if_pos (show b - a ≥ 8 by omega)]
 by_cases h50 : b - a ≥ 50
 ·rw [AK (by omega), if_pos h50]
  obtain ⟨a1, a2, a3⟩ := RK hc N (d := d) (a := i) (s := 0) (by omega) (by omega) (by omega) hz hA
  have a1' : Gs.medianAdjacent N d.toList (i : Int) 0 cmp = _ := a1
  rw [a1']
  simp only [oS]
  obtain ⟨b1, b2, b3⟩ := RK hc N (d := d) (a := j) (s := (medianAdjacent (Cq c) d i 0).2) (by omega) (by omega) (by omega) hz hA
  rw [b1]
  simp only [oS]
  obtain ⟨c1, c2, c3⟩ := RK hc N (d := d) (a := k) (s := (medianAdjacent (Cq c) d j (medianAdjacent (Cq c) d i 0).2).2) (by omega) (by omega) (by omega) hz hA
  rw [c1]
  simp only [oS]
  obtain ⟨d1, d2, d3⟩ := RX hc N a2 b2 c2 (show (medianAdjacent (Cq c) d k (medianAdjacent (Cq c) d j (medianAdjacent (Cq c) d i 0).2).2).2 < 900 by omega) hA
  rw [d1]
  simp only [oS]
  exact hsw _ _
 ·rw [AH (by omega), if_neg h50]
  obtain ⟨d1, d2, d3⟩ := RX hc N (d := d) (a := i) (b := j) (e := k) (s := 0) (by omega) (by omega) (by omega) (by omega) hA
  have d1' : Gs.median N d.toList (i : Int) (j : Int) (k : Int) 0 cmp = _ := d1
  rw [d1']
  simp only [oS]
  exact hsw _ _
end
end Go.Lift
namespace Go.Lift
open IntKind renaming wrap → wI
open Option renaming bind_some → oS
open Go
open Go.Sort (swp Hint bitsLen pdq insertionSort heapSort reverseRange partialInsertionSort partitionEqual partition choosePivot breakPatterns SWO PermIn SortedIn Below)
section
variable {α : Type} [Inhabited α] {P : α → Prop} {cmp : α × α → Option Int} {c : α → α → Int}
theorem Ue (h : Hint) : (M9 h == 1) = decide (h = .increasing) := by cases h <;> rfl
theorem Vc (h : Hint) : (M9 h == 2) = decide (h = .decreasing) := by cases h <;> rfl
theorem TF {N a b limit : Nat} {d : Array α} (wb : Bool) (hab : a + 12 < b) (hb : b ≤ d.size) (hN : d.size < N) (hs : d.size ≤ 1000) (h6 : 6 ≤ N) (hl : 1 ≤ limit ∧ limit ≤ 100) (hA : Dk P d) (F : List α × Int → Option (List α)) :
  Bi F (fun j7 => AW (!wb) ((Gs.breakPatterns N d.toList (a : Int) (b : Int) cmp).bind fun v9 => j7 (v9, wI .i64 ((limit : Int) - 1))) (j7 (d.toList, (limit : Int)))) = F ((if !wb then breakPatterns d a b else d).toList, ((if !wb then limit - 1 else limit : Nat) : Int)) ∧ (if !wb then breakPatterns d a b else d).size = d.size ∧ Dk P (if !wb then breakPatterns d a b else d) := by
 rw [Be]
 cases wb
 ·obtain ⟨f1, f2, f3⟩ := Um (cmp := cmp) (N := N) (show a + 8 ≤ b by omega) hb hN hs h6 hA
  rw [f1, wn (e := (limit : Int) - 1) (n := limit - 1) (by omega) (by omega)]
  exact ⟨rfl, f2, f3⟩
 ·exact ⟨rfl, rfl, hA⟩
theorem UV {N a b p : Nat} {d : Array α} (h : Hint) (hab : a + 12 < b) (hp : a ≤ p) (hpb : p < b) (hb : b ≤ d.size) (hN : d.size < N) (hs : d.size ≤ 1000) (hA : Dk P d) (F : List α × Int × Int → Option (List α)) :
  Bi F (fun j11 => AW (M9 h == 2) ((Gs.reverseRange N d.toList (a : Int) (b : Int) cmp).bind fun v13 => j11 (v13, wI .i64 (wI .i64 ((b : Int) - 1) - wI .i64 ((p : Int) - (a : Int))), 1)) (j11 (d.toList, (p : Int), M9 h))) =
   F ((if h = .decreasing then reverseRange d a b else d).toList, ((if h = .decreasing then (b - 1) - (p - a) else p : Nat) : Int), M9 (if h = .decreasing then Hint.increasing else h)) ∧ (if h = .decreasing then reverseRange d a b else d).size = d.size ∧ Dk P (if h = .decreasing then reverseRange d a b else d) := by
 rw [Be, Vc]
 by_cases hd : h = .decreasing
 ·obtain ⟨f1, f2, f3⟩ := Xn (cmp := cmp) (N := N) (show a < b by omega) hb hN (by omega) hA
  rw [f1, wn (e := (b : Int) - 1) (n := b - 1) (by omega) (by omega), wn (e := (p : Int) - (a : Int)) (n := p - a) (by omega) (by omega), wn (n := (b - 1) - (p - a)) (by omega) (by omega)]
  simp only [hd, decide_true, AN, if_true, oS]
  exact ⟨rfl, f2, f3⟩
 ·simp only [hd, decide_false, Ax, if_false]
  exact ⟨trivial, trivial, hA⟩
def P6 (c : α → α → Int) (wb wp : Bool) (h : Hint) (d : Array α) (a b : Nat) : Array α × Bool := if wb && wp && h = .increasing then partialInsertionSort (Cq c) d a b else (d, false)
theorem Ur (hc : ∀ x y, P x → P y → cmp (x, y) = some (c x y)) {N a b : Nat} {d : Array α} (wb wp : Bool) (h : Hint) (hab : a + 12 < b) (hb : b ≤ d.size) (hN : d.size < N) (hs : d.size ≤ 1000) (h6 : 6 ≤ N) (hA : Dk P d) (F : List α → Option (List α)) :
  Bi F (fun j14 => Bi (fun (v15 : Bool) => AW v15 ((Gs.partialInsertionSort N d.toList (a : Int) (b : Int) cmp).bind fun v19 => AW v19.1 (some v19.2) (j14 v19.2)) (j14 d.toList)) fun j15 => AW wb (AW wp (j15 (M9 h == 1)) (j15 false)) (j15 false)) =
   (if (P6 c wb wp h d a b).2 then some (P6 c wb wp h d a b).1.toList else F (P6 c wb wp h d a b).1.toList) ∧ (P6 c wb wp h d a b).1.size = d.size ∧ Dk P (P6 c wb wp h d a b).1 := by
 rw [Be, Be, Ue]
 unfold P6
 have hno : ∀ q : Bool, q = false → (F d.toList) = (if (if q = true then partialInsertionSort (Cq c) d a b else (d, false)).2 then some (if q = true then partialInsertionSort (Cq c) d a b else (d, false)).1.toList else F (if q = true then partialInsertionSort (Cq c) d a b else (d, false)).1.toList) ∧ (if q = true then partialInsertionSort (Cq c) d a b else (d, false)).1.size = d.size ∧ Dk P (if q = true then partialInsertionSort (Cq c) d a b else (d, false)).1 := by
  intro q hq; subst hq; exact ⟨rfl, rfl, hA⟩
 cases wb
 ·exact hno _ rfl
 cases wp
 ·exact hno _ rfl
 by_cases hd : h = .increasing
 ·simp only [hd, decide_true, AN, Bool.and_self, if_true]
  obtain ⟨f1, f2, f3⟩ := R8 hc (N := N) (show a < b by omega) hb hN h6 (by omega) hA
  rw [f1]
  simp only [oS]
  refine ⟨?_, f2, f3⟩
  cases (partialInsertionSort (Cq c) d a b).2 <;> rfl
 ·simp only [hd, decide_false, Ax, AN]
  exact hno _ rfl
theorem VD (hc : ∀ x y, P x → P y → cmp (x, y) = some (c x y)) {a p : Nat} {d : Array α} (hb : a ≤ d.size) (hs : d.size ≤ 1000) (hp : p < d.size) (hA : Dk P d) (F : Bool → Option (List α)) :
  Bi F (fun j21 => AW (decide (0 < (a : Int))) ((Bf d.toList (wI .i64 ((a : Int) - 1))).bind fun v23 => (Bf d.toList (p : Int)).bind fun v24 => (cmp (v23, v24)).bind fun v25 => j21 (!decide (v25 < 0))) (j21 false)) = F (decide (a > 0) && !Cq c d[a - 1]! d[p]!) := by
 rw [Be]
 by_cases h0 : 0 < a
 ·rw [AK (by omega), wn (e := (a : Int) - 1) (n := a - 1) (by omega) (by omega), gi (show a - 1 < d.size by omega), gi hp]
  simp only [oS]
  rw [hc _ _ (hA.get (by omega)) (hA.get hp)]
  simp only [oS, Cq, h0, decide_true, Bool.true_and, gt_iff_lt]
 ·rw [AH (by omega)]
  simp [h0]
theorem UA (hc : ∀ x y, P x → P y → cmp (x, y) = some (c x y)) {N : Nat} (hN : 1010 ≤ N) : ∀ (w : Nat) (k n : Nat) (d : Array α) (a b limit : Nat) (wb wp : Bool) (J : Unit → Option (List α)), b - a ≤ w → w < n → w ≤ k → a ≤ b → b ≤ d.size → d.size ≤ 1000 → limit ≤ 100 → Dk P d →
  Gs.pdqsort_L1 N cmp (Gs.pdqsort_R N k) J n (d.toList, (a : Int), (b : Int), (limit : Int), wb, wp) = some (pdq (Cq c) d a b limit wb wp).toList ∧ (pdq (Cq c) d a b limit wb wp).size = d.size ∧ Dk P (pdq (Cq c) d a b limit wb wp) := by
 intro w
 induction w using Nat.strongRecOn with
 | _ w ih =>
 intro k n d a b limit wb wp J hw hn hk hab hb hs hl hA
 obtain ⟨n, rfl⟩ : ∃ q, n = q + 1 := ⟨n - 1, by omega⟩
 rw [Gs.pdqsort_L1, pdq]
 have el : wI .i64 ((b : Int) - (a : Int)) = ((b - a : Nat) : Int) := wn (by omega) (by omega)
 simp only [el]
 by_cases h12 : b - a ≤ 12
 ·rw [AK (by omega), if_pos h12]
  obtain ⟨f1, f2, f3⟩ := Xs hc (N := N) hab hb (by omega) (by omega) hA
  rw [f1]
  exact ⟨rfl, f2, f3⟩
 rw [AH (by omega), if_neg h12]
 by_cases h0 : limit = 0
 ·rw [if_pos h0, show ((limit : Int) == 0) = true from beq_iff_eq.2 (by omega), AN]
  obtain ⟨f1, f2, f3⟩ := V5 hc (N := N) (show a < b by omega) hb (by omega) (by omega) hA
  rw [f1]
  exact ⟨rfl, f2, f3⟩
 rw [if_neg h0, show ((limit : Int) == 0) = false from beq_eq_false_iff_ne.2 (by omega), Ax]
 -- the recursion
 have rec_ : ∀ (q : Nat) (d : Array α) (a b limit : Nat), b - a ≤ q → q < w → a ≤ b → b ≤ d.size → d.size ≤ 1000 → limit ≤ 100 → Dk P d → Gs.pdqsort_R N k d.toList (a : Int) (b : Int) (limit : Int) cmp = some (pdq (Cq c) d a b limit true true).toList ∧ (pdq (Cq c) d a b limit true true).size = d.size ∧ Dk P (pdq (Cq c) d a b limit true true) := by
  intro q d a b limit h1 h2 h3 h4 h5 h6 h7
  obtain ⟨k', rfl⟩ : ∃ q, k = q + 1 := ⟨k - 1, by omega⟩
  rw [Gs.pdqsort_R]
  unfold Gs.pdqsort_B
  exact ih (min q 1000) (by omega) k' N d a b limit true true _ (by omega) (by omega) (by omega) h3 h4 h5 h6 h7
 obtain ⟨e1, e2, e3⟩ := TF (cmp := cmp) (N := N) (a := a) (b := b) (limit := limit) wb (by omega) hb (by omega) hs (by omega) ⟨by omega, hl⟩ hA _
 rw [e1]
 clear e1
 generalize (if !wb then breakPatterns d a b else d) = d1 at e2 e3 ⊢
 generalize hl1 : (if !wb then limit - 1 else limit) = l1
 have hl2 : l1 ≤ 100 := by rw [← hl1]; split <;> omega
 clear hl1
 simp only
 rw [T5 hc N (by omega) (by omega) (by omega) e3]
 obtain ⟨p1, p2⟩ := Go.Sort.choosePivot_holds (Cq c) d1 a b (by omega)
 generalize choosePivot (Cq c) d1 a b = cp at p1 p2 ⊢
 obtain ⟨p, h⟩ := cp
 simp only [oS] at p1 p2 ⊢
 obtain ⟨e4, e5, e6⟩ := UV (cmp := cmp) (N := N) (a := a) (b := b) h (by omega) p1 p2 (by omega) (by omega) (by omega) e3 _
 rw [e4]
 clear e4
 generalize (if h = .decreasing then reverseRange d1 a b else d1) = d2 at e5 e6 ⊢
 generalize hq : (if h = .decreasing then (b - 1) - (p - a) else p) = q
 have hq1 : a ≤ q ∧ q < b := by rw [← hq]; split <;> omega
 clear hq
 generalize (if h = .decreasing then Hint.increasing else h) = h'
 simp only
 obtain ⟨e7, e8, e9⟩ := Ur hc (N := N) (a := a) (b := b) wb wp h' (by omega) (show b ≤ d2.size by omega) (by omega) (by omega) (by omega) e6 _
 rw [e7]
 clear e7
 have hpr : (if (wb && wp && decide (h' = Hint.increasing)) = true then partialInsertionSort (Cq c) d2 a b else (d2, false)) = P6 c wb wp h' d2 a b := rfl
 rw [hpr]
 by_cases hpi : (P6 c wb wp h' d2 a b).2 = true
 ·simp only [hpi, if_true]
  exact ⟨trivial, by omega, e9⟩
 simp only [hpi, if_false]
 generalize (P6 c wb wp h' d2 a b).1 = d3 at e8 e9 ⊢
 rw [VD hc (by omega) (by omega) (by omega) e9]
 cases (decide (a > 0) && !Cq c d3[a - 1]! d3[q]!)
 ·simp only [Ax, Bool.false_eq_true, if_false]
  obtain ⟨f1, f2, f3, f4, f5⟩ := Yd hc (N := N) (show a < b by omega) hq1.1 hq1.2 (show b ≤ d3.size by omega) (by omega) (by omega) e9
  rw [f1]
  generalize partition (Cq c) d3 a b q = r at f2 f3 f4 f5 ⊢
  obtain ⟨mid, al, d4⟩ := r
  simp only [oS] at f2 f3 f4 f5 ⊢
  have m1 : wI .i64 ((mid : Int) - (a : Int)) = ((mid - a : Nat) : Int) := wn (by omega) (by omega)
  have m2 : wI .i64 ((b : Int) - (mid : Int)) = ((b - mid : Nat) : Int) := wn (by omega) (by omega)
  have m3 : wI .i64 ((mid : Int) + 1) = ((mid + 1 : Nat) : Int) := wn (by omega) (by omega)
  have m4 : wI .i64 (Int.tdiv ((b - a : Nat) : Int) 8) = (((b - a) / 8 : Nat) : Int) := wn (by rw [Int.tdiv_eq_ediv_of_nonneg (by omega)]; omega) (by omega)
  have m5 : decide ((((b - a) / 8 : Nat) : Int) ≤ ((mid - a : Nat) : Int)) = decide (mid - a ≥ (b - a) / 8) := by rw [decide_eq_decide]; omega
  have m6 : decide ((((b - a) / 8 : Nat) : Int) ≤ ((b - mid : Nat) : Int)) = decide (b - mid ≥ (b - a) / 8) := by rw [decide_eq_decide]; omega
  simp only [m1, m2, m3, m4, m5, m6, dif_pos (show a ≤ mid ∧ mid < b from ⟨f4, f5⟩)]
  by_cases hsm : mid - a < b - mid
  ·rw [AK (by omega)]
   simp only [hsm, if_true]
   obtain ⟨g1, g2, g3⟩ := rec_ (mid - a) d4 a mid l1 (Nat.le_refl _) (by omega) f4 (by omega) (by omega) hl2 f3
   rw [g1]
   simp only [oS]
   obtain ⟨k1, k2, k3⟩ := ih (b - (mid + 1)) (by omega) k n (pdq (Cq c) d4 a mid l1 true true) (mid + 1) b l1 (decide (mid - a ≥ (b - a) / 8)) al J (Nat.le_refl _) (by omega) (by omega) (by omega) (by omega) (by omega) hl2 g3
   exact ⟨k1, by omega, k3⟩
  ·rw [AH (by omega)]
   simp only [hsm, if_false]
   obtain ⟨g1, g2, g3⟩ := rec_ (b - (mid + 1)) d4 (mid + 1) b l1 (Nat.le_refl _) (by omega) (by omega) (by omega) (by omega) hl2 f3
   rw [g1]
   simp only [oS]
   obtain ⟨k1, k2, k3⟩ := ih (mid - a) (by omega) k n (pdq (Cq c) d4 (mid + 1) b l1 true true) a mid l1 (decide (b - mid ≥ (b - a) / 8)) al J (Nat.le_refl _) (by omega) (by omega) (by omega) (by omega) (by omega) hl2 g3
   exact ⟨k1, by omega, k3⟩
 ·simp only [AN, if_true]
  obtain ⟨f1, f2, f3, f4, f5⟩ := Y8 hc (N := N) (show a < b by omega) hq1.1 hq1.2 (show b ≤ d3.size by omega) (by omega) (by omega) e9
  rw [f1]
  generalize partitionEqual (Cq c) d3 a b q = r at f2 f3 f4 f5 ⊢
  obtain ⟨mid, d4⟩ := r
  simp only [oS] at f2 f3 f4 f5 ⊢
  simp only [dif_pos (show a < mid ∧ mid ≤ b from ⟨f4, f5⟩)]
  obtain ⟨k1, k2, k3⟩ := ih (b - mid) (by omega) k n d4 mid b l1 wb wp J (Nat.le_refl _) (by omega) (by omega) (by omega) (by omega) (by omega) hl2 f3
  simp only [Bool.false_eq_true, if_false]
  exact ⟨k1, by omega, k3⟩
end
end Go.Lift
namespace Go.Lift
open Go
open Go.Sort (bitsLen pdq SWO PermIn SortedIn)
structure JM {α : Type} (c : α → α → Int) : Prop where
 anti : ∀ x y, c y x = - c x y
 le : ∀ x y z, c x y ≤ 0 → c y z ≤ 0 → c x z ≤ 0
namespace JM
variable {α : Type} {c : α → α → Int}
theorem self (O : JM c) (x : α) : c x x = 0 := by have := O.anti x x; omega
theorem lt1 (O : JM c) {x y z : α} (h : c x y < 0) (h2 : c y z ≤ 0) : c x z < 0 := by
 have h3 := O.le x y z (by omega) h2
 by_cases h0 : c x z = 0
 ·have h4 := O.anti x z
  have h5 := O.le y z x h2 (by omega)
  have h6 := O.anti x y
  omega
 ·omega
theorem lt2 (O : JM c) {x y z : α} (h : c x y ≤ 0) (h2 : c y z < 0) : c x z < 0 := by
 have h3 := O.le x y z h (by omega)
 by_cases h0 : c x z = 0
 ·have h4 := O.anti x z
  have h5 := O.le z x y (by omega) h
  have h6 := O.anti y z
  omega
 ·omega
theorem or {d : α → α → Int} (O : JM c) (Q : JM d) : JM (fun x y => if c x y = 0 then d x y else c x y) := by
 refine ⟨fun x y => ?_, fun x y z => ?_⟩
 ·have := O.anti x y
  by_cases h : c x y = 0
  ·simp only [h, show c y x = 0 by omega, if_true]; exact Q.anti x y
  ·simp only [h, show ¬ c y x = 0 by omega, if_false]; exact this
 ·intro h1 h2
  have a1 : c x y ≤ 0 := by revert h1; split <;> omega
  have a2 : c y z ≤ 0 := by revert h2; split <;> omega
  have a3 := O.le x y z a1 a2
  by_cases h0 : c x z = 0
  ·have b1 : c x y = 0 := by
    by_cases q : c x y = 0
    ·exact q
    ·have := O.lt1 (show c x y < 0 by omega) a2; omega
   have b2 : c y z = 0 := by
    by_cases q : c y z = 0
    ·exact q
    ·have := O.lt2 a1 (show c y z < 0 by omega); omega
   simp only [b1, b2, h0, if_true] at h1 h2 ⊢
   exact Q.le x y z h1 h2
  ·simp only [h0, if_false]; exact a3
theorem swo (O : JM c) : SWO (Cq c) := by
 refine ⟨fun x => ?_, fun x y z => ?_, fun x y z => ?_⟩
 ·unfold Cq; rw [O.self x]; rfl
 ·unfold Cq; intro h1 h2
  exact decide_eq_true (O.lt1 (of_decide_eq_true h1) (by have := of_decide_eq_true h2; omega))
 ·unfold Cq; intro h1 h2
  have := of_decide_eq_false h1
  have := of_decide_eq_false h2
  have := O.anti x y
  have := O.anti y z
  have := O.anti x z
  have := O.le z y x (by omega) (by omega)
  exact decide_eq_false (by omega)
end JM
section
variable {α : Type} [Inhabited α] {P : α → Prop} {cmp : α × α → Option Int} {c : α → α → Int}
theorem S8 (O : JM c) (hc : ∀ x y, P x → P y → cmp (x, y) = some (c x y)) {N : Nat} (hN : 1010 ≤ N) (l : List α) (hl : l.length ≤ 1000) (hP : ∀ x, x ∈ l → P x) :
  ∃ r : List α, Gs.pdqsort N l 0 ((l.length : Nat) : Int) ((bitsLen l.length : Nat) : Int) cmp = some r ∧ r.Perm l ∧ r.Pairwise (fun x y => c x y ≤ 0) := by
 have hb := SG hl
 have hA : Dk P l.toArray := fun x hx => hP x hx
 obtain ⟨k, rfl⟩ : ∃ q, N = q + 1 := ⟨N - 1, by omega⟩
 obtain ⟨f1, f2, f3⟩ := UA hc hN 1000 k (k + 1) l.toArray 0 l.length (bitsLen l.length) true true (fun _ => none) (by omega) (by omega) (by omega) (by omega) (by simp) (by simpa using hl) (by omega) hA
 obtain ⟨⟨g0, _, g1⟩, g2⟩ := Go.Sort.sort_sorts (Cq c) O.swo l.toArray
 unfold Go.Sort.sort at g0 g1 g2
 simp only [List.size_toArray] at g0 g1 g2
 refine ⟨_, f1, ?_, ?_⟩
 ·generalize pdq (Cq c) l.toArray 0 l.length (bitsLen l.length) true true = d at g0 g1
  have e1 : (d.extract 0 l.length).toList = d.toList := by rw [← g0]; simp
  have e2 : (l.toArray.extract 0 l.length).toList = l := by simp
  rw [e1, e2] at g1
  exact g1
 ·generalize pdq (Cq c) l.toArray 0 l.length (bitsLen l.length) true true = d at g0 g2
  rw [List.pairwise_iff_getElem]
  intro i j hi hj hij
  have := of_decide_eq_false (g2 i j (Nat.zero_le _) hij (by rw [← g0]; simpa using hj))
  rw [getElem!_pos d i (by simpa using hi), getElem!_pos d j (by simpa using hj)] at this
  have h2 := O.anti d[i] d[j]
  simp only [Array.getElem_toList]
  omega
end
section
variable {α : Type} {c : α → α → Int}
abbrev IV (c : α → α → Int) (l : List α) : Prop := l.Pairwise (fun x y => c x y < 0)
theorem OK (O : JM c) : ∀ (a b : List α), IV c a → IV c b → (∀ x, x ∈ a ↔ x ∈ b) → a = b
 | [], [], _, _, _ => rfl
 | [], y :: ys, _, _, h => by have := (h y).2 (by simp); simp at this
 | x :: xs, [], _, _, h => by have := (h x).1 (by simp); simp at this
 | x :: xs, y :: ys, ha, hb, h => by
  obtain ⟨a1, a2⟩ := List.pairwise_cons.1 ha
  obtain ⟨b1, b2⟩ := List.pairwise_cons.1 hb
  have exy : x = y := by
   rcases List.mem_cons.1 ((h x).1 (by simp)) with e | e
   ·exact e
   rcases List.mem_cons.1 ((h y).2 (by simp)) with f | f
   ·exact f.symm
   have := b1 x e
   have := a1 y f
   have := O.anti x y
   omega
  subst exy
  rw [OK O xs ys a2 b2 fun z => ?_]
  constructor
  ·intro hz
   rcases List.mem_cons.1 ((h z).1 (by simp [hz])) with e | e
   ·subst e; have := a1 z hz; have := O.self z; omega
   ·exact e
  ·intro hz
   rcases List.mem_cons.1 ((h z).2 (by simp [hz])) with e | e
   ·subst e; have := b1 z hz; have := O.self z; omega
   ·exact e
end
theorem JM.pull {α β : Type} {c : α → α → Int} (O : JM c) (f : β → α) : JM (fun x y => c (f x) (f y)) := ⟨fun x y => O.anti _ _, fun x y z => O.le _ _ _⟩
theorem Vq : JM (fun (x y : Int) => if x < y then -1 else if x = y then 0 else 1) := by
 refine ⟨fun x y => ?_, fun x y z => ?_⟩
 ·repeat' split
  all_goals omega
 ·repeat' split
  all_goals omega
end Go.Lift
