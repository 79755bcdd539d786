/- Lemmas for ReachVersionsSaid, which YtfnobkfnohhmmaaFinW4 proves. -/
import Derived.Test.YtfnobkfnohhmmaaDec
import Derived.KernelRfl
/- Plain words of the shallow programs. -/
namespace Go.Lift
theorem Dg {α : Type} (xs : List α) (i : Nat) : A7 xs (i : Int) = xs[i]? := by
 unfold A7; simp
theorem D7 {n : Int} (h0 : -9223372036854775808 ≤ n) (h1 : n ≤ 9223372036854775807) : IntKind.wrap .i64 n = n := by
 simp [IntKind.wrap, IntKind.signed, IntKind.bits]; omega
theorem Cg {i : Nat} (h : i < 1000000) : IntKind.wrap .i64 ((i : Int) + 1) = ((i + 1 : Nat) : Int) := by
 rw [D7 (by omega) (by omega)]; simp
@[simp] theorem Ei {α : Type} {a b : Option α} : AR true a b = a := rfl
@[simp] theorem A4 {α : Type} {a b : Option α} : AR false a b = b := rfl
theorem BO {α : Type} {p : Prop} [Decidable p] {a b : Option α} (h : p) : AR (decide p) a b = a := by simp [h]
theorem Bm {α : Type} {p : Prop} [Decidable p] {a b : Option α} (h : ¬ p) : AR (decide p) a b = b := by simp [h]
def Jy : List Int → List Int → Int
 | [], [] => 0
 | [], _ :: _ => -1
 | _ :: _, [] => 1
 | a :: as1, b :: bs => if a < b then -1 else if b < a then 1 else Jy as1 bs
theorem LB {α : Type} {xs : List α} {i : Nat} {x : α} (h : xs[i]? = some x) : xs.drop i = x :: xs.drop (i + 1) := by
 obtain ⟨hi, rfl⟩ := List.getElem?_eq_some_iff.1 h
 exact List.drop_eq_getElem_cons hi
end Go.Lift

/- MixCompare: the order on mixes. -/
namespace Go.Lift
theorem Lp : ∀ a : List Int, Jy a a = 0
 | [] => rfl
 | a :: as1 => by simp [Jy, Lp as1]
theorem Kb : ∀ a b : List Int, Jy a b = 0 → a = b
 | [], [], _ => rfl
 | [], _ :: _, h => by simp [Jy] at h
 | _ :: _, [], h => by simp [Jy] at h
 | a :: as1, b :: bs, h => by
  unfold Jy at h
  split at h
  ·omega
  ·split at h
   ·omega
   ·rw [Kb as1 bs h, show a = b from by omega]
def RT : List Int → Int
 | [] => 0
 | x :: xs => if x = 0 then RT xs else x
def TD (a : Ae) : Prop := a.fBase.length ≤ 8 ∧ a.fNext.length ≤ 8 ∧ a.fHeld.length ≤ 14
theorem P1 (N : Nat) (a : Ae) : ∃ b, DJ N a = some b ∧ (b = true → TD a) := by
 unfold DJ
 simp only [Bi]
 by_cases h1 : a.fBase.length ≤ 8 <;> by_cases h2 : a.fNext.length ≤ 8 <;> by_cases h3 : a.fHeld.length ≤ 14 <;>
  ·refine ⟨_, by first
    | rw [Bm (p := (a.fBase.length : Int) ≤ 8) (by omega)]
    | rw [BO (p := (a.fBase.length : Int) ≤ 8) (by omega), Bm (p := (a.fNext.length : Int) ≤ 8) (by omega)]
    | rw [BO (p := (a.fBase.length : Int) ≤ 8) (by omega), BO (p := (a.fNext.length : Int) ≤ 8) (by omega)], ?_⟩
   first
    | (intro h; exact absurd h (by decide))
    | (intro h; have := of_decide_eq_true h; exact ⟨h1, h2, by omega⟩)
def Pw (a b : Ae) : Int := RT [Jy a.fBase b.fBase, Jy a.fNext b.fNext, Jy a.fHeld b.fHeld]
theorem N4 (a : Ae) : Pw a a = 0 := by unfold Pw; simp [Lp, RT]
end Go.Lift

/- The law MixCompare in plain words. -/
namespace Go.Lift
end Go.Lift

/- Search loops in plain words; the two tests of a problem give the same answer. -/
namespace Go.Lift
def DP {α R : Type} (f : Nat → α → Option R) : Nat → List α → Option R
 | _, [] => none
 | i, x :: xs => match f i x with
  | some r => some r
  | none => DP f (i + 1) xs
theorem HH {α R : Type} (f : Nat → α → Option R) (i : Nat) (x : α) (xs : List α) : DP f i (x :: xs) = match f i x with
  | some r => some r
  | none => DP f (i + 1) xs := rfl
def By {R : Type} (a : Option R) (b : Option R) : Option R := match a with
 | some r => some r
 | none => b
theorem Dp {α R : Type} (L : Nat → Int → Option R) (xs : List α) (j : Option R) (f : Nat → α → Option R)
  (hs : ∀ (n i : Nat) (x : α), xs[i]? = some x → L (n + 1) (i : Int) = By (f i x) (L n ((i + 1 : Nat) : Int))) (he : ∀ n : Nat, L (n + 1) (xs.length : Int) = j) :
  ∀ n i : Nat, i ≤ xs.length → xs.length - i < n → L n (i : Int) = By (DP f i (xs.drop i)) j
 | 0, i, _, h => by omega
 | n + 1, i, hi, h => by
  by_cases h1 : i < xs.length
  ·have hx : xs[i]? = some xs[i] := by simp [h1]
   rw [hs n i _ hx, LB hx, Dp L xs j f hs he n (i + 1) (by omega) (by omega)]
   rw [HH]
   cases f i xs[i] <;> rfl
  ·have : i = xs.length := by omega
   subst this
   rw [he n, List.drop_eq_nil_of_le (Nat.le_refl _)]
   rfl
theorem Lw (N : Nat) (k n : Int) : C8 N k n = some (decide (0 ≤ k) && decide (k < n)) := by
 unfold C8
 simp only [Bi]
 by_cases h : 0 ≤ k
 ·rw [BO h]; simp [h]
 ·rw [Bm h]; simp [h]
theorem JD (N : Nat) (t : AG) : Bo N t = some (t.fKind == 3 || t.fKind == 4) := by
 unfold Bo
 simp only [Bi]
 cases h : t.fKind == 3 <;> simp
def sq (l : List (List Bool)) (n m : Int) : Bool := decide ((l.length : Int) = n) && l.all fun r => decide ((r.length : Int) = m)
theorem KB {α : Type} (p : α → Bool) {R : Type} (r : Nat → R) : ∀ (i : Nat) (xs : List α), (DP (fun i x => if p x then none else some (r i)) i xs).isNone = xs.all p
 | i, [] => rfl
 | i, x :: xs => by
  unfold DP
  cases h : p x <;> simp [h, KB p r (i + 1) xs]
theorem Lj (N : Nat) (l : List (List Bool)) (n m : Int) (h : n < (N : Int)) (hN : N ≤ 1000000) : CM N l n m = some (sq l n m) := by
 unfold CM sq
 by_cases h1 : (l.length : Int) = n
 ·subst h1
  simp only [bne_self_eq_false, A4, decide_true, Bool.true_and]
  have := Dp (BX N l (l.length : Int) m (fun _ => some true)) l (some true) (fun _ r => if decide ((r.length : Int) = m) then none else some false)
   (fun n i x hx => by
    have hi := (List.getElem?_eq_some_iff.1 hx).1
    rw [BX, BO (by omega), Dg, hx]
    simp only [Option.bind_some]
    rw [Cg (by omega)]
    by_cases h2 : (x.length : Int) = m
    ·simp [h2, By]
    ·have : ((x.length : Int) != m) = true := by simpa using h2
     simp [h2, this, By])
   (fun n => by rw [BX, Bm (by omega)]) N 0 (by omega) (by omega)
  simp only [Int.ofNat_zero, List.drop_zero] at this
  rw [this]
  have h3 := KB (fun r : List Bool => decide ((r.length : Int) = m)) (fun _ => false) 0 l
  cases hsc : DP (fun (_ : Nat) (r : List Bool) => if decide ((r.length : Int) = m) = true then none else some false) 0 l with
  | none => rw [hsc] at h3; rw [← h3]; rfl
  | some b =>
   rw [hsc] at h3
   rw [← h3]
   have : ∀ (i : Nat) (xs : List (List Bool)) b, DP (fun (_ : Nat) (r : List Bool) => if decide ((r.length : Int) = m) = true then none else some false) i xs = some b → b = false := by
    intro i xs
    induction xs generalizing i with
    | nil => intro b hb; cases hb
    | cons x xs ih =>
     intro b hb
     unfold DP at hb
     split at hb
     ·rename_i r hr; cases hb; split at hr <;> simp at hr; exact hr
     ·exact ih _ b hb
   rw [this 0 l b hsc]; rfl
 ·have : ((l.length : Int) != n) = true := by simpa using h1
  simp [this, h1]
end Go.Lift

/- The tests of a table and of a problem: both implementations give one answer. -/
namespace Go.Lift
theorem Lv (N : Nat) (l : List (List Bool)) (n m : Int) (h : n < (N : Int)) (hN : N ≤ 1000000) : DQ N l n m = some (sq l n m) := by
 unfold DQ sq
 simp only [Bi]
 by_cases h1 : (l.length : Int) = n
 ·subst h1
  simp only [beq_self_eq_true, Ei, decide_true, Bool.true_and]
  have := Dp (A5 N l (fun x => C1 N x m) (fun _ => some (-1))) l (some (-1)) (fun i r => if decide ((r.length : Int) = m) then none else some (i : Int))
   (fun n i x hx => by
    have hi := (List.getElem?_eq_some_iff.1 hx).1
    rw [A5, BO (by omega), Dg, hx]
    simp only [Option.bind_some, C1]
    rw [Cg (by omega)]
    by_cases h2 : (x.length : Int) = m
    ·simp [h2, By]
    ·have : ((x.length : Int) != m) = true := by simpa using h2
     simp [h2, this, By])
   (fun n => by rw [A5, Bm (by omega)]) N 0 (by omega) (by omega)
  simp only [Int.ofNat_zero, List.drop_zero] at this
  unfold Cs CK
  rw [this]
  have h3 := KB (fun r : List Bool => decide ((r.length : Int) = m)) (fun i : Nat => (i : Int)) 0 l
  cases hsc : DP (fun (i : Nat) (r : List Bool) => if decide ((r.length : Int) = m) = true then none else some (i : Int)) 0 l with
  | none => rw [hsc] at h3; rw [← h3]; rfl
  | some b =>
   rw [hsc] at h3
   rw [← h3]
   have : ∀ (i : Nat) (xs : List (List Bool)) b, DP (fun (i : Nat) (r : List Bool) => if decide ((r.length : Int) = m) = true then none else some (i : Int)) i xs = some b → 0 ≤ b := by
    intro i xs
    induction xs generalizing i with
    | nil => intro b hb; cases hb
    | cons x xs ih =>
     intro b hb
     rw [HH] at hb
     split at hb
     ·rename_i r hr
      cases hb
      split at hr
      ·cases hr
      ·cases hr; omega
     ·exact ih _ b hb
   have := this 0 l b hsc
   simp [By, this]
 ·have : ((l.length : Int) == n) = false := by simpa using h1
  simp [this, h1]
end Go.Lift

/- The test of a table: both implementations give one answer. -/
namespace Go.Lift
def Hd (l : List (List Bool)) : Option Int := DP (fun i row => if row.getD i false then none else some 1) 0 l
theorem MK {row : List Bool} {i : Nat} (h : i < row.length) : A7 row (i : Int) = some (row.getD i false) := by
 rw [Dg, List.getD_eq_getElem?_getD]; simp [h]
theorem Pv (N : Nat) (t : AG) (h : t.fRewrite.length < N) (hN : N ≤ 1000000) (hsq : ∀ row, row ∈ t.fRewrite → row.length = t.fRewrite.length) (j : Option Int) :
  BC N t (fun _ => j) N 0 = By (Hd t.fRewrite) j := by
 have := Dp (BC N t (fun _ => j)) t.fRewrite j (fun i row => if row.getD i false then none else some 1)
  (fun n i x hx => by
   have hi := (List.getElem?_eq_some_iff.1 hx).1
   have hl := hsq x (List.mem_of_getElem? hx)
   rw [BC, BO (by omega), Dg, hx]
   simp only [Option.bind_some]
   rw [MK (by omega), Cg (by omega)]
   simp only [Option.bind_some]
   cases x.getD i false <;> rfl)
  (fun n => by rw [BC, Bm (by omega)]) N 0 (by omega) (by omega)
 simpa [Hd] using this
theorem Lg (N : Nat) (t : AG) (h : t.fRewrite.length < N) (hN : N ≤ 1000000) (hsq : ∀ row, row ∈ t.fRewrite → row.length = t.fRewrite.length) (j : Option Int) :
  Cx N t (fun _ => j) N 0 = By (Hd t.fRewrite) j := by
 have := Dp (Cx N t (fun _ => j)) t.fRewrite j (fun i row => if row.getD i false then none else some 1)
  (fun n i x hx => by
   have hi := (List.getElem?_eq_some_iff.1 hx).1
   have hl := hsq x (List.mem_of_getElem? hx)
   rw [Cx, BO (by omega), Dg, hx]
   simp only [Option.bind_some]
   rw [MK (by omega), Cg (by omega)]
   simp only [Option.bind_some]
   cases x.getD i false <;> rfl)
  (fun n => by rw [Cx, Bm (by omega)]) N 0 (by omega) (by omega)
 simpa [Hd] using this
theorem Nq {l : List (List Bool)} {n m : Int} (h : sq l n m = true) : (l.length : Int) = n ∧ ∀ row, row ∈ l → (row.length : Int) = m := by
 unfold sq at h
 simp only [Bool.and_eq_true, decide_eq_true_eq, List.all_eq_true] at h
 exact h
def Dh (p : Ai) (t : AG) : Int :=
 if t.fKind < 1 ∨ 4 < t.fKind ∨ (t.fAware = true ∧ (t.fKind = 3 ∨ t.fKind = 4)) then 1
 else if t.fFrom < 0 ∨ (p.fVersions.length : Int) ≤ t.fFrom ∨ t.fTo < 0 ∨ (p.fVersions.length : Int) ≤ t.fTo then 4
 else
  let f := p.fVersions.getD t.fFrom.toNat 0
  let g := p.fVersions.getD t.fTo.toNat 0
  if sq t.fOK f g = false then 6
  else if t.fKind = 4 then (if sq t.fRewrite f f = false then 6 else (Hd t.fRewrite).getD 0)
  else if t.fRewrite.length = 0 then 0 else 6
theorem Gt {α : Type} {xs : List α} {i : Int} {d : α} (h0 : 0 ≤ i) (h1 : i < (xs.length : Int)) : A7 xs i = some (xs.getD i.toNat d) := by
 obtain ⟨k, rfl⟩ := Int.eq_ofNat_of_zero_le h0
 rw [Dg, List.getD_eq_getElem?_getD, Int.toNat_natCast]
 simp [show k < xs.length from by omega]
theorem OO {t : AG} (A B : Option Int) (hk : ¬ (t.fAware = true ∧ (t.fKind = 3 ∨ t.fKind = 4))) : AR t.fAware (AR (t.fKind == 3 || t.fKind == 4) A B) B = B := by
 cases ha : t.fAware
 ·rfl
 ·have : (t.fKind == 3 || t.fKind == 4) = false := by
   rw [Bool.or_eq_false_iff]
   constructor
   ·simp only [beq_eq_false_iff_ne]; intro h; exact hk ⟨ha, .inl h⟩
   ·simp only [beq_eq_false_iff_ne]; intro h; exact hk ⟨ha, .inr h⟩
  rw [this]; rfl
theorem Ju {p : Ai} {i : Int} (hv : ∀ v, v ∈ p.fVersions → 1 ≤ v ∧ v ≤ 6) (h0 : 0 ≤ i) (h1 : i < (p.fVersions.length : Int)) : 1 ≤ p.fVersions.getD i.toNat 0 ∧ p.fVersions.getD i.toNat 0 ≤ 6 := by
 refine hv _ ?_
 rw [List.getD_eq_getElem?_getD, List.getElem?_eq_getElem (by omega)]
 exact List.getElem_mem _
theorem NS (N : Nat) (p : Ai) (t : AG) (hN : N ≤ 1000000) (h6 : 7 ≤ N) (hv : ∀ v, v ∈ p.fVersions → 1 ≤ v ∧ v ≤ 6) : Di N p t = some (Dh p t) := by
 unfold Di Dh
 simp only [Bi, JD, Option.bind_some]
 by_cases k1 : t.fKind < 1
 ·simp [k1]
 by_cases k2 : 4 < t.fKind
 ·simp [k1, k2]
 rw [Bm k1, Bm k2]
 by_cases hk : t.fAware = true ∧ (t.fKind = 3 ∨ t.fKind = 4)
 ·obtain ⟨ha, k | k⟩ := hk <;> simp [ha, k]
 rw [A4, OO _ _ hk, if_neg (fun h => h.elim k1 fun h => h.elim k2 hk)]
 by_cases f1 : t.fFrom < 0
 ·simp [f1]
 by_cases f2 : (p.fVersions.length : Int) ≤ t.fFrom
 ·simp [f1, f2]
 by_cases f3 : t.fTo < 0
 ·simp [f1, f2, f3]
 by_cases f4 : (p.fVersions.length : Int) ≤ t.fTo
 ·simp [f1, f2, f3, f4]
 rw [Bm f1, Bm f2, Bm f3, if_neg (fun h => h.elim f1 fun h => h.elim f2 fun h => h.elim f3 f4)]
 have hf := Ju hv (i := t.fFrom) (by omega) (by omega)
 rw [decide_eq_false f4, A4, Gt (d := 0) (by omega : 0 ≤ t.fFrom) (by omega), Gt (d := 0) (by omega : 0 ≤ t.fTo) (by omega)]
 simp only [Option.bind_some]
 generalize p.fVersions.getD t.fFrom.toNat 0 = f at *
 generalize p.fVersions.getD t.fTo.toNat 0 = g at *
 rw [Lj N t.fOK f g (by omega) hN, Lj N t.fRewrite f f (by omega) hN]
 simp only [Option.bind_some]
 cases hq : sq t.fOK f g
 ·rfl
 simp only [Bool.not_true, A4]
 by_cases k4 : t.fKind = 4
 ·have : (t.fKind != 4) = false := by simp [k4]
  rw [this, A4]
  simp only [k4, if_true]
  cases hr : sq t.fRewrite f f
  ·rfl
  ·have h7 := Nq hr
   simp only [Bool.not_true, A4]
   rw [Pv N t (by omega) hN (fun row hm => by have := h7.2 row hm; omega)]
   cases Hd t.fRewrite <;> simp [By]
 ·have : (t.fKind != 4) = true := by simpa using k4
  rw [this, Ei]
  simp only [k4, if_false]
  by_cases hr : t.fRewrite.length = 0
  ·simp [hr]
  ·have : ((t.fRewrite.length : Int) != 0) = true := bne_iff_ne.2 (by omega)
   rw [this]; simp [hr]
theorem PE (N : Nat) (k : Int) (a : Bool) : E8 N k a = some (k == 1 || (k == 2 || ((k == 3 || k == 4) && !a))) := by
 unfold E8
 simp only [Bi]
 cases h1 : k == 1 <;> cases h2 : k == 2 <;> cases h3 : k == 3 <;> cases h4 : k == 4 <;> cases a <;> rfl
theorem Kz (N : Nat) (p : Ai) (t : AG) (hN : N ≤ 1000000) (h6 : 7 ≤ N) (hv : ∀ v, v ∈ p.fVersions → 1 ≤ v ∧ v ≤ 6) : EI N p t = some (Dh p t) := by
 unfold EI Dh
 simp only [Bi, PE, Lw, Option.bind_some]
 by_cases hb : t.fKind < 1 ∨ 4 < t.fKind ∨ (t.fAware = true ∧ (t.fKind = 3 ∨ t.fKind = 4))
 ·have : (t.fKind == 1 || (t.fKind == 2 || ((t.fKind == 3 || t.fKind == 4) && !t.fAware))) = false := by
   rcases hb with h | h | ⟨ha, h | h⟩
   ·rw [beq_eq_false_iff_ne.2 (by omega : t.fKind ≠ 1), beq_eq_false_iff_ne.2 (by omega : t.fKind ≠ 2), beq_eq_false_iff_ne.2 (by omega : t.fKind ≠ 3), beq_eq_false_iff_ne.2 (by omega : t.fKind ≠ 4)]; rfl
   ·rw [beq_eq_false_iff_ne.2 (by omega : t.fKind ≠ 1), beq_eq_false_iff_ne.2 (by omega : t.fKind ≠ 2), beq_eq_false_iff_ne.2 (by omega : t.fKind ≠ 3), beq_eq_false_iff_ne.2 (by omega : t.fKind ≠ 4)]; rfl
   ·simp [ha, h]
   ·simp [ha, h]
  rw [this, if_pos hb]; rfl
 ·have : (t.fKind == 1 || (t.fKind == 2 || ((t.fKind == 3 || t.fKind == 4) && !t.fAware))) = true := by
   have hk : t.fKind = 1 ∨ t.fKind = 2 ∨ t.fKind = 3 ∨ t.fKind = 4 := by
    have h1 : ¬ t.fKind < 1 := fun h => hb (.inl h)
    have h2 : ¬ 4 < t.fKind := fun h => hb (.inr (.inl h))
    omega
   rcases hk with h | h | h | h
   ·simp [h]
   ·simp [h]
   ·cases ha : t.fAware
    ·simp [h]
    ·exact (hb (.inr (.inr ⟨ha, .inl h⟩))).elim
   ·cases ha : t.fAware
    ·simp [h]
    ·exact (hb (.inr (.inr ⟨ha, .inr h⟩))).elim
  rw [this, if_neg hb]
  simp only [Bool.not_true, A4]
  by_cases f1 : t.fFrom < 0
  ·simp [f1, show ¬ (0 ≤ t.fFrom) from by omega]
  by_cases f2 : (p.fVersions.length : Int) ≤ t.fFrom
  ·simp [f2, show ¬ (t.fFrom < (p.fVersions.length : Int)) from by omega]
  by_cases f3 : t.fTo < 0
  ·simp [f3, show 0 ≤ t.fFrom from by omega, show t.fFrom < (p.fVersions.length : Int) from by omega, show ¬ (0 ≤ t.fTo) from by omega]
  by_cases f4 : (p.fVersions.length : Int) ≤ t.fTo
  ·simp [f4, show 0 ≤ t.fFrom from by omega, show t.fFrom < (p.fVersions.length : Int) from by omega, show ¬ (t.fTo < (p.fVersions.length : Int)) from by omega]
  rw [if_neg (fun h => h.elim f1 fun h => h.elim f2 fun h => h.elim f3 f4)]
  have hf := Ju hv (i := t.fFrom) (by omega) (by omega)
  have hg := Ju hv (i := t.fTo) (by omega) (by omega)
  rw [decide_eq_true (by omega : 0 ≤ t.fFrom), decide_eq_true (by omega : t.fFrom < (p.fVersions.length : Int)), decide_eq_true (by omega : 0 ≤ t.fTo), decide_eq_true (by omega : t.fTo < (p.fVersions.length : Int)), Gt (d := 0) (by omega : 0 ≤ t.fFrom) (by omega), Gt (d := 0) (by omega : 0 ≤ t.fTo) (by omega)]
  simp only [Bool.and_self, Bool.not_true, A4, Option.bind_some]
  generalize p.fVersions.getD t.fFrom.toNat 0 = f at *
  generalize p.fVersions.getD t.fTo.toNat 0 = g at *
  rw [Lv N t.fOK f g (by omega) hN, Lv N t.fRewrite f f (by omega) hN]
  simp only [Option.bind_some]
  cases hq : sq t.fOK f g
  ·rfl
  simp only [Bool.not_true, A4]
  by_cases k4 : t.fKind = 4
  ·simp only [k4, beq_self_eq_true, Ei, if_true]
   cases hr : sq t.fRewrite f f
   ·rfl
   ·have h7 := Nq hr
    simp only [Bool.not_true, A4]
    rw [Lg N t (by omega) hN (fun row hm => by have := h7.2 row hm; omega)]
    cases Hd t.fRewrite <;> simp [By]
  ·have : (t.fKind == 4) = false := beq_eq_false_iff_ne.2 k4
   rw [this, A4]
   simp only [k4, if_false, Bool.not_false, Ei]
   by_cases hr : t.fRewrite.length = 0
   ·rw [Lg N t (by omega) hN (fun row hm => by rw [List.eq_nil_of_length_eq_zero hr] at hm; cases hm), List.eq_nil_of_length_eq_zero hr]
    simp [Hd, DP, By]
   ·rw [decide_eq_true (by omega : 0 < (t.fRewrite.length : Int))]
    simp [hr]
end Go.Lift

/- The test of a problem: both implementations give one answer. -/
namespace Go.Lift
def Eu (p : Ai) (i : Nat) (v : Int) : Option Int :=
 if v < 1 ∨ 6 < v ∨ p.fNow.getD i 0 < 0 ∨ v ≤ p.fNow.getD i 0 ∨ p.fTarget.getD i 0 < 0 ∨ v ≤ p.fTarget.getD i 0 then some 7 else none
def IW (p : Ai) (_ : Nat) (t : AG) : Option Int := if Dh p t = 0 then none else some (Dh p t)
def D3 (p : Ai) : Int :=
 if 6 < p.fVersions.length ∨ 12 < p.fTables.length then 3
 else if p.fNow.length ≠ p.fVersions.length ∨ p.fTarget.length ≠ p.fVersions.length then 6
 else ((By (DP (Eu p) 0 p.fVersions) (DP (IW p) 0 p.fTables)).getD 0)
theorem GI {α R : Type} {f : Nat → α → Option R} : ∀ {i : Nat} {xs : List α}, DP f i xs = none → ∀ j x, xs[j]? = some x → f (i + j) x = none
 | _, [], _, j, x, hx => by simp at hx
 | i, y :: ys, h, j, x, hx => by
  rw [HH] at h
  split at h
  ·cases h
  ·rename_i h0
   cases j with
   | zero => simp at hx; subst hx; exact h0
   | succ j =>
    have := GI h j x (by simpa using hx)
    rwa [show i + 1 + j = i + (j + 1) from by omega] at this
theorem Ki {p : Ai} (h : DP (Eu p) 0 p.fVersions = none) : ∀ v, v ∈ p.fVersions → 1 ≤ v ∧ v ≤ 6 := by
 intro v hv
 obtain ⟨i, hi⟩ := List.mem_iff_getElem?.1 hv
 have := GI h i v hi
 unfold Eu at this
 split at this
 ·cases this
 ·rename_i hn
  constructor
  ·exact Int.not_lt.1 fun h => hn (.inl h)
  ·exact Int.not_lt.1 fun h => hn (.inr (.inl h))
theorem EK {α : Type} {xs : List α} {i : Nat} {d : α} (h : i < xs.length) : A7 xs (i : Int) = some (xs.getD i d) := by
 rw [Dg, List.getD_eq_getElem?_getD]; simp [h]
theorem Nj (N : Nat) (p : Ai) (hN : N ≤ 1000000) (h1 : p.fVersions.length < N) (h2 : p.fNow.length = p.fVersions.length) (h3 : p.fTarget.length = p.fVersions.length) (j : Option Int) :
  A0 N p (fun _ => j) N 0 = By (DP (Eu p) 0 p.fVersions) j := by
 have := Dp (A0 N p (fun _ => j)) p.fVersions j (Eu p)
  (fun n i x hx => by
   have hi := (List.getElem?_eq_some_iff.1 hx).1
   rw [A0, BO (by omega), Dg, hx]
   simp only [Option.bind_some, Bi]
   rw [EK (d := 0) (by omega), EK (d := 0) (by omega), Cg (by omega)]
   simp only [Option.bind_some]
   unfold Eu
   generalize p.fNow.getD i 0 = a
   generalize p.fTarget.getD i 0 = b
   by_cases k1 : x < 1 <;> by_cases k2 : 6 < x <;> by_cases k3 : a < 0 <;> by_cases k4 : x ≤ a <;> by_cases k5 : b < 0 <;> by_cases k6 : x ≤ b <;> simp [k1, k2, k3, k4, k5, k6, By])
  (fun n => by rw [A0, Bm (by omega)]) N 0 (by omega) (by omega)
 simpa using this
theorem LH (N : Nat) (p : Ai) (hN : N ≤ 1000000) (h1 : p.fVersions.length < N) (h2 : p.fNow.length = p.fVersions.length) (h3 : p.fTarget.length = p.fVersions.length) (j : Option Int) :
  BA N p (fun _ => j) N 0 = By (DP (Eu p) 0 p.fVersions) j := by
 have := Dp (BA N p (fun _ => j)) p.fVersions j (Eu p)
  (fun n i x hx => by
   have hi := (List.getElem?_eq_some_iff.1 hx).1
   rw [BA, BO (by omega), Dg, hx]
   simp only [Option.bind_some, Bi, Lw]
   rw [EK (d := 0) (by omega), EK (d := 0) (by omega), Cg (by omega)]
   simp only [Option.bind_some]
   unfold Eu
   generalize p.fNow.getD i 0 = a
   generalize p.fTarget.getD i 0 = b
   have e1 : decide (0 ≤ a) = !decide (a < 0) := by rw [← decide_not]; congr 1; simp
   have e2 : decide (a < x) = !decide (x ≤ a) := by rw [← decide_not]; congr 1; simp
   have e3 : decide (0 ≤ b) = !decide (b < 0) := by rw [← decide_not]; congr 1; simp
   have e4 : decide (b < x) = !decide (x ≤ b) := by rw [← decide_not]; congr 1; simp
   rw [e1, e2, e3, e4]
   by_cases k1 : x < 1 <;> by_cases k2 : 6 < x <;> by_cases k3 : a < 0 <;> by_cases k4 : x ≤ a <;> by_cases k5 : b < 0 <;> by_cases k6 : x ≤ b <;> simp [k1, k2, k3, k4, k5, k6, By])
  (fun n => by rw [BA, Bm (by omega)]) N 0 (by omega) (by omega)
 simpa using this
theorem OX (N : Nat) (p : Ai) (hN : N ≤ 1000000) (h6 : 7 ≤ N) (h1 : p.fTables.length < N) (hv : ∀ v, v ∈ p.fVersions → 1 ≤ v ∧ v ≤ 6) (j : Option Int) :
  AW N p (fun _ => j) N 0 = By (DP (IW p) 0 p.fTables) j := by
 have := Dp (AW N p (fun _ => j)) p.fTables j (IW p)
  (fun n i x hx => by
   have hi := (List.getElem?_eq_some_iff.1 hx).1
   rw [AW, BO (by omega), Dg, hx]
   simp only [Option.bind_some]
   rw [NS N p x hN h6 hv, Cg (by omega)]
   simp only [Option.bind_some]
   unfold IW
   by_cases k : Dh p x = 0
   ·simp [k, By]
   ·rw [bne_iff_ne.2 k, if_neg k]; rfl)
  (fun n => by rw [AW, Bm (by omega)]) N 0 (by omega) (by omega)
 simpa using this
theorem Ni (N : Nat) (p : Ai) (hN : N ≤ 1000000) (h6 : 7 ≤ N) (h1 : p.fTables.length < N) (hv : ∀ v, v ∈ p.fVersions → 1 ≤ v ∧ v ≤ 6) (j : Option Int) :
  Bq N p (fun _ => j) N 0 = By (DP (IW p) 0 p.fTables) j := by
 have := Dp (Bq N p (fun _ => j)) p.fTables j (IW p)
  (fun n i x hx => by
   have hi := (List.getElem?_eq_some_iff.1 hx).1
   rw [Bq, BO (by omega), Dg, hx]
   simp only [Option.bind_some]
   rw [Kz N p x hN h6 hv, Cg (by omega)]
   simp only [Option.bind_some]
   unfold IW
   by_cases k : Dh p x = 0
   ·simp [k, By]
   ·rw [bne_iff_ne.2 k, if_neg k]; rfl)
  (fun n => by rw [Bq, Bm (by omega)]) N 0 (by omega) (by omega)
 simpa using this
theorem Kj (N : Nat) (p : Ai) (hN : N ≤ 1000000) (h : 20 ≤ N) : B0 N p = some (D3 p) := by
 unfold B0 D3
 simp only [Bi]
 by_cases k1 : 6 < p.fVersions.length
 ·rw [BO (by omega)]; simp [k1]
 rw [Bm (by omega)]
 by_cases k2 : 12 < p.fTables.length
 ·rw [decide_eq_true (by omega : (12 : Int) < (p.fTables.length : Int))]; simp [k2]
 rw [decide_eq_false (by omega : ¬ (12 : Int) < (p.fTables.length : Int)), A4, if_neg (by omega)]
 by_cases k3 : p.fNow.length = p.fVersions.length
 ·by_cases k4 : p.fTarget.length = p.fVersions.length
  ·rw [k3, k4]
   simp only [bne_self_eq_false, A4, ne_eq, not_true_eq_false, or_self, if_false]
   rw [Nj N p hN (by omega) k3 k4]
   cases hs : DP (Eu p) 0 p.fVersions with
   | some r => rfl
   | none =>
    simp only [By]
    rw [OX N p hN (by omega) (by omega) (Ki hs)]
    cases DP (IW p) 0 p.fTables <;> rfl
  ·have : ((p.fTarget.length : Int) != (p.fVersions.length : Int)) = true := bne_iff_ne.2 (by omega)
   rw [this, k3]; simp [k4]
 ·have : ((p.fNow.length : Int) != (p.fVersions.length : Int)) = true := bne_iff_ne.2 (by omega)
  rw [this]; simp [k3]
theorem Ji (N : Nat) (p : Ai) (hN : N ≤ 1000000) (h : 20 ≤ N) : Cr N p = some (D3 p) := by
 unfold Cr D3
 simp only [Bi]
 by_cases k1 : 6 < p.fVersions.length
 ·rw [BO (by omega)]; simp [k1]
 rw [Bm (by omega)]
 by_cases k2 : 12 < p.fTables.length
 ·rw [decide_eq_true (by omega : (12 : Int) < (p.fTables.length : Int))]; simp [k2]
 rw [decide_eq_false (by omega : ¬ (12 : Int) < (p.fTables.length : Int)), A4, if_neg (by omega)]
 by_cases k3 : p.fNow.length = p.fVersions.length
 ·by_cases k4 : p.fTarget.length = p.fVersions.length
  ·rw [k3, k4]
   simp only [bne_self_eq_false, A4, ne_eq, not_true_eq_false, or_self, if_false]
   rw [LH N p hN (by omega) k3 k4]
   cases hs : DP (Eu p) 0 p.fVersions with
   | some r => rfl
   | none =>
    simp only [By]
    rw [Ni N p hN (by omega) (by omega) (Ki hs)]
    cases DP (IW p) 0 p.fTables <;> rfl
  ·have : ((p.fTarget.length : Int) != (p.fVersions.length : Int)) = true := bne_iff_ne.2 (by omega)
   rw [this, k3]; simp [k4]
 ·have : ((p.fNow.length : Int) != (p.fVersions.length : Int)) = true := bne_iff_ne.2 (by omega)
  rw [this]; simp [k3]
end Go.Lift

/- The test of a mix: both implementations give one answer. -/
namespace Go.Lift
theorem GU {n : Int} (h : J9 n) : 0 ≤ n ∧ n ≤ 255 := by
 unfold J9 at h
 simpa [Lit.wf, IntKind.min, IntKind.max, IntKind.signed, IntKind.bits] using h
theorem K7 : ∀ k : Fin 256, C3 .u8 0 (k.val : Int) = 0 := by decide +kernel
theorem K1 : ∀ k : Fin 256, C3 .u8 (k.val : Int) 0 = (k.val : Int) := by decide +kernel
theorem OK {n : Int} (h : J9 n) : C3 .u8 0 n = 0 := by
 have := GU h
 obtain ⟨k, rfl⟩ := Int.eq_ofNat_of_zero_le this.1
 exact K7 ⟨k, by omega⟩
theorem Pa {n : Int} (h : J9 n) : C3 .u8 n 0 = n := by
 have := GU h
 obtain ⟨k, rfl⟩ := Int.eq_ofNat_of_zero_le this.1
 exact K1 ⟨k, by omega⟩
theorem FZ {α R : Type} {f : Nat → α → Option R} : ∀ {i : Nat} {xs : List α} {r : R}, DP f i xs = some r → ∃ j x, xs[j]? = some x ∧ f (i + j) x = some r
 | _, [], _, h => by cases h
 | i, y :: ys, r, h => by
  rw [HH] at h
  split at h
  ·rename_i r' h0
   cases h
   exact ⟨0, y, rfl, h0⟩
  ·obtain ⟨j, x, h1, h2⟩ := FZ h
   exact ⟨j + 1, x, by simpa using h1, by rwa [show i + (j + 1) = i + 1 + j from by omega]⟩
structure EN (p : Ai) : Prop where
 nv : p.fVersions.length ≤ 6
 nt : p.fTables.length ≤ 12
 now : p.fNow.length = p.fVersions.length
 tgt : p.fTarget.length = p.fVersions.length
 ver : ∀ v, v ∈ p.fVersions → 1 ≤ v ∧ v ≤ 6
 tab : ∀ t, t ∈ p.fTables → Dh p t = 0
theorem Nf (l : List (List Bool)) : (Hd l).getD 0 = 0 ∨ (Hd l).getD 0 = 1 := by
 cases h : Hd l with
 | none => exact .inl rfl
 | some r =>
  obtain ⟨j, x, _, h⟩ := FZ h
  split at h
  ·cases h
  ·cases h; exact .inr rfl
theorem LE (p : Ai) (t : AG) : Dh p t = 0 ∨ Dh p t = 1 ∨ Dh p t = 4 ∨ Dh p t = 6 := by
 unfold Dh
 split
 ·exact .inr (.inl rfl)
 split
 ·exact .inr (.inr (.inl rfl))
 simp only
 split
 ·exact .inr (.inr (.inr rfl))
 split
 ·split
  ·exact .inr (.inr (.inr rfl))
  ·rcases Nf t.fRewrite with h | h
   ·exact .inl h
   ·exact .inr (.inl h)
 ·split
  ·exact .inl rfl
  ·exact .inr (.inr (.inr rfl))
theorem GC (p : Ai) : (D3 p = 0 ∧ EN p) ∨ (D3 p = 1 ∨ D3 p = 3 ∨ D3 p = 4 ∨ D3 p = 6 ∨ D3 p = 7) := by
 unfold D3
 split
 ·simp
 rename_i k1
 split
 ·simp
 rename_i k2
 cases hs : DP (Eu p) 0 p.fVersions with
 | some r =>
  obtain ⟨j, x, _, h⟩ := FZ hs
  unfold Eu at h
  split at h
  ·cases h; simp [By]
  ·cases h
 | none =>
  cases ht : DP (IW p) 0 p.fTables with
  | some r =>
   obtain ⟨j, t, _, h⟩ := FZ ht
   unfold IW at h
   split at h
   ·cases h
   ·rename_i hne
    cases h
    simp only [By, Option.getD_some]
    right
    rcases LE p t with h | h | h | h
    ·exact (hne h).elim
    ·exact .inl h
    ·exact .inr (.inr (.inl h))
    ·exact .inr (.inr (.inr (.inl h)))
  | none =>
   left
   refine ⟨rfl, by omega, by omega, by omega, by omega, Ki hs, fun t hm => ?_⟩
   obtain ⟨j, hj⟩ := List.mem_iff_getElem?.1 hm
   have := GI ht j t hj
   unfold IW at this
   split at this
   ·assumption
   ·cases this
end Go.Lift

/- The test of a mix: both implementations give one answer. -/
namespace Go.Lift
def H6 (m : Ae) (s : Nat) : Int :=
 if 0 ≤ m.fNext.getD s 0 then IT .u8 (Cn .u8 1 (m.fBase.getD s 0)) (Cn .u8 1 (m.fNext.getD s 0)) else Cn .u8 1 (m.fBase.getD s 0)
def JB (m : Ae) (i : Nat) (v : Int) : Option Int :=
 if m.fBase.getD i 0 < 0 ∨ v ≤ m.fBase.getD i 0 ∨ m.fNext.getD i 0 < -1 ∨ v ≤ m.fNext.getD i 0 then some 7
 else if m.fBase.getD i 0 = m.fNext.getD i 0 then some 1 else none
def Ea (t : AG) : Bool := t.fKind == 3 || t.fKind == 4
def PV (p : Ai) (t : AG) : Int := IntKind.wrap .u8 (Cn .u8 1 (p.fVersions.getD t.fFrom.toNat 0) - 1)
def Hu (p : Ai) (m : Ae) (i : Nat) (t : AG) : Option Int :=
 if Ea t = true then (if C3 .u8 (H6 m t.fFrom.toNat) (m.fHeld.getD i 0) ≠ 0 ∨ C3 .u8 (m.fHeld.getD i 0) (PV p t) ≠ 0 then some 1 else none)
 else if m.fHeld.getD i 0 ≠ 0 then some 1 else none
def HI (p : Ai) (m : Ae) : Int :=
 if D3 p ≠ 0 then D3 p
 else if m.fBase.length ≠ p.fVersions.length ∨ m.fNext.length ≠ p.fVersions.length ∨ m.fHeld.length ≠ p.fTables.length then 6
 else (By (DP (JB m) 0 p.fVersions) (DP (Hu p m) 0 p.fTables)).getD 0
theorem Nn {p : Ai} {t : AG} (h : Dh p t = 0) : 0 ≤ t.fFrom ∧ t.fFrom < (p.fVersions.length : Int) ∧ 0 ≤ t.fTo ∧ t.fTo < (p.fVersions.length : Int) := by
 unfold Dh at h
 split at h
 ·cases h
 ·split at h
  ·cases h
  ·omega
theorem M9 (N : Nat) (m : Ae) (s : Int) (h0 : 0 ≤ s) (h1 : s < (m.fBase.length : Int)) (h2 : s < (m.fNext.length : Int)) (hb : 0 ≤ m.fBase.getD s.toNat 0) : DK N m s = some (H6 m s.toNat) := by
 unfold DK H6
 rw [Gt (d := 0) h0 h1, Gt (d := 0) h0 h2]
 simp only [Option.bind_some, Bi]
 rw [show Ej (0 ≤ m.fBase.getD s.toNat 0) = some () from by unfold Ej; rw [if_pos hb]]
 simp only [Option.bind_some]
 by_cases h : 0 ≤ m.fNext.getD s.toNat 0
 ·rw [BO h, if_pos h, show Ej (0 ≤ m.fNext.getD s.toNat 0) = some () from by unfold Ej; rw [if_pos h]]; rfl
 ·rw [Bm h, if_neg h]
theorem KL (N : Nat) (m : Ae) (s : Int) (h0 : 0 ≤ s) (h1 : s < (m.fBase.length : Int)) (h2 : s < (m.fNext.length : Int)) (hb : 0 ≤ m.fBase.getD s.toNat 0) : Cj N m s = some (H6 m s.toNat) := by
 unfold Cj H6
 rw [Gt (d := 0) h0 h1, Gt (d := 0) h0 h2]
 simp only [Option.bind_some, Bi]
 rw [show Ej (0 ≤ m.fBase.getD s.toNat 0) = some () from by unfold Ej; rw [if_pos hb]]
 simp only [Option.bind_some]
 by_cases h : 0 ≤ m.fNext.getD s.toNat 0
 ·rw [BO h, if_pos h, show Ej (0 ≤ m.fNext.getD s.toNat 0) = some () from by unfold Ej; rw [if_pos h]]; rfl
 ·rw [Bm h, if_neg h]
theorem L7 (N : Nat) (p : Ai) (m : Ae) (hN : N ≤ 1000000) (h1 : p.fVersions.length < N) (h2 : m.fBase.length = p.fVersions.length) (h3 : m.fNext.length = p.fVersions.length) (j : Option Int) :
  C9 N p m (fun _ => j) N 0 = By (DP (JB m) 0 p.fVersions) j := by
 have := Dp (C9 N p m (fun _ => j)) p.fVersions j (JB m)
  (fun n i x hx => by
   have hi := (List.getElem?_eq_some_iff.1 hx).1
   rw [C9, BO (by omega), Dg, hx]
   simp only [Option.bind_some, Bi]
   rw [EK (d := 0) (by omega), EK (d := 0) (by omega), Cg (by omega)]
   simp only [Option.bind_some]
   unfold JB
   generalize m.fBase.getD i 0 = a
   generalize m.fNext.getD i 0 = b
   by_cases k7 : a = b
   ·subst k7
    by_cases k3 : a < 0 <;> by_cases k4 : x ≤ a <;> by_cases k5 : a < -1 <;> simp [k3, k4, k5, By]
   ·have k8 : (a == b) = false := beq_eq_false_iff_ne.2 k7
    by_cases k3 : a < 0 <;> by_cases k4 : x ≤ a <;> by_cases k5 : b < -1 <;> by_cases k6 : x ≤ b <;> simp [k3, k4, k5, k6, k7, k8, By])
  (fun n => by rw [C9, Bm (by omega)]) N 0 (by omega) (by omega)
 simpa using this
theorem LU (N : Nat) (p : Ai) (m : Ae) (hN : N ≤ 1000000) (h1 : p.fVersions.length < N) (h2 : m.fBase.length = p.fVersions.length) (h3 : m.fNext.length = p.fVersions.length) (j : Option Int) :
  BN N p m (fun _ => j) N 0 = By (DP (JB m) 0 p.fVersions) j := by
 have := Dp (BN N p m (fun _ => j)) p.fVersions j (JB m)
  (fun n i x hx => by
   have hi := (List.getElem?_eq_some_iff.1 hx).1
   rw [BN, BO (by omega), show A7 p.fVersions (i : Int) = some x from by rw [Dg, hx]]
   simp only [Option.bind_some, Bi]
   rw [EK (d := 0) (by omega), EK (d := 0) (by omega), Cg (by omega)]
   simp only [Option.bind_some]
   unfold JB
   generalize m.fBase.getD i 0 = a
   generalize m.fNext.getD i 0 = b
   by_cases k7 : a = b
   ·subst k7
    by_cases k3 : a < 0 <;> by_cases k4 : x ≤ a <;> by_cases k5 : a < -1 <;> simp [k3, k4, k5, By]
   ·have k8 : (a == b) = false := beq_eq_false_iff_ne.2 k7
    by_cases k3 : a < 0 <;> by_cases k4 : x ≤ a <;> by_cases k5 : b < -1 <;> by_cases k6 : x ≤ b <;> simp [k3, k4, k5, k6, k7, k8, By])
  (fun n => by rw [BN, Bm (by omega)]) N 0 (by omega) (by omega)
 simpa using this
end Go.Lift

/- The test of a mix, the whole: both implementations give one answer. -/
namespace Go.Lift
structure Ix (p : Ai) (m : Ae) : Prop where
 base : m.fBase.length = p.fVersions.length
 next : m.fNext.length = p.fVersions.length
 held : m.fHeld.length = p.fTables.length
 b0 : ∀ i, i < p.fVersions.length → 0 ≤ m.fBase.getD i 0 ∧ m.fBase.getD i 0 < p.fVersions.getD i 0
 n0 : ∀ i, i < p.fVersions.length → -1 ≤ m.fNext.getD i 0 ∧ m.fNext.getD i 0 < p.fVersions.getD i 0
 ne : ∀ i, i < p.fVersions.length → m.fBase.getD i 0 ≠ m.fNext.getD i 0
theorem L5 {p : Ai} {m : Ae} (h2 : m.fBase.length = p.fVersions.length) (h3 : m.fNext.length = p.fVersions.length) (h4 : m.fHeld.length = p.fTables.length) (h : DP (JB m) 0 p.fVersions = none) : Ix p m := by
 have key : ∀ i, i < p.fVersions.length → ¬ (m.fBase.getD i 0 < 0 ∨ p.fVersions.getD i 0 ≤ m.fBase.getD i 0 ∨ m.fNext.getD i 0 < -1 ∨ p.fVersions.getD i 0 ≤ m.fNext.getD i 0) ∧ ¬ m.fBase.getD i 0 = m.fNext.getD i 0 := by
  intro i hi
  have hx : p.fVersions[i]? = some (p.fVersions.getD i 0) := by rw [List.getD_eq_getElem?_getD]; simp [hi]
  have := GI h i _ hx
  rw [Nat.zero_add] at this
  unfold JB at this
  split at this
  ·cases this
  ·split at this
   ·cases this
   ·rename_i k1 k2; exact ⟨k1, k2⟩
 exact ⟨h2, h3, h4, fun i hi => by have := (key i hi).1; omega, fun i hi => by have := (key i hi).1; omega, fun i hi => (key i hi).2⟩
theorem Mw {m : Ae} (hw : KY J9 m.fHeld) {i : Nat} (h : i < m.fHeld.length) : J9 (m.fHeld.getD i 0) := by
 refine hw _ ?_
 rw [List.getD_eq_getElem?_getD, List.getElem?_eq_getElem h]
 exact List.getElem_mem _
theorem K4 (N : Nat) (t : AG) : D5 N t = some (Ea t) := by
 unfold D5 Ea
 simp only [Bi]
 cases h : t.fKind == 3 <;> simp
theorem KZ (N : Nat) (t : AG) : Bo N t = some (Ea t) := JD N t
theorem Na (N : Nat) (p : Ai) (m : Ae) (hN : N ≤ 1000000) (h1 : p.fTables.length < N) (hp : EN p) (hm : Ix p m) (hw : KY J9 m.fHeld) (j : Option Int) :
  CT N p m (fun _ => j) N 0 = By (DP (Hu p m) 0 p.fTables) j := by
 have := Dp (CT N p m (fun _ => j)) p.fTables j (Hu p m)
  (fun n i x hx => by
   have hi := (List.getElem?_eq_some_iff.1 hx).1
   have hin := Nn (hp.tab x (List.mem_of_getElem? hx))
   have hheld := Mw hw (show i < m.fHeld.length from by rw [hm.held]; exact hi)
   have hv := Ju hp.ver hin.1 hin.2.1
   rw [CT, BO (by omega), Dg, hx]
   simp only [Option.bind_some, Bi, K4]
   rw [M9 N m x.fFrom hin.1 (by rw [hm.base]; exact hin.2.1) (by rw [hm.next]; exact hin.2.1) (hm.b0 _ (by omega)).1, Gt (d := 0) hin.1 hin.2.1, EK (d := 0) (show i < m.fHeld.length from by rw [hm.held]; exact hi), Cg (by omega)]
   simp only [Option.bind_some]
   rw [show Ej (0 ≤ p.fVersions.getD x.fFrom.toNat 0) = some () from by unfold Ej; rw [if_pos (by omega)]]
   simp only [Option.bind_some]
   unfold Hu PV
   rw [OK hheld, Pa hheld]
   generalize C3 .u8 (H6 m x.fFrom.toNat) (m.fHeld.getD i 0) = A
   generalize C3 .u8 (m.fHeld.getD i 0) (IntKind.wrap .u8 (Cn .u8 1 (p.fVersions.getD x.fFrom.toNat 0) - 1)) = B
   generalize m.fHeld.getD i 0 = H
   cases Ea x
   ·simp only [A4, bne_self_eq_false]
    by_cases k : H = 0
    ·simp [k, By]
    ·have : (H != 0) = true := bne_iff_ne.2 k
     simp [k, this, By]
   ·simp only [Ei]
    by_cases k : A = 0
    ·by_cases k2 : B = 0
     ·simp [k, k2, By]
     ·have : (B != 0) = true := bne_iff_ne.2 k2
      simp [k, k2, this, By]
    ·have : (A != 0) = true := bne_iff_ne.2 k
     simp [k, this, By])
  (fun n => by rw [CT, Bm (by omega)]) N 0 (by omega) (by omega)
 simpa using this
theorem M3 (N : Nat) (p : Ai) (m : Ae) (hN : N ≤ 1000000) (h1 : p.fTables.length < N) (hp : EN p) (hm : Ix p m) (j : Option Int) :
  BB N p m (fun _ => j) N 0 = By (DP (Hu p m) 0 p.fTables) j := by
 have := Dp (BB N p m (fun _ => j)) p.fTables j (Hu p m)
  (fun n i x hx => by
   have hi := (List.getElem?_eq_some_iff.1 hx).1
   have hin := Nn (hp.tab x (List.mem_of_getElem? hx))
   have hv := Ju hp.ver hin.1 hin.2.1
   rw [BB, BO (by omega), Dg, hx]
   simp only [Option.bind_some, Bi, KZ]
   rw [KL N m x.fFrom hin.1 (by rw [hm.base]; exact hin.2.1) (by rw [hm.next]; exact hin.2.1) (hm.b0 _ (by omega)).1, Gt (d := 0) hin.1 hin.2.1, EK (d := 0) (show i < m.fHeld.length from by rw [hm.held]; exact hi), Cg (by omega)]
   simp only [Option.bind_some]
   rw [show Ej (0 ≤ p.fVersions.getD x.fFrom.toNat 0) = some () from by unfold Ej; rw [if_pos (by omega)]]
   simp only [Option.bind_some]
   unfold Hu PV
   generalize C3 .u8 (H6 m x.fFrom.toNat) (m.fHeld.getD i 0) = A
   generalize C3 .u8 (m.fHeld.getD i 0) (IntKind.wrap .u8 (Cn .u8 1 (p.fVersions.getD x.fFrom.toNat 0) - 1)) = B
   generalize m.fHeld.getD i 0 = H
   cases Ea x
   ·simp only [Bool.not_false, Ei, A4]
    by_cases k : H = 0
    ·simp [k, By]
    ·have : (H != 0) = true := bne_iff_ne.2 k
     simp [k, this, By]
   ·simp only [Bool.not_true, A4, Ei]
    by_cases k : A = 0
    ·by_cases k2 : B = 0
     ·simp [k, k2, By]
     ·have : (B != 0) = true := bne_iff_ne.2 k2
      simp [k, k2, this, By]
    ·have : (A != 0) = true := bne_iff_ne.2 k
     by_cases k2 : B = 0
     ·simp [k, k2, this, By]
     ·have h5 : (B != 0) = true := bne_iff_ne.2 k2
      simp [k, h5, By])
  (fun n => by rw [BB, Bm (by omega)]) N 0 (by omega) (by omega)
 simpa using this
theorem L6 (N : Nat) (p : Ai) (m : Ae) (hN : N ≤ 1000000) (h : 20 ≤ N) (hw : KY J9 m.fHeld) : DC N p m = some (HI p m) := by
 unfold DC HI
 rw [Ji N p hN h]
 simp only [Option.bind_some, Bi]
 by_cases k0 : D3 p = 0
 ·have hp : EN p := by
   rcases GC p with h | h
   ·exact h.2
   ·omega
  have hnv := hp.nv
  have hnt := hp.nt
  rw [k0]
  simp only [bne_self_eq_false, A4, ne_eq, not_true_eq_false, if_false]
  by_cases k1 : m.fBase.length = p.fVersions.length
  ·by_cases k2 : m.fNext.length = p.fVersions.length
   ·by_cases k3 : m.fHeld.length = p.fTables.length
    ·rw [k1, k2, k3]
     simp only [bne_self_eq_false, A4, not_true_eq_false, or_self, if_false]
     rw [L7 N p m hN (by omega) k1 k2]
     cases hs : DP (JB m) 0 p.fVersions with
     | some r => rfl
     | none =>
      simp only [By]
      rw [Na N p m hN (by omega) hp (L5 k1 k2 k3 hs) hw]
      cases DP (Hu p m) 0 p.fTables <;> rfl
    ·have : ((m.fHeld.length : Int) != (p.fTables.length : Int)) = true := bne_iff_ne.2 (by omega)
     rw [this, k1, k2]; simp [k3]
   ·have : ((m.fNext.length : Int) != (p.fVersions.length : Int)) = true := bne_iff_ne.2 (by omega)
    rw [this, k1]; simp [k2]
  ·have : ((m.fBase.length : Int) != (p.fVersions.length : Int)) = true := bne_iff_ne.2 (by omega)
   rw [this]; simp [k1]
 ·rw [bne_iff_ne.2 k0]; simp [k0]
theorem LO (N : Nat) (p : Ai) (m : Ae) (hN : N ≤ 1000000) (h : 20 ≤ N) : Dn N p m = some (HI p m) := by
 unfold Dn HI
 rw [Kj N p hN h]
 simp only [Option.bind_some, Bi]
 by_cases k0 : D3 p = 0
 ·have hp : EN p := by
   rcases GC p with h | h
   ·exact h.2
   ·omega
  have hnv := hp.nv
  have hnt := hp.nt
  rw [k0]
  simp only [bne_self_eq_false, A4, ne_eq, not_true_eq_false, if_false]
  by_cases k1 : m.fBase.length = p.fVersions.length
  ·by_cases k2 : m.fNext.length = p.fVersions.length
   ·by_cases k3 : m.fHeld.length = p.fTables.length
    ·rw [k1, k2, k3]
     simp only [bne_self_eq_false, A4, not_true_eq_false, or_self, if_false]
     rw [LU N p m hN (by omega) k1 k2]
     cases hs : DP (JB m) 0 p.fVersions with
     | some r => rfl
     | none =>
      simp only [By]
      rw [M3 N p m hN (by omega) hp (L5 k1 k2 k3 hs)]
      cases DP (Hu p m) 0 p.fTables <;> rfl
    ·have : ((m.fHeld.length : Int) != (p.fTables.length : Int)) = true := bne_iff_ne.2 (by omega)
     rw [this, k1, k2]; simp [k3]
   ·have : ((m.fNext.length : Int) != (p.fVersions.length : Int)) = true := bne_iff_ne.2 (by omega)
    rw [this, k1]; simp [k2]
  ·have : ((m.fBase.length : Int) != (p.fVersions.length : Int)) = true := bne_iff_ne.2 (by omega)
   rw [this]; simp [k1]
 ·rw [bne_iff_ne.2 k0]; simp [k0]
end Go.Lift

/- Loops of the shallow programs as folds along lists. -/
namespace Go.Lift
@[simp] theorem Fh {α β : Type} (k : α) (f : α → β) : Bi k f = f k := rfl
@[simp] theorem O9 {p : Prop} [Decidable p] (h : p) : Ej p = some () := by unfold Ej; rw [if_pos h]
theorem BY {β : Type} {p : Prop} [Decidable p] (h : p) (f : Unit → Option β) : (Ej p).bind f = f () := by rw [O9 h]; rfl
def I0 {α A : Type} (f : Nat → α → A → A) : Nat → List α → A → A
 | _, [], a => a
 | i, x :: xs, a => I0 f (i + 1) xs (f i x a)
theorem Jx {α A S R : Type} (L : Nat → S → Option R) (mk : A → Int → S) (xs : List α) (j : A → Option R) (f : Nat → α → A → A) (I : Nat → A → Prop)
  (hs : ∀ (n i : Nat) (x : α) (a : A), xs[i]? = some x → I i a → L (n + 1) (mk a (i : Int)) = L n (mk (f i x a) ((i + 1 : Nat) : Int)) ∧ I (i + 1) (f i x a))
  (he : ∀ (n : Nat) (a : A), I xs.length a → L (n + 1) (mk a (xs.length : Int)) = j a) :
  ∀ (n i : Nat) (a : A), i ≤ xs.length → xs.length - i < n → I i a → L n (mk a (i : Int)) = j (I0 f i (xs.drop i) a) ∧ I xs.length (I0 f i (xs.drop i) a)
 | 0, i, _, _, h, _ => by omega
 | n + 1, i, a, hi, h, ha => by
  by_cases h1 : i < xs.length
  ·have hx : xs[i]? = some xs[i] := by simp [h1]
   obtain ⟨e1, e2⟩ := hs n i _ a hx ha
   rw [e1, LB hx, I0]
   exact Jx L mk xs j f I hs he n (i + 1) _ (by omega) (by omega) e2
  ·have : i = xs.length := by omega
   subst this
   rw [List.drop_eq_nil_of_le (Nat.le_refl _), I0]
   exact ⟨he n a ha, ha⟩
end Go.Lift

/- Sets as bits, the mixes that are valid, and the conflicts of a mix: both implementations give one answer. -/
namespace Go.Lift
def HO (s : Int) (v : Nat) : Bool := s.toNat.testBit v
def Nm (m : Ae) (s v : Nat) : Bool := decide (m.fBase.getD s 0 = (v : Int)) || decide (m.fNext.getD s 0 = (v : Int))
theorem Kc {s : Int} {v : Nat} (h1 : s ≤ 255) (hv : 8 ≤ v) : HO s v = false := by
 unfold HO
 apply Nat.testBit_lt_two_pow
 have : (2 : Nat) ^ 8 ≤ 2 ^ v := Nat.pow_le_pow_right (by omega) hv
 omega
theorem PO : ∀ (b : Fin 8) (v : Fin 8), HO (Cn .u8 1 (b.val : Int)) v.val = decide (b.val = v.val) ∧ 0 ≤ Cn .u8 1 (b.val : Int) ∧ Cn .u8 1 (b.val : Int) ≤ 255 := by decide +kernel
theorem PK : ∀ (b n : Fin 8) (v : Fin 8), HO (IT .u8 (Cn .u8 1 (b.val : Int)) (Cn .u8 1 (n.val : Int))) v.val = (decide (b.val = v.val) || decide (n.val = v.val))
  ∧ 0 ≤ IT .u8 (Cn .u8 1 (b.val : Int)) (Cn .u8 1 (n.val : Int)) ∧ IT .u8 (Cn .u8 1 (b.val : Int)) (Cn .u8 1 (n.val : Int)) ≤ 255 := by decide +kernel
theorem Pb {m : Ae} {s : Nat} (hb0 : 0 ≤ m.fBase.getD s 0) (hb1 : m.fBase.getD s 0 < 8) (hn1 : m.fNext.getD s 0 < 8) :
  (∀ v, HO (H6 m s) v = Nm m s v) ∧ 0 ≤ H6 m s ∧ H6 m s ≤ 255 := by
 unfold H6 Nm
 obtain ⟨b, hb⟩ := Int.eq_ofNat_of_zero_le hb0
 rw [hb] at hb1 ⊢
 by_cases h : 0 ≤ m.fNext.getD s 0
 ·obtain ⟨n, hn⟩ := Int.eq_ofNat_of_zero_le h
  rw [hn] at hn1 ⊢
  rw [if_pos (by omega)]
  have h1 := PK ⟨b, by omega⟩ ⟨n, by omega⟩
  refine ⟨fun v => ?_, (h1 0).2⟩
  by_cases hv : v < 8
  ·rw [(h1 ⟨v, hv⟩).1]
   simp only [Int.ofNat_inj]
  ·rw [Kc (h1 0).2.2 (by omega)]
   simp; omega
 ·rw [if_neg h]
  have h1 := PO ⟨b, by omega⟩
  refine ⟨fun v => ?_, (h1 0).2⟩
  have h3 : decide (m.fNext.getD s 0 = (v : Int)) = false := decide_eq_false (by omega)
  rw [h3, Bool.or_false]
  by_cases hv : v < 8
  ·rw [(h1 ⟨v, hv⟩).1]
   simp only [Int.ofNat_inj]
  ·rw [Kc (h1 0).2.2 (by omega)]
   simp; omega
theorem Qs {a : Nat} (h : a < 256) : (BitVec.ofInt 8 (a : Int)).toNat = a := by
 simp; omega
theorem Kv {a b : Int} (ha : 0 ≤ a ∧ a ≤ 255) (hb : 0 ≤ b ∧ b ≤ 255) : C3 .u8 a b = 0 ↔ ∀ v, HO a v = true → HO b v = true := by
 obtain ⟨a, rfl⟩ := Int.eq_ofNat_of_zero_le ha.1
 obtain ⟨b, rfl⟩ := Int.eq_ofNat_of_zero_le hb.1
 have hA := Qs (a := a) (by omega)
 have hB := Qs (a := b) (by omega)
 unfold C3 HO
 simp only [IntKind.bits, Int.toNat_natCast]
 have hx : ∀ x : BitVec 8, IntKind.wrap .u8 (x.toNat : Int) = (x.toNat : Int) := by
  intro x
  have := x.isLt
  simp [IntKind.wrap, IntKind.signed, IntKind.bits]
  omega
 rw [hx]
 constructor
 ·intro h v hv
  have h0 : (BitVec.ofInt 8 (a : Int) &&& ~~~BitVec.ofInt 8 (b : Int)) = (BitVec.ofNat 8 0) := by
   apply BitVec.eq_of_toNat_eq
   simp only [BitVec.toNat_ofNat, Nat.zero_mod]
   exact Int.ofNat_inj.1 h
  by_cases hv8 : v < 8
  ·have h1 : (BitVec.ofInt 8 (a : Int) &&& ~~~BitVec.ofInt 8 (b : Int)).getLsbD v = false := by rw [h0]; simp
   rw [BitVec.getLsbD_and, BitVec.getLsbD_not] at h1
   have e1 : (BitVec.ofInt 8 (a : Int)).getLsbD v = a.testBit v := by unfold BitVec.getLsbD; rw [hA]
   have e2 : (BitVec.ofInt 8 (b : Int)).getLsbD v = b.testBit v := by unfold BitVec.getLsbD; rw [hB]
   rw [e1, e2, hv] at h1
   simpa [hv8] using h1
  ·have := Kc (s := (a : Int)) (v := v) (by omega) (by omega)
   unfold HO at this
   rw [Int.toNat_natCast, hv] at this
   cases this
 ·intro h
  have h0 : (BitVec.ofInt 8 (a : Int) &&& ~~~BitVec.ofInt 8 (b : Int)) = (BitVec.ofNat 8 0) := by
   apply BitVec.eq_of_getLsbD_eq
   intro i hi
   rw [BitVec.getLsbD_and, BitVec.getLsbD_not]
   have e1 : (BitVec.ofInt 8 (a : Int)).getLsbD i = a.testBit i := by unfold BitVec.getLsbD; rw [hA]
   have e2 : (BitVec.ofInt 8 (b : Int)).getLsbD i = b.testBit i := by unfold BitVec.getLsbD; rw [hB]
   rw [e1, e2]
   have := h i
   cases h3 : a.testBit i
   ·simp
   ·rw [this h3]; simp
  have h2 : ∀ x : BitVec 8, x = (BitVec.ofNat 8 0) → (x.toNat : Int) = 0 := fun x hx => by rw [hx]; rfl
  exact h2 _ h0
theorem PG : ∀ n : Fin 9, (∀ v : Fin 8, HO (IntKind.wrap .u8 (Cn .u8 1 (n.val : Int) - 1)) v.val = decide (v.val < n.val)) ∧ 0 ≤ IntKind.wrap .u8 (Cn .u8 1 (n.val : Int) - 1) ∧ IntKind.wrap .u8 (Cn .u8 1 (n.val : Int) - 1) ≤ 255 := by decide +kernel
theorem Pq {n : Int} (h0 : 0 ≤ n) (h1 : n ≤ 8) : (∀ v, HO (IntKind.wrap .u8 (Cn .u8 1 n - 1)) v = decide ((v : Int) < n)) ∧ 0 ≤ IntKind.wrap .u8 (Cn .u8 1 n - 1) ∧ IntKind.wrap .u8 (Cn .u8 1 n - 1) ≤ 255 := by
 obtain ⟨n, rfl⟩ := Int.eq_ofNat_of_zero_le h0
 have h := PG ⟨n, by omega⟩
 refine ⟨fun v => ?_, h.2⟩
 by_cases hv : v < 8
 ·rw [h.1 ⟨v, hv⟩]; simp
 ·rw [Kc h.2.2 (by omega)]
  symm; apply decide_eq_false; omega
structure NK (p : Ai) (m : Ae) : Prop extends Ix p m where
 range : ∀ i, i < p.fTables.length → 0 ≤ m.fHeld.getD i 0 ∧ m.fHeld.getD i 0 ≤ 255
 low : ∀ i t, p.fTables[i]? = some t → Ea t = true → ∀ v, Nm m t.fFrom.toNat v = true → HO (m.fHeld.getD i 0) v = true
 high : ∀ i t, p.fTables[i]? = some t → Ea t = true → ∀ v, HO (m.fHeld.getD i 0) v = true → (v : Int) < p.fVersions.getD t.fFrom.toNat 0
 none : ∀ i t, p.fTables[i]? = some t → Ea t = false → m.fHeld.getD i 0 = 0
theorem M4 {p : Ai} (hp : EN p) {i : Nat} (hi : i < p.fVersions.length) : 1 ≤ p.fVersions.getD i 0 ∧ p.fVersions.getD i 0 ≤ 6 := by
 have := Ju (i := (i : Int)) hp.ver (by omega) (by omega)
 simpa using this
theorem OQ {p : Ai} {m : Ae} (hp : EN p) (hm : Ix p m) {s : Nat} (hs : s < p.fVersions.length) :
  (∀ v, HO (H6 m s) v = Nm m s v) ∧ 0 ≤ H6 m s ∧ H6 m s ≤ 255 := by
 have h1 := hm.b0 s hs
 have h2 := hm.n0 s hs
 have h3 := M4 hp hs
 exact Pb h1.1 (by omega) (by omega)
theorem OC {p : Ai} {m : Ae} (hp : EN p) (hm : Ix p m) {i : Nat} {t : AG} (ht : p.fTables[i]? = some t) (hr : 0 ≤ m.fHeld.getD i 0 ∧ m.fHeld.getD i 0 ≤ 255) :
  Hu p m i t = none ↔ ((Ea t = true → (∀ v, Nm m t.fFrom.toNat v = true → HO (m.fHeld.getD i 0) v = true) ∧ (∀ v, HO (m.fHeld.getD i 0) v = true → (v : Int) < p.fVersions.getD t.fFrom.toNat 0)) ∧ (Ea t = false → m.fHeld.getD i 0 = 0)) := by
 have hin := Nn (hp.tab t (List.mem_of_getElem? ht))
 have hrun := OQ hp hm (s := t.fFrom.toNat) (by omega)
 have hver := M4 hp (i := t.fFrom.toNat) (by omega)
 have hall := Pq (n := p.fVersions.getD t.fFrom.toNat 0) (by omega) (by omega)
 unfold Hu PV
 have e1 := Kv hrun.2 hr
 have e2 := Kv hr hall.2
 cases hst : Ea t
 ·simp
 ·simp only [if_true, true_implies, Bool.true_eq_false, false_implies, and_true, ite_eq_right_iff, reduceCtorEq, imp_false, not_or, Decidable.not_not]
  rw [e1, e2]
  simp only [hrun.1, hall.1, decide_eq_true_eq]
theorem Ou {p : Ai} {m : Ae} (hw : KY J9 m.fHeld) (h : HI p m = 0) : EN p ∧ NK p m := by
 unfold HI at h
 split at h
 ·rename_i k; exact (k h).elim
 ·rename_i k0
  have hp : EN p := by
   rcases GC p with h | h
   ·exact h.2
   ·omega
  split at h
  ·cases h
  ·rename_i k1
   have b1 : m.fBase.length = p.fVersions.length := Decidable.not_not.1 fun h => k1 (.inl h)
   have b2 : m.fNext.length = p.fVersions.length := Decidable.not_not.1 fun h => k1 (.inr (.inl h))
   have b3 : m.fHeld.length = p.fTables.length := Decidable.not_not.1 fun h => k1 (.inr (.inr h))
   cases hs : DP (JB m) 0 p.fVersions with
   | some r =>
    obtain ⟨j, x, _, he⟩ := FZ hs
    rw [hs] at h
    unfold JB at he
    simp only [By, Option.getD_some] at h
    split at he
    ·cases he; cases h
    ·split at he
     ·cases he; cases h
     ·cases he
   | none =>
    have hm := L5 b1 b2 b3 hs
    rw [hs] at h
    simp only [By] at h
    cases ht : DP (Hu p m) 0 p.fTables with
    | some r =>
     obtain ⟨j, x, _, he⟩ := FZ ht
     rw [ht] at h
     simp only [Option.getD_some] at h
     subst h
     unfold Hu at he
     split at he
     ·split at he <;> cases he
     ·split at he <;> cases he
    | none =>
     have hr : ∀ i, i < p.fTables.length → 0 ≤ m.fHeld.getD i 0 ∧ m.fHeld.getD i 0 ≤ 255 := fun i hi => GU (Mw hw (by omega))
     have key : ∀ i t, p.fTables[i]? = some t → _ := fun i t hi => (OC hp hm hi (hr i (List.getElem?_eq_some_iff.1 hi).1)).1 (by have := GI ht i t hi; rwa [Nat.zero_add] at this)
     exact ⟨hp, hm, hr, fun i t hi hst => ((key i t hi).1 hst).1, fun i t hi hst => ((key i t hi).1 hst).2, fun i t hi hst => (key i t hi).2 hst⟩
theorem FB {α R : Type} {f : Nat → α → Option R} : ∀ {i : Nat} {xs : List α}, (∀ j x, xs[j]? = some x → f (i + j) x = none) → DP f i xs = none
 | _, [], _ => rfl
 | i, y :: ys, h => by
  rw [HH, show f i y = none from h 0 y rfl]
  exact FB fun j x hx => by
   have := h (j + 1) x (by simpa using hx)
   rwa [show i + (j + 1) = i + 1 + j from by omega] at this
theorem Mb {p : Ai} (hp : EN p) (hr : ∀ i, i < p.fVersions.length → 0 ≤ p.fNow.getD i 0 ∧ p.fNow.getD i 0 < p.fVersions.getD i 0 ∧ 0 ≤ p.fTarget.getD i 0 ∧ p.fTarget.getD i 0 < p.fVersions.getD i 0) : D3 p = 0 := by
 have := hp.nv
 have := hp.nt
 have := hp.now
 have := hp.tgt
 unfold D3
 rw [if_neg (by omega), if_neg (by omega)]
 have h1 : DP (Eu p) 0 p.fVersions = none := FB fun j x hx => by
  have hj := (List.getElem?_eq_some_iff.1 hx).1
  have h1 := hr j hj
  have h2 := M4 hp hj
  have e : p.fVersions.getD j 0 = x := by rw [List.getD_eq_getElem?_getD, hx]; rfl
  rw [e] at h1 h2
  unfold Eu
  rw [Nat.zero_add, if_neg (by omega)]
 have h2 : DP (IW p) 0 p.fTables = none := FB fun j x hx => by
  unfold IW
  rw [if_pos (hp.tab x (List.mem_of_getElem? hx))]
 rw [h1, h2]; rfl
theorem Nh {p : Ai} (h : D3 p = 0) : EN p ∧ ∀ i, i < p.fVersions.length → 0 ≤ p.fNow.getD i 0 ∧ p.fNow.getD i 0 < p.fVersions.getD i 0 ∧ 0 ≤ p.fTarget.getD i 0 ∧ p.fTarget.getD i 0 < p.fVersions.getD i 0 := by
 have hp : EN p := by
  rcases GC p with h | h
  ·exact h.2
  ·omega
 refine ⟨hp, fun i hi => ?_⟩
 have h1 := hp.nv
 have h2 := hp.nt
 have h3 := hp.now
 have h4 := hp.tgt
 unfold D3 at h
 rw [if_neg (by omega), if_neg (by omega)] at h
 cases hs : DP (Eu p) 0 p.fVersions with
 | some r =>
  obtain ⟨j, x, _, he⟩ := FZ hs
  rw [hs] at h
  unfold Eu at he
  split at he
  ·cases he; cases h
  ·cases he
 | none =>
  have hx : p.fVersions[i]? = some (p.fVersions.getD i 0) := by rw [List.getD_eq_getElem?_getD]; simp [hi]
  have := GI hs i _ hx
  rw [Nat.zero_add] at this
  unfold Eu at this
  split at this
  ·cases this
  ·rename_i hn; omega
end Go.Lift

/- The conflicts of a mix: both implementations give one answer. -/
namespace Go.Lift
def hC (m : Ae) (t : AG) (v : Nat) (ok : Bool) : Bool := Nm m t.fTo.toNat v && ok
structure Rx (p : Ai) (t : AG) : Prop where
 kind : 1 ≤ t.fKind ∧ t.fKind ≤ 4
 aware : t.fAware = true → Ea t = false
 from0 : 0 ≤ t.fFrom ∧ t.fFrom < (p.fVersions.length : Int)
 to0 : 0 ≤ t.fTo ∧ t.fTo < (p.fVersions.length : Int)
 okL : (t.fOK.length : Int) = p.fVersions.getD t.fFrom.toNat 0
 okR : ∀ row, row ∈ t.fOK → (row.length : Int) = p.fVersions.getD t.fTo.toNat 0
 reL : t.fKind = 4 → (t.fRewrite.length : Int) = p.fVersions.getD t.fFrom.toNat 0
 reR : ∀ row, row ∈ t.fRewrite → (row.length : Int) = p.fVersions.getD t.fFrom.toNat 0
 reD : t.fKind = 4 → Hd t.fRewrite = none
 reN : t.fKind ≠ 4 → t.fRewrite = []
end Go.Lift

/- The conflicts of a mix: both implementations give one answer. -/
namespace Go.Lift
end Go.Lift

/- The drafts: what the recipes give is a valid problem and a valid mix. -/
namespace Go.Lift
theorem I9 {A S R : Type} (L : Nat → S → Option R) (mk : A → Int → S) (len : Nat) (j : A → Option R) (I : Nat → A → Prop)
  (hs : ∀ (n i : Nat) (a : A), i < len → I i a → ∃ a', L (n + 1) (mk a (i : Int)) = L n (mk a' ((i + 1 : Nat) : Int)) ∧ I (i + 1) a')
  (he : ∀ (n : Nat) (a : A), I len a → L (n + 1) (mk a (len : Int)) = j a) :
  ∀ (n i : Nat) (a : A), i ≤ len → len - i < n → I i a → ∃ a', L n (mk a (i : Int)) = j a' ∧ I len a'
 | 0, i, _, _, h, _ => by omega
 | n + 1, i, a, hi, h, ha => by
  by_cases h1 : i < len
  ·obtain ⟨a', e1, e2⟩ := hs n i a h1 ha
   rw [e1]
   exact I9 L mk len j I hs he n (i + 1) _ (by omega) (by omega) e2
  ·have : i = len := by omega
   subst this
   exact ⟨a, he n a ha, ha⟩
theorem G4 {α : Type} {xs ys : List α} {i : Nat} {d : α} (h : i < xs.length) : (xs ++ ys).getD i d = xs.getD i d := by
 rw [List.getD_eq_getElem?_getD, List.getD_eq_getElem?_getD, List.getElem?_append_left h]
theorem G9 {α : Type} {xs : List α} {y : α} {i : Nat} {d : α} (h : i = xs.length) : (xs ++ [y]).getD i d = y := by
 subst h; rw [List.getD_eq_getElem?_getD, List.getElem?_append_right (Nat.le_refl _)]; simp
theorem Mt {α : Type} {P : Nat → α → Prop} {xs : List α} {y : α} {d : α} {n : Nat} (hn : xs.length = n) (h : ∀ k, k < n → P k (xs.getD k d)) (hy : P n y) : ∀ k, k < n + 1 → P k ((xs ++ [y]).getD k d) := by
 intro k hk
 by_cases h1 : k < n
 ·rw [G4 (by omega)]; exact h k h1
 ·have : k = n := by omega
  subst this
  rw [G9 hn.symm]; exact hy
theorem Nu {l : List Int} (hw : KY J9 l) (i : Nat) : 0 ≤ l.getD i 0 ∧ l.getD i 0 ≤ 255 := by
 by_cases h : i < l.length
 ·have : l.getD i 0 ∈ l := by rw [List.getD_eq_getElem?_getD, List.getElem?_eq_getElem h]; exact List.getElem_mem _
  exact GU (hw _ this)
 ·rw [List.getD_eq_getElem?_getD, List.getElem?_eq_none (by omega)]
  exact ⟨by decide, by decide⟩
theorem Lm (N : Nat) {l : List Int} (hw : KY J9 l) (i : Nat) : C6 N l (i : Int) = some (l.getD i 0) := by
 unfold C6
 have h2 := Nu hw i
 by_cases h : i < l.length
 ·rw [BO (by omega), EK (d := 0) h]
  simp only [Option.bind_some]
  rw [D7 (by omega) (by omega)]
 ·rw [Bm (by omega), List.getD_eq_getElem?_getD, List.getElem?_eq_none (by omega)]; rfl
theorem F9 {a n : Int} (ha : 0 ≤ a) (hn : 0 < n) : 0 ≤ Int.tmod a n ∧ Int.tmod a n < n := ⟨Int.tmod_nonneg n ha, Int.tmod_lt_of_pos a hn⟩
end Go.Lift

/- The drafts of problems: what the recipe gives is a valid problem. -/
namespace Go.Lift
theorem Qr {l : List (List Bool)} {n m : Int} (h1 : (l.length : Int) = n) (h2 : ∀ row, row ∈ l → (row.length : Int) = m) : sq l n m = true := by
 unfold sq
 simp only [Bool.and_eq_true, decide_eq_true_eq, List.all_eq_true]
 exact ⟨h1, h2⟩
theorem Rg {p : Ai} {t : AG} (h : Rx p t) : Dh p t = 0 := by
 have hk := h.kind
 have hf := h.from0
 have ht := h.to0
 unfold Dh
 rw [if_neg, if_neg (by omega)]
 ·simp only [Qr h.okL h.okR]
  rw [if_neg (by simp)]
  by_cases h4 : t.fKind = 4
  ·rw [if_pos h4, Qr (h.reL h4) h.reR, if_neg (by simp), h.reD h4]; rfl
  ·rw [if_neg h4, h.reN h4]; rfl
 ·rintro (h1 | h1 | ⟨h1, h2⟩)
  ·omega
  ·omega
  ·have := h.aware h1
   unfold Ea at this
   rw [Bool.or_eq_false_iff, beq_eq_false_iff_ne, beq_eq_false_iff_ne] at this
   omega
theorem OI (N : Nat) (m bad : Int) (diag : Bool) (i : Nat) (acc : List (List Bool)) {R : Type} (j : List Bool → Option (List (List Bool))) (hN : N ≤ 1000000) (h20 : 20 ≤ N) (hm : 0 ≤ m ∧ m ≤ 6) (hi : i < 6) :
  ∃ row, BW N m bad diag (acc, (i : Int)) j N ([], 0) = j row ∧ (row.length : Int) = m ∧ (diag = true → (i : Int) < m → row.getD i false = true) := by
 obtain ⟨M, rfl⟩ := Int.eq_ofNat_of_zero_le hm.1
 obtain ⟨row, e, h1, h2⟩ := I9 (A := List Bool) (BW N (M : Int) bad diag (acc, (i : Int)) j) (fun a k => (a, k)) M j
  (fun k a => a.length = k ∧ ∀ q, q < k → diag = true → q = i → a.getD q false = true)
  (fun n k a hk ha => by
   refine ⟨a ++ [(diag && decide (i = k)) || (Int.tmod (DZ .u16 bad ((3 * i + k : Nat) : Int)) 2 == 0)], ?_, by simp [ha.1], Mt (P := fun q y => diag = true → q = i → y = true) ha.1 ha.2 (fun h1 h2 => by simp [h1, h2])⟩
   rw [BW]
   simp only [Fh]
   rw [BO (by omega), Cg (by omega), D7 (n := 3 * (i : Int)) (by omega) (by omega), D7 (n := 3 * (i : Int) + (k : Int)) (by omega) (by omega)]
   have l1 : ∀ y : Bool, a.length + ([y] : List Bool).length ≤ Fz := by intro y; rw [ha.1]; unfold Fz; simp; omega
   simp only [BY (l1 _), BY (show (0 : Int) ≤ 3 * (i : Int) + (k : Int) by omega)]
   have e1 : ((3 * i + k : Nat) : Int) = 3 * (i : Int) + (k : Int) := by omega
   rw [e1]
   have e2 : (((i : Nat) : Int) == ((k : Nat) : Int)) = decide (i = k) := by
    by_cases h : i = k
    ·simp [h]
    ·rw [decide_eq_false h]; exact beq_eq_false_iff_ne.2 (by omega)
   rw [e2]
   cases diag <;> cases decide (i = k) <;> rfl)
  (fun n a _ => by
   rw [BW]
   simp only [Fh]
   rw [Bm (by omega)]) N 0 [] (Nat.zero_le _) (by omega) ⟨rfl, fun q hq => by omega⟩
 exact ⟨row, e, by omega, fun hd hlt => h2 i (by omega) hd rfl⟩
theorem NH (N : Nat) (n m bad : Int) (diag : Bool) (hN : N ≤ 1000000) (h20 : 20 ≤ N) (hn : 0 ≤ n ∧ n ≤ 6) (hm : 0 ≤ m ∧ m ≤ 6) :
  ∃ l, C7 N n m bad diag = some l ∧ (l.length : Int) = n ∧ (∀ row, row ∈ l → (row.length : Int) = m) ∧ (diag = true → n = m → Hd l = none) := by
 obtain ⟨M, rfl⟩ := Int.eq_ofNat_of_zero_le hn.1
 unfold C7
 obtain ⟨l, e, h1, h2⟩ := I9 (A := List (List Bool)) (BT N (M : Int) m bad diag (fun v => some v)) (fun a k => (a, k)) M some
  (fun k a => a.length = k ∧ ∀ q, q < k → (((a.getD q []).length : Nat) : Int) = m ∧ (diag = true → (q : Int) < m → (a.getD q []).getD q false = true))
  (fun n k a hk ha => by
   obtain ⟨row, e, h1, h2⟩ := OI (R := Unit) N m bad diag k a (fun (v5 : List Bool) =>
    (Ej (a.length + (([v5] : List (List Bool))).length ≤ Fz)).bind fun _ =>
    BT N (M : Int) m bad diag (fun v => some v) n (a ++ (([v5] : List (List Bool))), (IntKind.wrap .i64 ((k : Int) + 1)))) hN h20 hm (by omega)
   refine ⟨a ++ [row], ?_, by simp [ha.1], Mt (P := fun q y => ((y.length : Nat) : Int) = m ∧ (diag = true → (q : Int) < m → y.getD q false = true)) ha.1 ha.2 ⟨h1, h2⟩⟩
   rw [BT]
   simp only [Fh]
   rw [BO (by omega), e, BY (by rw [ha.1]; unfold Fz; simp; omega), Cg (by omega)])
  (fun n a _ => by
   rw [BT]
   simp only [Fh]
   rw [Bm (by omega)]) N 0 [] (Nat.zero_le _) (by omega) ⟨rfl, fun q hq => by omega⟩
 have key : ∀ q row, l[q]? = some row → l.getD q [] = row := fun q row hq => by rw [List.getD_eq_getElem?_getD, hq]; rfl
 refine ⟨l, e, by omega, fun row hr => ?_, fun hd hnm => ?_⟩
 ·obtain ⟨q, hq⟩ := List.mem_iff_getElem?.1 hr
  have := (h2 q (by have := (List.getElem?_eq_some_iff.1 hq).1; omega)).1
  rwa [key q row hq] at this
 ·unfold Hd
  refine FB fun q row hq => ?_
  have hlt := (List.getElem?_eq_some_iff.1 hq).1
  have := (h2 q (by omega)).2 hd (by omega)
  rw [key q row hq] at this
  rw [Nat.zero_add, this]; rfl
structure Qk (p : Ai) : Prop where
 valid : D3 p = 0
 nv : p.fVersions.length ≤ 3
 nt : p.fTables.length ≤ 4
 v3 : ∀ v, v ∈ p.fVersions → v ≤ 3
theorem NU {p q : Ai} (h : p.fVersions = q.fVersions) (t : AG) : Dh p t = Dh q t := by
 unfold Dh; rw [h]
theorem Td (N : Nat) (d : Ce) (hN : N ≤ 1000000) (h20 : 20 ≤ N) (hw : Ey d) : ∃ p ok, DT N d = some (p, ok) ∧ (ok = true → Qk p) := by
 obtain ⟨w1, w2, w3, w4, _⟩ := hw
 unfold DT
 simp only [Fh]
 by_cases k1 : 3 < d.fVersions.length
 ·rw [BO (by omega)]; exact ⟨_, false, rfl, fun h => by cases h⟩
 by_cases k2 : 4 < d.fLinks.length
 ·rw [Bm (by omega), decide_eq_true (by omega : (4 : Int) < (d.fLinks.length : Int))]; exact ⟨_, false, rfl, fun h => by cases h⟩
 rw [Bm (by omega), decide_eq_false (by omega : ¬ (4 : Int) < (d.fLinks.length : Int)), A4]
 obtain ⟨⟨vs, ns, ts⟩, e, h1, h2, h3, h4⟩ := I9 (A := List Int × List Int × List Int) (Cf N d fun v5 => Bg N d v5 (fun v16 => some (Ai.mk v5.1 v5.2.1 v5.2.2 v16, true)) N ([], 0)) (fun a k => (a.1, a.2.1, a.2.2, k)) d.fVersions.length
  (fun v5 => Bg N d v5 (fun v16 => some (Ai.mk v5.1 v5.2.1 v5.2.2 v16, true)) N ([], 0))
  (fun i a => a.1.length = i ∧ a.2.1.length = i ∧ a.2.2.length = i ∧ (∀ k, k < i → (1 ≤ a.1.getD k 0 ∧ a.1.getD k 0 ≤ 3) ∧ (0 ≤ a.2.1.getD k 0 ∧ a.2.1.getD k 0 < a.1.getD k 0) ∧ (0 ≤ a.2.2.getD k 0 ∧ a.2.2.getD k 0 < a.1.getD k 0)))
  (fun n i a hi ha => by
   obtain ⟨vs, ns, ts⟩ := a
   obtain ⟨h1, h2, h3, h4⟩ := ha
   simp only at h1 h2 h3 h4
   have hv := Nu w1 i
   have hb := Nu w2 i
   have hk := Nu w3 i
   have hm := F9 (n := 3) hv.1 (by omega)
   obtain ⟨v, hvd⟩ : ∃ v, v = 1 + Int.tmod (d.fVersions.getD i 0) 3 := ⟨_, rfl⟩
   have m1 := F9 (n := v) hb.1 (by omega)
   have m2 := F9 (n := v) hk.1 (by omega)
   refine ⟨(vs ++ [v], ns ++ [Int.tmod (d.fNow.getD i 0) v], ts ++ [Int.tmod (d.fTarget.getD i 0) v]), ?_, by simp [h1], by simp [h2], by simp [h3], ?_⟩
   ·rw [Cf]
    simp only [Fh]
    rw [BO (by omega), EK (d := 0) hi, Lm N w2, Lm N w3]
    simp only [Option.bind_some]
    rw [D7 (n := Int.tmod _ _) (by omega) (by omega), D7 (n := 1 + _) (by omega) (by omega), ← hvd, Cg (by omega)]
    have l1 : ∀ y : Int, vs.length + ([y] : List Int).length ≤ Fz := by intro y; rw [h1]; unfold Fz; simp; omega
    have l2 : ∀ y : Int, ns.length + ([y] : List Int).length ≤ Fz := by intro y; rw [h2]; unfold Fz; simp; omega
    have l3 : ∀ y : Int, ts.length + ([y] : List Int).length ≤ Fz := by intro y; rw [h3]; unfold Fz; simp; omega
    simp only [BY (l1 _), BY (l2 _), BY (l3 _), BY (show v ≠ 0 by omega)]
   ·intro k hk
    simp only
    by_cases hki : k < i
    ·rw [G4 (by omega), G4 (by omega), G4 (by omega)]; exact h4 k hki
    ·have : k = i := by omega
     subst this
     rw [G9 h1.symm, G9 h2.symm, G9 h3.symm]
     omega)
  (fun n a _ => by
   rw [Cf]
   simp only [Fh]
   rw [Bm (by omega)]) N 0 ([], [], []) (Nat.zero_le _) (by omega) ⟨rfl, rfl, rfl, fun k hk => by omega⟩
 simp only at h1 h2 h3 h4
 have e' : Cf N d (fun v5 => Bg N d v5 (fun v16 => some (Ai.mk v5.1 v5.2.1 v5.2.2 v16, true)) N ([], 0)) N ([], [], [], 0) = _ := e
 rw [e']
 have hvs : ∀ v, v ∈ vs → 1 ≤ v ∧ v ≤ 3 := by
  intro v hv
  obtain ⟨q, hq⟩ := List.mem_iff_getElem?.1 hv
  have := (h4 q (by have := (List.getElem?_eq_some_iff.1 hq).1; omega)).1
  rwa [List.getD_eq_getElem?_getD, hq] at this
 have fin : ∀ tabs : List AG, tabs.length ≤ 4 → (∀ t, t ∈ tabs → Dh ⟨vs, ns, ts, []⟩ t = 0) → Qk ⟨vs, ns, ts, tabs⟩ := by
  intro tabs ht h
  have hp : EN ⟨vs, ns, ts, tabs⟩ := ⟨show vs.length ≤ 6 by omega, show tabs.length ≤ 12 by omega, show ns.length = vs.length by omega, show ts.length = vs.length by omega, fun v hv => by have := hvs v hv; omega, fun t ht => by rw [← h t ht]; exact NU rfl t⟩
  exact ⟨Mb hp fun i hi => by have := h4 i (by have : i < vs.length := hi; omega); simp only; omega, show vs.length ≤ 3 by omega, ht, fun v hv => (hvs v hv).2⟩
 by_cases k3 : vs.length = 0
 ·refine ⟨_, true, ?_, fun _ => fin [] (by simp) (fun t ht => by cases ht)⟩
  obtain ⟨M, rfl⟩ : ∃ M, N = M + 1 := ⟨N - 1, by omega⟩
  rw [Bg]
  simp only [Fh]
  rw [k3]
  by_cases k4 : (0 : Int) < (d.fLinks.length : Int)
  ·rw [BO k4]; rfl
  ·rw [Bm k4]; rfl
 obtain ⟨tabs, e2, g1, g2⟩ := I9 (A := List AG) (Bg N d (vs, ns, ts) (fun v16 => some (Ai.mk vs ns ts v16, true))) (fun a k => (a, k)) d.fLinks.length (fun v16 => some (Ai.mk vs ns ts v16, true))
  (fun i a => a.length = i ∧ ∀ t, t ∈ a → Dh ⟨vs, ns, ts, []⟩ t = 0)
  (fun n i a hi ha => by
   have hx : d.fLinks[i]? = some d.fLinks[i] := by simp [hi]
   generalize d.fLinks[i] = l at hx
   obtain ⟨u1, u2, u3, _, u5, u6, _⟩ := w4 l (List.mem_of_getElem? hx)
   have u1 := GU u1
   have u2 := GU u2
   have u3 := GU u3
   have mk := F9 (n := 4) u1.1 (by omega)
   have hL : (0 : Int) < (vs.length : Int) := by omega
   have mf := F9 (n := (vs.length : Int)) u2.1 hL
   have mt := F9 (n := (vs.length : Int)) u3.1 hL
   rw [Bg]
   simp only [Fh]
   rw [BO (by omega), decide_eq_true hL, Ei, Dg, hx]
   simp only [Option.bind_some]
   rw [BY (by omega), BY (by omega), D7 (n := l.fFrom) (by omega) (by omega), D7 (n := l.fTo) (by omega) (by omega), D7 (n := Int.tmod l.fKind 4) (by omega) (by omega), D7 (n := 1 + _) (by omega) (by omega), Cg (by omega)]
   simp only [JD, Option.bind_some]
   rw [Gt (d := 0) mf.1 mf.2, Gt (d := 0) mt.1 mt.2]
   simp only [Option.bind_some]
   have hA : ∀ q : Int, 0 ≤ q → q < (vs.length : Int) → 1 ≤ vs.getD q.toNat 0 ∧ vs.getD q.toNat 0 ≤ 3 := fun q h0 h1 => (h4 q.toNat (by omega)).1
   have hf := hA _ mf.1 mf.2
   have ht := hA _ mt.1 mt.2
   obtain ⟨A, eA, a1, a2, _⟩ := NH N (vs.getD (Int.tmod l.fFrom (vs.length : Int)).toNat 0) (vs.getD (Int.tmod l.fTo (vs.length : Int)).toNat 0) l.fBad false hN h20 (by omega) (by omega)
   obtain ⟨B, eB, b1, b2, b3⟩ := NH N (vs.getD (Int.tmod l.fFrom (vs.length : Int)).toNat 0) (vs.getD (Int.tmod l.fFrom (vs.length : Int)).toNat 0) l.fLost true hN h20 (by omega) (by omega)
   rw [eA, eB]
   simp only [Option.bind_some]
   have l1 : ∀ y : AG, a.length + ([y] : List AG).length ≤ Fz := by intro y; rw [ha.1]; unfold Fz; simp; omega
   simp only [BY (l1 _)]
   obtain ⟨kd, hkd⟩ : ∃ kd, kd = 1 + Int.tmod l.fKind 4 := ⟨_, rfl⟩
   rw [← hkd]
   have fin2 : ∀ (aw : Bool) (re : List (List Bool)), (aw = true → (kd == 3 || kd == 4) = false) → ((kd = 4 → re = B) ∧ (kd ≠ 4 → re = [])) →
     Dh ⟨vs, ns, ts, []⟩ (AG.mk kd (Int.tmod l.fFrom (vs.length : Int)) (Int.tmod l.fTo (vs.length : Int)) aw A re) = 0 := by
    intro aw re haw hre
    refine Rg ⟨show 1 ≤ kd ∧ kd ≤ 4 by omega, haw, mf, mt, a1, a2, fun h => by rw [hre.1 h]; exact b1, fun row hr => ?_, fun h => by rw [hre.1 h]; exact b3 rfl rfl, fun h => hre.2 h⟩
    by_cases h4 : kd = 4
    ·simp only at hr; rw [hre.1 h4] at hr; exact b2 row hr
    ·simp only at hr; rw [hre.2 h4] at hr; cases hr
   have app : ∀ t, Dh ⟨vs, ns, ts, []⟩ t = 0 → (a ++ [t]).length = i + 1 ∧ ∀ t', t' ∈ a ++ [t] → Dh ⟨vs, ns, ts, []⟩ t' = 0 := by
    intro t ht
    refine ⟨by simp [ha.1], fun t' ht' => ?_⟩
    rcases List.mem_append.1 ht' with h | h
    ·exact ha.2 t' h
    ·rw [List.mem_singleton.1 h]; exact ht
   by_cases h4 : kd = 4
   ·have e4 : (kd == 4) = true := beq_iff_eq.2 h4
    have hre : (kd = 4 → B = B) ∧ (kd ≠ 4 → B = []) := ⟨fun _ => rfl, fun h => (h h4).elim⟩
    rw [e4]
    simp only [Ei, Bool.or_true, Bool.not_true]
    cases l.fAware
    ·exact ⟨_, rfl, app _ (fin2 false B (fun h => by cases h) hre)⟩
    ·exact ⟨_, rfl, app _ (fin2 false B (fun h => by cases h) hre)⟩
   ·have e4 : (kd == 4) = false := beq_eq_false_iff_ne.2 h4
    have hre : (kd = 4 → ([] : List (List Bool)) = B) ∧ (kd ≠ 4 → ([] : List (List Bool)) = []) := ⟨fun h => (h4 h).elim, fun _ => rfl⟩
    rw [e4]
    simp only [A4, Bool.or_false]
    cases l.fAware
    ·exact ⟨_, rfl, app _ (fin2 false [] (fun h => by cases h) hre)⟩
    ·cases e3 : kd == 3
     ·exact ⟨_, rfl, app _ (fin2 true [] (fun _ => by rw [e3, e4]; rfl) hre)⟩
     ·exact ⟨_, rfl, app _ (fin2 false [] (fun h => by cases h) hre)⟩)
  (fun n a _ => by
   rw [Bg]
   simp only [Fh]
   rw [Bm (by omega), A4]) N 0 [] (Nat.zero_le _) (by omega) ⟨rfl, fun t ht => by cases ht⟩
 exact ⟨_, true, e2, fun _ => fin tabs (by omega) g2⟩
end Go.Lift

/- The mixes that result from aborts: both implementations give one list. -/
namespace Go.Lift
structure N9 (m x : Ae) : Prop where
 base : x.fBase = m.fBase
 held : x.fHeld = m.fHeld
 len : x.fNext.length = m.fNext.length
 next : ∀ q, q < m.fNext.length → x.fNext.getD q 0 = m.fNext.getD q 0 ∨ (0 ≤ m.fNext.getD q 0 ∧ x.fNext.getD q 0 = -1)
theorem N9.refl (m : Ae) : N9 m m := ⟨rfl, rfl, rfl, fun _ _ => .inl rfl⟩
theorem N9.trans {a b c : Ae} (h1 : N9 a b) (h2 : N9 b c) : N9 a c :=
 ⟨h2.base.trans h1.base, h2.held.trans h1.held, h2.len.trans h1.len, fun q hq => by
  have e1 := h1.next q hq
  have e2 := h2.next q (by rw [h1.len]; exact hq)
  omega⟩
end Go.Lift

/- Aborts, the first mix that is to blame, and robustness: both implementations give one answer. -/
namespace Go.Lift
def Oo : Ae := ⟨[], [], []⟩
end Go.Lift

/- The laws of the mixes in plain words: MixConflicts, MixAborts, MixAborted, MixGoal, MixValid. -/
namespace Go.Lift
end Go.Lift

/- The laws of the mixes in plain words: MixGoal, MixValid. -/
namespace Go.Lift
end Go.Lift

/- The first mix in plain words, and the law MixStart. -/
namespace Go.Lift
open Go
end Go.Lift

/- Bits of sets of versions: or, and-not, the lowest bit. -/
namespace Go.Lift
open Go
theorem Mu (x : BitVec 8) : IntKind.wrap .u8 (x.toNat : Int) = (x.toNat : Int) := by
 have := x.isLt
 simp [IntKind.wrap, IntKind.signed, IntKind.bits]
 omega
end Go.Lift

/- Steps: both implementations give one answer. -/
namespace Go.Lift
open Go
def Rp (s : Av) : Bool := decide (1 ≤ s.fKind ∧ s.fKind ≤ 4 ∧ 0 ≤ s.fIndex ∧ 0 ≤ s.fVersion) && (s.fKind == 1 || s.fVersion == 0)
def Sp (p : Ai) (s : Av) : Bool :=
 if s.fKind = 3 then decide (s.fIndex < (p.fTables.length : Int)) else decide (s.fIndex < (p.fVersions.length : Int)) && (s.fKind != 1 || decide (s.fVersion < p.fVersions.getD s.fIndex.toNat 0))
def TJ (s : Av) (t : AG) : Bool := t.fFrom == s.fIndex && Ea t
def TH (s : Av) (i : Nat) (t : AG) (a : List Int) : List Int := if TJ s t = true then a.set i (IT .u8 (a.getD i 0) (Cn .u8 1 s.fVersion)) else a
def QD (p : Ai) (s : Av) (held : List Int) : List Int := I0 (TH s) 0 p.fTables held
def R6 (m : Ae) (t : AG) (u : Nat) : Bool := (t.fRewrite.getD u []).getD (m.fBase.getD t.fFrom.toNat 0).toNat false
def Tu (m : Ae) (i : Nat) (t : AG) (u : Nat) : Bool := HO (m.fHeld.getD i 0) u && !Nm m t.fFrom.toNat u
def QN (p : Ai) (m : Ae) (i : Nat) (t : AG) : Bool := t.fKind == 4 && (List.range 8).any fun u => Tu m i t u && !R6 m t u
def Rc (p : Ai) (m : Ae) (s : Av) : Option Ae :=
 let i := s.fIndex.toNat
 if s.fKind = 1 then (if 0 ≤ m.fNext.getD i 0 ∨ m.fBase.getD i 0 = s.fVersion then none else some ⟨m.fBase, m.fNext.set i s.fVersion, QD p s m.fHeld⟩)
 else if s.fKind = 3 then match p.fTables[i]? with
  | none => none
  | some t => if Ea t = false ∨ m.fHeld.getD i 0 = H6 m t.fFrom.toNat ∨ QN p m i t = true then none else some ⟨m.fBase, m.fNext, m.fHeld.set i (H6 m t.fFrom.toNat)⟩
 else if m.fNext.getD i 0 < 0 then none
 else some ⟨if s.fKind = 2 then m.fBase.set i (m.fNext.getD i 0) else m.fBase, m.fNext.set i (-1), m.fHeld⟩
def QJ (p : Ai) (m : Ae) (s : Av) : Ae × Int :=
 if Rp s = false then (Oo, 1) else if Sp p s = false then (Oo, 4) else match Rc p m s with
  | none => (Oo, 11)
  | some x => (x, 0)
end Go.Lift

/- Steps: clearing, and the whole of Apply. -/
namespace Go.Lift
open Go
section clear
variable {p : Ai} {m : Ae} {i : Nat} {t : AG}
end clear
end Go.Lift

/- Apply: both implementations give applyP; a step leads from a valid mix to a valid mix. -/
namespace Go.Lift
open Go
end Go.Lift

/- A step leads from a valid mix to a valid mix; Apply of both implementations. -/
namespace Go.Lift
open Go
end Go.Lift

/- Failure and Check: both implementations give one answer; the laws PlanCheck and PlanFailure. -/
namespace Go.Lift
open Go
section
variable {N : Nat} {p : Ai} {l : List Av}
end
end Go.Lift

/- The law PlanErrors in plain words. -/
namespace Go.Lift
open Go
end Go.Lift

/- Trim: both implementations give one list. -/
namespace Go.Lift
open Go
end Go.Lift

/- A plan without a step: what can be left out. -/
namespace Go.Lift
open Go
structure Rj (p : Ai) (m x : Ae) : Prop where
 base : m.fBase = x.fBase
 next : m.fNext = x.fNext
 held : ∀ i, i < p.fTables.length → ∀ v, HO (m.fHeld.getD i 0) v = true → HO (x.fHeld.getD i 0) v = true
theorem Rj.refl (p : Ai) (m : Ae) : Rj p m m := ⟨rfl, rfl, fun _ _ _ h => h⟩
theorem Rj.trans {p : Ai} {a b c : Ae} (h : Rj p a b) (g : Rj p b c) : Rj p a c := ⟨h.base.trans g.base, h.next.trans g.next, fun i hi v hv => g.held i hi v (h.held i hi v hv)⟩
end Go.Lift

/- A step between two mixes; openings and closings; the law PlanTrim. -/
namespace Go.Lift
open Go
end Go.Lift

/- The law PlanTrim in plain words. -/
namespace Go.Lift
open Go
end Go.Lift

/- The keys of mixes. -/
namespace Go.Lift
open Go
end Go.Lift

/- Keys tell mixes. -/
namespace Go.Lift
open Go
end Go.Lift

/- The possible steps of a mix, in order: both implementations. -/
namespace Go.Lift
open Go
end Go.Lift

/- Enabled: the possible steps. -/
namespace Go.Lift
open Go
end Go.Lift

/- Enabled gives the possible steps. -/
namespace Go.Lift
open Go
end Go.Lift

/- The reference's list of possible steps is the same. -/
namespace Go.Lift
open Go
end Go.Lift

/- Breadth-first search in plain Lean: the ways that it finds are the least ones, by length and then by the ranks of their steps. No condition. -/
namespace Go.Lift
namespace Bfs
section
variable {α σ : Type}
def code (rk : σ → Nat) (K : Nat) (w : List σ) : Nat := w.foldl (fun c s => c * K + rk s) 0
def TA (rk : σ → Nat) (K : Nat) (w : List σ) : Prop := ∀ s, s ∈ w → 1 ≤ rk s ∧ rk s ≤ K
theorem TA.snoc {rk : σ → Nat} {K : Nat} {w : List σ} {s : σ} (h : TA rk K w) (hs : 1 ≤ rk s ∧ rk s ≤ K) : TA rk K (w ++ [s]) := by
 intro x hx; rcases List.mem_append.1 hx with h1 | h1
 ·exact h x h1
 ·rw [List.mem_singleton.1 h1]; exact hs
abbrev Nd (α σ : Type) := α × Int × σ
def put [DecidableEq α] (i : Nat) (l : List (Nd α σ)) (q : σ × α) : List (Nd α σ) := if (l.any fun n => decide (n.1 = q.2)) = true then l else l ++ [(q.2, (i : Int), q.1)]
def Of [DecidableEq α] (most i : Nat) : List (σ × α) → List (Nd α σ) → Option (List (Nd α σ))
 | [], l => some l
 | q :: qs, l => if most < (put i l q).length then none else Of most i qs (put i l q)
def go [DecidableEq α] (nxt : α → List (σ × α)) (most : Nat) : Nat → Nat → List (Nd α σ) → Option (List (Nd α σ))
 | 0, _, _ => none
 | n + 1, i, l => match l[i]? with
  | none => some l
  | some nd => (Of most i (nxt nd.1) l).bind fun l' => go nxt most n (i + 1) l'
def run (nxt : α → List (σ × α)) (x : α) : List σ → α → Prop
 | [], y => y = x
 | s :: w, y => ∃ z, (s, z) ∈ nxt x ∧ run nxt z w y
theorem GN {nxt : α → List (σ × α)} : ∀ {u w : List σ} {x y : α}, run nxt x (u ++ w) y ↔ ∃ z, run nxt x u z ∧ run nxt z w y
 | [], w, x, y => by simp [run]
 | s :: u, w, x, y => by
  simp only [List.cons_append, run]
  constructor
  ·rintro ⟨z, h1, h2⟩
   obtain ⟨z', h3, h4⟩ := GN.1 h2
   exact ⟨z', ⟨z, h1, h3⟩, h4⟩
  ·rintro ⟨z', ⟨z, h1, h3⟩, h4⟩
   exact ⟨z, h1, GN.2 ⟨z', h3, h4⟩⟩
end
end Bfs
end Go.Lift

/- The region of a mix: the reference's list of nodes is the breadth-first search. -/
namespace Go.Lift
open Go
theorem Ml : ∀ {l : List Int}, RT l = 0 → ∀ x, x ∈ l → x = 0
 | [], _, x, hx => by cases hx
 | y :: ys, h, x, hx => by
  unfold RT at h
  split at h
  ·rename_i hy
   rcases List.mem_cons.1 hx with rfl | hx
   ·exact hy
   ·exact Ml h x hx
  ·rename_i hy; exact absurd h hy
theorem N5 {a b : Ae} (h : Pw a b = 0) : a = b := by
 have := Ml h
 have h1 := Kb _ _ (this (Jy a.fBase b.fBase) (by simp))
 have h2 := Kb _ _ (this (Jy a.fNext b.fNext) (by simp))
 have h3 := Kb _ _ (this (Jy a.fHeld b.fHeld) (by simp))
 cases a; cases b; simp only at h1 h2 h3; subst h1; subst h2; subst h3; rfl
instance SW : DecidableEq Ae := fun a b => if h : Pw a b = 0 then isTrue (N5 h) else isFalse (fun e => h (by rw [e]; exact N4 b))
end Go.Lift

/- The region of a mix: the reference's whole list. -/
namespace Go.Lift
open Go
end Go.Lift

/- The region of a mix: the program's list of nodes is the same. -/
namespace Go.Lift
open Go
end Go.Lift

/- Ways to goals: From and Find, both implementations. -/
namespace Go.Lift
open Go
end Go.Lift

/- The laws PlanFind, PlanFrom, PlanShortest. -/
namespace Go.Lift
open Go
end Go.Lift

/- The law PlanRest. -/
namespace Go.Lift
open Go
end Go.Lift

/- The blocks of mixes, both implementations. -/
namespace Go.Lift
open Go
end Go.Lift

/- The nearest mix, both implementations. -/
namespace Go.Lift
open Go
end Go.Lift

/- Runs, plays and walks, both implementations. -/
namespace Go.Lift
open Go
theorem LD : Dk 1000 = some true := by kernel_rfl
end Go.Lift

/- The errors of an invalid problem. -/
namespace Go.Lift
open Go
end Go.Lift

/- The versions that run, both implementations. -/
namespace Go.Lift
open Go
theorem NQ (a b c : Int) : IT .u8 (IT .u8 a b) c = IT .u8 a (IT .u8 b c) := by
 have k : ∀ x : BitVec 8, BitVec.ofInt 8 (IntKind.wrap .u8 (x.toNat : Int)) = x := fun x => by rw [Mu, BitVec.ofInt_natCast]; simp
 show IntKind.wrap .u8 ((BitVec.ofInt 8 (IntKind.wrap .u8 ((BitVec.ofInt 8 a ||| BitVec.ofInt 8 b).toNat : Int)) ||| BitVec.ofInt 8 c).toNat : Int) = IntKind.wrap .u8 ((BitVec.ofInt 8 a ||| BitVec.ofInt 8 (IntKind.wrap .u8 ((BitVec.ofInt 8 b ||| BitVec.ofInt 8 c).toNat : Int))).toNat : Int)
 rw [k, k, BitVec.or_assoc]
def MV (m : Ae) (s : Nat) (_ : Int) (out : List Int) : List Int := out.set s (IT .u8 (out.getD s 0) (H6 m s))
theorem QR (N : Nat) (hN : N ≤ 1000000) (h20 : 100 ≤ N) {p : Ai} (hp : EN p) {m : Ae} (hm : NK p m) (out : List Int) (k : Int) (ho : out.length = p.fVersions.length) (J : List Int → Option (List Int × Int)) :
  B5 N (out, k) m J N (out, 0) = J (I0 (MV m) 0 p.fVersions out) ∧ (I0 (MV m) 0 p.fVersions out).length = p.fVersions.length := by
 have hnv := hp.nv
 have := Jx (B5 N (out, k) m J) (fun a i => (a, i)) p.fVersions J (MV m) (fun _ a => a.length = p.fVersions.length)
  (fun n i x a hx ha => by
   have hi := (List.getElem?_eq_some_iff.1 hx).1
   have hb0 := (hm.b0 i hi).1
   have hbl := hm.base
   have hnl := hm.next
   rw [B5, BO (by first | omega | (simp only; omega))]
   simp only [Fh]
   rw [EK (d := 0) (by omega), EK (d := 0) (by omega), EK (d := 0) (by omega)]
   simp only [Option.bind_some, Int.toNat_natCast]
   rw [BY hb0, Cg (by omega)]
   refine ⟨?_, by unfold MV; simp [ha]⟩
   unfold MV H6
   by_cases h : 0 ≤ m.fNext.getD i 0
   ·rw [BO h, if_pos h, EK (d := 0) (by simp; omega)]
    simp only [Option.bind_some]
    rw [BY h, List.set_set]
    have e : (a.set i (IT .u8 (a.getD i 0) (Cn .u8 1 (m.fBase.getD i 0)))).getD i 0 = IT .u8 (a.getD i 0) (Cn .u8 1 (m.fBase.getD i 0)) := by
     rw [List.getD_eq_getElem?_getD, List.getElem?_set_self (by omega)]; rfl
    rw [e, NQ]
   ·rw [Bm h, if_neg h])
  (fun n a ha => by rw [B5, Bm (by first | omega | (simp only; omega))]) N 0 out (Nat.zero_le _) (by omega) ho
 exact this
theorem Pk (N : Nat) (hN : N ≤ 1000000) (h20 : 100 ≤ N) {p : Ai} (hp : EN p) {m : Ae} (hm : NK p m) (l : List Ae) (q : Nat) (hq : l[q]? = some m) (out : List Int) (ho : out.length = p.fVersions.length) (J : List Int → Option (List Int × Int)) :
  Bh N l (out, (q : Int)) J N (out, 0) = J (I0 (MV m) 0 p.fVersions out) := by
 have hnv := hp.nv
 have := Jx (Bh N l (out, (q : Int)) J) (fun a i => (a, i)) p.fVersions J (MV m) (fun _ a => a.length = p.fVersions.length)
  (fun n i x a hx ha => by
   have hi := (List.getElem?_eq_some_iff.1 hx).1
   have hb0 := (hm.b0 i hi).1
   have hbl := hm.base
   have hnl := hm.next
   rw [Bh, BO (by first | omega | (simp only; omega))]
   have hia : i < a.length := by have h9 : a.length = p.fVersions.length := ha; omega
   rw [show A7 (a, (i : Int)).1 (a, (i : Int)).2 = some (a.getD i 0) from EK hia, show A7 l (out, (q : Int)).2 = some m from (Dg l q).trans hq]
   simp only [Option.bind_some, Int.toNat_natCast]
   rw [KL N m (i : Int) (by omega) (by omega) (by omega) hb0, Cg (by omega)]
   exact ⟨rfl, by unfold MV; simp [ha]⟩)
  (fun n a ha => by rw [Bh, Bm (by first | omega | (simp only; omega))]) N 0 out (Nat.zero_le _) (by omega) ho
 exact this.1
theorem NL (N : Nat) (hN : N ≤ 1000000) (h20 : 100 ≤ N) {p : Ai} (hp : EN p) (l : List Ae) (hl : l.length ≤ 60) (hm : ∀ x, x ∈ l → NK p x) : ∀ (n i : Nat) (out : List Int), i ≤ l.length → l.length - i < n → out.length = p.fVersions.length → ∃ r : List Int, r.length = p.fVersions.length ∧
  B6 N l (fun v => some (v, 0)) n (out, (i : Int)) = some (r, 0) ∧ Bx N l (fun v => some (v, 0)) n (out, (i : Int)) = some (r, 0)
 | 0, i, _, _, h, _ => by omega
 | n + 1, i, out, hi, h, ho => by
  rw [B6, Bx]
  by_cases h1 : i < l.length
  ·have hx : l[i]? = some l[i] := by simp [h1]
   have hk := hm _ (List.mem_of_getElem? hx)
   rw [BO (by first | omega | (simp only; omega)), BO (by first | omega | (simp only; omega))]
   simp only [Dg, hx, Option.bind_some]
   obtain ⟨e1, e2⟩ := QR N hN h20 hp hk out (i : Int) ho (fun v15 => B6 N l (fun v => some (v, 0)) n (v15, IntKind.wrap .i64 ((i : Int) + 1)))
   rw [e1, Pk N hN h20 hp hk l i hx out ho, Cg (by omega)]
   exact NL N hN h20 hp l hl hm n (i + 1) _ (by omega) (by omega) e2
  ·rw [Bm (by first | omega | (simp only; omega)), Bm (by first | omega | (simp only; omega))]
   exact ⟨out, ho, rfl, rfl⟩
theorem MQ (N : Nat) (hN : N ≤ 1000000) (h20 : 100 ≤ N) (p : Ai) (l : List Ae) (hl : l.length ≤ 60) (hw : ∀ x, x ∈ l → KY J9 x.fHeld) (J J' : Unit → Option (List Int × Int)) : ∀ (n i : Nat), i ≤ l.length → l.length - i < n → (∀ x, x ∈ l.take i → HI p x = 0) →
  (∃ e : Int, CB N p l J n (i : Int) = some ([], e) ∧ BJ N p l J' n (i : Int) = some ([], e)) ∨
  ((∀ x, x ∈ l → HI p x = 0) ∧ CB N p l J n (i : Int) = J () ∧ BJ N p l J' n (i : Int) = J' ())
 | 0, i, _, h, _ => by omega
 | n + 1, i, hi, h, ha => by
  rw [CB, BJ]
  by_cases h1 : i < l.length
  ·have hx : l[i]? = some l[i] := by simp [h1]
   rw [BO (by omega), BO (by omega)]
   simp only [Dg, hx, Option.bind_some]
   rw [L6 N p _ hN (by omega) (hw _ (List.mem_of_getElem? hx)), LO N p _ hN (by omega)]
   simp only [Option.bind_some]
   by_cases h0 : HI p l[i] = 0
   ·rw [h0, bne_self_eq_false, A4, A4, Cg (by omega)]
    exact MQ N hN h20 p l hl hw J J' n (i + 1) (by omega) (by omega) (fun x hx => by
     rw [List.take_succ_eq_append_getElem h1] at hx
     rcases List.mem_append.1 hx with hx | hx
     ·exact ha x hx
     ·rw [List.mem_singleton.1 hx]; exact h0)
   ·rw [bne_iff_ne.2 h0, Ei, Ei]
    exact .inl ⟨_, rfl, rfl⟩
  ·rw [Bm (by omega), Bm (by omega)]
   refine .inr ⟨fun x hx => ha x ?_, rfl, rfl⟩
   rw [List.take_of_length_le (by omega)]; exact hx
theorem MO (N : Nat) (hN : N ≤ 1000000) (h20 : 100 ≤ N) {p : Ai} (hv : D3 p = 0) (l : List Ae) (hl : l.length ≤ 60) (hw : ∀ x, x ∈ l → KY J9 x.fHeld) : ∃ (r : List Int) (e : Int), r.length ≤ 8 ∧ D0 N p l = some (r, e) ∧ CU N p l = some (r, e) := by
 obtain ⟨hp, _⟩ := Nh hv
 have hnv := hp.nv
 unfold D0 CU
 rw [Ji N p (by omega) (by omega), Kj N p (by omega) (by omega), hv]
 simp only [Option.bind_some, bne_self_eq_false, A4]
 rw [BY (by simp [Fz]; omega), BY (by simp [Fz]; omega)]
 rcases MQ N hN h20 p l hl hw (fun _ => B6 N l (fun v11 => some (v11, 0)) N (List.replicate ((p.fVersions.length : Int)).toNat ((0 : Int)), 0)) (fun _ => Bx N l (fun v11 => some (v11, 0)) N (List.replicate ((p.fVersions.length : Int)).toNat ((0 : Int)), 0)) N 0 (Nat.zero_le _) (by omega) (fun x hx => by simp at hx) with ⟨e, h1, h2⟩ | ⟨h0, h1, h2⟩
 ·exact ⟨[], e, by simp, h1, h2⟩
 ·obtain ⟨r, k1, k2, k3⟩ := NL N hN h20 hp l hl (fun x hx => (Ou (hw x hx) (h0 x hx)).2) N 0 (List.replicate ((p.fVersions.length : Int)).toNat ((0 : Int))) (Nat.zero_le _) (by omega) (by simp)
  exact ⟨r, 0, by omega, h1.trans k2, h2.trans k3⟩
theorem KE (N : Nat) (l : List Int) (hN : N ≤ 1000000) (h : l.length < N) : B1 N l l = some true := by
 unfold B1
 rw [bne_self_eq_false, A4]
 have := Dp (AZ N l l fun _ => some true) l (some true) (fun _ _ => none)
  (fun n i x hx => by
   have hi := (List.getElem?_eq_some_iff.1 hx).1
   rw [AZ, BO (by omega), Dg, hx]
   simp only [Option.bind_some, bne_self_eq_false, A4]
   rw [Cg (by omega)]; rfl)
  (fun n => by rw [AZ, Bm (by simp)]) N 0 (Nat.zero_le _) (by omega)
 refine this.trans ?_
 rw [FB fun j x hx => rfl]; rfl
theorem MD (N : Nat) (hN : N ≤ 1000000) (l : List Ae) (hl : l.length ≤ 60) (J : Unit → Option Bool) (hJ : J () = some true) : ∀ (n i : Nat), i ≤ l.length → l.length - i < n → Bt N l J n (i : Int) = some true
 | 0, i, _, h => by omega
 | n + 1, i, hi, h => by
  rw [Bt]
  by_cases h1 : i < l.length
  ·have hx : l[i]? = some l[i] := by simp [h1]
   rw [BO (by omega)]
   simp only [Dg, hx, Option.bind_some]
   obtain ⟨b, e, _⟩ := P1 N l[i]
   rw [e]
   simp only [Option.bind_some]
   cases b
   ·rfl
   ·rw [Bool.not_true, A4, Cg (by omega)]
    exact MD N hN l hl J hJ n (i + 1) (by omega) (by omega)
  ·rw [Bm (by omega)]; exact hJ
theorem IB (d : Ce) (l : List Ae) (wd : Ey d) (wl : KY Ke l) : Cp 1000 d l = some true := by
 obtain ⟨p, ok, e, hok⟩ := Td 1000 d (by omega) (by omega) wd
 unfold Cp
 rw [e]
 simp only [Option.bind_some, Fh, LD, Bool.not_true, A4]
 cases ok
 ·rfl
 simp only [Bool.not_true, A4]
 by_cases h6 : (6 : Int) < (l.length : Int)
 ·rw [decide_eq_true h6, Ei]
 rw [decide_eq_false h6, A4]
 have hv := (hok rfl).valid
 refine MD 1000 (by omega) l (by omega) _ ?_ 1000 0 (Nat.zero_le _) (by omega)
 have hc : B2 1000 l = some l := by
  unfold B2
  rw [BY (by simp [Fz]; omega)]; rfl
 obtain ⟨r, e, h0, h1, h2⟩ := MO 1000 (by omega) (by omega) hv l (by omega) (fun x hx => (wl x hx).2.2.1)
 rw [hc, Option.bind_some, h1, h2]
 simp only [Option.bind_some, beq_self_eq_true, Ei]
 rw [KE 1000 r (by omega) (by omega)]; rfl
end Go.Lift

