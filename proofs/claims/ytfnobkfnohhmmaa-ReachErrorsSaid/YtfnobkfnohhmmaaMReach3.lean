/- Lemmas for ReachErrorsSaid, which YtfnobkfnohhmmaaFinW3 proves. -/
import Derived.Test.YtfnobkfnohhmmaaDec
import Derived.KernelRfl
/- Plain words of the shallow programs. -/
namespace Go.Lift
theorem Da {α : Type} (xs : List α) (i : Nat) : Bd xs (i : Int) = xs[i]? := by
 unfold Bd; simp
theorem L8 {n : Int} (h0 : -9223372036854775808 ≤ n) (h1 : n ≤ 9223372036854775807) : IntKind.wrap .i64 n = n := by
 simp [IntKind.wrap, IntKind.signed, IntKind.bits]; omega
theorem Du {i : Nat} (h : i < 1000000) : IntKind.wrap .i64 ((i : Int) + 1) = ((i + 1 : Nat) : Int) := by
 rw [L8 (by omega) (by omega)]; simp
@[simp] theorem CL {α : Type} {a b : Option α} : AP true a b = a := rfl
@[simp] theorem BQ {α : Type} {a b : Option α} : AP false a b = b := rfl
theorem CT {α : Type} {p : Prop} [Decidable p] {a b : Option α} (h : p) : AP (decide p) a b = a := by simp [h]
theorem Cn {α : Type} {p : Prop} [Decidable p] {a b : Option α} (h : ¬ p) : AP (decide p) a b = b := by simp [h]
def I2 : List Int → List Int → Int
 | [], [] => 0
 | [], _ :: _ => -1
 | _ :: _, [] => 1
 | a :: as1, b :: bs => if a < b then -1 else if b < a then 1 else I2 as1 bs
theorem M1 {α : Type} {xs : List α} {i : Nat} {x : α} (h : xs[i]? = some x) : xs.drop i = x :: xs.drop (i + 1) := by
 obtain ⟨hi, rfl⟩ := List.getElem?_eq_some_iff.1 h
 exact List.drop_eq_getElem_cons hi
end Go.Lift

/- MixCompare: the order on mixes. -/
namespace Go.Lift
theorem Ky : ∀ a : List Int, I2 a a = 0
 | [] => rfl
 | a :: as1 => by simp [I2, Ky as1]
theorem JC : ∀ a b : List Int, I2 a b = 0 → a = b
 | [], [], _ => rfl
 | [], _ :: _, h => by simp [I2] at h
 | _ :: _, [], h => by simp [I2] at h
 | a :: as1, b :: bs, h => by
  unfold I2 at h
  split at h
  ·omega
  ·split at h
   ·omega
   ·rw [JC as1 bs h, show a = b from by omega]
def Qa : List Int → Int
 | [] => 0
 | x :: xs => if x = 0 then Qa xs else x
def RZ (a : Af) : Prop := a.fBase.length ≤ 8 ∧ a.fNext.length ≤ 8 ∧ a.fHeld.length ≤ 14
def N6 (a b : Af) : Int := Qa [I2 a.fBase b.fBase, I2 a.fNext b.fNext, I2 a.fHeld b.fHeld]
theorem MP (a : Af) : N6 a a = 0 := by unfold N6; simp [Ky, Qa]
end Go.Lift

/- The law MixCompare in plain words. -/
namespace Go.Lift
end Go.Lift

/- Search loops in plain words; the two tests of a problem give the same answer. -/
namespace Go.Lift
def Fp {α R : Type} (f : Nat → α → Option R) : Nat → List α → Option R
 | _, [] => none
 | i, x :: xs => match f i x with
  | some r => some r
  | none => Fp f (i + 1) xs
theorem HW {α R : Type} (f : Nat → α → Option R) (i : Nat) (x : α) (xs : List α) : Fp f i (x :: xs) = match f i x with
  | some r => some r
  | none => Fp f (i + 1) xs := rfl
def CF {R : Type} (a : Option R) (b : Option R) : Option R := match a with
 | some r => some r
 | none => b
theorem DS {α R : Type} (L : Nat → Int → Option R) (xs : List α) (j : Option R) (f : Nat → α → Option R)
  (hs : ∀ (n i : Nat) (x : α), xs[i]? = some x → L (n + 1) (i : Int) = CF (f i x) (L n ((i + 1 : Nat) : Int))) (he : ∀ n : Nat, L (n + 1) (xs.length : Int) = j) :
  ∀ n i : Nat, i ≤ xs.length → xs.length - i < n → L n (i : Int) = CF (Fp f i (xs.drop i)) j
 | 0, i, _, h => by omega
 | n + 1, i, hi, h => by
  by_cases h1 : i < xs.length
  ·have hx : xs[i]? = some xs[i] := by simp [h1]
   rw [hs n i _ hx, M1 hx, DS L xs j f hs he n (i + 1) (by omega) (by omega)]
   rw [HW]
   cases f i xs[i] <;> rfl
  ·have : i = xs.length := by omega
   subst this
   rw [he n, List.drop_eq_nil_of_le (Nat.le_refl _)]
   rfl
theorem KL (N : Nat) (k n : Int) : CD N k n = some (decide (0 ≤ k) && decide (k < n)) := by
 unfold CD
 simp only [By]
 by_cases h : 0 ≤ k
 ·rw [CT h]; simp [h]
 ·rw [Cn h]; simp [h]
theorem MR (N : Nat) (t : AQ) : CM N t = some (t.fKind == 3 || t.fKind == 4) := by
 unfold CM
 simp only [By]
 cases h : t.fKind == 3 <;> simp
def sq (l : List (List Bool)) (n m : Int) : Bool := decide ((l.length : Int) = n) && l.all fun r => decide ((r.length : Int) = m)
theorem JX {α : Type} (p : α → Bool) {R : Type} (r : Nat → R) : ∀ (i : Nat) (xs : List α), (Fp (fun i x => if p x then none else some (r i)) i xs).isNone = xs.all p
 | i, [] => rfl
 | i, x :: xs => by
  unfold Fp
  cases h : p x <;> simp [h, JX p r (i + 1) xs]
theorem Kw (N : Nat) (l : List (List Bool)) (n m : Int) (h : n < (N : Int)) (hN : N ≤ 1000000) : Cp N l n m = some (sq l n m) := by
 unfold Cp sq
 by_cases h1 : (l.length : Int) = n
 ·subst h1
  simp only [bne_self_eq_false, BQ, decide_true, Bool.true_and]
  have := DS (BG N l (l.length : Int) m (fun _ => some true)) l (some true) (fun _ r => if decide ((r.length : Int) = m) then none else some false)
   (fun n i x hx => by
    have hi := (List.getElem?_eq_some_iff.1 hx).1
    rw [BG, CT (by omega), Da, hx]
    simp only [Option.bind_some]
    rw [Du (by omega)]
    by_cases h2 : (x.length : Int) = m
    ·simp [h2, CF]
    ·have : ((x.length : Int) != m) = true := by simpa using h2
     simp [h2, this, CF])
   (fun n => by rw [BG, Cn (by omega)]) N 0 (by omega) (by omega)
  simp only [Int.ofNat_zero, List.drop_zero] at this
  rw [this]
  have h3 := JX (fun r : List Bool => decide ((r.length : Int) = m)) (fun _ => false) 0 l
  cases hsc : Fp (fun (_ : Nat) (r : List Bool) => if decide ((r.length : Int) = m) = true then none else some false) 0 l with
  | none => rw [hsc] at h3; rw [← h3]; rfl
  | some b =>
   rw [hsc] at h3
   rw [← h3]
   have : ∀ (i : Nat) (xs : List (List Bool)) b, Fp (fun (_ : Nat) (r : List Bool) => if decide ((r.length : Int) = m) = true then none else some false) i xs = some b → b = false := by
    intro i xs
    induction xs generalizing i with
    | nil => intro b hb; cases hb
    | cons x xs ih =>
     intro b hb
     unfold Fp at hb
     split at hb
     ·rename_i r hr; cases hb; split at hr <;> simp at hr; exact hr
     ·exact ih _ b hb
   rw [this 0 l b hsc]; rfl
 ·have : ((l.length : Int) != n) = true := by simpa using h1
  simp [this, h1]
end Go.Lift

/- The tests of a table and of a problem: both implementations give one answer. -/
namespace Go.Lift
theorem KE (N : Nat) (l : List (List Bool)) (n m : Int) (h : n < (N : Int)) (hN : N ≤ 1000000) : Dv N l n m = some (sq l n m) := by
 unfold Dv sq
 simp only [By]
 by_cases h1 : (l.length : Int) = n
 ·subst h1
  simp only [beq_self_eq_true, CL, decide_true, Bool.true_and]
  have := DS (A2 N l (fun x => CA N x m) (fun _ => some (-1))) l (some (-1)) (fun i r => if decide ((r.length : Int) = m) then none else some (i : Int))
   (fun n i x hx => by
    have hi := (List.getElem?_eq_some_iff.1 hx).1
    rw [A2, CT (by omega), Da, hx]
    simp only [Option.bind_some, CA]
    rw [Du (by omega)]
    by_cases h2 : (x.length : Int) = m
    ·simp [h2, CF]
    ·have : ((x.length : Int) != m) = true := by simpa using h2
     simp [h2, this, CF])
   (fun n => by rw [A2, Cn (by omega)]) N 0 (by omega) (by omega)
  simp only [Int.ofNat_zero, List.drop_zero] at this
  unfold B1 Cj
  rw [this]
  have h3 := JX (fun r : List Bool => decide ((r.length : Int) = m)) (fun i : Nat => (i : Int)) 0 l
  cases hsc : Fp (fun (i : Nat) (r : List Bool) => if decide ((r.length : Int) = m) = true then none else some (i : Int)) 0 l with
  | none => rw [hsc] at h3; rw [← h3]; rfl
  | some b =>
   rw [hsc] at h3
   rw [← h3]
   have : ∀ (i : Nat) (xs : List (List Bool)) b, Fp (fun (i : Nat) (r : List Bool) => if decide ((r.length : Int) = m) = true then none else some (i : Int)) i xs = some b → 0 ≤ b := by
    intro i xs
    induction xs generalizing i with
    | nil => intro b hb; cases hb
    | cons x xs ih =>
     intro b hb
     rw [HW] at hb
     split at hb
     ·rename_i r hr
      cases hb
      split at hr
      ·cases hr
      ·cases hr; omega
     ·exact ih _ b hb
   have := this 0 l b hsc
   simp [CF, this]
 ·have : ((l.length : Int) == n) = false := by simpa using h1
  simp [this, h1]
end Go.Lift

/- The test of a table: both implementations give one answer. -/
namespace Go.Lift
def HP (l : List (List Bool)) : Option Int := Fp (fun i row => if row.getD i false then none else some 1) 0 l
theorem Lx {row : List Bool} {i : Nat} (h : i < row.length) : Bd row (i : Int) = some (row.getD i false) := by
 rw [Da, List.getD_eq_getElem?_getD]; simp [h]
theorem OQ (N : Nat) (t : AQ) (h : t.fRewrite.length < N) (hN : N ≤ 1000000) (hsq : ∀ row, row ∈ t.fRewrite → row.length = t.fRewrite.length) (j : Option Int) :
  Bn N t (fun _ => j) N 0 = CF (HP t.fRewrite) j := by
 have := DS (Bn N t (fun _ => j)) t.fRewrite j (fun i row => if row.getD i false then none else some 1)
  (fun n i x hx => by
   have hi := (List.getElem?_eq_some_iff.1 hx).1
   have hl := hsq x (List.mem_of_getElem? hx)
   rw [Bn, CT (by omega), Da, hx]
   simp only [Option.bind_some]
   rw [Lx (by omega), Du (by omega)]
   simp only [Option.bind_some]
   cases x.getD i false <;> rfl)
  (fun n => by rw [Bn, Cn (by omega)]) N 0 (by omega) (by omega)
 simpa [HP] using this
theorem KF (N : Nat) (t : AQ) (h : t.fRewrite.length < N) (hN : N ≤ 1000000) (hsq : ∀ row, row ∈ t.fRewrite → row.length = t.fRewrite.length) (j : Option Int) :
  B7 N t (fun _ => j) N 0 = CF (HP t.fRewrite) j := by
 have := DS (B7 N t (fun _ => j)) t.fRewrite j (fun i row => if row.getD i false then none else some 1)
  (fun n i x hx => by
   have hi := (List.getElem?_eq_some_iff.1 hx).1
   have hl := hsq x (List.mem_of_getElem? hx)
   rw [B7, CT (by omega), Da, hx]
   simp only [Option.bind_some]
   rw [Lx (by omega), Du (by omega)]
   simp only [Option.bind_some]
   cases x.getD i false <;> rfl)
  (fun n => by rw [B7, Cn (by omega)]) N 0 (by omega) (by omega)
 simpa [HP] using this
theorem MH {l : List (List Bool)} {n m : Int} (h : sq l n m = true) : (l.length : Int) = n ∧ ∀ row, row ∈ l → (row.length : Int) = m := by
 unfold sq at h
 simp only [Bool.and_eq_true, decide_eq_true_eq, List.all_eq_true] at h
 exact h
def EI (p : Ak) (t : AQ) : Int :=
 if t.fKind < 1 ∨ 4 < t.fKind ∨ (t.fAware = true ∧ (t.fKind = 3 ∨ t.fKind = 4)) then 1
 else if t.fFrom < 0 ∨ (p.fVersions.length : Int) ≤ t.fFrom ∨ t.fTo < 0 ∨ (p.fVersions.length : Int) ≤ t.fTo then 4
 else
  let f := p.fVersions.getD t.fFrom.toNat 0
  let g := p.fVersions.getD t.fTo.toNat 0
  if sq t.fOK f g = false then 6
  else if t.fKind = 4 then (if sq t.fRewrite f f = false then 6 else (HP t.fRewrite).getD 0)
  else if t.fRewrite.length = 0 then 0 else 6
theorem Lk {α : Type} {xs : List α} {i : Int} {d : α} (h0 : 0 ≤ i) (h1 : i < (xs.length : Int)) : Bd xs i = some (xs.getD i.toNat d) := by
 obtain ⟨k, rfl⟩ := Int.eq_ofNat_of_zero_le h0
 rw [Da, List.getD_eq_getElem?_getD, Int.toNat_natCast]
 simp [show k < xs.length from by omega]
theorem NX {t : AQ} (A B : Option Int) (hk : ¬ (t.fAware = true ∧ (t.fKind = 3 ∨ t.fKind = 4))) : AP t.fAware (AP (t.fKind == 3 || t.fKind == 4) A B) B = B := by
 cases ha : t.fAware
 ·rfl
 ·have : (t.fKind == 3 || t.fKind == 4) = false := by
   rw [Bool.or_eq_false_iff]
   constructor
   ·simp only [beq_eq_false_iff_ne]; intro h; exact hk ⟨ha, .inl h⟩
   ·simp only [beq_eq_false_iff_ne]; intro h; exact hk ⟨ha, .inr h⟩
  rw [this]; rfl
theorem K8 {p : Ak} {i : Int} (hv : ∀ v, v ∈ p.fVersions → 1 ≤ v ∧ v ≤ 6) (h0 : 0 ≤ i) (h1 : i < (p.fVersions.length : Int)) : 1 ≤ p.fVersions.getD i.toNat 0 ∧ p.fVersions.getD i.toNat 0 ≤ 6 := by
 refine hv _ ?_
 rw [List.getD_eq_getElem?_getD, List.getElem?_eq_getElem (by omega)]
 exact List.getElem_mem _
theorem M2 (N : Nat) (p : Ak) (t : AQ) (hN : N ≤ 1000000) (h6 : 7 ≤ N) (hv : ∀ v, v ∈ p.fVersions → 1 ≤ v ∧ v ≤ 6) : CW N p t = some (EI p t) := by
 unfold CW EI
 simp only [By, MR, Option.bind_some]
 by_cases k1 : t.fKind < 1
 ·simp [k1]
 by_cases k2 : 4 < t.fKind
 ·simp [k1, k2]
 rw [Cn k1, Cn k2]
 by_cases hk : t.fAware = true ∧ (t.fKind = 3 ∨ t.fKind = 4)
 ·obtain ⟨ha, k | k⟩ := hk <;> simp [ha, k]
 rw [BQ, NX _ _ hk, if_neg (fun h => h.elim k1 fun h => h.elim k2 hk)]
 by_cases f1 : t.fFrom < 0
 ·simp [f1]
 by_cases f2 : (p.fVersions.length : Int) ≤ t.fFrom
 ·simp [f1, f2]
 by_cases f3 : t.fTo < 0
 ·simp [f1, f2, f3]
 by_cases f4 : (p.fVersions.length : Int) ≤ t.fTo
 ·simp [f1, f2, f3, f4]
 rw [Cn f1, Cn f2, Cn f3, if_neg (fun h => h.elim f1 fun h => h.elim f2 fun h => h.elim f3 f4)]
 have hf := K8 hv (i := t.fFrom) (by omega) (by omega)
 rw [decide_eq_false f4, BQ, Lk (d := 0) (by omega : 0 ≤ t.fFrom) (by omega), Lk (d := 0) (by omega : 0 ≤ t.fTo) (by omega)]
 simp only [Option.bind_some]
 generalize p.fVersions.getD t.fFrom.toNat 0 = f at *
 generalize p.fVersions.getD t.fTo.toNat 0 = g at *
 rw [Kw N t.fOK f g (by omega) hN, Kw N t.fRewrite f f (by omega) hN]
 simp only [Option.bind_some]
 cases hq : sq t.fOK f g
 ·rfl
 simp only [Bool.not_true, BQ]
 by_cases k4 : t.fKind = 4
 ·have : (t.fKind != 4) = false := by simp [k4]
  rw [this, BQ]
  simp only [k4, if_true]
  cases hr : sq t.fRewrite f f
  ·rfl
  ·have h7 := MH hr
   simp only [Bool.not_true, BQ]
   rw [OQ N t (by omega) hN (fun row hm => by have := h7.2 row hm; omega)]
   cases HP t.fRewrite <;> simp [CF]
 ·have : (t.fKind != 4) = true := by simpa using k4
  rw [this, CL]
  simp only [k4, if_false]
  by_cases hr : t.fRewrite.length = 0
  ·simp [hr]
  ·have : ((t.fRewrite.length : Int) != 0) = true := bne_iff_ne.2 (by omega)
   rw [this]; simp [hr]
theorem OI (N : Nat) (k : Int) (a : Bool) : EN N k a = some (k == 1 || (k == 2 || ((k == 3 || k == 4) && !a))) := by
 unfold EN
 simp only [By]
 cases h1 : k == 1 <;> cases h2 : k == 2 <;> cases h3 : k == 3 <;> cases h4 : k == 4 <;> cases a <;> rfl
theorem JU (N : Nat) (p : Ak) (t : AQ) (hN : N ≤ 1000000) (h6 : 7 ≤ N) (hv : ∀ v, v ∈ p.fVersions → 1 ≤ v ∧ v ≤ 6) : Ek N p t = some (EI p t) := by
 unfold Ek EI
 simp only [By, OI, KL, Option.bind_some]
 by_cases hb : t.fKind < 1 ∨ 4 < t.fKind ∨ (t.fAware = true ∧ (t.fKind = 3 ∨ t.fKind = 4))
 ·have : (t.fKind == 1 || (t.fKind == 2 || ((t.fKind == 3 || t.fKind == 4) && !t.fAware))) = false := by
   rcases hb with h | h | ⟨ha, h | h⟩
   ·rw [beq_eq_false_iff_ne.2 (by omega : t.fKind ≠ 1), beq_eq_false_iff_ne.2 (by omega : t.fKind ≠ 2), beq_eq_false_iff_ne.2 (by omega : t.fKind ≠ 3), beq_eq_false_iff_ne.2 (by omega : t.fKind ≠ 4)]; rfl
   ·rw [beq_eq_false_iff_ne.2 (by omega : t.fKind ≠ 1), beq_eq_false_iff_ne.2 (by omega : t.fKind ≠ 2), beq_eq_false_iff_ne.2 (by omega : t.fKind ≠ 3), beq_eq_false_iff_ne.2 (by omega : t.fKind ≠ 4)]; rfl
   ·simp [ha, h]
   ·simp [ha, h]
  rw [this, if_pos hb]; rfl
 ·have : (t.fKind == 1 || (t.fKind == 2 || ((t.fKind == 3 || t.fKind == 4) && !t.fAware))) = true := by
   have hk : t.fKind = 1 ∨ t.fKind = 2 ∨ t.fKind = 3 ∨ t.fKind = 4 := by
    have h1 : ¬ t.fKind < 1 := fun h => hb (.inl h)
    have h2 : ¬ 4 < t.fKind := fun h => hb (.inr (.inl h))
    omega
   rcases hk with h | h | h | h
   ·simp [h]
   ·simp [h]
   ·cases ha : t.fAware
    ·simp [h]
    ·exact (hb (.inr (.inr ⟨ha, .inl h⟩))).elim
   ·cases ha : t.fAware
    ·simp [h]
    ·exact (hb (.inr (.inr ⟨ha, .inr h⟩))).elim
  rw [this, if_neg hb]
  simp only [Bool.not_true, BQ]
  by_cases f1 : t.fFrom < 0
  ·simp [f1, show ¬ (0 ≤ t.fFrom) from by omega]
  by_cases f2 : (p.fVersions.length : Int) ≤ t.fFrom
  ·simp [f2, show ¬ (t.fFrom < (p.fVersions.length : Int)) from by omega]
  by_cases f3 : t.fTo < 0
  ·simp [f3, show 0 ≤ t.fFrom from by omega, show t.fFrom < (p.fVersions.length : Int) from by omega, show ¬ (0 ≤ t.fTo) from by omega]
  by_cases f4 : (p.fVersions.length : Int) ≤ t.fTo
  ·simp [f4, show 0 ≤ t.fFrom from by omega, show t.fFrom < (p.fVersions.length : Int) from by omega, show ¬ (t.fTo < (p.fVersions.length : Int)) from by omega]
  rw [if_neg (fun h => h.elim f1 fun h => h.elim f2 fun h => h.elim f3 f4)]
  have hf := K8 hv (i := t.fFrom) (by omega) (by omega)
  have hg := K8 hv (i := t.fTo) (by omega) (by omega)
  rw [decide_eq_true (by omega : 0 ≤ t.fFrom), decide_eq_true (by omega : t.fFrom < (p.fVersions.length : Int)), decide_eq_true (by omega : 0 ≤ t.fTo), decide_eq_true (by omega : t.fTo < (p.fVersions.length : Int)), Lk (d := 0) (by omega : 0 ≤ t.fFrom) (by omega), Lk (d := 0) (by omega : 0 ≤ t.fTo) (by omega)]
  simp only [Bool.and_self, Bool.not_true, BQ, Option.bind_some]
  generalize p.fVersions.getD t.fFrom.toNat 0 = f at *
  generalize p.fVersions.getD t.fTo.toNat 0 = g at *
  rw [KE N t.fOK f g (by omega) hN, KE N t.fRewrite f f (by omega) hN]
  simp only [Option.bind_some]
  cases hq : sq t.fOK f g
  ·rfl
  simp only [Bool.not_true, BQ]
  by_cases k4 : t.fKind = 4
  ·simp only [k4, beq_self_eq_true, CL, if_true]
   cases hr : sq t.fRewrite f f
   ·rfl
   ·have h7 := MH hr
    simp only [Bool.not_true, BQ]
    rw [KF N t (by omega) hN (fun row hm => by have := h7.2 row hm; omega)]
    cases HP t.fRewrite <;> simp [CF]
  ·have : (t.fKind == 4) = false := beq_eq_false_iff_ne.2 k4
   rw [this, BQ]
   simp only [k4, if_false, Bool.not_false, CL]
   by_cases hr : t.fRewrite.length = 0
   ·rw [KF N t (by omega) hN (fun row hm => by rw [List.eq_nil_of_length_eq_zero hr] at hm; cases hm), List.eq_nil_of_length_eq_zero hr]
    simp [HP, Fp, CF]
   ·rw [decide_eq_true (by omega : 0 < (t.fRewrite.length : Int))]
    simp [hr]
end Go.Lift

/- The test of a problem: both implementations give one answer. -/
namespace Go.Lift
def EH (p : Ak) (i : Nat) (v : Int) : Option Int :=
 if v < 1 ∨ 6 < v ∨ p.fNow.getD i 0 < 0 ∨ v ≤ p.fNow.getD i 0 ∨ p.fTarget.getD i 0 < 0 ∨ v ≤ p.fTarget.getD i 0 then some 7 else none
def Jt (p : Ak) (_ : Nat) (t : AQ) : Option Int := if EI p t = 0 then none else some (EI p t)
def CG (p : Ak) : Int :=
 if 6 < p.fVersions.length ∨ 12 < p.fTables.length then 3
 else if p.fNow.length ≠ p.fVersions.length ∨ p.fTarget.length ≠ p.fVersions.length then 6
 else ((CF (Fp (EH p) 0 p.fVersions) (Fp (Jt p) 0 p.fTables)).getD 0)
theorem HY {α R : Type} {f : Nat → α → Option R} : ∀ {i : Nat} {xs : List α}, Fp f i xs = none → ∀ j x, xs[j]? = some x → f (i + j) x = none
 | _, [], _, j, x, hx => by simp at hx
 | i, y :: ys, h, j, x, hx => by
  rw [HW] at h
  split at h
  ·cases h
  ·rename_i h0
   cases j with
   | zero => simp at hx; subst hx; exact h0
   | succ j =>
    have := HY h j x (by simpa using hx)
    rwa [show i + 1 + j = i + (j + 1) from by omega] at this
theorem J8 {p : Ak} (h : Fp (EH p) 0 p.fVersions = none) : ∀ v, v ∈ p.fVersions → 1 ≤ v ∧ v ≤ 6 := by
 intro v hv
 obtain ⟨i, hi⟩ := List.mem_iff_getElem?.1 hv
 have := HY h i v hi
 unfold EH at this
 split at this
 ·cases this
 ·rename_i hn
  constructor
  ·exact Int.not_lt.1 fun h => hn (.inl h)
  ·exact Int.not_lt.1 fun h => hn (.inr (.inl h))
theorem JV {α : Type} {xs : List α} {i : Nat} {d : α} (h : i < xs.length) : Bd xs (i : Int) = some (xs.getD i d) := by
 rw [Da, List.getD_eq_getElem?_getD]; simp [h]
theorem Mh (N : Nat) (p : Ak) (hN : N ≤ 1000000) (h1 : p.fVersions.length < N) (h2 : p.fNow.length = p.fVersions.length) (h3 : p.fTarget.length = p.fVersions.length) (j : Option Int) :
  AY N p (fun _ => j) N 0 = CF (Fp (EH p) 0 p.fVersions) j := by
 have := DS (AY N p (fun _ => j)) p.fVersions j (EH p)
  (fun n i x hx => by
   have hi := (List.getElem?_eq_some_iff.1 hx).1
   rw [AY, CT (by omega), Da, hx]
   simp only [Option.bind_some, By]
   rw [JV (d := 0) (by omega), JV (d := 0) (by omega), Du (by omega)]
   simp only [Option.bind_some]
   unfold EH
   generalize p.fNow.getD i 0 = a
   generalize p.fTarget.getD i 0 = b
   by_cases k1 : x < 1 <;> by_cases k2 : 6 < x <;> by_cases k3 : a < 0 <;> by_cases k4 : x ≤ a <;> by_cases k5 : b < 0 <;> by_cases k6 : x ≤ b <;> simp [k1, k2, k3, k4, k5, k6, CF])
  (fun n => by rw [AY, Cn (by omega)]) N 0 (by omega) (by omega)
 simpa using this
theorem K5 (N : Nat) (p : Ak) (hN : N ≤ 1000000) (h1 : p.fVersions.length < N) (h2 : p.fNow.length = p.fVersions.length) (h3 : p.fTarget.length = p.fVersions.length) (j : Option Int) :
  Bo N p (fun _ => j) N 0 = CF (Fp (EH p) 0 p.fVersions) j := by
 have := DS (Bo N p (fun _ => j)) p.fVersions j (EH p)
  (fun n i x hx => by
   have hi := (List.getElem?_eq_some_iff.1 hx).1
   rw [Bo, CT (by omega), Da, hx]
   simp only [Option.bind_some, By, KL]
   rw [JV (d := 0) (by omega), JV (d := 0) (by omega), Du (by omega)]
   simp only [Option.bind_some]
   unfold EH
   generalize p.fNow.getD i 0 = a
   generalize p.fTarget.getD i 0 = b
   have e1 : decide (0 ≤ a) = !decide (a < 0) := by rw [← decide_not]; congr 1; simp
   have e2 : decide (a < x) = !decide (x ≤ a) := by rw [← decide_not]; congr 1; simp
   have e3 : decide (0 ≤ b) = !decide (b < 0) := by rw [← decide_not]; congr 1; simp
   have e4 : decide (b < x) = !decide (x ≤ b) := by rw [← decide_not]; congr 1; simp
   rw [e1, e2, e3, e4]
   by_cases k1 : x < 1 <;> by_cases k2 : 6 < x <;> by_cases k3 : a < 0 <;> by_cases k4 : x ≤ a <;> by_cases k5 : b < 0 <;> by_cases k6 : x ≤ b <;> simp [k1, k2, k3, k4, k5, k6, CF])
  (fun n => by rw [Bo, Cn (by omega)]) N 0 (by omega) (by omega)
 simpa using this
theorem Nv (N : Nat) (p : Ak) (hN : N ≤ 1000000) (h6 : 7 ≤ N) (h1 : p.fTables.length < N) (hv : ∀ v, v ∈ p.fVersions → 1 ≤ v ∧ v ≤ 6) (j : Option Int) :
  AW N p (fun _ => j) N 0 = CF (Fp (Jt p) 0 p.fTables) j := by
 have := DS (AW N p (fun _ => j)) p.fTables j (Jt p)
  (fun n i x hx => by
   have hi := (List.getElem?_eq_some_iff.1 hx).1
   rw [AW, CT (by omega), Da, hx]
   simp only [Option.bind_some]
   rw [M2 N p x hN h6 hv, Du (by omega)]
   simp only [Option.bind_some]
   unfold Jt
   by_cases k : EI p x = 0
   ·simp [k, CF]
   ·rw [bne_iff_ne.2 k, if_neg k]; rfl)
  (fun n => by rw [AW, Cn (by omega)]) N 0 (by omega) (by omega)
 simpa using this
theorem Me (N : Nat) (p : Ak) (hN : N ≤ 1000000) (h6 : 7 ≤ N) (h1 : p.fTables.length < N) (hv : ∀ v, v ∈ p.fVersions → 1 ≤ v ∧ v ≤ 6) (j : Option Int) :
  Bh N p (fun _ => j) N 0 = CF (Fp (Jt p) 0 p.fTables) j := by
 have := DS (Bh N p (fun _ => j)) p.fTables j (Jt p)
  (fun n i x hx => by
   have hi := (List.getElem?_eq_some_iff.1 hx).1
   rw [Bh, CT (by omega), Da, hx]
   simp only [Option.bind_some]
   rw [JU N p x hN h6 hv, Du (by omega)]
   simp only [Option.bind_some]
   unfold Jt
   by_cases k : EI p x = 0
   ·simp [k, CF]
   ·rw [bne_iff_ne.2 k, if_neg k]; rfl)
  (fun n => by rw [Bh, Cn (by omega)]) N 0 (by omega) (by omega)
 simpa using this
theorem Mb (N : Nat) (p : Ak) (hN : N ≤ 1000000) (h : 20 ≤ N) : B2 N p = some (CG p) := by
 unfold B2 CG
 simp only [By]
 by_cases k1 : 6 < p.fVersions.length
 ·rw [CT (by omega)]; simp [k1]
 rw [Cn (by omega)]
 by_cases k2 : 12 < p.fTables.length
 ·rw [decide_eq_true (by omega : (12 : Int) < (p.fTables.length : Int))]; simp [k2]
 rw [decide_eq_false (by omega : ¬ (12 : Int) < (p.fTables.length : Int)), BQ, if_neg (by omega)]
 by_cases k3 : p.fNow.length = p.fVersions.length
 ·by_cases k4 : p.fTarget.length = p.fVersions.length
  ·rw [k3, k4]
   simp only [bne_self_eq_false, BQ, ne_eq, not_true_eq_false, or_self, if_false]
   rw [Mh N p hN (by omega) k3 k4]
   cases hs : Fp (EH p) 0 p.fVersions with
   | some r => rfl
   | none =>
    simp only [CF]
    rw [Nv N p hN (by omega) (by omega) (J8 hs)]
    cases Fp (Jt p) 0 p.fTables <;> rfl
  ·have : ((p.fTarget.length : Int) != (p.fVersions.length : Int)) = true := bne_iff_ne.2 (by omega)
   rw [this, k3]; simp [k4]
 ·have : ((p.fNow.length : Int) != (p.fVersions.length : Int)) = true := bne_iff_ne.2 (by omega)
  rw [this]; simp [k3]
theorem IE (N : Nat) (p : Ak) (hN : N ≤ 1000000) (h : 20 ≤ N) : B0 N p = some (CG p) := by
 unfold B0 CG
 simp only [By]
 by_cases k1 : 6 < p.fVersions.length
 ·rw [CT (by omega)]; simp [k1]
 rw [Cn (by omega)]
 by_cases k2 : 12 < p.fTables.length
 ·rw [decide_eq_true (by omega : (12 : Int) < (p.fTables.length : Int))]; simp [k2]
 rw [decide_eq_false (by omega : ¬ (12 : Int) < (p.fTables.length : Int)), BQ, if_neg (by omega)]
 by_cases k3 : p.fNow.length = p.fVersions.length
 ·by_cases k4 : p.fTarget.length = p.fVersions.length
  ·rw [k3, k4]
   simp only [bne_self_eq_false, BQ, ne_eq, not_true_eq_false, or_self, if_false]
   rw [K5 N p hN (by omega) k3 k4]
   cases hs : Fp (EH p) 0 p.fVersions with
   | some r => rfl
   | none =>
    simp only [CF]
    rw [Me N p hN (by omega) (by omega) (J8 hs)]
    cases Fp (Jt p) 0 p.fTables <;> rfl
  ·have : ((p.fTarget.length : Int) != (p.fVersions.length : Int)) = true := bne_iff_ne.2 (by omega)
   rw [this, k3]; simp [k4]
 ·have : ((p.fNow.length : Int) != (p.fVersions.length : Int)) = true := bne_iff_ne.2 (by omega)
  rw [this]; simp [k3]
end Go.Lift

/- The test of a mix: both implementations give one answer. -/
namespace Go.Lift
theorem GJ {α R : Type} {f : Nat → α → Option R} : ∀ {i : Nat} {xs : List α} {r : R}, Fp f i xs = some r → ∃ j x, xs[j]? = some x ∧ f (i + j) x = some r
 | _, [], _, h => by cases h
 | i, y :: ys, r, h => by
  rw [HW] at h
  split at h
  ·rename_i r' h0
   cases h
   exact ⟨0, y, rfl, h0⟩
  ·obtain ⟨j, x, h1, h2⟩ := GJ h
   exact ⟨j + 1, x, by simpa using h1, by rwa [show i + (j + 1) = i + 1 + j from by omega]⟩
structure Le (p : Ak) : Prop where
 nv : p.fVersions.length ≤ 6
 nt : p.fTables.length ≤ 12
 now : p.fNow.length = p.fVersions.length
 tgt : p.fTarget.length = p.fVersions.length
 ver : ∀ v, v ∈ p.fVersions → 1 ≤ v ∧ v ≤ 6
 tab : ∀ t, t ∈ p.fTables → EI p t = 0
theorem Mf (l : List (List Bool)) : (HP l).getD 0 = 0 ∨ (HP l).getD 0 = 1 := by
 cases h : HP l with
 | none => exact .inl rfl
 | some r =>
  obtain ⟨j, x, _, h⟩ := GJ h
  split at h
  ·cases h
  ·cases h; exact .inr rfl
theorem Lb (p : Ak) (t : AQ) : EI p t = 0 ∨ EI p t = 1 ∨ EI p t = 4 ∨ EI p t = 6 := by
 unfold EI
 split
 ·exact .inr (.inl rfl)
 split
 ·exact .inr (.inr (.inl rfl))
 simp only
 split
 ·exact .inr (.inr (.inr rfl))
 split
 ·split
  ·exact .inr (.inr (.inr rfl))
  ·rcases Mf t.fRewrite with h | h
   ·exact .inl h
   ·exact .inr (.inl h)
 ·split
  ·exact .inl rfl
  ·exact .inr (.inr (.inr rfl))
theorem KW (p : Ak) : (CG p = 0 ∧ Le p) ∨ (CG p = 1 ∨ CG p = 3 ∨ CG p = 4 ∨ CG p = 6 ∨ CG p = 7) := by
 unfold CG
 split
 ·simp
 rename_i k1
 split
 ·simp
 rename_i k2
 cases hs : Fp (EH p) 0 p.fVersions with
 | some r =>
  obtain ⟨j, x, _, h⟩ := GJ hs
  unfold EH at h
  split at h
  ·cases h; simp [CF]
  ·cases h
 | none =>
  cases ht : Fp (Jt p) 0 p.fTables with
  | some r =>
   obtain ⟨j, t, _, h⟩ := GJ ht
   unfold Jt at h
   split at h
   ·cases h
   ·rename_i hne
    cases h
    simp only [CF, Option.getD_some]
    right
    rcases Lb p t with h | h | h | h
    ·exact (hne h).elim
    ·exact .inl h
    ·exact .inr (.inr (.inl h))
    ·exact .inr (.inr (.inr (.inl h)))
  | none =>
   left
   refine ⟨rfl, by omega, by omega, by omega, by omega, J8 hs, fun t hm => ?_⟩
   obtain ⟨j, hj⟩ := List.mem_iff_getElem?.1 hm
   have := HY ht j t hj
   unfold Jt at this
   split at this
   ·assumption
   ·cases this
end Go.Lift

/- The test of a mix: both implementations give one answer. -/
namespace Go.Lift
def QN (m : Af) (s : Nat) : Int :=
 if 0 ≤ m.fNext.getD s 0 then LL .u8 (CS .u8 1 (m.fBase.getD s 0)) (CS .u8 1 (m.fNext.getD s 0)) else CS .u8 1 (m.fBase.getD s 0)
def HT (t : AQ) : Bool := t.fKind == 3 || t.fKind == 4
theorem Pt {p : Ak} {t : AQ} (h : EI p t = 0) : 0 ≤ t.fFrom ∧ t.fFrom < (p.fVersions.length : Int) ∧ 0 ≤ t.fTo ∧ t.fTo < (p.fVersions.length : Int) := by
 unfold EI at h
 split at h
 ·cases h
 ·split at h
  ·cases h
  ·omega
end Go.Lift

/- The test of a mix, the whole: both implementations give one answer. -/
namespace Go.Lift
theorem Kr (N : Nat) (t : AQ) : DF N t = some (HT t) := by
 unfold DF HT
 simp only [By]
 cases h : t.fKind == 3 <;> simp
end Go.Lift

/- Loops of the shallow programs as folds along lists. -/
namespace Go.Lift
@[simp] theorem Hi {α β : Type} (k : α) (f : α → β) : By k f = f k := rfl
@[simp] theorem N1 {p : Prop} [Decidable p] (h : p) : FX p = some () := by unfold FX; rw [if_pos h]
theorem Gy {β : Type} {p : Prop} [Decidable p] (h : p) (f : Unit → Option β) : (FX p).bind f = f () := by rw [N1 h]; rfl
def O6 {α A : Type} (f : Nat → α → A → A) : Nat → List α → A → A
 | _, [], a => a
 | i, x :: xs, a => O6 f (i + 1) xs (f i x a)
end Go.Lift

/- Sets as bits, the mixes that are valid, and the conflicts of a mix: both implementations give one answer. -/
namespace Go.Lift
def O8 (s : Int) (v : Nat) : Bool := s.toNat.testBit v
def Qe (m : Af) (s v : Nat) : Bool := decide (m.fBase.getD s 0 = (v : Int)) || decide (m.fNext.getD s 0 = (v : Int))
theorem Pg {p : Ak} (hp : Le p) {i : Nat} (hi : i < p.fVersions.length) : 1 ≤ p.fVersions.getD i 0 ∧ p.fVersions.getD i 0 ≤ 6 := by
 have := K8 (i := (i : Int)) hp.ver (by omega) (by omega)
 simpa using this
theorem JH {p : Ak} (h : CG p = 0) : Le p ∧ ∀ i, i < p.fVersions.length → 0 ≤ p.fNow.getD i 0 ∧ p.fNow.getD i 0 < p.fVersions.getD i 0 ∧ 0 ≤ p.fTarget.getD i 0 ∧ p.fTarget.getD i 0 < p.fVersions.getD i 0 := by
 have hp : Le p := by
  rcases KW p with h | h
  ·exact h.2
  ·omega
 refine ⟨hp, fun i hi => ?_⟩
 have h1 := hp.nv
 have h2 := hp.nt
 have h3 := hp.now
 have h4 := hp.tgt
 unfold CG at h
 rw [if_neg (by omega), if_neg (by omega)] at h
 cases hs : Fp (EH p) 0 p.fVersions with
 | some r =>
  obtain ⟨j, x, _, he⟩ := GJ hs
  rw [hs] at h
  unfold EH at he
  split at he
  ·cases he; cases h
  ·cases he
 | none =>
  have hx : p.fVersions[i]? = some (p.fVersions.getD i 0) := by rw [List.getD_eq_getElem?_getD]; simp [hi]
  have := HY hs i _ hx
  rw [Nat.zero_add] at this
  unfold EH at this
  split at this
  ·cases this
  ·rename_i hn; omega
end Go.Lift

/- The conflicts of a mix: both implementations give one answer. -/
namespace Go.Lift
def hC (m : Af) (t : AQ) (v : Nat) (ok : Bool) : Bool := Qe m t.fTo.toNat v && ok
end Go.Lift

/- The conflicts of a mix: both implementations give one answer. -/
namespace Go.Lift
end Go.Lift

/- The drafts: what the recipes give is a valid problem and a valid mix. -/
namespace Go.Lift
theorem Mp {A S R : Type} (L : Nat → S → Option R) (mk : A → Int → S) (len : Nat) (j : A → Option R) (I : Nat → A → Prop)
  (hs : ∀ (n i : Nat) (a : A), i < len → I i a → ∃ a', L (n + 1) (mk a (i : Int)) = L n (mk a' ((i + 1 : Nat) : Int)) ∧ I (i + 1) a')
  (he : ∀ (n : Nat) (a : A), I len a → L (n + 1) (mk a (len : Int)) = j a) :
  ∀ (n i : Nat) (a : A), i ≤ len → len - i < n → I i a → ∃ a', L n (mk a (i : Int)) = j a' ∧ I len a'
 | 0, i, _, _, h, _ => by omega
 | n + 1, i, a, hi, h, ha => by
  by_cases h1 : i < len
  ·obtain ⟨a', e1, e2⟩ := hs n i a h1 ha
   rw [e1]
   exact Mp L mk len j I hs he n (i + 1) _ (by omega) (by omega) e2
  ·have : i = len := by omega
   subst this
   exact ⟨a, he n a ha, ha⟩
end Go.Lift

/- The drafts of problems: what the recipe gives is a valid problem. -/
namespace Go.Lift
end Go.Lift

/- The mixes that result from aborts: both implementations give one list. -/
namespace Go.Lift
structure M3 (m x : Af) : Prop where
 base : x.fBase = m.fBase
 held : x.fHeld = m.fHeld
 len : x.fNext.length = m.fNext.length
 next : ∀ q, q < m.fNext.length → x.fNext.getD q 0 = m.fNext.getD q 0 ∨ (0 ≤ m.fNext.getD q 0 ∧ x.fNext.getD q 0 = -1)
theorem M3.refl (m : Af) : M3 m m := ⟨rfl, rfl, rfl, fun _ _ => .inl rfl⟩
theorem M3.trans {a b c : Af} (h1 : M3 a b) (h2 : M3 b c) : M3 a c :=
 ⟨h2.base.trans h1.base, h2.held.trans h1.held, h2.len.trans h1.len, fun q hq => by
  have e1 := h1.next q hq
  have e2 := h2.next q (by rw [h1.len]; exact hq)
  omega⟩
theorem MX (N : Nat) (l : List Int) (h : l.length ≤ Hf) : Bf N l = some l := by
 unfold Bf
 rw [Gy (by simpa using h)]; rfl
end Go.Lift

/- Aborts, the first mix that is to blame, and robustness: both implementations give one answer. -/
namespace Go.Lift
def NV : Af := ⟨[], [], []⟩
end Go.Lift

/- The laws of the mixes in plain words: MixConflicts, MixAborts, MixAborted, MixGoal, MixValid. -/
namespace Go.Lift
end Go.Lift

/- The laws of the mixes in plain words: MixGoal, MixValid. -/
namespace Go.Lift
theorem MO (N : Nat) (hN : N ≤ 1000000) (h20 : 100 ≤ N) (p : Ak) : ∃ b, Dj N p = some b := by
 unfold Dj
 simp only [Hi]
 by_cases h1 : 8 < (p.fVersions.length : Int)
 ·rw [CT h1]; exact ⟨_, rfl⟩
 rw [Cn h1]
 by_cases h2 : 8 < (p.fNow.length : Int)
 ·rw [CT h2]; exact ⟨_, rfl⟩
 rw [Cn h2]
 by_cases h3 : 8 < (p.fTarget.length : Int)
 ·rw [CT h3]; exact ⟨_, rfl⟩
 rw [Cn h3]
 by_cases h4 : 14 < (p.fTables.length : Int)
 ·rw [decide_eq_true h4]; exact ⟨_, rfl⟩
 rw [decide_eq_false h4, BQ]
 have inner1 : ∀ (i : Nat) (t : AQ), p.fTables[i]? = some t → t.fOK.length ≤ 8 → ∀ j : Option Bool, ∃ r, BA N p (i : Int) (fun _ => j) N 0 = CF r j := by
  intro i t ht hl j
  refine ⟨_, DS (BA N p (i : Int) fun _ => j) t.fOK j (fun _ row => if 8 < (row.length : Int) then some false else none) (fun n k x hx => ?_) (fun n => ?_) N 0 (Nat.zero_le _) (by omega)⟩
  ·have hk := (List.getElem?_eq_some_iff.1 hx).1
   rw [BA, Da, ht]
   simp only [Option.bind_some]
   rw [CT (by omega), Da, hx, Du (by omega)]
   simp only [Option.bind_some]
   by_cases h : 8 < (x.length : Int)
   ·rw [CT h, if_pos h]; rfl
   ·rw [Cn h, if_neg h]; rfl
  ·rw [BA, Da, ht]
   simp only [Option.bind_some]
   rw [Cn (by simp)]
 have inner2 : ∀ (i : Nat) (t : AQ), p.fTables[i]? = some t → t.fRewrite.length ≤ 8 → ∀ j : Option Bool, ∃ r, BF N p (i : Int) (fun _ => j) N 0 = CF r j := by
  intro i t ht hl j
  refine ⟨_, DS (BF N p (i : Int) fun _ => j) t.fRewrite j (fun _ row => if 8 < (row.length : Int) then some false else none) (fun n k x hx => ?_) (fun n => ?_) N 0 (Nat.zero_le _) (by omega)⟩
  ·have hk := (List.getElem?_eq_some_iff.1 hx).1
   rw [BF, Da, ht]
   simp only [Option.bind_some]
   rw [CT (by omega), Da, hx, Du (by omega)]
   simp only [Option.bind_some]
   by_cases h : 8 < (x.length : Int)
   ·rw [CT h, if_pos h]; rfl
   ·rw [Cn h, if_neg h]; rfl
  ·rw [BF, Da, ht]
   simp only [Option.bind_some]
   rw [Cn (by simp)]
 have outer : ∀ n i : Nat, i ≤ p.fTables.length → p.fTables.length - i < n → ∃ b, Co N p (fun _ => some true) n (i : Int) = some b := by
  intro n
  induction n with
  | zero => intro i _ h; omega
  | succ n ih =>
   intro i hi hn
   rw [Co]
   simp only [Hi]
   by_cases h : i < p.fTables.length
   ·have hx : p.fTables[i]? = some p.fTables[i] := by simp [h]
    generalize p.fTables[i] = t at hx
    rw [CT (by omega), Da, hx]
    simp only [Option.bind_some]
    by_cases k1 : 8 < (t.fOK.length : Int)
    ·rw [CT k1]; exact ⟨_, rfl⟩
    rw [Cn k1]
    by_cases k2 : 8 < (t.fRewrite.length : Int)
    ·rw [decide_eq_true k2]; exact ⟨_, rfl⟩
    rw [decide_eq_false k2, BQ, Du (by omega)]
    obtain ⟨b, hb⟩ := ih (i + 1) (by omega) (by omega)
    rw [hb]
    obtain ⟨r2, e2⟩ := inner2 i t hx (by omega) (some b)
    obtain ⟨r1, e1⟩ := inner1 i t hx (by omega) (CF r2 (some b))
    rw [e2, e1]
    cases r1 with
    | some r => exact ⟨_, rfl⟩
    | none => cases r2 <;> exact ⟨_, rfl⟩
   ·rw [Cn (by omega)]; exact ⟨_, rfl⟩
 exact outer N 0 (Nat.zero_le _) (by omega)
end Go.Lift

/- The first mix in plain words, and the law MixStart. -/
namespace Go.Lift
open Go
def H7 (p : Ak) (t : AQ) : Int := if HT t = true then CS .u8 1 (p.fNow.getD t.fFrom.toNat 0) else 0
def NW (p : Ak) : Af := ⟨p.fNow, List.replicate p.fNow.length (-1), p.fTables.map (H7 p)⟩
theorem MS (N : Nat) (h : 100 ≤ N) (n : Nat) (hn : n ≤ 6) : CR N [(-1)] (n : Int) = some (List.replicate n (-1)) := by
 obtain ⟨k, rfl⟩ : ∃ k, N = k + 100 := ⟨N - 100, by omega⟩
 have : n = 0 ∨ n = 1 ∨ n = 2 ∨ n = 3 ∨ n = 4 ∨ n = 5 ∨ n = 6 := by omega
 rcases this with rfl | rfl | rfl | rfl | rfl | rfl | rfl
 all_goals (show _ = _; kernel_rfl)
theorem LD (T : List Int) (i : Nat) (hi : i < T.length) : (T.take i ++ List.replicate (T.length - i) 0).set i (T.getD i 0) = T.take (i + 1) ++ List.replicate (T.length - (i + 1)) 0 := by
 have hl : (T.take i).length = i := by simp; omega
 rw [List.set_append_right _ _ (by omega), hl, Nat.sub_self, show T.length - i = (T.length - (i + 1)) + 1 from by omega, List.replicate_succ, List.set_cons_zero, List.take_add_one, List.append_assoc]
 have : T[i]? = some (T.getD i 0) := by rw [List.getD_eq_getElem?_getD]; simp [hi]
 rw [this]; rfl
theorem M4 (T : List Int) (i : Nat) (hi : i < T.length) (h0 : T.getD i 0 = 0) : T.take i ++ List.replicate (T.length - i) 0 = T.take (i + 1) ++ List.replicate (T.length - (i + 1)) 0 := by
 rw [← LD T i hi, h0, List.set_append_right _ _ (by rw [List.length_take]; omega)]
 congr 1
 have hl : (T.take i).length = i := by simp; omega
 rw [hl, Nat.sub_self, show T.length - i = (T.length - (i + 1)) + 1 from by omega, List.replicate_succ, List.set_cons_zero]
theorem PK {p : Ak} (hv : CG p = 0) {t : AQ} (ht : t ∈ p.fTables) : 0 ≤ t.fFrom ∧ t.fFrom.toNat < p.fNow.length ∧ 0 ≤ p.fNow.getD t.fFrom.toNat 0 ∧ p.fNow.getD t.fFrom.toNat 0 < 6 ∧ p.fNow.getD t.fFrom.toNat 0 < p.fVersions.getD t.fFrom.toNat 0 ∧ t.fFrom.toNat < p.fVersions.length := by
 obtain ⟨hp, hr⟩ := JH hv
 have h1 := Pt (hp.tab t ht)
 have h2 := hr t.fFrom.toNat (by omega)
 have h3 := Pg hp (i := t.fFrom.toNat) (by omega)
 have := hp.now
 refine ⟨h1.1, by omega, h2.1, by omega, h2.2.1, by omega⟩
theorem LA {p : Ak} {i : Nat} {t : AQ} (ht : p.fTables[i]? = some t) : (p.fTables.map (H7 p)).getD i 0 = H7 p t := by
 rw [List.getD_eq_getElem?_getD, List.getElem?_map, ht]; rfl
theorem Lh (N : Nat) (p : Ak) (hN : N ≤ 1000000) (h20 : 100 ≤ N) : D0 N p = some (if CG p = 0 then NW p else ⟨[], [], []⟩, CG p) := by
 unfold D0
 rw [IE N p hN (by omega)]
 simp only [Option.bind_some]
 by_cases hv : CG p = 0
 ·rw [if_pos hv, hv]
  obtain ⟨hp, _⟩ := JH hv
  have hnv := hp.nv
  have hnt := hp.nt
  have hnow := hp.now
  rw [bne_self_eq_false, BQ, MX N _ (by simp only [Hf]; omega)]
  simp only [Option.bind_some]
  rw [MS N h20 _ (by omega)]
  simp only [Option.bind_some]
  rw [Gy (by simp only [Hf]; omega)]
  obtain ⟨a', e, ha⟩ := Mp (CE N p fun v7 => some (Af.mk p.fNow (List.replicate p.fNow.length (-1)) v7, 0)) (fun a i => (a, i)) p.fTables.length (fun v7 => some (Af.mk p.fNow (List.replicate p.fNow.length (-1)) v7, 0))
   (fun i a => a = (p.fTables.map (H7 p)).take i ++ List.replicate ((p.fTables.map (H7 p)).length - i) 0)
   (fun n i a hi ha => by
    have hx : p.fTables[i]? = some p.fTables[i] := by simp [hi]
    have hm : p.fTables[i] ∈ p.fTables := List.getElem_mem hi
    obtain ⟨n1, n2, n3, n4, _⟩ := PK hv hm
    rw [CE, CT (by simp only; omega)]
    simp only [Hi, Da, hx, Option.bind_some, Kr, Du (show i < 1000000 by omega)]
    have hal : i < (p.fTables.map (H7 p)).length := by simpa using hi
    cases hs : HT p.fTables[i]
    ·rw [BQ]
     refine ⟨a, rfl, ?_⟩
     rw [ha]
     exact M4 _ _ hal (by rw [LA hx]; unfold H7; rw [hs]; rfl)
    ·rw [CL]
     have e1 : Bd p.fNow p.fTables[i].fFrom = some (p.fNow.getD p.fTables[i].fFrom.toNat 0) := by
      obtain ⟨q, hq⟩ := Int.eq_ofNat_of_zero_le n1
      rw [hq]; exact JV (by rw [hq] at n2; simpa using n2)
     rw [e1]
     simp only [Option.bind_some]
     rw [Gy n3]
     have hl : i < a.length := by rw [ha]; simp; omega
     have e2 : a[i]? = some a[i] := by simp [hl]
     rw [e2]
     simp only [Option.bind_some]
     refine ⟨_, rfl, ?_⟩
     rw [← LD _ _ hal, LA hx, ha]
     unfold H7; rw [hs]; rfl)
   (fun n a ha => by rw [CE, Cn (by simp)]) N 0 (List.replicate p.fTables.length 0) (Nat.zero_le _) (by omega) (by simp)
  have e' : CE N p (fun v7 => some (Af.mk p.fNow (List.replicate p.fNow.length (-1)) v7, 0)) N (List.replicate ((p.fTables.length : Int)).toNat (0 : Int), 0) = _ := e
  rw [e', ha]
  have e5 : (p.fTables.map (H7 p)).take p.fTables.length = p.fTables.map (H7 p) := List.take_of_length_le (by simp)
  simp [NW, e5]
 ·rw [if_neg hv, bne_iff_ne.2 hv, CL]
end Go.Lift

/- Bits of sets of versions: or, and-not, the lowest bit. -/
namespace Go.Lift
open Go
end Go.Lift

/- Steps: both implementations give one answer. -/
namespace Go.Lift
open Go
def QJ (s : Au) : Bool := decide (1 ≤ s.fKind ∧ s.fKind ≤ 4 ∧ 0 ≤ s.fIndex ∧ 0 ≤ s.fVersion) && (s.fKind == 1 || s.fVersion == 0)
def QM (p : Ak) (s : Au) : Bool :=
 if s.fKind = 3 then decide (s.fIndex < (p.fTables.length : Int)) else decide (s.fIndex < (p.fVersions.length : Int)) && (s.fKind != 1 || decide (s.fVersion < p.fVersions.getD s.fIndex.toNat 0))
def R4 (s : Au) (t : AQ) : Bool := t.fFrom == s.fIndex && HT t
def RY (s : Au) (i : Nat) (t : AQ) (a : List Int) : List Int := if R4 s t = true then a.set i (LL .u8 (a.getD i 0) (CS .u8 1 s.fVersion)) else a
def Pw (p : Ak) (s : Au) (held : List Int) : List Int := O6 (RY s) 0 p.fTables held
def P9 (m : Af) (t : AQ) (u : Nat) : Bool := (t.fRewrite.getD u []).getD (m.fBase.getD t.fFrom.toNat 0).toNat false
def RH (m : Af) (i : Nat) (t : AQ) (u : Nat) : Bool := O8 (m.fHeld.getD i 0) u && !Qe m t.fFrom.toNat u
def Pp (p : Ak) (m : Af) (i : Nat) (t : AQ) : Bool := t.fKind == 4 && (List.range 8).any fun u => RH m i t u && !P9 m t u
def PA (p : Ak) (m : Af) (s : Au) : Option Af :=
 let i := s.fIndex.toNat
 if s.fKind = 1 then (if 0 ≤ m.fNext.getD i 0 ∨ m.fBase.getD i 0 = s.fVersion then none else some ⟨m.fBase, m.fNext.set i s.fVersion, Pw p s m.fHeld⟩)
 else if s.fKind = 3 then match p.fTables[i]? with
  | none => none
  | some t => if HT t = false ∨ m.fHeld.getD i 0 = QN m t.fFrom.toNat ∨ Pp p m i t = true then none else some ⟨m.fBase, m.fNext, m.fHeld.set i (QN m t.fFrom.toNat)⟩
 else if m.fNext.getD i 0 < 0 then none
 else some ⟨if s.fKind = 2 then m.fBase.set i (m.fNext.getD i 0) else m.fBase, m.fNext.set i (-1), m.fHeld⟩
def PF (p : Ak) (m : Af) (s : Au) : Af × Int :=
 if QJ s = false then (NV, 1) else if QM p s = false then (NV, 4) else match PA p m s with
  | none => (NV, 11)
  | some x => (x, 0)
end Go.Lift

/- Steps: clearing, and the whole of Apply. -/
namespace Go.Lift
open Go
section clear
variable {p : Ak} {m : Af} {i : Nat} {t : AQ}
end clear
end Go.Lift

/- Apply: both implementations give applyP; a step leads from a valid mix to a valid mix. -/
namespace Go.Lift
open Go
end Go.Lift

/- A step leads from a valid mix to a valid mix; Apply of both implementations. -/
namespace Go.Lift
open Go
end Go.Lift

/- Failure and Check: both implementations give one answer; the laws PlanCheck and PlanFailure. -/
namespace Go.Lift
open Go
section
variable {N : Nat} {p : Ak} {l : List Au}
end
end Go.Lift

/- The law PlanErrors in plain words. -/
namespace Go.Lift
open Go
end Go.Lift

/- Trim: both implementations give one list. -/
namespace Go.Lift
open Go
end Go.Lift

/- A plan without a step: what can be left out. -/
namespace Go.Lift
open Go
structure PW (p : Ak) (m x : Af) : Prop where
 base : m.fBase = x.fBase
 next : m.fNext = x.fNext
 held : ∀ i, i < p.fTables.length → ∀ v, O8 (m.fHeld.getD i 0) v = true → O8 (x.fHeld.getD i 0) v = true
theorem PW.refl (p : Ak) (m : Af) : PW p m m := ⟨rfl, rfl, fun _ _ _ h => h⟩
theorem PW.trans {p : Ak} {a b c : Af} (h : PW p a b) (g : PW p b c) : PW p a c := ⟨h.base.trans g.base, h.next.trans g.next, fun i hi v hv => g.held i hi v (h.held i hi v hv)⟩
end Go.Lift

/- A step between two mixes; openings and closings; the law PlanTrim. -/
namespace Go.Lift
open Go
end Go.Lift

/- The law PlanTrim in plain words. -/
namespace Go.Lift
open Go
end Go.Lift

/- The keys of mixes. -/
namespace Go.Lift
open Go
end Go.Lift

/- Keys tell mixes. -/
namespace Go.Lift
open Go
end Go.Lift

/- The possible steps of a mix, in order: both implementations. -/
namespace Go.Lift
open Go
end Go.Lift

/- Enabled: the possible steps. -/
namespace Go.Lift
open Go
end Go.Lift

/- Enabled gives the possible steps. -/
namespace Go.Lift
open Go
end Go.Lift

/- The reference's list of possible steps is the same. -/
namespace Go.Lift
open Go
end Go.Lift

/- Breadth-first search in plain Lean: the ways that it finds are the least ones, by length and then by the ranks of their steps. No condition. -/
namespace Go.Lift
namespace Bfs
section
variable {α σ : Type}
def code (rk : σ → Nat) (K : Nat) (w : List σ) : Nat := w.foldl (fun c s => c * K + rk s) 0
def Q3 (rk : σ → Nat) (K : Nat) (w : List σ) : Prop := ∀ s, s ∈ w → 1 ≤ rk s ∧ rk s ≤ K
theorem Q3.snoc {rk : σ → Nat} {K : Nat} {w : List σ} {s : σ} (h : Q3 rk K w) (hs : 1 ≤ rk s ∧ rk s ≤ K) : Q3 rk K (w ++ [s]) := by
 intro x hx; rcases List.mem_append.1 hx with h1 | h1
 ·exact h x h1
 ·rw [List.mem_singleton.1 h1]; exact hs
abbrev Nd (α σ : Type) := α × Int × σ
def put [DecidableEq α] (i : Nat) (l : List (Nd α σ)) (q : σ × α) : List (Nd α σ) := if (l.any fun n => decide (n.1 = q.2)) = true then l else l ++ [(q.2, (i : Int), q.1)]
def NF [DecidableEq α] (most i : Nat) : List (σ × α) → List (Nd α σ) → Option (List (Nd α σ))
 | [], l => some l
 | q :: qs, l => if most < (put i l q).length then none else NF most i qs (put i l q)
def go [DecidableEq α] (nxt : α → List (σ × α)) (most : Nat) : Nat → Nat → List (Nd α σ) → Option (List (Nd α σ))
 | 0, _, _ => none
 | n + 1, i, l => match l[i]? with
  | none => some l
  | some nd => (NF most i (nxt nd.1) l).bind fun l' => go nxt most n (i + 1) l'
def run (nxt : α → List (σ × α)) (x : α) : List σ → α → Prop
 | [], y => y = x
 | s :: w, y => ∃ z, (s, z) ∈ nxt x ∧ run nxt z w y
theorem Gj {nxt : α → List (σ × α)} : ∀ {u w : List σ} {x y : α}, run nxt x (u ++ w) y ↔ ∃ z, run nxt x u z ∧ run nxt z w y
 | [], w, x, y => by simp [run]
 | s :: u, w, x, y => by
  simp only [List.cons_append, run]
  constructor
  ·rintro ⟨z, h1, h2⟩
   obtain ⟨z', h3, h4⟩ := Gj.1 h2
   exact ⟨z', ⟨z, h1, h3⟩, h4⟩
  ·rintro ⟨z', ⟨z, h1, h3⟩, h4⟩
   exact ⟨z, h1, Gj.2 ⟨z', h3, h4⟩⟩
end
end Bfs
end Go.Lift

/- The region of a mix: the reference's list of nodes is the breadth-first search. -/
namespace Go.Lift
open Go
theorem LG : ∀ {l : List Int}, Qa l = 0 → ∀ x, x ∈ l → x = 0
 | [], _, x, hx => by cases hx
 | y :: ys, h, x, hx => by
  unfold Qa at h
  split at h
  ·rename_i hy
   rcases List.mem_cons.1 hx with rfl | hx
   ·exact hy
   ·exact LG h x hx
  ·rename_i hy; exact absurd h hy
theorem ML {a b : Af} (h : N6 a b = 0) : a = b := by
 have := LG h
 have h1 := JC _ _ (this (I2 a.fBase b.fBase) (by simp))
 have h2 := JC _ _ (this (I2 a.fNext b.fNext) (by simp))
 have h3 := JC _ _ (this (I2 a.fHeld b.fHeld) (by simp))
 cases a; cases b; simp only at h1 h2 h3; subst h1; subst h2; subst h3; rfl
instance Rn : DecidableEq Af := fun a b => if h : N6 a b = 0 then isTrue (ML h) else isFalse (fun e => h (by rw [e]; exact MP b))
end Go.Lift

/- The region of a mix: the reference's whole list. -/
namespace Go.Lift
open Go
end Go.Lift

/- The region of a mix: the program's list of nodes is the same. -/
namespace Go.Lift
open Go
end Go.Lift

/- Ways to goals: From and Find, both implementations. -/
namespace Go.Lift
open Go
end Go.Lift

/- The laws PlanFind, PlanFrom, PlanShortest. -/
namespace Go.Lift
open Go
end Go.Lift

/- The law PlanRest. -/
namespace Go.Lift
open Go
end Go.Lift

/- The blocks of mixes, both implementations. -/
namespace Go.Lift
open Go
end Go.Lift

/- The nearest mix, both implementations. -/
namespace Go.Lift
open Go
end Go.Lift

/- Runs, plays and walks, both implementations. -/
namespace Go.Lift
open Go
theorem Ld : CX 1000 = some true := by kernel_rfl
end Go.Lift

/- The errors of an invalid problem. -/
namespace Go.Lift
open Go
theorem ID (p : Ak) (l : List Au) (_ : Ht p) (_ : L3 Iu l) : B9 1000 p l = some true := by
 unfold B9
 rw [Mb 1000 p (by omega) (by omega)]
 simp only [Hi, Ld, Option.bind_some, Bool.not_true, BQ]
 by_cases hv : CG p = 0
 ·rw [hv, beq_self_eq_true, CL, CL]
 have hn : (CG p != 0) = true := bne_iff_ne.2 hv
 rw [beq_eq_false_iff_ne.2 hv, BQ]
 obtain ⟨b1, e1⟩ := MO 1000 (by omega) (by omega) p
 rw [e1]
 simp only [Option.bind_some]
 cases b1
 ·rfl
 simp only [Bool.not_true, BQ]
 by_cases h : (10 : Int) < (l.length : Int)
 ·rw [decide_eq_true h, CL]
 rw [decide_eq_false h, BQ]
 have hst : D0 1000 p = some (⟨[], [], []⟩, CG p) := by rw [Lh 1000 p (by omega) (by omega), if_neg hv]
 have r1 : D1 1000 p l = some ([], 0, CG p) := by
  unfold D1; rw [hst]; simp only [Option.bind_some, hn, CL]
 have r2 : DP 1000 p = some (⟨[], [], []⟩, false, CG p) := by
  unfold DP; rw [hst]; simp only [Option.bind_some, hn, CL]
 have c1 : DO 1000 p l = some ([], CG p) := by
  unfold DO; rw [r1]; simp only [Option.bind_some, hn, CL]
 have c2 : D5 1000 p l = some (false, CG p) := by
  unfold D5; rw [r1]; simp only [Option.bind_some, hn, CL]
 have c3 : C1 1000 p = some ([], CG p) := by
  unfold C1; rw [r2]; simp only [Hi, Option.bind_some, hn, CL]
 have c4 : D8 1000 p [0] = some ([], CG p) := by
  unfold D8; rw [r2]; simp only [Hi, Option.bind_some, hn, CL]
 have c5 : ES 1000 p l = some (⟨[], [], []⟩, 0, CG p) := by
  unfold ES; rw [r1]; simp only [Option.bind_some, hn, CL]
 have c6 : DB 1000 p [] = some ([], CG p) := by
  unfold DB; rw [IE 1000 p (by omega) (by omega)]; simp only [Option.bind_some, hn, CL]
 rw [c1, c2, c3, c4, c5, c6]
 simp only [Hi, Option.bind_some, beq_self_eq_true, CL, Bool.not_false]
 rfl
end Go.Lift

/- The versions that run, both implementations. -/
namespace Go.Lift
open Go
end Go.Lift

