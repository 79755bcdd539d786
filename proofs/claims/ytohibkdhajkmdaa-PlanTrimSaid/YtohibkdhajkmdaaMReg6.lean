/- Lemmas for PlanTrimSaid, which YtohibkdhajkmdaaFinP9 proves. -/
import Derived.Test.YtohibkdhajkmdaaDec
import Derived.KernelRfl
/- Plain words of the shallow programs. -/
namespace Go.Lift
theorem Bs {α : Type} (xs : List α) (i : Nat) : BT xs (i : Int) = xs[i]? := by
 unfold BT; simp
theorem C9 {n : Int} (h0 : -9223372036854775808 ≤ n) (h1 : n ≤ 9223372036854775807) : IntKind.wrap .i64 n = n := by
 simp [IntKind.wrap, IntKind.signed, IntKind.bits]; omega
theorem AT {i : Nat} (h : i < 1000000) : IntKind.wrap .i64 ((i : Int) + 1) = ((i + 1 : Nat) : Int) := by
 rw [C9 (by omega) (by omega)]; simp
@[simp] theorem AK {α : Type} {a b : Option α} : AY true a b = a := rfl
@[simp] theorem Aw {α : Type} {a b : Option α} : AY false a b = b := rfl
theorem AN {α : Type} {p : Prop} [Decidable p] {a b : Option α} (h : p) : AY (decide p) a b = a := by simp [h]
theorem AM {α : Type} {p : Prop} [Decidable p] {a b : Option α} (h : ¬ p) : AY (decide p) a b = b := by simp [h]
def KY : List Int → List Int → Int
 | [], [] => 0
 | [], _ :: _ => -1
 | _ :: _, [] => 1
 | a :: as1, b :: bs => if a < b then -1 else if b < a then 1 else KY as1 bs
theorem Jp {α : Type} {xs : List α} {i : Nat} {x : α} (h : xs[i]? = some x) : xs.drop i = x :: xs.drop (i + 1) := by
 obtain ⟨hi, rfl⟩ := List.getElem?_eq_some_iff.1 h
 exact List.drop_eq_getElem_cons hi
end Go.Lift

/- MixCompare: the order on mixes. -/
namespace Go.Lift
theorem MX : ∀ a : List Int, KY a a = 0
 | [] => rfl
 | a :: as1 => by simp [KY, MX as1]
theorem LG : ∀ a b : List Int, KY a b = 0 → a = b
 | [], [], _ => rfl
 | [], _ :: _, h => by simp [KY] at h
 | _ :: _, [], h => by simp [KY] at h
 | a :: as1, b :: bs, h => by
  unfold KY at h
  split at h
  ·omega
  ·split at h
   ·omega
   ·rw [LG as1 bs h, show a = b from by omega]
def UC : List Int → Int
 | [] => 0
 | x :: xs => if x = 0 then UC xs else x
def Ws (a : Ah) : Prop := a.fBase.length ≤ 8 ∧ a.fNext.length ≤ 8 ∧ a.fHeld.length ≤ 14
def SZ (a b : Ah) : Int := UC [KY a.fBase b.fBase, KY a.fNext b.fNext, KY a.fHeld b.fHeld]
theorem QJ (a : Ah) : SZ a a = 0 := by unfold SZ; simp [MX, UC]
end Go.Lift

/- The law MixCompare in plain words. -/
namespace Go.Lift
end Go.Lift

/- Search loops in plain words; the two tests of a problem give the same answer. -/
namespace Go.Lift
def Df {α R : Type} (f : Nat → α → Option R) : Nat → List α → Option R
 | _, [] => none
 | i, x :: xs => match f i x with
  | some r => some r
  | none => Df f (i + 1) xs
theorem GA {α R : Type} (f : Nat → α → Option R) (i : Nat) (x : α) (xs : List α) : Df f i (x :: xs) = match f i x with
  | some r => some r
  | none => Df f (i + 1) xs := rfl
def Bw {R : Type} (a : Option R) (b : Option R) : Option R := match a with
 | some r => some r
 | none => b
theorem Cx {α R : Type} (L : Nat → Int → Option R) (xs : List α) (j : Option R) (f : Nat → α → Option R)
  (hs : ∀ (n i : Nat) (x : α), xs[i]? = some x → L (n + 1) (i : Int) = Bw (f i x) (L n ((i + 1 : Nat) : Int))) (he : ∀ n : Nat, L (n + 1) (xs.length : Int) = j) :
  ∀ n i : Nat, i ≤ xs.length → xs.length - i < n → L n (i : Int) = Bw (Df f i (xs.drop i)) j
 | 0, i, _, h => by omega
 | n + 1, i, hi, h => by
  by_cases h1 : i < xs.length
  ·have hx : xs[i]? = some xs[i] := by simp [h1]
   rw [hs n i _ hx, Jp hx, Cx L xs j f hs he n (i + 1) (by omega) (by omega)]
   rw [GA]
   cases f i xs[i] <;> rfl
  ·have : i = xs.length := by omega
   subst this
   rw [he n, List.drop_eq_nil_of_le (Nat.le_refl _)]
   rfl
theorem Nk (N : Nat) (k n : Int) : Dl N k n = some (decide (0 ≤ k) && decide (k < n)) := by
 unfold Dl
 simp only [Bj]
 by_cases h : 0 ≤ k
 ·rw [AN h]; simp [h]
 ·rw [AM h]; simp [h]
theorem KW (N : Nat) (t : AC) : AZ N t = some (t.fKind == 3 || t.fKind == 4) := by
 unfold AZ
 simp only [Bj]
 cases h : t.fKind == 3 <;> simp
def sq (l : List (List Bool)) (n m : Int) : Bool := decide ((l.length : Int) = n) && l.all fun r => decide ((r.length : Int) = m)
theorem LY {α : Type} (p : α → Bool) {R : Type} (r : Nat → R) : ∀ (i : Nat) (xs : List α), (Df (fun i x => if p x then none else some (r i)) i xs).isNone = xs.all p
 | i, [] => rfl
 | i, x :: xs => by
  unfold Df
  cases h : p x <;> simp [h, LY p r (i + 1) xs]
theorem M3 (N : Nat) (l : List (List Bool)) (n m : Int) (h : n < (N : Int)) (hN : N ≤ 1000000) : CL N l n m = some (sq l n m) := by
 unfold CL sq
 by_cases h1 : (l.length : Int) = n
 ·subst h1
  simp only [bne_self_eq_false, Aw, decide_true, Bool.true_and]
  have := Cx (B4 N l (l.length : Int) m (fun _ => some true)) l (some true) (fun _ r => if decide ((r.length : Int) = m) then none else some false)
   (fun n i x hx => by
    have hi := (List.getElem?_eq_some_iff.1 hx).1
    rw [B4, AN (by omega), Bs, hx]
    simp only [Option.bind_some]
    rw [AT (by omega)]
    by_cases h2 : (x.length : Int) = m
    ·simp [h2, Bw]
    ·have : ((x.length : Int) != m) = true := by simpa using h2
     simp [h2, this, Bw])
   (fun n => by rw [B4, AM (by omega)]) N 0 (by omega) (by omega)
  simp only [Int.ofNat_zero, List.drop_zero] at this
  rw [this]
  have h3 := LY (fun r : List Bool => decide ((r.length : Int) = m)) (fun _ => false) 0 l
  cases hsc : Df (fun (_ : Nat) (r : List Bool) => if decide ((r.length : Int) = m) = true then none else some false) 0 l with
  | none => rw [hsc] at h3; rw [← h3]; rfl
  | some b =>
   rw [hsc] at h3
   rw [← h3]
   have : ∀ (i : Nat) (xs : List (List Bool)) b, Df (fun (_ : Nat) (r : List Bool) => if decide ((r.length : Int) = m) = true then none else some false) i xs = some b → b = false := by
    intro i xs
    induction xs generalizing i with
    | nil => intro b hb; cases hb
    | cons x xs ih =>
     intro b hb
     unfold Df at hb
     split at hb
     ·rename_i r hr; cases hb; split at hr <;> simp at hr; exact hr
     ·exact ih _ b hb
   rw [this 0 l b hsc]; rfl
 ·have : ((l.length : Int) != n) = true := by simpa using h1
  simp [this, h1]
end Go.Lift

/- The tests of a table and of a problem: both implementations give one answer. -/
namespace Go.Lift
theorem Nc (N : Nat) (l : List (List Bool)) (n m : Int) (h : n < (N : Int)) (hN : N ≤ 1000000) : Ec N l n m = some (sq l n m) := by
 unfold Ec sq
 simp only [Bj]
 by_cases h1 : (l.length : Int) = n
 ·subst h1
  simp only [beq_self_eq_true, AK, decide_true, Bool.true_and]
  have := Cx (Be N l (fun x => C7 N x m) (fun _ => some (-1))) l (some (-1)) (fun i r => if decide ((r.length : Int) = m) then none else some (i : Int))
   (fun n i x hx => by
    have hi := (List.getElem?_eq_some_iff.1 hx).1
    rw [Be, AN (by omega), Bs, hx]
    simp only [Option.bind_some, C7]
    rw [AT (by omega)]
    by_cases h2 : (x.length : Int) = m
    ·simp [h2, Bw]
    ·have : ((x.length : Int) != m) = true := by simpa using h2
     simp [h2, this, Bw])
   (fun n => by rw [Be, AM (by omega)]) N 0 (by omega) (by omega)
  simp only [Int.ofNat_zero, List.drop_zero] at this
  unfold Cm CK
  rw [this]
  have h3 := LY (fun r : List Bool => decide ((r.length : Int) = m)) (fun i : Nat => (i : Int)) 0 l
  cases hsc : Df (fun (i : Nat) (r : List Bool) => if decide ((r.length : Int) = m) = true then none else some (i : Int)) 0 l with
  | none => rw [hsc] at h3; rw [← h3]; rfl
  | some b =>
   rw [hsc] at h3
   rw [← h3]
   have : ∀ (i : Nat) (xs : List (List Bool)) b, Df (fun (i : Nat) (r : List Bool) => if decide ((r.length : Int) = m) = true then none else some (i : Int)) i xs = some b → 0 ≤ b := by
    intro i xs
    induction xs generalizing i with
    | nil => intro b hb; cases hb
    | cons x xs ih =>
     intro b hb
     rw [GA] at hb
     split at hb
     ·rename_i r hr
      cases hb
      split at hr
      ·cases hr
      ·cases hr; omega
     ·exact ih _ b hb
   have := this 0 l b hsc
   simp [Bw, this]
 ·have : ((l.length : Int) == n) = false := by simpa using h1
  simp [this, h1]
end Go.Lift

/- The test of a table: both implementations give one answer. -/
namespace Go.Lift
def Ht (l : List (List Bool)) : Option Int := Df (fun i row => if row.getD i false then none else some 1) 0 l
theorem Pc {row : List Bool} {i : Nat} (h : i < row.length) : BT row (i : Int) = some (row.getD i false) := by
 rw [Bs, List.getD_eq_getElem?_getD]; simp [h]
theorem Ss (N : Nat) (t : AC) (h : t.fRewrite.length < N) (hN : N ≤ 1000000) (hsq : ∀ row, row ∈ t.fRewrite → row.length = t.fRewrite.length) (j : Option Int) :
  BE N t (fun _ => j) N 0 = Bw (Ht t.fRewrite) j := by
 have := Cx (BE N t (fun _ => j)) t.fRewrite j (fun i row => if row.getD i false then none else some 1)
  (fun n i x hx => by
   have hi := (List.getElem?_eq_some_iff.1 hx).1
   have hl := hsq x (List.mem_of_getElem? hx)
   rw [BE, AN (by omega), Bs, hx]
   simp only [Option.bind_some]
   rw [Pc (by omega), AT (by omega)]
   simp only [Option.bind_some]
   cases x.getD i false <;> rfl)
  (fun n => by rw [BE, AM (by omega)]) N 0 (by omega) (by omega)
 simpa [Ht] using this
theorem Nj (N : Nat) (t : AC) (h : t.fRewrite.length < N) (hN : N ≤ 1000000) (hsq : ∀ row, row ∈ t.fRewrite → row.length = t.fRewrite.length) (j : Option Int) :
  CA N t (fun _ => j) N 0 = Bw (Ht t.fRewrite) j := by
 have := Cx (CA N t (fun _ => j)) t.fRewrite j (fun i row => if row.getD i false then none else some 1)
  (fun n i x hx => by
   have hi := (List.getElem?_eq_some_iff.1 hx).1
   have hl := hsq x (List.mem_of_getElem? hx)
   rw [CA, AN (by omega), Bs, hx]
   simp only [Option.bind_some]
   rw [Pc (by omega), AT (by omega)]
   simp only [Option.bind_some]
   cases x.getD i false <;> rfl)
  (fun n => by rw [CA, AM (by omega)]) N 0 (by omega) (by omega)
 simpa [Ht] using this
theorem LJ {l : List (List Bool)} {n m : Int} (h : sq l n m = true) : (l.length : Int) = n ∧ ∀ row, row ∈ l → (row.length : Int) = m := by
 unfold sq at h
 simp only [Bool.and_eq_true, decide_eq_true_eq, List.all_eq_true] at h
 exact h
def Dn (p : Ae) (t : AC) : Int :=
 if t.fKind < 1 ∨ 4 < t.fKind ∨ (t.fAware = true ∧ (t.fKind = 3 ∨ t.fKind = 4)) then 1
 else if t.fFrom < 0 ∨ (p.fVersions.length : Int) ≤ t.fFrom ∨ t.fTo < 0 ∨ (p.fVersions.length : Int) ≤ t.fTo then 4
 else
  let f := p.fVersions.getD t.fFrom.toNat 0
  let g := p.fVersions.getD t.fTo.toNat 0
  if sq t.fOK f g = false then 6
  else if t.fKind = 4 then (if sq t.fRewrite f f = false then 6 else (Ht t.fRewrite).getD 0)
  else if t.fRewrite.length = 0 then 0 else 6
theorem DT {α : Type} {xs : List α} {i : Int} {d : α} (h0 : 0 ≤ i) (h1 : i < (xs.length : Int)) : BT xs i = some (xs.getD i.toNat d) := by
 obtain ⟨k, rfl⟩ := Int.eq_ofNat_of_zero_le h0
 rw [Bs, List.getD_eq_getElem?_getD, Int.toNat_natCast]
 simp [show k < xs.length from by omega]
theorem Rw {t : AC} (A B : Option Int) (hk : ¬ (t.fAware = true ∧ (t.fKind = 3 ∨ t.fKind = 4))) : AY t.fAware (AY (t.fKind == 3 || t.fKind == 4) A B) B = B := by
 cases ha : t.fAware
 ·rfl
 ·have : (t.fKind == 3 || t.fKind == 4) = false := by
   rw [Bool.or_eq_false_iff]
   constructor
   ·simp only [beq_eq_false_iff_ne]; intro h; exact hk ⟨ha, .inl h⟩
   ·simp only [beq_eq_false_iff_ne]; intro h; exact hk ⟨ha, .inr h⟩
  rw [this]; rfl
theorem IN {p : Ae} {i : Int} (hv : ∀ v, v ∈ p.fVersions → 1 ≤ v ∧ v ≤ 6) (h0 : 0 ≤ i) (h1 : i < (p.fVersions.length : Int)) : 1 ≤ p.fVersions.getD i.toNat 0 ∧ p.fVersions.getD i.toNat 0 ≤ 6 := by
 refine hv _ ?_
 rw [List.getD_eq_getElem?_getD, List.getElem?_eq_getElem (by omega)]
 exact List.getElem_mem _
theorem Qu (N : Nat) (p : Ae) (t : AC) (hN : N ≤ 1000000) (h6 : 7 ≤ N) (hv : ∀ v, v ∈ p.fVersions → 1 ≤ v ∧ v ≤ 6) : DE N p t = some (Dn p t) := by
 unfold DE Dn
 simp only [Bj, KW, Option.bind_some]
 by_cases k1 : t.fKind < 1
 ·simp [k1]
 by_cases k2 : 4 < t.fKind
 ·simp [k1, k2]
 rw [AM k1, AM k2]
 by_cases hk : t.fAware = true ∧ (t.fKind = 3 ∨ t.fKind = 4)
 ·obtain ⟨ha, k | k⟩ := hk <;> simp [ha, k]
 rw [Aw, Rw _ _ hk, if_neg (fun h => h.elim k1 fun h => h.elim k2 hk)]
 by_cases f1 : t.fFrom < 0
 ·simp [f1]
 by_cases f2 : (p.fVersions.length : Int) ≤ t.fFrom
 ·simp [f1, f2]
 by_cases f3 : t.fTo < 0
 ·simp [f1, f2, f3]
 by_cases f4 : (p.fVersions.length : Int) ≤ t.fTo
 ·simp [f1, f2, f3, f4]
 rw [AM f1, AM f2, AM f3, if_neg (fun h => h.elim f1 fun h => h.elim f2 fun h => h.elim f3 f4)]
 have hf := IN hv (i := t.fFrom) (by omega) (by omega)
 rw [decide_eq_false f4, Aw, DT (d := 0) (by omega : 0 ≤ t.fFrom) (by omega), DT (d := 0) (by omega : 0 ≤ t.fTo) (by omega)]
 simp only [Option.bind_some]
 generalize p.fVersions.getD t.fFrom.toNat 0 = f at *
 generalize p.fVersions.getD t.fTo.toNat 0 = g at *
 rw [M3 N t.fOK f g (by omega) hN, M3 N t.fRewrite f f (by omega) hN]
 simp only [Option.bind_some]
 cases hq : sq t.fOK f g
 ·rfl
 simp only [Bool.not_true, Aw]
 by_cases k4 : t.fKind = 4
 ·have : (t.fKind != 4) = false := by simp [k4]
  rw [this, Aw]
  simp only [k4, if_true]
  cases hr : sq t.fRewrite f f
  ·rfl
  ·have h7 := LJ hr
   simp only [Bool.not_true, Aw]
   rw [Ss N t (by omega) hN (fun row hm => by have := h7.2 row hm; omega)]
   cases Ht t.fRewrite <;> simp [Bw]
 ·have : (t.fKind != 4) = true := by simpa using k4
  rw [this, AK]
  simp only [k4, if_false]
  by_cases hr : t.fRewrite.length = 0
  ·simp [hr]
  ·have : ((t.fRewrite.length : Int) != 0) = true := bne_iff_ne.2 (by omega)
   rw [this]; simp [hr]
theorem SO (N : Nat) (k : Int) (a : Bool) : Fs N k a = some (k == 1 || (k == 2 || ((k == 3 || k == 4) && !a))) := by
 unfold Fs
 simp only [Bj]
 cases h1 : k == 1 <;> cases h2 : k == 2 <;> cases h3 : k == 3 <;> cases h4 : k == 4 <;> cases a <;> rfl
theorem L9 (N : Nat) (p : Ae) (t : AC) (hN : N ≤ 1000000) (h6 : 7 ≤ N) (hv : ∀ v, v ∈ p.fVersions → 1 ≤ v ∧ v ≤ 6) : E2 N p t = some (Dn p t) := by
 unfold E2 Dn
 simp only [Bj, SO, Nk, Option.bind_some]
 by_cases hb : t.fKind < 1 ∨ 4 < t.fKind ∨ (t.fAware = true ∧ (t.fKind = 3 ∨ t.fKind = 4))
 ·have : (t.fKind == 1 || (t.fKind == 2 || ((t.fKind == 3 || t.fKind == 4) && !t.fAware))) = false := by
   rcases hb with h | h | ⟨ha, h | h⟩
   ·rw [beq_eq_false_iff_ne.2 (by omega : t.fKind ≠ 1), beq_eq_false_iff_ne.2 (by omega : t.fKind ≠ 2), beq_eq_false_iff_ne.2 (by omega : t.fKind ≠ 3), beq_eq_false_iff_ne.2 (by omega : t.fKind ≠ 4)]; rfl
   ·rw [beq_eq_false_iff_ne.2 (by omega : t.fKind ≠ 1), beq_eq_false_iff_ne.2 (by omega : t.fKind ≠ 2), beq_eq_false_iff_ne.2 (by omega : t.fKind ≠ 3), beq_eq_false_iff_ne.2 (by omega : t.fKind ≠ 4)]; rfl
   ·simp [ha, h]
   ·simp [ha, h]
  rw [this, if_pos hb]; rfl
 ·have : (t.fKind == 1 || (t.fKind == 2 || ((t.fKind == 3 || t.fKind == 4) && !t.fAware))) = true := by
   have hk : t.fKind = 1 ∨ t.fKind = 2 ∨ t.fKind = 3 ∨ t.fKind = 4 := by
    have h1 : ¬ t.fKind < 1 := fun h => hb (.inl h)
    have h2 : ¬ 4 < t.fKind := fun h => hb (.inr (.inl h))
    omega
   rcases hk with h | h | h | h
   ·simp [h]
   ·simp [h]
   ·cases ha : t.fAware
    ·simp [h]
    ·exact (hb (.inr (.inr ⟨ha, .inl h⟩))).elim
   ·cases ha : t.fAware
    ·simp [h]
    ·exact (hb (.inr (.inr ⟨ha, .inr h⟩))).elim
  rw [this, if_neg hb]
  simp only [Bool.not_true, Aw]
  by_cases f1 : t.fFrom < 0
  ·simp [f1, show ¬ (0 ≤ t.fFrom) from by omega]
  by_cases f2 : (p.fVersions.length : Int) ≤ t.fFrom
  ·simp [f2, show ¬ (t.fFrom < (p.fVersions.length : Int)) from by omega]
  by_cases f3 : t.fTo < 0
  ·simp [f3, show 0 ≤ t.fFrom from by omega, show t.fFrom < (p.fVersions.length : Int) from by omega, show ¬ (0 ≤ t.fTo) from by omega]
  by_cases f4 : (p.fVersions.length : Int) ≤ t.fTo
  ·simp [f4, show 0 ≤ t.fFrom from by omega, show t.fFrom < (p.fVersions.length : Int) from by omega, show ¬ (t.fTo < (p.fVersions.length : Int)) from by omega]
  rw [if_neg (fun h => h.elim f1 fun h => h.elim f2 fun h => h.elim f3 f4)]
  have hf := IN hv (i := t.fFrom) (by omega) (by omega)
  have hg := IN hv (i := t.fTo) (by omega) (by omega)
  rw [decide_eq_true (by omega : 0 ≤ t.fFrom), decide_eq_true (by omega : t.fFrom < (p.fVersions.length : Int)), decide_eq_true (by omega : 0 ≤ t.fTo), decide_eq_true (by omega : t.fTo < (p.fVersions.length : Int)), DT (d := 0) (by omega : 0 ≤ t.fFrom) (by omega), DT (d := 0) (by omega : 0 ≤ t.fTo) (by omega)]
  simp only [Bool.and_self, Bool.not_true, Aw, Option.bind_some]
  generalize p.fVersions.getD t.fFrom.toNat 0 = f at *
  generalize p.fVersions.getD t.fTo.toNat 0 = g at *
  rw [Nc N t.fOK f g (by omega) hN, Nc N t.fRewrite f f (by omega) hN]
  simp only [Option.bind_some]
  cases hq : sq t.fOK f g
  ·rfl
  simp only [Bool.not_true, Aw]
  by_cases k4 : t.fKind = 4
  ·simp only [k4, beq_self_eq_true, AK, if_true]
   cases hr : sq t.fRewrite f f
   ·rfl
   ·have h7 := LJ hr
    simp only [Bool.not_true, Aw]
    rw [Nj N t (by omega) hN (fun row hm => by have := h7.2 row hm; omega)]
    cases Ht t.fRewrite <;> simp [Bw]
  ·have : (t.fKind == 4) = false := beq_eq_false_iff_ne.2 k4
   rw [this, Aw]
   simp only [k4, if_false, Bool.not_false, AK]
   by_cases hr : t.fRewrite.length = 0
   ·rw [Nj N t (by omega) hN (fun row hm => by rw [List.eq_nil_of_length_eq_zero hr] at hm; cases hm), List.eq_nil_of_length_eq_zero hr]
    simp [Ht, Df, Bw]
   ·rw [decide_eq_true (by omega : 0 < (t.fRewrite.length : Int))]
    simp [hr]
end Go.Lift

/- The test of a problem: both implementations give one answer. -/
namespace Go.Lift
def EL (p : Ae) (i : Nat) (v : Int) : Option Int :=
 if v < 1 ∨ 6 < v ∨ p.fNow.getD i 0 < 0 ∨ v ≤ p.fNow.getD i 0 ∨ p.fTarget.getD i 0 < 0 ∨ v ≤ p.fTarget.getD i 0 then some 7 else none
def Kn (p : Ae) (_ : Nat) (t : AC) : Option Int := if Dn p t = 0 then none else some (Dn p t)
def BJ (p : Ae) : Int :=
 if 6 < p.fVersions.length ∨ 12 < p.fTables.length then 3
 else if p.fNow.length ≠ p.fVersions.length ∨ p.fTarget.length ≠ p.fVersions.length then 6
 else ((Bw (Df (EL p) 0 p.fVersions) (Df (Kn p) 0 p.fTables)).getD 0)
theorem Ev {α R : Type} {f : Nat → α → Option R} : ∀ {i : Nat} {xs : List α}, Df f i xs = none → ∀ j x, xs[j]? = some x → f (i + j) x = none
 | _, [], _, j, x, hx => by simp at hx
 | i, y :: ys, h, j, x, hx => by
  rw [GA] at h
  split at h
  ·cases h
  ·rename_i h0
   cases j with
   | zero => simp at hx; subst hx; exact h0
   | succ j =>
    have := Ev h j x (by simpa using hx)
    rwa [show i + 1 + j = i + (j + 1) from by omega] at this
theorem Mc {p : Ae} (h : Df (EL p) 0 p.fVersions = none) : ∀ v, v ∈ p.fVersions → 1 ≤ v ∧ v ≤ 6 := by
 intro v hv
 obtain ⟨i, hi⟩ := List.mem_iff_getElem?.1 hv
 have := Ev h i v hi
 unfold EL at this
 split at this
 ·cases this
 ·rename_i hn
  constructor
  ·exact Int.not_lt.1 fun h => hn (.inl h)
  ·exact Int.not_lt.1 fun h => hn (.inr (.inl h))
theorem Ct {α : Type} {xs : List α} {i : Nat} {d : α} (h : i < xs.length) : BT xs (i : Int) = some (xs.getD i d) := by
 rw [Bs, List.getD_eq_getElem?_getD]; simp [h]
theorem PV (N : Nat) (p : Ae) (hN : N ≤ 1000000) (h1 : p.fVersions.length < N) (h2 : p.fNow.length = p.fVersions.length) (h3 : p.fTarget.length = p.fVersions.length) (j : Option Int) :
  A9 N p (fun _ => j) N 0 = Bw (Df (EL p) 0 p.fVersions) j := by
 have := Cx (A9 N p (fun _ => j)) p.fVersions j (EL p)
  (fun n i x hx => by
   have hi := (List.getElem?_eq_some_iff.1 hx).1
   rw [A9, AN (by omega), Bs, hx]
   simp only [Option.bind_some, Bj]
   rw [Ct (d := 0) (by omega), Ct (d := 0) (by omega), AT (by omega)]
   simp only [Option.bind_some]
   unfold EL
   generalize p.fNow.getD i 0 = a
   generalize p.fTarget.getD i 0 = b
   by_cases k1 : x < 1 <;> by_cases k2 : 6 < x <;> by_cases k3 : a < 0 <;> by_cases k4 : x ≤ a <;> by_cases k5 : b < 0 <;> by_cases k6 : x ≤ b <;> simp [k1, k2, k3, k4, k5, k6, Bw])
  (fun n => by rw [A9, AM (by omega)]) N 0 (by omega) (by omega)
 simpa using this
theorem Nr (N : Nat) (p : Ae) (hN : N ≤ 1000000) (h1 : p.fVersions.length < N) (h2 : p.fNow.length = p.fVersions.length) (h3 : p.fTarget.length = p.fVersions.length) (j : Option Int) :
  BH N p (fun _ => j) N 0 = Bw (Df (EL p) 0 p.fVersions) j := by
 have := Cx (BH N p (fun _ => j)) p.fVersions j (EL p)
  (fun n i x hx => by
   have hi := (List.getElem?_eq_some_iff.1 hx).1
   rw [BH, AN (by omega), Bs, hx]
   simp only [Option.bind_some, Bj, Nk]
   rw [Ct (d := 0) (by omega), Ct (d := 0) (by omega), AT (by omega)]
   simp only [Option.bind_some]
   unfold EL
   generalize p.fNow.getD i 0 = a
   generalize p.fTarget.getD i 0 = b
   have e1 : decide (0 ≤ a) = !decide (a < 0) := by rw [← decide_not]; congr 1; simp
   have e2 : decide (a < x) = !decide (x ≤ a) := by rw [← decide_not]; congr 1; simp
   have e3 : decide (0 ≤ b) = !decide (b < 0) := by rw [← decide_not]; congr 1; simp
   have e4 : decide (b < x) = !decide (x ≤ b) := by rw [← decide_not]; congr 1; simp
   rw [e1, e2, e3, e4]
   by_cases k1 : x < 1 <;> by_cases k2 : 6 < x <;> by_cases k3 : a < 0 <;> by_cases k4 : x ≤ a <;> by_cases k5 : b < 0 <;> by_cases k6 : x ≤ b <;> simp [k1, k2, k3, k4, k5, k6, Bw])
  (fun n => by rw [BH, AM (by omega)]) N 0 (by omega) (by omega)
 simpa using this
theorem Q0 (N : Nat) (p : Ae) (hN : N ≤ 1000000) (h6 : 7 ≤ N) (h1 : p.fTables.length < N) (hv : ∀ v, v ∈ p.fVersions → 1 ≤ v ∧ v ≤ 6) (j : Option Int) :
  A2 N p (fun _ => j) N 0 = Bw (Df (Kn p) 0 p.fTables) j := by
 have := Cx (A2 N p (fun _ => j)) p.fTables j (Kn p)
  (fun n i x hx => by
   have hi := (List.getElem?_eq_some_iff.1 hx).1
   rw [A2, AN (by omega), Bs, hx]
   simp only [Option.bind_some]
   rw [Qu N p x hN h6 hv, AT (by omega)]
   simp only [Option.bind_some]
   unfold Kn
   by_cases k : Dn p x = 0
   ·simp [k, Bw]
   ·rw [bne_iff_ne.2 k, if_neg k]; rfl)
  (fun n => by rw [A2, AM (by omega)]) N 0 (by omega) (by omega)
 simpa using this
theorem PM (N : Nat) (p : Ae) (hN : N ≤ 1000000) (h6 : 7 ≤ N) (h1 : p.fTables.length < N) (hv : ∀ v, v ∈ p.fVersions → 1 ≤ v ∧ v ≤ 6) (j : Option Int) :
  Bx N p (fun _ => j) N 0 = Bw (Df (Kn p) 0 p.fTables) j := by
 have := Cx (Bx N p (fun _ => j)) p.fTables j (Kn p)
  (fun n i x hx => by
   have hi := (List.getElem?_eq_some_iff.1 hx).1
   rw [Bx, AN (by omega), Bs, hx]
   simp only [Option.bind_some]
   rw [L9 N p x hN h6 hv, AT (by omega)]
   simp only [Option.bind_some]
   unfold Kn
   by_cases k : Dn p x = 0
   ·simp [k, Bw]
   ·rw [bne_iff_ne.2 k, if_neg k]; rfl)
  (fun n => by rw [Bx, AM (by omega)]) N 0 (by omega) (by omega)
 simpa using this
theorem JX (N : Nat) (p : Ae) (hN : N ≤ 1000000) (h : 20 ≤ N) : BB N p = some (BJ p) := by
 unfold BB BJ
 simp only [Bj]
 by_cases k1 : 6 < p.fVersions.length
 ·rw [AN (by omega)]; simp [k1]
 rw [AM (by omega)]
 by_cases k2 : 12 < p.fTables.length
 ·rw [decide_eq_true (by omega : (12 : Int) < (p.fTables.length : Int))]; simp [k2]
 rw [decide_eq_false (by omega : ¬ (12 : Int) < (p.fTables.length : Int)), Aw, if_neg (by omega)]
 by_cases k3 : p.fNow.length = p.fVersions.length
 ·by_cases k4 : p.fTarget.length = p.fVersions.length
  ·rw [k3, k4]
   simp only [bne_self_eq_false, Aw, ne_eq, not_true_eq_false, or_self, if_false]
   rw [PV N p hN (by omega) k3 k4]
   cases hs : Df (EL p) 0 p.fVersions with
   | some r => rfl
   | none =>
    simp only [Bw]
    rw [Q0 N p hN (by omega) (by omega) (Mc hs)]
    cases Df (Kn p) 0 p.fTables <;> rfl
  ·have : ((p.fTarget.length : Int) != (p.fVersions.length : Int)) = true := bne_iff_ne.2 (by omega)
   rw [this, k3]; simp [k4]
 ·have : ((p.fNow.length : Int) != (p.fVersions.length : Int)) = true := bne_iff_ne.2 (by omega)
  rw [this]; simp [k3]
theorem Id (N : Nat) (p : Ae) (hN : N ≤ 1000000) (h : 20 ≤ N) : Cj N p = some (BJ p) := by
 unfold Cj BJ
 simp only [Bj]
 by_cases k1 : 6 < p.fVersions.length
 ·rw [AN (by omega)]; simp [k1]
 rw [AM (by omega)]
 by_cases k2 : 12 < p.fTables.length
 ·rw [decide_eq_true (by omega : (12 : Int) < (p.fTables.length : Int))]; simp [k2]
 rw [decide_eq_false (by omega : ¬ (12 : Int) < (p.fTables.length : Int)), Aw, if_neg (by omega)]
 by_cases k3 : p.fNow.length = p.fVersions.length
 ·by_cases k4 : p.fTarget.length = p.fVersions.length
  ·rw [k3, k4]
   simp only [bne_self_eq_false, Aw, ne_eq, not_true_eq_false, or_self, if_false]
   rw [Nr N p hN (by omega) k3 k4]
   cases hs : Df (EL p) 0 p.fVersions with
   | some r => rfl
   | none =>
    simp only [Bw]
    rw [PM N p hN (by omega) (by omega) (Mc hs)]
    cases Df (Kn p) 0 p.fTables <;> rfl
  ·have : ((p.fTarget.length : Int) != (p.fVersions.length : Int)) = true := bne_iff_ne.2 (by omega)
   rw [this, k3]; simp [k4]
 ·have : ((p.fNow.length : Int) != (p.fVersions.length : Int)) = true := bne_iff_ne.2 (by omega)
  rw [this]; simp [k3]
end Go.Lift

/- The test of a mix: both implementations give one answer. -/
namespace Go.Lift
theorem Hh {n : Int} (h : KP n) : 0 ≤ n ∧ n ≤ 255 := by
 unfold KP at h
 simpa [Lit.wf, IntKind.min, IntKind.max, IntKind.signed, IntKind.bits] using h
theorem MF : ∀ k : Fin 256, CE .u8 0 (k.val : Int) = 0 := by decide +kernel
theorem MM : ∀ k : Fin 256, CE .u8 (k.val : Int) 0 = (k.val : Int) := by decide +kernel
theorem QW {n : Int} (h : KP n) : CE .u8 0 n = 0 := by
 have := Hh h
 obtain ⟨k, rfl⟩ := Int.eq_ofNat_of_zero_le this.1
 exact MF ⟨k, by omega⟩
theorem Rx {n : Int} (h : KP n) : CE .u8 n 0 = n := by
 have := Hh h
 obtain ⟨k, rfl⟩ := Int.eq_ofNat_of_zero_le this.1
 exact MM ⟨k, by omega⟩
theorem Ed {α R : Type} {f : Nat → α → Option R} : ∀ {i : Nat} {xs : List α} {r : R}, Df f i xs = some r → ∃ j x, xs[j]? = some x ∧ f (i + j) x = some r
 | _, [], _, h => by cases h
 | i, y :: ys, r, h => by
  rw [GA] at h
  split at h
  ·rename_i r' h0
   cases h
   exact ⟨0, y, rfl, h0⟩
  ·obtain ⟨j, x, h1, h2⟩ := Ed h
   exact ⟨j + 1, x, by simpa using h1, by rwa [show i + (j + 1) = i + 1 + j from by omega]⟩
structure B3 (p : Ae) : Prop where
 nv : p.fVersions.length ≤ 6
 nt : p.fTables.length ≤ 12
 now : p.fNow.length = p.fVersions.length
 tgt : p.fTarget.length = p.fVersions.length
 ver : ∀ v, v ∈ p.fVersions → 1 ≤ v ∧ v ≤ 6
 tab : ∀ t, t ∈ p.fTables → Dn p t = 0
theorem Px (l : List (List Bool)) : (Ht l).getD 0 = 0 ∨ (Ht l).getD 0 = 1 := by
 cases h : Ht l with
 | none => exact .inl rfl
 | some r =>
  obtain ⟨j, x, _, h⟩ := Ed h
  split at h
  ·cases h
  ·cases h; exact .inr rfl
theorem NI (p : Ae) (t : AC) : Dn p t = 0 ∨ Dn p t = 1 ∨ Dn p t = 4 ∨ Dn p t = 6 := by
 unfold Dn
 split
 ·exact .inr (.inl rfl)
 split
 ·exact .inr (.inr (.inl rfl))
 simp only
 split
 ·exact .inr (.inr (.inr rfl))
 split
 ·split
  ·exact .inr (.inr (.inr rfl))
  ·rcases Px t.fRewrite with h | h
   ·exact .inl h
   ·exact .inr (.inl h)
 ·split
  ·exact .inl rfl
  ·exact .inr (.inr (.inr rfl))
theorem F6 (p : Ae) : (BJ p = 0 ∧ B3 p) ∨ (BJ p = 1 ∨ BJ p = 3 ∨ BJ p = 4 ∨ BJ p = 6 ∨ BJ p = 7) := by
 unfold BJ
 split
 ·simp
 rename_i k1
 split
 ·simp
 rename_i k2
 cases hs : Df (EL p) 0 p.fVersions with
 | some r =>
  obtain ⟨j, x, _, h⟩ := Ed hs
  unfold EL at h
  split at h
  ·cases h; simp [Bw]
  ·cases h
 | none =>
  cases ht : Df (Kn p) 0 p.fTables with
  | some r =>
   obtain ⟨j, t, _, h⟩ := Ed ht
   unfold Kn at h
   split at h
   ·cases h
   ·rename_i hne
    cases h
    simp only [Bw, Option.getD_some]
    right
    rcases NI p t with h | h | h | h
    ·exact (hne h).elim
    ·exact .inl h
    ·exact .inr (.inr (.inl h))
    ·exact .inr (.inr (.inr (.inl h)))
  | none =>
   left
   refine ⟨rfl, by omega, by omega, by omega, by omega, Mc hs, fun t hm => ?_⟩
   obtain ⟨j, hj⟩ := List.mem_iff_getElem?.1 hm
   have := Ev ht j t hj
   unfold Kn at this
   split at this
   ·assumption
   ·cases this
end Go.Lift

/- The test of a mix: both implementations give one answer. -/
namespace Go.Lift
def ET (m : Ah) (s : Nat) : Int :=
 if 0 ≤ m.fNext.getD s 0 then MB .u8 (C3 .u8 1 (m.fBase.getD s 0)) (C3 .u8 1 (m.fNext.getD s 0)) else C3 .u8 1 (m.fBase.getD s 0)
def JZ (m : Ah) (i : Nat) (v : Int) : Option Int :=
 if m.fBase.getD i 0 < 0 ∨ v ≤ m.fBase.getD i 0 ∨ m.fNext.getD i 0 < -1 ∨ v ≤ m.fNext.getD i 0 then some 7
 else if m.fBase.getD i 0 = m.fNext.getD i 0 then some 1 else none
def Bt (t : AC) : Bool := t.fKind == 3 || t.fKind == 4
def So (p : Ae) (t : AC) : Int := IntKind.wrap .u8 (C3 .u8 1 (p.fVersions.getD t.fFrom.toNat 0) - 1)
def HL (p : Ae) (m : Ah) (i : Nat) (t : AC) : Option Int :=
 if Bt t = true then (if CE .u8 (ET m t.fFrom.toNat) (m.fHeld.getD i 0) ≠ 0 ∨ CE .u8 (m.fHeld.getD i 0) (So p t) ≠ 0 then some 1 else none)
 else if m.fHeld.getD i 0 ≠ 0 then some 1 else none
def Eq (p : Ae) (m : Ah) : Int :=
 if BJ p ≠ 0 then BJ p
 else if m.fBase.length ≠ p.fVersions.length ∨ m.fNext.length ≠ p.fVersions.length ∨ m.fHeld.length ≠ p.fTables.length then 6
 else (Bw (Df (JZ m) 0 p.fVersions) (Df (HL p m) 0 p.fTables)).getD 0
theorem Gw {p : Ae} {t : AC} (h : Dn p t = 0) : 0 ≤ t.fFrom ∧ t.fFrom < (p.fVersions.length : Int) ∧ 0 ≤ t.fTo ∧ t.fTo < (p.fVersions.length : Int) := by
 unfold Dn at h
 split at h
 ·cases h
 ·split at h
  ·cases h
  ·omega
theorem JM (N : Nat) (m : Ah) (s : Int) (h0 : 0 ≤ s) (h1 : s < (m.fBase.length : Int)) (h2 : s < (m.fNext.length : Int)) (hb : 0 ≤ m.fBase.getD s.toNat 0) : D0 N m s = some (ET m s.toNat) := by
 unfold D0 ET
 rw [DT (d := 0) h0 h1, DT (d := 0) h0 h2]
 simp only [Option.bind_some, Bj]
 rw [show DK (0 ≤ m.fBase.getD s.toNat 0) = some () from by unfold DK; rw [if_pos hb]]
 simp only [Option.bind_some]
 by_cases h : 0 ≤ m.fNext.getD s.toNat 0
 ·rw [AN h, if_pos h, show DK (0 ≤ m.fNext.getD s.toNat 0) = some () from by unfold DK; rw [if_pos h]]; rfl
 ·rw [AM h, if_neg h]
theorem In (N : Nat) (m : Ah) (s : Int) (h0 : 0 ≤ s) (h1 : s < (m.fBase.length : Int)) (h2 : s < (m.fNext.length : Int)) (hb : 0 ≤ m.fBase.getD s.toNat 0) : BA N m s = some (ET m s.toNat) := by
 unfold BA ET
 rw [DT (d := 0) h0 h1, DT (d := 0) h0 h2]
 simp only [Option.bind_some, Bj]
 rw [show DK (0 ≤ m.fBase.getD s.toNat 0) = some () from by unfold DK; rw [if_pos hb]]
 simp only [Option.bind_some]
 by_cases h : 0 ≤ m.fNext.getD s.toNat 0
 ·rw [AN h, if_pos h, show DK (0 ≤ m.fNext.getD s.toNat 0) = some () from by unfold DK; rw [if_pos h]]; rfl
 ·rw [AM h, if_neg h]
theorem NW (N : Nat) (p : Ae) (m : Ah) (hN : N ≤ 1000000) (h1 : p.fVersions.length < N) (h2 : m.fBase.length = p.fVersions.length) (h3 : m.fNext.length = p.fVersions.length) (j : Option Int) :
  Dh N p m (fun _ => j) N 0 = Bw (Df (JZ m) 0 p.fVersions) j := by
 have := Cx (Dh N p m (fun _ => j)) p.fVersions j (JZ m)
  (fun n i x hx => by
   have hi := (List.getElem?_eq_some_iff.1 hx).1
   rw [Dh, AN (by omega), Bs, hx]
   simp only [Option.bind_some, Bj]
   rw [Ct (d := 0) (by omega), Ct (d := 0) (by omega), AT (by omega)]
   simp only [Option.bind_some]
   unfold JZ
   generalize m.fBase.getD i 0 = a
   generalize m.fNext.getD i 0 = b
   by_cases k7 : a = b
   ·subst k7
    by_cases k3 : a < 0 <;> by_cases k4 : x ≤ a <;> by_cases k5 : a < -1 <;> simp [k3, k4, k5, Bw]
   ·have k8 : (a == b) = false := beq_eq_false_iff_ne.2 k7
    by_cases k3 : a < 0 <;> by_cases k4 : x ≤ a <;> by_cases k5 : b < -1 <;> by_cases k6 : x ≤ b <;> simp [k3, k4, k5, k6, k7, k8, Bw])
  (fun n => by rw [Dh, AM (by omega)]) N 0 (by omega) (by omega)
 simpa using this
theorem NZ (N : Nat) (p : Ae) (m : Ah) (hN : N ≤ 1000000) (h1 : p.fVersions.length < N) (h2 : m.fBase.length = p.fVersions.length) (h3 : m.fNext.length = p.fVersions.length) (j : Option Int) :
  BQ N p m (fun _ => j) N 0 = Bw (Df (JZ m) 0 p.fVersions) j := by
 have := Cx (BQ N p m (fun _ => j)) p.fVersions j (JZ m)
  (fun n i x hx => by
   have hi := (List.getElem?_eq_some_iff.1 hx).1
   rw [BQ, AN (by omega), show BT p.fVersions (i : Int) = some x from by rw [Bs, hx]]
   simp only [Option.bind_some, Bj]
   rw [Ct (d := 0) (by omega), Ct (d := 0) (by omega), AT (by omega)]
   simp only [Option.bind_some]
   unfold JZ
   generalize m.fBase.getD i 0 = a
   generalize m.fNext.getD i 0 = b
   by_cases k7 : a = b
   ·subst k7
    by_cases k3 : a < 0 <;> by_cases k4 : x ≤ a <;> by_cases k5 : a < -1 <;> simp [k3, k4, k5, Bw]
   ·have k8 : (a == b) = false := beq_eq_false_iff_ne.2 k7
    by_cases k3 : a < 0 <;> by_cases k4 : x ≤ a <;> by_cases k5 : b < -1 <;> by_cases k6 : x ≤ b <;> simp [k3, k4, k5, k6, k7, k8, Bw])
  (fun n => by rw [BQ, AM (by omega)]) N 0 (by omega) (by omega)
 simpa using this
end Go.Lift

/- The test of a mix, the whole: both implementations give one answer. -/
namespace Go.Lift
structure MixServ (p : Ae) (m : Ah) : Prop where
 base : m.fBase.length = p.fVersions.length
 next : m.fNext.length = p.fVersions.length
 held : m.fHeld.length = p.fTables.length
 b0 : ∀ i, i < p.fVersions.length → 0 ≤ m.fBase.getD i 0 ∧ m.fBase.getD i 0 < p.fVersions.getD i 0
 n0 : ∀ i, i < p.fVersions.length → -1 ≤ m.fNext.getD i 0 ∧ m.fNext.getD i 0 < p.fVersions.getD i 0
 ne : ∀ i, i < p.fVersions.length → m.fBase.getD i 0 ≠ m.fNext.getD i 0
theorem Nw {p : Ae} {m : Ah} (h2 : m.fBase.length = p.fVersions.length) (h3 : m.fNext.length = p.fVersions.length) (h4 : m.fHeld.length = p.fTables.length) (h : Df (JZ m) 0 p.fVersions = none) : MixServ p m := by
 have key : ∀ i, i < p.fVersions.length → ¬ (m.fBase.getD i 0 < 0 ∨ p.fVersions.getD i 0 ≤ m.fBase.getD i 0 ∨ m.fNext.getD i 0 < -1 ∨ p.fVersions.getD i 0 ≤ m.fNext.getD i 0) ∧ ¬ m.fBase.getD i 0 = m.fNext.getD i 0 := by
  intro i hi
  have hx : p.fVersions[i]? = some (p.fVersions.getD i 0) := by rw [List.getD_eq_getElem?_getD]; simp [hi]
  have := Ev h i _ hx
  rw [Nat.zero_add] at this
  unfold JZ at this
  split at this
  ·cases this
  ·split at this
   ·cases this
   ·rename_i k1 k2; exact ⟨k1, k2⟩
 exact ⟨h2, h3, h4, fun i hi => by have := (key i hi).1; omega, fun i hi => by have := (key i hi).1; omega, fun i hi => (key i hi).2⟩
theorem Ou {m : Ah} (hw : L2 KP m.fHeld) {i : Nat} (h : i < m.fHeld.length) : KP (m.fHeld.getD i 0) := by
 refine hw _ ?_
 rw [List.getD_eq_getElem?_getD, List.getElem?_eq_getElem h]
 exact List.getElem_mem _
theorem HS (N : Nat) (t : AC) : El N t = some (Bt t) := by
 unfold El Bt
 simp only [Bj]
 cases h : t.fKind == 3 <;> simp
theorem Fu (N : Nat) (t : AC) : AZ N t = some (Bt t) := KW N t
theorem PH (N : Nat) (p : Ae) (m : Ah) (hN : N ≤ 1000000) (h1 : p.fTables.length < N) (hp : B3 p) (hm : MixServ p m) (hw : L2 KP m.fHeld) (j : Option Int) :
  C0 N p m (fun _ => j) N 0 = Bw (Df (HL p m) 0 p.fTables) j := by
 have := Cx (C0 N p m (fun _ => j)) p.fTables j (HL p m)
  (fun n i x hx => by
   have hi := (List.getElem?_eq_some_iff.1 hx).1
   have hin := Gw (hp.tab x (List.mem_of_getElem? hx))
   have hheld := Ou hw (show i < m.fHeld.length from by rw [hm.held]; exact hi)
   have hv := IN hp.ver hin.1 hin.2.1
   rw [C0, AN (by omega), Bs, hx]
   simp only [Option.bind_some, Bj, HS]
   rw [JM N m x.fFrom hin.1 (by rw [hm.base]; exact hin.2.1) (by rw [hm.next]; exact hin.2.1) (hm.b0 _ (by omega)).1, DT (d := 0) hin.1 hin.2.1, Ct (d := 0) (show i < m.fHeld.length from by rw [hm.held]; exact hi), AT (by omega)]
   simp only [Option.bind_some]
   rw [show DK (0 ≤ p.fVersions.getD x.fFrom.toNat 0) = some () from by unfold DK; rw [if_pos (by omega)]]
   simp only [Option.bind_some]
   unfold HL So
   rw [QW hheld, Rx hheld]
   generalize CE .u8 (ET m x.fFrom.toNat) (m.fHeld.getD i 0) = A
   generalize CE .u8 (m.fHeld.getD i 0) (IntKind.wrap .u8 (C3 .u8 1 (p.fVersions.getD x.fFrom.toNat 0) - 1)) = B
   generalize m.fHeld.getD i 0 = H
   cases Bt x
   ·simp only [Aw, bne_self_eq_false]
    by_cases k : H = 0
    ·simp [k, Bw]
    ·have : (H != 0) = true := bne_iff_ne.2 k
     simp [k, this, Bw]
   ·simp only [AK]
    by_cases k : A = 0
    ·by_cases k2 : B = 0
     ·simp [k, k2, Bw]
     ·have : (B != 0) = true := bne_iff_ne.2 k2
      simp [k, k2, this, Bw]
    ·have : (A != 0) = true := bne_iff_ne.2 k
     simp [k, this, Bw])
  (fun n => by rw [C0, AM (by omega)]) N 0 (by omega) (by omega)
 simpa using this
theorem PA (N : Nat) (p : Ae) (m : Ah) (hN : N ≤ 1000000) (h1 : p.fTables.length < N) (hp : B3 p) (hm : MixServ p m) (j : Option Int) :
  BF N p m (fun _ => j) N 0 = Bw (Df (HL p m) 0 p.fTables) j := by
 have := Cx (BF N p m (fun _ => j)) p.fTables j (HL p m)
  (fun n i x hx => by
   have hi := (List.getElem?_eq_some_iff.1 hx).1
   have hin := Gw (hp.tab x (List.mem_of_getElem? hx))
   have hv := IN hp.ver hin.1 hin.2.1
   rw [BF, AN (by omega), Bs, hx]
   simp only [Option.bind_some, Bj, Fu]
   rw [In N m x.fFrom hin.1 (by rw [hm.base]; exact hin.2.1) (by rw [hm.next]; exact hin.2.1) (hm.b0 _ (by omega)).1, DT (d := 0) hin.1 hin.2.1, Ct (d := 0) (show i < m.fHeld.length from by rw [hm.held]; exact hi), AT (by omega)]
   simp only [Option.bind_some]
   rw [show DK (0 ≤ p.fVersions.getD x.fFrom.toNat 0) = some () from by unfold DK; rw [if_pos (by omega)]]
   simp only [Option.bind_some]
   unfold HL So
   generalize CE .u8 (ET m x.fFrom.toNat) (m.fHeld.getD i 0) = A
   generalize CE .u8 (m.fHeld.getD i 0) (IntKind.wrap .u8 (C3 .u8 1 (p.fVersions.getD x.fFrom.toNat 0) - 1)) = B
   generalize m.fHeld.getD i 0 = H
   cases Bt x
   ·simp only [Bool.not_false, AK, Aw]
    by_cases k : H = 0
    ·simp [k, Bw]
    ·have : (H != 0) = true := bne_iff_ne.2 k
     simp [k, this, Bw]
   ·simp only [Bool.not_true, Aw, AK]
    by_cases k : A = 0
    ·by_cases k2 : B = 0
     ·simp [k, k2, Bw]
     ·have : (B != 0) = true := bne_iff_ne.2 k2
      simp [k, k2, this, Bw]
    ·have : (A != 0) = true := bne_iff_ne.2 k
     by_cases k2 : B = 0
     ·simp [k, k2, this, Bw]
     ·have h5 : (B != 0) = true := bne_iff_ne.2 k2
      simp [k, h5, Bw])
  (fun n => by rw [BF, AM (by omega)]) N 0 (by omega) (by omega)
 simpa using this
theorem Ix (N : Nat) (p : Ae) (m : Ah) (hN : N ≤ 1000000) (h : 20 ≤ N) (hw : L2 KP m.fHeld) : Eg N p m = some (Eq p m) := by
 unfold Eg Eq
 rw [Id N p hN h]
 simp only [Option.bind_some, Bj]
 by_cases k0 : BJ p = 0
 ·have hp : B3 p := by
   rcases F6 p with h | h
   ·exact h.2
   ·omega
  have hnv := hp.nv
  have hnt := hp.nt
  rw [k0]
  simp only [bne_self_eq_false, Aw, ne_eq, not_true_eq_false, if_false]
  by_cases k1 : m.fBase.length = p.fVersions.length
  ·by_cases k2 : m.fNext.length = p.fVersions.length
   ·by_cases k3 : m.fHeld.length = p.fTables.length
    ·rw [k1, k2, k3]
     simp only [bne_self_eq_false, Aw, not_true_eq_false, or_self, if_false]
     rw [NW N p m hN (by omega) k1 k2]
     cases hs : Df (JZ m) 0 p.fVersions with
     | some r => rfl
     | none =>
      simp only [Bw]
      rw [PH N p m hN (by omega) hp (Nw k1 k2 k3 hs) hw]
      cases Df (HL p m) 0 p.fTables <;> rfl
    ·have : ((m.fHeld.length : Int) != (p.fTables.length : Int)) = true := bne_iff_ne.2 (by omega)
     rw [this, k1, k2]; simp [k3]
   ·have : ((m.fNext.length : Int) != (p.fVersions.length : Int)) = true := bne_iff_ne.2 (by omega)
    rw [this, k1]; simp [k2]
  ·have : ((m.fBase.length : Int) != (p.fVersions.length : Int)) = true := bne_iff_ne.2 (by omega)
   rw [this]; simp [k1]
 ·rw [bne_iff_ne.2 k0]; simp [k0]
theorem Is (N : Nat) (p : Ae) (m : Ah) (hN : N ≤ 1000000) (h : 20 ≤ N) : Cy N p m = some (Eq p m) := by
 unfold Cy Eq
 rw [JX N p hN h]
 simp only [Option.bind_some, Bj]
 by_cases k0 : BJ p = 0
 ·have hp : B3 p := by
   rcases F6 p with h | h
   ·exact h.2
   ·omega
  have hnv := hp.nv
  have hnt := hp.nt
  rw [k0]
  simp only [bne_self_eq_false, Aw, ne_eq, not_true_eq_false, if_false]
  by_cases k1 : m.fBase.length = p.fVersions.length
  ·by_cases k2 : m.fNext.length = p.fVersions.length
   ·by_cases k3 : m.fHeld.length = p.fTables.length
    ·rw [k1, k2, k3]
     simp only [bne_self_eq_false, Aw, not_true_eq_false, or_self, if_false]
     rw [NZ N p m hN (by omega) k1 k2]
     cases hs : Df (JZ m) 0 p.fVersions with
     | some r => rfl
     | none =>
      simp only [Bw]
      rw [PA N p m hN (by omega) hp (Nw k1 k2 k3 hs)]
      cases Df (HL p m) 0 p.fTables <;> rfl
    ·have : ((m.fHeld.length : Int) != (p.fTables.length : Int)) = true := bne_iff_ne.2 (by omega)
     rw [this, k1, k2]; simp [k3]
   ·have : ((m.fNext.length : Int) != (p.fVersions.length : Int)) = true := bne_iff_ne.2 (by omega)
    rw [this, k1]; simp [k2]
  ·have : ((m.fBase.length : Int) != (p.fVersions.length : Int)) = true := bne_iff_ne.2 (by omega)
   rw [this]; simp [k1]
 ·rw [bne_iff_ne.2 k0]; simp [k0]
end Go.Lift

/- Loops of the shallow programs as folds along lists. -/
namespace Go.Lift
@[simp] theorem Bb {α β : Type} (k : α) (f : α → β) : Bj k f = f k := rfl
@[simp] theorem RL {p : Prop} [Decidable p] (h : p) : DK p = some () := by unfold DK; rw [if_pos h]
theorem Az {β : Type} {p : Prop} [Decidable p] (h : p) (f : Unit → Option β) : (DK p).bind f = f () := by rw [RL h]; rfl
def Fe {α β : Type} (g : Nat → α → List β) : Nat → List α → List β
 | _, [] => []
 | i, x :: xs => g i x ++ Fe g (i + 1) xs
def GU {α A : Type} (f : Nat → α → A → A) : Nat → List α → A → A
 | _, [], a => a
 | i, x :: xs, a => GU f (i + 1) xs (f i x a)
theorem KX {α β : Type} {g : Nat → α → List β} {y : β} : ∀ {i : Nat} {xs : List α}, y ∈ Fe g i xs ↔ ∃ j x, xs[j]? = some x ∧ y ∈ g (i + j) x
 | _, [] => by simp [Fe]
 | i, x :: xs => by
  rw [Fe, List.mem_append, KX]
  constructor
  ·rintro (h | ⟨j, z, hz, h⟩)
   ·exact ⟨0, x, rfl, h⟩
   ·exact ⟨j + 1, z, by simpa using hz, by rwa [show i + (j + 1) = i + 1 + j from by omega]⟩
  ·rintro ⟨j, z, hz, h⟩
   cases j with
   | zero => simp at hz; subst hz; exact .inl h
   | succ j => exact .inr ⟨j, z, by simpa using hz, by rwa [show i + 1 + j = i + (j + 1) from by omega]⟩
theorem JH {α β : Type} {g : Nat → α → List β} {i : Nat} {xs : List α} : Fe g i xs = [] ↔ ∀ j x, xs[j]? = some x → g (i + j) x = [] := by
 rw [List.eq_nil_iff_forall_not_mem]
 constructor
 ·intro h j x hx
  rw [List.eq_nil_iff_forall_not_mem]
  exact fun y hy => h y (KX.2 ⟨j, x, hx, hy⟩)
 ·intro h y hy
  obtain ⟨j, x, hx, hm⟩ := KX.1 hy
  rw [h j x hx] at hm; cases hm
theorem HX {α β : Type} {g : Nat → α → List β} {c : Nat} : ∀ {i : Nat} {xs : List α}, (∀ j x, xs[j]? = some x → (g (i + j) x).length ≤ c) → (Fe g i xs).length ≤ c * xs.length
 | _, [], _ => by simp [Fe]
 | i, x :: xs, h => by
  have h1 := h 0 x rfl
  have h2 := HX (g := g) (c := c) (i := i + 1) (xs := xs) fun j y hy => by
   have := h (j + 1) y (by simpa using hy)
   rwa [show i + (j + 1) = i + 1 + j from by omega] at this
  rw [Fe, List.length_append, List.length_cons, Nat.mul_add]
  simp only [Nat.add_zero] at h1
  omega
theorem G7 {α A S R : Type} (L : Nat → S → Option R) (mk : A → Int → S) (xs : List α) (j : A → Option R) (f : Nat → α → A → A) (I : Nat → A → Prop)
  (hs : ∀ (n i : Nat) (x : α) (a : A), xs[i]? = some x → I i a → L (n + 1) (mk a (i : Int)) = L n (mk (f i x a) ((i + 1 : Nat) : Int)) ∧ I (i + 1) (f i x a))
  (he : ∀ (n : Nat) (a : A), I xs.length a → L (n + 1) (mk a (xs.length : Int)) = j a) :
  ∀ (n i : Nat) (a : A), i ≤ xs.length → xs.length - i < n → I i a → L n (mk a (i : Int)) = j (GU f i (xs.drop i) a) ∧ I xs.length (GU f i (xs.drop i) a)
 | 0, i, _, _, h, _ => by omega
 | n + 1, i, a, hi, h, ha => by
  by_cases h1 : i < xs.length
  ·have hx : xs[i]? = some xs[i] := by simp [h1]
   obtain ⟨e1, e2⟩ := hs n i _ a hx ha
   rw [e1, Jp hx, GU]
   exact G7 L mk xs j f I hs he n (i + 1) _ (by omega) (by omega) e2
  ·have : i = xs.length := by omega
   subst this
   rw [List.drop_eq_nil_of_le (Nat.le_refl _), GU]
   exact ⟨he n a ha, ha⟩
theorem L1 {α β : Type} (g : Nat → α → List β) : ∀ (i : Nat) (xs : List α) (acc : List β), GU (fun i x a => a ++ g i x) i xs acc = acc ++ Fe g i xs
 | _, [], acc => by simp [GU, Fe]
 | i, x :: xs, acc => by rw [GU, L1 g (i + 1) xs, Fe, List.append_assoc]
theorem Jq {α β S R : Type} (L : Nat → S → Option R) (mk : List β → Int → S) (xs : List α) (j : List β → Option R) (g : Nat → α → List β) (c B : Nat)
  (hg : ∀ i x, xs[i]? = some x → (g i x).length ≤ c)
  (hs : ∀ (n i : Nat) (x : α) (a : List β), xs[i]? = some x → a.length + (g i x).length ≤ B → L (n + 1) (mk a (i : Int)) = L n (mk (a ++ g i x) ((i + 1 : Nat) : Int)))
  (he : ∀ (n : Nat) (a : List β), L (n + 1) (mk a (xs.length : Int)) = j a) (n : Nat) (a : List β) (hn : xs.length < n) (ha : a.length + c * xs.length ≤ B) :
  L n (mk a 0) = j (a ++ Fe g 0 xs) := by
 have := G7 L mk xs j (fun i x a => a ++ g i x) (fun i b => i ≤ xs.length ∧ b.length ≤ a.length + c * i)
  (fun n i x b hx hb => by
   have h1 := hg i x hx
   have hi := (List.getElem?_eq_some_iff.1 hx).1
   have h2 : c * (i + 1) ≤ c * xs.length := Nat.mul_le_mul_left c hi
   have h3 : c * (i + 1) = c * i + c := Nat.mul_succ c i
   refine ⟨hs n i x b hx (by have := hb.2; omega), hi, ?_⟩
   rw [List.length_append]
   have := hb.2
   omega)
  (fun n b _ => he n b) n 0 a (Nat.zero_le _) (by omega) ⟨Nat.zero_le _, by omega⟩
 have h2 := this.1
 rw [List.drop_zero, L1] at h2
 exact h2
end Go.Lift

/- Sets as bits, the mixes that are valid, and the conflicts of a mix: both implementations give one answer. -/
namespace Go.Lift
def CC (s : Int) (v : Nat) : Bool := s.toNat.testBit v
def FL (m : Ah) (s v : Nat) : Bool := decide (m.fBase.getD s 0 = (v : Int)) || decide (m.fNext.getD s 0 = (v : Int))
theorem Sc : ∀ (s : Fin 256) (v : Fin 8), Fb .u8 (Ew .u8 (s.val : Int) (v.val : Int)) 1 = if CC (s.val : Int) v.val then 1 else 0 := by decide +kernel
theorem NQ {s : Int} {v : Nat} (h0 : 0 ≤ s) (h1 : s ≤ 255) (hv : v < 8) : Fb .u8 (Ew .u8 s (v : Int)) 1 = if CC s v then 1 else 0 := by
 obtain ⟨k, rfl⟩ := Int.eq_ofNat_of_zero_le h0
 exact Sc ⟨k, by omega⟩ ⟨v, hv⟩
theorem OK {s : Int} {v : Nat} (h0 : 0 ≤ s) (h1 : s ≤ 255) (hv : v < 8) : (Fb .u8 (Ew .u8 s (v : Int)) 1 == 0) = !CC s v := by
 rw [NQ h0 h1 hv]; cases CC s v <;> rfl
theorem OW {s : Int} {v : Nat} (h0 : 0 ≤ s) (h1 : s ≤ 255) (hv : v < 8) : (Fb .u8 (Ew .u8 s (v : Int)) 1 == 1) = CC s v := by
 rw [NQ h0 h1 hv]; cases CC s v <;> rfl
theorem Iy {s : Int} {v : Nat} (h1 : s ≤ 255) (hv : 8 ≤ v) : CC s v = false := by
 unfold CC
 apply Nat.testBit_lt_two_pow
 have : (2 : Nat) ^ 8 ≤ 2 ^ v := Nat.pow_le_pow_right (by omega) hv
 omega
theorem Iz : ∀ (b : Fin 8) (v : Fin 8), CC (C3 .u8 1 (b.val : Int)) v.val = decide (b.val = v.val) ∧ 0 ≤ C3 .u8 1 (b.val : Int) ∧ C3 .u8 1 (b.val : Int) ≤ 255 := by decide +kernel
theorem S9 : ∀ (b n : Fin 8) (v : Fin 8), CC (MB .u8 (C3 .u8 1 (b.val : Int)) (C3 .u8 1 (n.val : Int))) v.val = (decide (b.val = v.val) || decide (n.val = v.val))
  ∧ 0 ≤ MB .u8 (C3 .u8 1 (b.val : Int)) (C3 .u8 1 (n.val : Int)) ∧ MB .u8 (C3 .u8 1 (b.val : Int)) (C3 .u8 1 (n.val : Int)) ≤ 255 := by decide +kernel
theorem Ro {m : Ah} {s : Nat} (hb0 : 0 ≤ m.fBase.getD s 0) (hb1 : m.fBase.getD s 0 < 8) (hn1 : m.fNext.getD s 0 < 8) :
  (∀ v, CC (ET m s) v = FL m s v) ∧ 0 ≤ ET m s ∧ ET m s ≤ 255 := by
 unfold ET FL
 obtain ⟨b, hb⟩ := Int.eq_ofNat_of_zero_le hb0
 rw [hb] at hb1 ⊢
 by_cases h : 0 ≤ m.fNext.getD s 0
 ·obtain ⟨n, hn⟩ := Int.eq_ofNat_of_zero_le h
  rw [hn] at hn1 ⊢
  rw [if_pos (by omega)]
  have h1 := S9 ⟨b, by omega⟩ ⟨n, by omega⟩
  refine ⟨fun v => ?_, (h1 0).2⟩
  by_cases hv : v < 8
  ·rw [(h1 ⟨v, hv⟩).1]
   simp only [Int.ofNat_inj]
  ·rw [Iy (h1 0).2.2 (by omega)]
   simp; omega
 ·rw [if_neg h]
  have h1 := Iz ⟨b, by omega⟩
  refine ⟨fun v => ?_, (h1 0).2⟩
  have h3 : decide (m.fNext.getD s 0 = (v : Int)) = false := decide_eq_false (by omega)
  rw [h3, Bool.or_false]
  by_cases hv : v < 8
  ·rw [(h1 ⟨v, hv⟩).1]
   simp only [Int.ofNat_inj]
  ·rw [Iy (h1 0).2.2 (by omega)]
   simp; omega
theorem RE {a : Nat} (h : a < 256) : (BitVec.ofInt 8 (a : Int)).toNat = a := by
 simp; omega
theorem Mk {a b : Int} (ha : 0 ≤ a ∧ a ≤ 255) (hb : 0 ≤ b ∧ b ≤ 255) : CE .u8 a b = 0 ↔ ∀ v, CC a v = true → CC b v = true := by
 obtain ⟨a, rfl⟩ := Int.eq_ofNat_of_zero_le ha.1
 obtain ⟨b, rfl⟩ := Int.eq_ofNat_of_zero_le hb.1
 have hA := RE (a := a) (by omega)
 have hB := RE (a := b) (by omega)
 unfold CE CC
 simp only [IntKind.bits, Int.toNat_natCast]
 have hx : ∀ x : BitVec 8, IntKind.wrap .u8 (x.toNat : Int) = (x.toNat : Int) := by
  intro x
  have := x.isLt
  simp [IntKind.wrap, IntKind.signed, IntKind.bits]
  omega
 rw [hx]
 constructor
 ·intro h v hv
  have h0 : (BitVec.ofInt 8 (a : Int) &&& ~~~BitVec.ofInt 8 (b : Int)) = (BitVec.ofNat 8 0) := by
   apply BitVec.eq_of_toNat_eq
   simp only [BitVec.toNat_ofNat, Nat.zero_mod]
   exact Int.ofNat_inj.1 h
  by_cases hv8 : v < 8
  ·have h1 : (BitVec.ofInt 8 (a : Int) &&& ~~~BitVec.ofInt 8 (b : Int)).getLsbD v = false := by rw [h0]; simp
   rw [BitVec.getLsbD_and, BitVec.getLsbD_not] at h1
   have e1 : (BitVec.ofInt 8 (a : Int)).getLsbD v = a.testBit v := by unfold BitVec.getLsbD; rw [hA]
   have e2 : (BitVec.ofInt 8 (b : Int)).getLsbD v = b.testBit v := by unfold BitVec.getLsbD; rw [hB]
   rw [e1, e2, hv] at h1
   simpa [hv8] using h1
  ·have := Iy (s := (a : Int)) (v := v) (by omega) (by omega)
   unfold CC at this
   rw [Int.toNat_natCast, hv] at this
   cases this
 ·intro h
  have h0 : (BitVec.ofInt 8 (a : Int) &&& ~~~BitVec.ofInt 8 (b : Int)) = (BitVec.ofNat 8 0) := by
   apply BitVec.eq_of_getLsbD_eq
   intro i hi
   rw [BitVec.getLsbD_and, BitVec.getLsbD_not]
   have e1 : (BitVec.ofInt 8 (a : Int)).getLsbD i = a.testBit i := by unfold BitVec.getLsbD; rw [hA]
   have e2 : (BitVec.ofInt 8 (b : Int)).getLsbD i = b.testBit i := by unfold BitVec.getLsbD; rw [hB]
   rw [e1, e2]
   have := h i
   cases h3 : a.testBit i
   ·simp
   ·rw [this h3]; simp
  have h2 : ∀ x : BitVec 8, x = (BitVec.ofNat 8 0) → (x.toNat : Int) = 0 := fun x hx => by rw [hx]; rfl
  exact h2 _ h0
theorem Sz : ∀ n : Fin 9, (∀ v : Fin 8, CC (IntKind.wrap .u8 (C3 .u8 1 (n.val : Int) - 1)) v.val = decide (v.val < n.val)) ∧ 0 ≤ IntKind.wrap .u8 (C3 .u8 1 (n.val : Int) - 1) ∧ IntKind.wrap .u8 (C3 .u8 1 (n.val : Int) - 1) ≤ 255 := by decide +kernel
theorem S6 {n : Int} (h0 : 0 ≤ n) (h1 : n ≤ 8) : (∀ v, CC (IntKind.wrap .u8 (C3 .u8 1 n - 1)) v = decide ((v : Int) < n)) ∧ 0 ≤ IntKind.wrap .u8 (C3 .u8 1 n - 1) ∧ IntKind.wrap .u8 (C3 .u8 1 n - 1) ≤ 255 := by
 obtain ⟨n, rfl⟩ := Int.eq_ofNat_of_zero_le h0
 have h := Sz ⟨n, by omega⟩
 refine ⟨fun v => ?_, h.2⟩
 by_cases hv : v < 8
 ·rw [h.1 ⟨v, hv⟩]; simp
 ·rw [Iy h.2.2 (by omega)]
  symm; apply decide_eq_false; omega
structure Cw (p : Ae) (m : Ah) : Prop extends MixServ p m where
 range : ∀ i, i < p.fTables.length → 0 ≤ m.fHeld.getD i 0 ∧ m.fHeld.getD i 0 ≤ 255
 low : ∀ i t, p.fTables[i]? = some t → Bt t = true → ∀ v, FL m t.fFrom.toNat v = true → CC (m.fHeld.getD i 0) v = true
 high : ∀ i t, p.fTables[i]? = some t → Bt t = true → ∀ v, CC (m.fHeld.getD i 0) v = true → (v : Int) < p.fVersions.getD t.fFrom.toNat 0
 none : ∀ i t, p.fTables[i]? = some t → Bt t = false → m.fHeld.getD i 0 = 0
theorem Hd {p : Ae} (hp : B3 p) {i : Nat} (hi : i < p.fVersions.length) : 1 ≤ p.fVersions.getD i 0 ∧ p.fVersions.getD i 0 ≤ 6 := by
 have := IN (i := (i : Int)) hp.ver (by omega) (by omega)
 simpa using this
theorem Fz {p : Ae} {m : Ah} (hp : B3 p) (hm : MixServ p m) {s : Nat} (hs : s < p.fVersions.length) :
  (∀ v, CC (ET m s) v = FL m s v) ∧ 0 ≤ ET m s ∧ ET m s ≤ 255 := by
 have h1 := hm.b0 s hs
 have h2 := hm.n0 s hs
 have h3 := Hd hp hs
 exact Ro h1.1 (by omega) (by omega)
theorem Pk {p : Ae} {m : Ah} (hp : B3 p) (hm : MixServ p m) {i : Nat} {t : AC} (ht : p.fTables[i]? = some t) (hr : 0 ≤ m.fHeld.getD i 0 ∧ m.fHeld.getD i 0 ≤ 255) :
  HL p m i t = none ↔ ((Bt t = true → (∀ v, FL m t.fFrom.toNat v = true → CC (m.fHeld.getD i 0) v = true) ∧ (∀ v, CC (m.fHeld.getD i 0) v = true → (v : Int) < p.fVersions.getD t.fFrom.toNat 0)) ∧ (Bt t = false → m.fHeld.getD i 0 = 0)) := by
 have hin := Gw (hp.tab t (List.mem_of_getElem? ht))
 have hrun := Fz hp hm (s := t.fFrom.toNat) (by omega)
 have hver := Hd hp (i := t.fFrom.toNat) (by omega)
 have hall := S6 (n := p.fVersions.getD t.fFrom.toNat 0) (by omega) (by omega)
 unfold HL So
 have e1 := Mk hrun.2 hr
 have e2 := Mk hr hall.2
 cases hst : Bt t
 ·simp
 ·simp only [if_true, true_implies, Bool.true_eq_false, false_implies, and_true, ite_eq_right_iff, reduceCtorEq, imp_false, not_or, Decidable.not_not]
  rw [e1, e2]
  simp only [hrun.1, hall.1, decide_eq_true_eq]
theorem Hz {p : Ae} {m : Ah} (hw : L2 KP m.fHeld) (h : Eq p m = 0) : B3 p ∧ Cw p m := by
 unfold Eq at h
 split at h
 ·rename_i k; exact (k h).elim
 ·rename_i k0
  have hp : B3 p := by
   rcases F6 p with h | h
   ·exact h.2
   ·omega
  split at h
  ·cases h
  ·rename_i k1
   have b1 : m.fBase.length = p.fVersions.length := Decidable.not_not.1 fun h => k1 (.inl h)
   have b2 : m.fNext.length = p.fVersions.length := Decidable.not_not.1 fun h => k1 (.inr (.inl h))
   have b3 : m.fHeld.length = p.fTables.length := Decidable.not_not.1 fun h => k1 (.inr (.inr h))
   cases hs : Df (JZ m) 0 p.fVersions with
   | some r =>
    obtain ⟨j, x, _, he⟩ := Ed hs
    rw [hs] at h
    unfold JZ at he
    simp only [Bw, Option.getD_some] at h
    split at he
    ·cases he; cases h
    ·split at he
     ·cases he; cases h
     ·cases he
   | none =>
    have hm := Nw b1 b2 b3 hs
    rw [hs] at h
    simp only [Bw] at h
    cases ht : Df (HL p m) 0 p.fTables with
    | some r =>
     obtain ⟨j, x, _, he⟩ := Ed ht
     rw [ht] at h
     simp only [Option.getD_some] at h
     subst h
     unfold HL at he
     split at he
     ·split at he <;> cases he
     ·split at he <;> cases he
    | none =>
     have hr : ∀ i, i < p.fTables.length → 0 ≤ m.fHeld.getD i 0 ∧ m.fHeld.getD i 0 ≤ 255 := fun i hi => Hh (Ou hw (by omega))
     have key : ∀ i t, p.fTables[i]? = some t → _ := fun i t hi => (Pk hp hm hi (hr i (List.getElem?_eq_some_iff.1 hi).1)).1 (by have := Ev ht i t hi; rwa [Nat.zero_add] at this)
     exact ⟨hp, hm, hr, fun i t hi hst => ((key i t hi).1 hst).1, fun i t hi hst => ((key i t hi).1 hst).2, fun i t hi hst => (key i t hi).2 hst⟩
theorem DS {α R : Type} {f : Nat → α → Option R} : ∀ {i : Nat} {xs : List α}, (∀ j x, xs[j]? = some x → f (i + j) x = none) → Df f i xs = none
 | _, [], _ => rfl
 | i, y :: ys, h => by
  rw [GA, show f i y = none from h 0 y rfl]
  exact DS fun j x hx => by
   have := h (j + 1) x (by simpa using hx)
   rwa [show i + (j + 1) = i + 1 + j from by omega] at this
theorem Od {p : Ae} (hp : B3 p) (hr : ∀ i, i < p.fVersions.length → 0 ≤ p.fNow.getD i 0 ∧ p.fNow.getD i 0 < p.fVersions.getD i 0 ∧ 0 ≤ p.fTarget.getD i 0 ∧ p.fTarget.getD i 0 < p.fVersions.getD i 0) : BJ p = 0 := by
 have := hp.nv
 have := hp.nt
 have := hp.now
 have := hp.tgt
 unfold BJ
 rw [if_neg (by omega), if_neg (by omega)]
 have h1 : Df (EL p) 0 p.fVersions = none := DS fun j x hx => by
  have hj := (List.getElem?_eq_some_iff.1 hx).1
  have h1 := hr j hj
  have h2 := Hd hp hj
  have e : p.fVersions.getD j 0 = x := by rw [List.getD_eq_getElem?_getD, hx]; rfl
  rw [e] at h1 h2
  unfold EL
  rw [Nat.zero_add, if_neg (by omega)]
 have h2 : Df (Kn p) 0 p.fTables = none := DS fun j x hx => by
  unfold Kn
  rw [if_pos (hp.tab x (List.mem_of_getElem? hx))]
 rw [h1, h2]; rfl
theorem EV {p : Ae} (h : BJ p = 0) : B3 p ∧ ∀ i, i < p.fVersions.length → 0 ≤ p.fNow.getD i 0 ∧ p.fNow.getD i 0 < p.fVersions.getD i 0 ∧ 0 ≤ p.fTarget.getD i 0 ∧ p.fTarget.getD i 0 < p.fVersions.getD i 0 := by
 have hp : B3 p := by
  rcases F6 p with h | h
  ·exact h.2
  ·omega
 refine ⟨hp, fun i hi => ?_⟩
 have h1 := hp.nv
 have h2 := hp.nt
 have h3 := hp.now
 have h4 := hp.tgt
 unfold BJ at h
 rw [if_neg (by omega), if_neg (by omega)] at h
 cases hs : Df (EL p) 0 p.fVersions with
 | some r =>
  obtain ⟨j, x, _, he⟩ := Ed hs
  rw [hs] at h
  unfold EL at he
  split at he
  ·cases he; cases h
  ·cases he
 | none =>
  have hx : p.fVersions[i]? = some (p.fVersions.getD i 0) := by rw [List.getD_eq_getElem?_getD]; simp [hi]
  have := Ev hs i _ hx
  rw [Nat.zero_add] at this
  unfold EL at this
  split at this
  ·cases this
  ·rename_i hn; omega
theorem Hy {p : Ae} {m : Ah} (hv : BJ p = 0) (hm : Cw p m) : Eq p m = 0 := by
 obtain ⟨hp, _⟩ := EV hv
 unfold Eq
 rw [hv, if_neg (by simp), if_neg (by have := hm.base; have := hm.next; have := hm.held; omega)]
 have h1 : Df (JZ m) 0 p.fVersions = none := DS fun j x hx => by
  have hj := (List.getElem?_eq_some_iff.1 hx).1
  have e : p.fVersions.getD j 0 = x := by rw [List.getD_eq_getElem?_getD, hx]; rfl
  have h1 := hm.b0 j hj
  have h2 := hm.n0 j hj
  have h3 := hm.ne j hj
  rw [e] at h1 h2
  unfold JZ
  rw [Nat.zero_add, if_neg (by omega), if_neg h3]
 have h2 : Df (HL p m) 0 p.fTables = none := DS fun j x hx => by
  have hj := (List.getElem?_eq_some_iff.1 hx).1
  rw [Nat.zero_add]
  exact (Pk hp hm.toMixServ hx (hm.range j hj)).2 ⟨fun hst => ⟨hm.low j x hx hst, hm.high j x hx hst⟩, fun hst => hm.none j x hx hst⟩
 rw [h1, h2]; rfl
end Go.Lift

/- The conflicts of a mix: both implementations give one answer. -/
namespace Go.Lift
def Mt {α : Type} (g : Nat → α → Bool) : Nat → List α → Bool
 | _, [] => false
 | i, x :: xs => g i x || Mt g (i + 1) xs
theorem JQ {α β : Type} (g : Nat → α → List β) (h : Nat → α → Bool) : ∀ (i : Nat) (xs : List α) (a : List β) (b : Bool),
  GU (fun i x (s : List β × Bool) => (s.1 ++ g i x, s.2 || h i x)) i xs (a, b) = (a ++ Fe g i xs, b || Mt h i xs)
 | _, [], a, b => by simp [GU, Fe, Mt]
 | i, x :: xs, a, b => by rw [GU, JQ g h, Fe, Mt, List.append_assoc, Bool.or_assoc]
def gC (i u : Nat) (m : Ah) (t : AC) (v : Nat) (ok : Bool) : List Aj :=
 if FL m t.fTo.toNat v && (!ok && !t.fAware) then [⟨(i : Int), (u : Int), (v : Int)⟩] else []
def hC (m : Ah) (t : AC) (v : Nat) (ok : Bool) : Bool := FL m t.fTo.toNat v && ok
def GS (i : Nat) (m : Ah) (t : AC) (u : Nat) (row : List Bool) : List Aj :=
 Fe (gC i u m t) 0 row ++ if t.fAware && !Mt (hC m t) 0 row then [⟨(i : Int), (u : Int), -1⟩] else []
def Pr (m : Ah) (i : Nat) (t : AC) (u : Nat) : Bool := if Bt t then CC (m.fHeld.getD i 0) u else FL m t.fFrom.toNat u
def HB (m : Ah) (i : Nat) (t : AC) : List Aj := Fe (fun u row => if Pr m i t u then GS i m t u row else []) 0 t.fOK
def D4 (p : Ae) (m : Ah) : List Aj := Fe (HB m) 0 p.fTables
structure Mn (p : Ae) (t : AC) : Prop where
 kind : 1 ≤ t.fKind ∧ t.fKind ≤ 4
 aware : t.fAware = true → Bt t = false
 from0 : 0 ≤ t.fFrom ∧ t.fFrom < (p.fVersions.length : Int)
 to0 : 0 ≤ t.fTo ∧ t.fTo < (p.fVersions.length : Int)
 okL : (t.fOK.length : Int) = p.fVersions.getD t.fFrom.toNat 0
 okR : ∀ row, row ∈ t.fOK → (row.length : Int) = p.fVersions.getD t.fTo.toNat 0
 reL : t.fKind = 4 → (t.fRewrite.length : Int) = p.fVersions.getD t.fFrom.toNat 0
 reR : ∀ row, row ∈ t.fRewrite → (row.length : Int) = p.fVersions.getD t.fFrom.toNat 0
 reD : t.fKind = 4 → Ht t.fRewrite = none
 reN : t.fKind ≠ 4 → t.fRewrite = []
theorem K7 {p : Ae} {t : AC} (h : Dn p t = 0) : Mn p t := by
 unfold Dn at h
 split at h
 ·cases h
 rename_i h1
 split at h
 ·cases h
 rename_i h2
 simp only at h
 split at h
 ·cases h
 rename_i h3
 have h3 : sq t.fOK (p.fVersions.getD t.fFrom.toNat 0) (p.fVersions.getD t.fTo.toNat 0) = true := by simpa using h3
 have h3 := LJ h3
 have ha : t.fAware = true → Bt t = false := by
  intro ha
  unfold Bt
  rw [Bool.or_eq_false_iff, beq_eq_false_iff_ne, beq_eq_false_iff_ne]
  exact ⟨fun hk => h1 (.inr (.inr ⟨ha, .inl hk⟩)), fun hk => h1 (.inr (.inr ⟨ha, .inr hk⟩))⟩
 split at h
 ·rename_i h4
  split at h
  ·cases h
  rename_i h5
  have h5 : sq t.fRewrite (p.fVersions.getD t.fFrom.toNat 0) (p.fVersions.getD t.fFrom.toNat 0) = true := by simpa using h5
  have h5 := LJ h5
  refine ⟨by omega, ha, by omega, by omega, h3.1, h3.2, fun _ => h5.1, h5.2, fun _ => ?_, fun h => (h h4).elim⟩
  cases hd : Ht t.fRewrite with
  | none => rfl
  | some r =>
   obtain ⟨j, x, _, hx⟩ := Ed hd
   rw [hd] at h
   split at hx
   ·cases hx
   ·cases hx; cases h
 ·rename_i h4
  split at h
  ·rename_i h5
   have h5 := List.eq_nil_of_length_eq_zero h5
   refine ⟨by omega, ha, by omega, by omega, h3.1, h3.2, fun h => (h4 h).elim, fun row hr => ?_, fun h => (h4 h).elim, fun _ => h5⟩
   rw [h5] at hr; cases hr
  ·cases h
theorem Jk {R : Type} (b : Bool) (acc : List Aj) (x : Aj) (j : List Aj → Option R) (h : acc.length + 1 ≤ Dj) :
  AY b ((DK (acc.length + ([x] : List Aj).length ≤ Dj)).bind fun _ => j (acc ++ [x])) (j acc) = j (acc ++ if b then [x] else []) := by
 cases b
 ·simp
 ·rw [AK, Az (by simpa using h)]; rfl
theorem Ph (N : Nat) (m : Ah) (t : AC) (i u : Nat) (row : List Bool) (R : Int) (b1 b2 acc : List Aj) (j : List Aj × Bool → Option (List Aj))
  (hN : N ≤ 1000000) (h8 : 8 ≤ N) (hrow : row.length ≤ 6) (hacc : acc.length + 6 ≤ Dj) (hR0 : 0 ≤ R) (hR1 : R ≤ 255) (hRb : ∀ v, CC R v = FL m t.fTo.toNat v) :
  BI N (b1, (i : Int)) t R (b2, (u : Int)) row j N (acc, false, 0) = j (acc ++ Fe (gC i u m t) 0 row, Mt (hC m t) 0 row) := by
 have := G7 (A := List Aj × Bool) (BI N (b1, (i : Int)) t R (b2, (u : Int)) row j) (fun a k => (a.1, a.2, k)) row (fun a => j a) (fun v ok s => (s.1 ++ gC i u m t v ok, s.2 || hC m t v ok))
  (fun v a => v ≤ row.length ∧ a.1.length ≤ acc.length + v)
  (fun n v ok a hx ha => by
   have hv := (List.getElem?_eq_some_iff.1 hx).1
   obtain ⟨c, f⟩ := a
   simp only at ha
   refine ⟨?_, by omega, ?_⟩
   ·rw [BI]
    simp only [Bb]
    rw [AN (by omega), Bs, hx]
    simp only [Option.bind_some]
    rw [Az (by omega), OK hR0 hR1 (by omega), hRb, AT (by omega), Jk _ _ _ (fun l => BI N (b1, (i : Int)) t R (b2, (u : Int)) row j n (l, true, ((v + 1 : Nat) : Int))) (by omega)]
    unfold gC hC
    rw [Jk _ _ _ (fun l => BI N (b1, (i : Int)) t R (b2, (u : Int)) row j n (l, ok, ((v + 1 : Nat) : Int))) (by omega)]
    cases FL m t.fTo.toNat v
    ·simp
    ·cases ok <;> cases f <;> cases t.fAware <;> simp
   ·simp only [gC, List.length_append]
    split <;> simp <;> omega)
  (fun n a _ => by
   rw [BI]
   simp only [Bb]
   rw [AM (by omega)]) N 0 (acc, false) (by omega) (by omega) ⟨by omega, by simp⟩
 have h2 := this.1
 rw [List.drop_zero, JQ, Bool.false_or] at h2
 exact h2
end Go.Lift

/- The conflicts of a mix: both implementations give one answer. -/
namespace Go.Lift
theorem LH {p : Ae} {t : AC} (hp : B3 p) (ht : Mn p t) : t.fOK.length ≤ 6 ∧ ∀ row, row ∈ t.fOK → row.length ≤ 6 := by
 have h1 := IN hp.ver ht.from0.1 ht.from0.2
 have h2 := IN hp.ver ht.to0.1 ht.to0.2
 have h3 := ht.okL
 exact ⟨by omega, fun row hr => by have := ht.okR row hr; omega⟩
theorem PJ (i u : Nat) (m : Ah) (t : AC) (v : Nat) (ok : Bool) : (gC i u m t v ok).length ≤ 1 := by
 unfold gC; split <;> simp
theorem PK (i : Nat) (m : Ah) (t : AC) (u : Nat) (row : List Bool) (h : row.length ≤ 6) : (GS i m t u row).length ≤ 7 := by
 unfold GS
 rw [List.length_append]
 have := HX (g := gC i u m t) (c := 1) (i := 0) (xs := row) (fun j x _ => PJ _ _ _ _ _ _)
 split <;> simp <;> omega
theorem Pt (i : Nat) (m : Ah) (t : AC) (u : Nat) (row : List Bool) (h : row.length ≤ 6) : (if Pr m i t u = true then GS i m t u row else []).length ≤ 7 := by
 have := PK i m t u row h
 split <;> simp <;> omega
theorem Lt {p : Ae} {t : AC} (hp : B3 p) (ht : Mn p t) (i : Nat) (m : Ah) : (HB m i t).length ≤ 42 := by
 have h1 := LH hp ht
 have := HX (g := fun u row => if Pr m i t u = true then GS i m t u row else []) (c := 7) (i := 0) (xs := t.fOK) (fun j x hx => Pt i m t _ x (h1.2 x (List.mem_of_getElem? hx)))
 unfold HB
 omega
theorem Ke (N : Nat) (p : Ae) (m : Ah) (t : AC) (i : Nat) (W R : Int) (b1 acc : List Aj) (j : List Aj → Option (List Aj))
  (hN : N ≤ 1000000) (h8 : 8 ≤ N) (hp : B3 p) (ht : Mn p t) (hacc : acc.length + 42 ≤ 10000) (hR0 : 0 ≤ R) (hR1 : R ≤ 255) (hRb : ∀ v, CC R v = FL m t.fTo.toNat v) (hW0 : 0 ≤ W) (hW1 : W ≤ 255) (hWb : ∀ v, CC W v = Pr m i t v) :
  BY N (b1, (i : Int)) t R W j N (acc, 0) = j (acc ++ HB m i t) := by
 have hl := LH hp ht
 exact Jq (BY N (b1, (i : Int)) t R W j) (fun a k => (a, k)) t.fOK j (fun u row => if Pr m i t u then GS i m t u row else []) 7 10000
  (fun u row hx => Pt i m t u row (hl.2 row (List.mem_of_getElem? hx)))
  (fun n u row a hx ha => by
   have hu := (List.getElem?_eq_some_iff.1 hx).1
   have hrow := hl.2 row (List.mem_of_getElem? hx)
   rw [BY]
   simp only [Bb]
   rw [AN (by omega), Az (by omega), OK hW0 hW1 (by omega), hWb, Bs, hx]
   simp only [Option.bind_some]
   rw [Ph N m t i u row R b1 a a _ hN h8 hrow (by unfold Dj; omega) hR0 hR1 hRb, AT (by omega)]
   cases hw : Pr m i t u
   ·simp
   ·simp only [Bool.not_true, Aw, if_true, GS]
    have h1 := HX (g := gC i u m t) (c := 1) (i := 0) (xs := row) (fun j x _ => PJ _ _ _ _ _ _)
    have := Jk (R := List Aj) (t.fAware && !Mt (hC m t) 0 row) (a ++ Fe (gC i u m t) 0 row) ⟨(i : Int), (u : Int), -1⟩ (fun l => BY N (b1, (i : Int)) t R W j n (l, ((u + 1 : Nat) : Int))) (by rw [List.length_append]; unfold Dj; rw [hw, if_pos rfl] at ha; omega)
    rw [← List.append_assoc, ← this]
    cases t.fAware <;> cases Mt (hC m t) 0 row <;> rfl)
  (fun n a => by
   rw [BY]
   simp only [Bb]
   rw [AM (by omega)]) N acc (by omega) (by omega)
theorem O9 (N : Nat) (p : Ae) (m : Ah) (t : AC) (i u : Nat) (row : List Bool) (b1 b2 acc : List Aj) (j : List Aj × Bool → Option (List Aj))
  (hN : N ≤ 1000000) (h8 : 8 ≤ N) (hp : B3 p) (hm : MixServ p m) (ht : Mn p t) (hu : t.fOK[u]? = some row) (hacc : acc.length + 6 ≤ Dj) :
  Bd N p m (b1, (i : Int)) t (b2, (u : Int)) j N (acc, false, 0) = j (acc ++ Fe (gC i u m t) 0 row, Mt (hC m t) 0 row) := by
 have hrow := (LH hp ht).2 row (List.mem_of_getElem? hu)
 have hR := Fz hp hm (s := t.fTo.toNat) (by have := ht.to0; omega)
 have hlen := ht.okR row (List.mem_of_getElem? hu)
 have hto := ht.to0
 have := G7 (A := List Aj × Bool) (Bd N p m (b1, (i : Int)) t (b2, (u : Int)) j) (fun a k => (a.1, a.2, k)) row (fun a => j a) (fun v ok s => (s.1 ++ gC i u m t v ok, s.2 || hC m t v ok))
  (fun v a => v ≤ row.length ∧ a.1.length ≤ acc.length + v)
  (fun n v ok a hx ha => by
   have hv := (List.getElem?_eq_some_iff.1 hx).1
   obtain ⟨c, f⟩ := a
   simp only at ha
   refine ⟨?_, by omega, ?_⟩
   ·rw [Bd]
    simp only [Bb]
    rw [DT (d := 0) hto.1 hto.2, In N m t.fTo hto.1 (by rw [hm.base]; exact hto.2) (by rw [hm.next]; exact hto.2) (hm.b0 _ (by omega)).1, Bs, hu]
    simp only [Option.bind_some]
    unfold B2
    rw [AN (by omega), Bs, hx, Az (by omega), OW hR.2.1 hR.2.2 (by omega), hR.1]
    simp only [Option.bind_some]
    rw [AT (by omega), Jk _ _ _ (fun l => Bd N p m (b1, (i : Int)) t (b2, (u : Int)) j n (l, true, ((v + 1 : Nat) : Int))) (by omega)]
    unfold gC hC
    rw [Jk _ _ _ (fun l => Bd N p m (b1, (i : Int)) t (b2, (u : Int)) j n (l, ok, ((v + 1 : Nat) : Int))) (by omega)]
    cases FL m t.fTo.toNat v
    ·simp
    ·cases ok <;> cases f <;> cases t.fAware <;> simp
   ·simp only [gC, List.length_append]
    split <;> simp <;> omega)
  (fun n a _ => by
   rw [Bd]
   simp only [Bb]
   rw [DT (d := 0) hto.1 hto.2]
   simp only [Option.bind_some]
   rw [AM (by omega)]) N 0 (acc, false) (by omega) (by omega) ⟨by omega, by simp⟩
 have h2 := this.1
 rw [List.drop_zero, JQ, Bool.false_or] at h2
 exact h2
theorem Kq (N : Nat) (p : Ae) (m : Ah) (t : AC) (i : Nat) (W : Int) (b1 acc : List Aj) (j : List Aj → Option (List Aj))
  (hN : N ≤ 1000000) (h8 : 8 ≤ N) (hp : B3 p) (hm : MixServ p m) (ht : Mn p t) (hacc : acc.length + 42 ≤ 10000) (hW0 : 0 ≤ W) (hW1 : W ≤ 255) (hWb : ∀ v, CC W v = Pr m i t v) :
  Bo N p m (b1, (i : Int)) t W j N (acc, 0) = j (acc ++ HB m i t) := by
 have hl := LH hp ht
 have hfr := ht.from0
 have hok := ht.okL
 exact Jq (Bo N p m (b1, (i : Int)) t W j) (fun a k => (a, k)) t.fOK j (fun u row => if Pr m i t u then GS i m t u row else []) 7 10000
  (fun u row hx => Pt i m t u row (hl.2 row (List.mem_of_getElem? hx)))
  (fun n u row a hx ha => by
   have hu := (List.getElem?_eq_some_iff.1 hx).1
   have hrow := hl.2 row (List.mem_of_getElem? hx)
   rw [Bo]
   simp only [Bb]
   rw [DT (d := 0) hfr.1 hfr.2]
   simp only [Option.bind_some]
   unfold B2
   rw [AN (by omega), Az (by omega), OW hW0 hW1 (by omega), hWb]
   simp only [Option.bind_some]
   rw [O9 N p m t i u row b1 a a _ hN h8 hp hm ht hx (by unfold Dj; omega), AT (by omega)]
   cases hw : Pr m i t u
   ·simp
   ·simp only [Bool.not_true, Aw, if_true, GS]
    have h1 := HX (g := gC i u m t) (c := 1) (i := 0) (xs := row) (fun j x _ => PJ _ _ _ _ _ _)
    have := Jk (R := List Aj) (t.fAware && !Mt (hC m t) 0 row) (a ++ Fe (gC i u m t) 0 row) ⟨(i : Int), (u : Int), -1⟩ (fun l => Bo N p m (b1, (i : Int)) t W j n (l, ((u + 1 : Nat) : Int))) (by rw [List.length_append]; unfold Dj; rw [hw, if_pos rfl] at ha; omega)
    rw [← List.append_assoc, ← this]
    cases t.fAware <;> cases Mt (hC m t) 0 row <;> rfl)
  (fun n a => by
   rw [Bo]
   simp only [Bb]
   rw [DT (d := 0) hfr.1 hfr.2]
   simp only [Option.bind_some]
   rw [AM (by omega)]) N acc (by omega) (by omega)
theorem KV (N : Nat) (p : Ae) (m : Ah) (hN : N ≤ 1000000) (h20 : 20 ≤ N) (hp : B3 p) (hm : Cw p m) : Er N p m = some (D4 p m) := by
 unfold Er
 have hnt := hp.nt
 rw [Jq (CI N p m _) (fun a k => (a, k)) p.fTables some (HB m) 42 9000
  (fun i t hx => Lt hp (K7 (hp.tab t (List.mem_of_getElem? hx))) i m)
  (fun n i t a hx ha => by
   have hi := (List.getElem?_eq_some_iff.1 hx).1
   have ht := K7 (hp.tab t (List.mem_of_getElem? hx))
   have hto := ht.to0
   have hfr := ht.from0
   have hR := Fz hp hm.toMixServ (s := t.fTo.toNat) (by omega)
   have hF := Fz hp hm.toMixServ (s := t.fFrom.toNat) (by omega)
   have hH := hm.range i hi
   rw [CI]
   simp only [Bb]
   rw [AN (by omega), Bs, hx]
   simp only [Option.bind_some, HS]
   rw [JM N m t.fFrom hfr.1 (by rw [hm.base]; exact hfr.2) (by rw [hm.next]; exact hfr.2) (hm.b0 _ (by omega)).1, JM N m t.fTo hto.1 (by rw [hm.base]; exact hto.2) (by rw [hm.next]; exact hto.2) (hm.b0 _ (by omega)).1, Ct (d := 0) (by rw [hm.held]; exact hi), AT (by omega)]
   simp only [Option.bind_some]
   cases hs : Bt t
   ·rw [Aw, Ke N p m t i _ _ a a _ hN (by omega) hp ht (by omega) hR.2.1 hR.2.2 hR.1 hF.2.1 hF.2.2 (fun v => by unfold Pr; rw [hs, hF.1]; rfl)]
   ·rw [AK, Ke N p m t i _ _ a a _ hN (by omega) hp ht (by omega) hR.2.1 hR.2.2 hR.1 hH.1 hH.2 (fun v => by unfold Pr; rw [hs]; rfl)])
  (fun n a => by
   rw [CI]
   simp only [Bb]
   rw [AM (by omega)]) N [] (by omega) (by simp; omega)]
 rfl
theorem K4 (N : Nat) (p : Ae) (m : Ah) (hN : N ≤ 1000000) (h20 : 20 ≤ N) (hp : B3 p) (hm : Cw p m) : DG N p m = some (D4 p m) := by
 unfold DG
 have hnt := hp.nt
 rw [Jq (B9 N p m _) (fun a k => (a, k)) p.fTables some (HB m) 42 9000
  (fun i t hx => Lt hp (K7 (hp.tab t (List.mem_of_getElem? hx))) i m)
  (fun n i t a hx ha => by
   have hi := (List.getElem?_eq_some_iff.1 hx).1
   have ht := K7 (hp.tab t (List.mem_of_getElem? hx))
   have hto := ht.to0
   have hfr := ht.from0
   have hF := Fz hp hm.toMixServ (s := t.fFrom.toNat) (by omega)
   have hH := hm.range i hi
   rw [B9]
   simp only [Bb]
   rw [AN (by omega), Bs, hx]
   simp only [Option.bind_some, Fu]
   rw [In N m t.fFrom hfr.1 (by rw [hm.base]; exact hfr.2) (by rw [hm.next]; exact hfr.2) (hm.b0 _ (by omega)).1, Ct (d := 0) (by rw [hm.held]; exact hi), AT (by omega)]
   simp only [Option.bind_some]
   cases hs : Bt t
   ·rw [Aw, Kq N p m t i _ a a _ hN (by omega) hp hm.toMixServ ht (by omega) hF.2.1 hF.2.2 (fun v => by unfold Pr; rw [hs, hF.1]; rfl)]
   ·rw [AK, Kq N p m t i _ a a _ hN (by omega) hp hm.toMixServ ht (by omega) hH.1 hH.2 (fun v => by unfold Pr; rw [hs]; rfl)])
  (fun n a => by
   rw [B9]
   simp only [Bb]
   rw [AM (by omega)]) N [] (by omega) (by simp; omega)]
 rfl
end Go.Lift

/- The drafts: what the recipes give is a valid problem and a valid mix. -/
namespace Go.Lift
theorem EM {A S R : Type} (L : Nat → S → Option R) (mk : A → Int → S) (len : Nat) (j : A → Option R) (I : Nat → A → Prop)
  (hs : ∀ (n i : Nat) (a : A), i < len → I i a → ∃ a', L (n + 1) (mk a (i : Int)) = L n (mk a' ((i + 1 : Nat) : Int)) ∧ I (i + 1) a')
  (he : ∀ (n : Nat) (a : A), I len a → L (n + 1) (mk a (len : Int)) = j a) :
  ∀ (n i : Nat) (a : A), i ≤ len → len - i < n → I i a → ∃ a', L n (mk a (i : Int)) = j a' ∧ I len a'
 | 0, i, _, _, h, _ => by omega
 | n + 1, i, a, hi, h, ha => by
  by_cases h1 : i < len
  ·obtain ⟨a', e1, e2⟩ := hs n i a h1 ha
   rw [e1]
   exact EM L mk len j I hs he n (i + 1) _ (by omega) (by omega) e2
  ·have : i = len := by omega
   subst this
   exact ⟨a, he n a ha, ha⟩
theorem HF {α : Type} {xs ys : List α} {i : Nat} {d : α} (h : i < xs.length) : (xs ++ ys).getD i d = xs.getD i d := by
 rw [List.getD_eq_getElem?_getD, List.getD_eq_getElem?_getD, List.getElem?_append_left h]
theorem HG {α : Type} {xs : List α} {y : α} {i : Nat} {d : α} (h : i = xs.length) : (xs ++ [y]).getD i d = y := by
 subst h; rw [List.getD_eq_getElem?_getD, List.getElem?_append_right (Nat.le_refl _)]; simp
theorem LL {α : Type} {P : Nat → α → Prop} {xs : List α} {y : α} {d : α} {n : Nat} (hn : xs.length = n) (h : ∀ k, k < n → P k (xs.getD k d)) (hy : P n y) : ∀ k, k < n + 1 → P k ((xs ++ [y]).getD k d) := by
 intro k hk
 by_cases h1 : k < n
 ·rw [HF (by omega)]; exact h k h1
 ·have : k = n := by omega
  subst this
  rw [HG hn.symm]; exact hy
theorem Ql {l : List Int} (hw : L2 KP l) (i : Nat) : 0 ≤ l.getD i 0 ∧ l.getD i 0 ≤ 255 := by
 by_cases h : i < l.length
 ·have : l.getD i 0 ∈ l := by rw [List.getD_eq_getElem?_getD, List.getElem?_eq_getElem h]; exact List.getElem_mem _
  exact Hh (hw _ this)
 ·rw [List.getD_eq_getElem?_getD, List.getElem?_eq_none (by omega)]
  exact ⟨by decide, by decide⟩
theorem M9 (N : Nat) {l : List Int} (hw : L2 KP l) (i : Nat) : Dc N l (i : Int) = some (l.getD i 0) := by
 unfold Dc
 have h2 := Ql hw i
 by_cases h : i < l.length
 ·rw [AN (by omega), Ct (d := 0) h]
  simp only [Option.bind_some]
  rw [C9 (by omega) (by omega)]
 ·rw [AM (by omega), List.getD_eq_getElem?_getD, List.getElem?_eq_none (by omega)]; rfl
theorem Gy {a n : Int} (ha : 0 ≤ a) (hn : 0 < n) : 0 ≤ Int.tmod a n ∧ Int.tmod a n < n := ⟨Int.tmod_nonneg n ha, Int.tmod_lt_of_pos a hn⟩
end Go.Lift

/- The drafts of problems: what the recipe gives is a valid problem. -/
namespace Go.Lift
theorem Tq {l : List (List Bool)} {n m : Int} (h1 : (l.length : Int) = n) (h2 : ∀ row, row ∈ l → (row.length : Int) = m) : sq l n m = true := by
 unfold sq
 simp only [Bool.and_eq_true, decide_eq_true_eq, List.all_eq_true]
 exact ⟨h1, h2⟩
theorem Uk {p : Ae} {t : AC} (h : Mn p t) : Dn p t = 0 := by
 have hk := h.kind
 have hf := h.from0
 have ht := h.to0
 unfold Dn
 rw [if_neg, if_neg (by omega)]
 ·simp only [Tq h.okL h.okR]
  rw [if_neg (by simp)]
  by_cases h4 : t.fKind = 4
  ·rw [if_pos h4, Tq (h.reL h4) h.reR, if_neg (by simp), h.reD h4]; rfl
  ·rw [if_neg h4, h.reN h4]; rfl
 ·rintro (h1 | h1 | ⟨h1, h2⟩)
  ·omega
  ·omega
  ·have := h.aware h1
   unfold Bt at this
   rw [Bool.or_eq_false_iff, beq_eq_false_iff_ne, beq_eq_false_iff_ne] at this
   omega
theorem R0 (N : Nat) (m bad : Int) (diag : Bool) (i : Nat) (acc : List (List Bool)) {R : Type} (j : List Bool → Option (List (List Bool))) (hN : N ≤ 1000000) (h20 : 20 ≤ N) (hm : 0 ≤ m ∧ m ≤ 6) (hi : i < 6) :
  ∃ row, BV N m bad diag (acc, (i : Int)) j N ([], 0) = j row ∧ (row.length : Int) = m ∧ (diag = true → (i : Int) < m → row.getD i false = true) := by
 obtain ⟨M, rfl⟩ := Int.eq_ofNat_of_zero_le hm.1
 obtain ⟨row, e, h1, h2⟩ := EM (A := List Bool) (BV N (M : Int) bad diag (acc, (i : Int)) j) (fun a k => (a, k)) M j
  (fun k a => a.length = k ∧ ∀ q, q < k → diag = true → q = i → a.getD q false = true)
  (fun n k a hk ha => by
   refine ⟨a ++ [(diag && decide (i = k)) || (Int.tmod (Ew .u16 bad ((3 * i + k : Nat) : Int)) 2 == 0)], ?_, by simp [ha.1], LL (P := fun q y => diag = true → q = i → y = true) ha.1 ha.2 (fun h1 h2 => by simp [h1, h2])⟩
   rw [BV]
   simp only [Bb]
   rw [AN (by omega), AT (by omega), C9 (n := 3 * (i : Int)) (by omega) (by omega), C9 (n := 3 * (i : Int) + (k : Int)) (by omega) (by omega)]
   have l1 : ∀ y : Bool, a.length + ([y] : List Bool).length ≤ Dj := by intro y; rw [ha.1]; unfold Dj; simp; omega
   simp only [Az (l1 _), Az (show (0 : Int) ≤ 3 * (i : Int) + (k : Int) by omega)]
   have e1 : ((3 * i + k : Nat) : Int) = 3 * (i : Int) + (k : Int) := by omega
   rw [e1]
   have e2 : (((i : Nat) : Int) == ((k : Nat) : Int)) = decide (i = k) := by
    by_cases h : i = k
    ·simp [h]
    ·rw [decide_eq_false h]; exact beq_eq_false_iff_ne.2 (by omega)
   rw [e2]
   cases diag <;> cases decide (i = k) <;> rfl)
  (fun n a _ => by
   rw [BV]
   simp only [Bb]
   rw [AM (by omega)]) N 0 [] (Nat.zero_le _) (by omega) ⟨rfl, fun q hq => by omega⟩
 exact ⟨row, e, by omega, fun hd hlt => h2 i (by omega) hd rfl⟩
theorem P2 (N : Nat) (n m bad : Int) (diag : Bool) (hN : N ≤ 1000000) (h20 : 20 ≤ N) (hn : 0 ≤ n ∧ n ≤ 6) (hm : 0 ≤ m ∧ m ≤ 6) :
  ∃ l, Dd N n m bad diag = some l ∧ (l.length : Int) = n ∧ (∀ row, row ∈ l → (row.length : Int) = m) ∧ (diag = true → n = m → Ht l = none) := by
 obtain ⟨M, rfl⟩ := Int.eq_ofNat_of_zero_le hn.1
 unfold Dd
 obtain ⟨l, e, h1, h2⟩ := EM (A := List (List Bool)) (BX N (M : Int) m bad diag (fun v => some v)) (fun a k => (a, k)) M some
  (fun k a => a.length = k ∧ ∀ q, q < k → (((a.getD q []).length : Nat) : Int) = m ∧ (diag = true → (q : Int) < m → (a.getD q []).getD q false = true))
  (fun n k a hk ha => by
   obtain ⟨row, e, h1, h2⟩ := R0 (R := Unit) N m bad diag k a (fun (v5 : List Bool) =>
    (DK (a.length + (([v5] : List (List Bool))).length ≤ Dj)).bind fun _ =>
    BX N (M : Int) m bad diag (fun v => some v) n (a ++ (([v5] : List (List Bool))), (IntKind.wrap .i64 ((k : Int) + 1)))) hN h20 hm (by omega)
   refine ⟨a ++ [row], ?_, by simp [ha.1], LL (P := fun q y => ((y.length : Nat) : Int) = m ∧ (diag = true → (q : Int) < m → y.getD q false = true)) ha.1 ha.2 ⟨h1, h2⟩⟩
   rw [BX]
   simp only [Bb]
   rw [AN (by omega), e, Az (by rw [ha.1]; unfold Dj; simp; omega), AT (by omega)])
  (fun n a _ => by
   rw [BX]
   simp only [Bb]
   rw [AM (by omega)]) N 0 [] (Nat.zero_le _) (by omega) ⟨rfl, fun q hq => by omega⟩
 have key : ∀ q row, l[q]? = some row → l.getD q [] = row := fun q row hq => by rw [List.getD_eq_getElem?_getD, hq]; rfl
 refine ⟨l, e, by omega, fun row hr => ?_, fun hd hnm => ?_⟩
 ·obtain ⟨q, hq⟩ := List.mem_iff_getElem?.1 hr
  have := (h2 q (by have := (List.getElem?_eq_some_iff.1 hq).1; omega)).1
  rwa [key q row hq] at this
 ·unfold Ht
  refine DS fun q row hq => ?_
  have hlt := (List.getElem?_eq_some_iff.1 hq).1
  have := (h2 q (by omega)).2 hd (by omega)
  rw [key q row hq] at this
  rw [Nat.zero_add, this]; rfl
structure Tv (p : Ae) : Prop where
 valid : BJ p = 0
 nv : p.fVersions.length ≤ 3
 nt : p.fTables.length ≤ 4
 v3 : ∀ v, v ∈ p.fVersions → v ≤ 3
theorem Qs {p q : Ae} (h : p.fVersions = q.fVersions) (t : AC) : Dn p t = Dn q t := by
 unfold Dn; rw [h]
theorem We (N : Nat) (d : Ca) (hN : N ≤ 1000000) (h20 : 20 ≤ N) (hw : EO d) : ∃ p ok, Ej N d = some (p, ok) ∧ (ok = true → Tv p) := by
 obtain ⟨w1, w2, w3, w4, _⟩ := hw
 unfold Ej
 simp only [Bb]
 by_cases k1 : 3 < d.fVersions.length
 ·rw [AN (by omega)]; exact ⟨_, false, rfl, fun h => by cases h⟩
 by_cases k2 : 4 < d.fLinks.length
 ·rw [AM (by omega), decide_eq_true (by omega : (4 : Int) < (d.fLinks.length : Int))]; exact ⟨_, false, rfl, fun h => by cases h⟩
 rw [AM (by omega), decide_eq_false (by omega : ¬ (4 : Int) < (d.fLinks.length : Int)), Aw]
 obtain ⟨⟨vs, ns, ts⟩, e, h1, h2, h3, h4⟩ := EM (A := List Int × List Int × List Int) (Cc N d fun v5 => Bh N d v5 (fun v16 => some (Ae.mk v5.1 v5.2.1 v5.2.2 v16, true)) N ([], 0)) (fun a k => (a.1, a.2.1, a.2.2, k)) d.fVersions.length
  (fun v5 => Bh N d v5 (fun v16 => some (Ae.mk v5.1 v5.2.1 v5.2.2 v16, true)) N ([], 0))
  (fun i a => a.1.length = i ∧ a.2.1.length = i ∧ a.2.2.length = i ∧ (∀ k, k < i → (1 ≤ a.1.getD k 0 ∧ a.1.getD k 0 ≤ 3) ∧ (0 ≤ a.2.1.getD k 0 ∧ a.2.1.getD k 0 < a.1.getD k 0) ∧ (0 ≤ a.2.2.getD k 0 ∧ a.2.2.getD k 0 < a.1.getD k 0)))
  (fun n i a hi ha => by
   obtain ⟨vs, ns, ts⟩ := a
   obtain ⟨h1, h2, h3, h4⟩ := ha
   simp only at h1 h2 h3 h4
   have hv := Ql w1 i
   have hb := Ql w2 i
   have hk := Ql w3 i
   have hm := Gy (n := 3) hv.1 (by omega)
   obtain ⟨v, hvd⟩ : ∃ v, v = 1 + Int.tmod (d.fVersions.getD i 0) 3 := ⟨_, rfl⟩
   have m1 := Gy (n := v) hb.1 (by omega)
   have m2 := Gy (n := v) hk.1 (by omega)
   refine ⟨(vs ++ [v], ns ++ [Int.tmod (d.fNow.getD i 0) v], ts ++ [Int.tmod (d.fTarget.getD i 0) v]), ?_, by simp [h1], by simp [h2], by simp [h3], ?_⟩
   ·rw [Cc]
    simp only [Bb]
    rw [AN (by omega), Ct (d := 0) hi, M9 N w2, M9 N w3]
    simp only [Option.bind_some]
    rw [C9 (n := Int.tmod _ _) (by omega) (by omega), C9 (n := 1 + _) (by omega) (by omega), ← hvd, AT (by omega)]
    have l1 : ∀ y : Int, vs.length + ([y] : List Int).length ≤ Dj := by intro y; rw [h1]; unfold Dj; simp; omega
    have l2 : ∀ y : Int, ns.length + ([y] : List Int).length ≤ Dj := by intro y; rw [h2]; unfold Dj; simp; omega
    have l3 : ∀ y : Int, ts.length + ([y] : List Int).length ≤ Dj := by intro y; rw [h3]; unfold Dj; simp; omega
    simp only [Az (l1 _), Az (l2 _), Az (l3 _), Az (show v ≠ 0 by omega)]
   ·intro k hk
    simp only
    by_cases hki : k < i
    ·rw [HF (by omega), HF (by omega), HF (by omega)]; exact h4 k hki
    ·have : k = i := by omega
     subst this
     rw [HG h1.symm, HG h2.symm, HG h3.symm]
     omega)
  (fun n a _ => by
   rw [Cc]
   simp only [Bb]
   rw [AM (by omega)]) N 0 ([], [], []) (Nat.zero_le _) (by omega) ⟨rfl, rfl, rfl, fun k hk => by omega⟩
 simp only at h1 h2 h3 h4
 have e' : Cc N d (fun v5 => Bh N d v5 (fun v16 => some (Ae.mk v5.1 v5.2.1 v5.2.2 v16, true)) N ([], 0)) N ([], [], [], 0) = _ := e
 rw [e']
 have hvs : ∀ v, v ∈ vs → 1 ≤ v ∧ v ≤ 3 := by
  intro v hv
  obtain ⟨q, hq⟩ := List.mem_iff_getElem?.1 hv
  have := (h4 q (by have := (List.getElem?_eq_some_iff.1 hq).1; omega)).1
  rwa [List.getD_eq_getElem?_getD, hq] at this
 have fin : ∀ tabs : List AC, tabs.length ≤ 4 → (∀ t, t ∈ tabs → Dn ⟨vs, ns, ts, []⟩ t = 0) → Tv ⟨vs, ns, ts, tabs⟩ := by
  intro tabs ht h
  have hp : B3 ⟨vs, ns, ts, tabs⟩ := ⟨show vs.length ≤ 6 by omega, show tabs.length ≤ 12 by omega, show ns.length = vs.length by omega, show ts.length = vs.length by omega, fun v hv => by have := hvs v hv; omega, fun t ht => by rw [← h t ht]; exact Qs rfl t⟩
  exact ⟨Od hp fun i hi => by have := h4 i (by have : i < vs.length := hi; omega); simp only; omega, show vs.length ≤ 3 by omega, ht, fun v hv => (hvs v hv).2⟩
 by_cases k3 : vs.length = 0
 ·refine ⟨_, true, ?_, fun _ => fin [] (by simp) (fun t ht => by cases ht)⟩
  obtain ⟨M, rfl⟩ : ∃ M, N = M + 1 := ⟨N - 1, by omega⟩
  rw [Bh]
  simp only [Bb]
  rw [k3]
  by_cases k4 : (0 : Int) < (d.fLinks.length : Int)
  ·rw [AN k4]; rfl
  ·rw [AM k4]; rfl
 obtain ⟨tabs, e2, g1, g2⟩ := EM (A := List AC) (Bh N d (vs, ns, ts) (fun v16 => some (Ae.mk vs ns ts v16, true))) (fun a k => (a, k)) d.fLinks.length (fun v16 => some (Ae.mk vs ns ts v16, true))
  (fun i a => a.length = i ∧ ∀ t, t ∈ a → Dn ⟨vs, ns, ts, []⟩ t = 0)
  (fun n i a hi ha => by
   have hx : d.fLinks[i]? = some d.fLinks[i] := by simp [hi]
   generalize d.fLinks[i] = l at hx
   obtain ⟨u1, u2, u3, _, u5, u6, _⟩ := w4 l (List.mem_of_getElem? hx)
   have u1 := Hh u1
   have u2 := Hh u2
   have u3 := Hh u3
   have mk := Gy (n := 4) u1.1 (by omega)
   have hL : (0 : Int) < (vs.length : Int) := by omega
   have mf := Gy (n := (vs.length : Int)) u2.1 hL
   have mt := Gy (n := (vs.length : Int)) u3.1 hL
   rw [Bh]
   simp only [Bb]
   rw [AN (by omega), decide_eq_true hL, AK, Bs, hx]
   simp only [Option.bind_some]
   rw [Az (by omega), Az (by omega), C9 (n := l.fFrom) (by omega) (by omega), C9 (n := l.fTo) (by omega) (by omega), C9 (n := Int.tmod l.fKind 4) (by omega) (by omega), C9 (n := 1 + _) (by omega) (by omega), AT (by omega)]
   simp only [KW, Option.bind_some]
   rw [DT (d := 0) mf.1 mf.2, DT (d := 0) mt.1 mt.2]
   simp only [Option.bind_some]
   have hA : ∀ q : Int, 0 ≤ q → q < (vs.length : Int) → 1 ≤ vs.getD q.toNat 0 ∧ vs.getD q.toNat 0 ≤ 3 := fun q h0 h1 => (h4 q.toNat (by omega)).1
   have hf := hA _ mf.1 mf.2
   have ht := hA _ mt.1 mt.2
   obtain ⟨A, eA, a1, a2, _⟩ := P2 N (vs.getD (Int.tmod l.fFrom (vs.length : Int)).toNat 0) (vs.getD (Int.tmod l.fTo (vs.length : Int)).toNat 0) l.fBad false hN h20 (by omega) (by omega)
   obtain ⟨B, eB, b1, b2, b3⟩ := P2 N (vs.getD (Int.tmod l.fFrom (vs.length : Int)).toNat 0) (vs.getD (Int.tmod l.fFrom (vs.length : Int)).toNat 0) l.fLost true hN h20 (by omega) (by omega)
   rw [eA, eB]
   simp only [Option.bind_some]
   have l1 : ∀ y : AC, a.length + ([y] : List AC).length ≤ Dj := by intro y; rw [ha.1]; unfold Dj; simp; omega
   simp only [Az (l1 _)]
   obtain ⟨kd, hkd⟩ : ∃ kd, kd = 1 + Int.tmod l.fKind 4 := ⟨_, rfl⟩
   rw [← hkd]
   have fin2 : ∀ (aw : Bool) (re : List (List Bool)), (aw = true → (kd == 3 || kd == 4) = false) → ((kd = 4 → re = B) ∧ (kd ≠ 4 → re = [])) →
     Dn ⟨vs, ns, ts, []⟩ (AC.mk kd (Int.tmod l.fFrom (vs.length : Int)) (Int.tmod l.fTo (vs.length : Int)) aw A re) = 0 := by
    intro aw re haw hre
    refine Uk ⟨show 1 ≤ kd ∧ kd ≤ 4 by omega, haw, mf, mt, a1, a2, fun h => by rw [hre.1 h]; exact b1, fun row hr => ?_, fun h => by rw [hre.1 h]; exact b3 rfl rfl, fun h => hre.2 h⟩
    by_cases h4 : kd = 4
    ·simp only at hr; rw [hre.1 h4] at hr; exact b2 row hr
    ·simp only at hr; rw [hre.2 h4] at hr; cases hr
   have app : ∀ t, Dn ⟨vs, ns, ts, []⟩ t = 0 → (a ++ [t]).length = i + 1 ∧ ∀ t', t' ∈ a ++ [t] → Dn ⟨vs, ns, ts, []⟩ t' = 0 := by
    intro t ht
    refine ⟨by simp [ha.1], fun t' ht' => ?_⟩
    rcases List.mem_append.1 ht' with h | h
    ·exact ha.2 t' h
    ·rw [List.mem_singleton.1 h]; exact ht
   by_cases h4 : kd = 4
   ·have e4 : (kd == 4) = true := beq_iff_eq.2 h4
    have hre : (kd = 4 → B = B) ∧ (kd ≠ 4 → B = []) := ⟨fun _ => rfl, fun h => (h h4).elim⟩
    rw [e4]
    simp only [AK, Bool.or_true, Bool.not_true]
    cases l.fAware
    ·exact ⟨_, rfl, app _ (fin2 false B (fun h => by cases h) hre)⟩
    ·exact ⟨_, rfl, app _ (fin2 false B (fun h => by cases h) hre)⟩
   ·have e4 : (kd == 4) = false := beq_eq_false_iff_ne.2 h4
    have hre : (kd = 4 → ([] : List (List Bool)) = B) ∧ (kd ≠ 4 → ([] : List (List Bool)) = []) := ⟨fun h => (h4 h).elim, fun _ => rfl⟩
    rw [e4]
    simp only [Aw, Bool.or_false]
    cases l.fAware
    ·exact ⟨_, rfl, app _ (fin2 false [] (fun h => by cases h) hre)⟩
    ·cases e3 : kd == 3
     ·exact ⟨_, rfl, app _ (fin2 true [] (fun _ => by rw [e3, e4]; rfl) hre)⟩
     ·exact ⟨_, rfl, app _ (fin2 false [] (fun h => by cases h) hre)⟩)
  (fun n a _ => by
   rw [Bh]
   simp only [Bb]
   rw [AM (by omega), Aw]) N 0 [] (Nat.zero_le _) (by omega) ⟨rfl, fun t ht => by cases ht⟩
 exact ⟨_, true, e2, fun _ => fin tabs (by omega) g2⟩
end Go.Lift

/- The mixes that result from aborts: both implementations give one list. -/
namespace Go.Lift
def G1 : List Int → Nat → Nat
 | [], _ => 0
 | _, 0 => 0
 | n :: ns, q + 1 => (if 0 ≤ n then 1 else 0) + G1 ns q
theorem Hn (l : List Int) : G1 l 0 = 0 := by cases l <;> rfl
theorem Gg : ∀ (l : List Int) (q : Nat), q < l.length → G1 l (q + 1) = G1 l q + if 0 ≤ l.getD q 0 then 1 else 0
 | [], q, h => by simp at h
 | n :: ns, 0, _ => by simp [G1, Hn]
 | n :: ns, q + 1, h => by
  rw [G1, Gg ns q (by simpa using h), G1, List.getD_cons_succ, Nat.add_assoc]
theorem LP (l : List Int) {a b : Nat} (h : a ≤ b) (hb : b ≤ l.length) : G1 l a ≤ G1 l b := by
 induction b with
 | zero => rw [Nat.le_zero.1 h]; exact Nat.le_refl _
 | succ b ih =>
  by_cases h1 : a = b + 1
  ·rw [h1]; exact Nat.le_refl _
  ·have := ih (by omega) (by omega)
   rw [Gg l b (by omega)]; omega
theorem Jc (l : List Int) : ∀ q, q ≤ l.length → G1 l q ≤ q
 | 0, _ => by rw [Hn]; exact Nat.le_refl _
 | q + 1, h => by
  have := Jc l q (by omega)
  rw [Gg l q h]
  split <;> omega
def K3 (l : List Int) (k q : Nat) : Int := if 0 ≤ l.getD q 0 ∧ k.testBit (G1 l q) = true then -1 else l.getD q 0
def R6 (l : List Int) (k : Nat) : List Int := (List.range l.length).map (K3 l k)
def T5 (m : Ah) (k : Nat) : Ah := ⟨m.fBase, R6 m.fNext k, m.fHeld⟩
def EQ (m : Ah) : List Ah := (List.range (2 ^ G1 m.fNext m.fNext.length)).map (T5 m)
theorem Ku (l : List Int) (k : Nat) : (R6 l k).length = l.length := by simp [R6]
theorem N9 (l : List Int) (k q : Nat) (h : q < l.length) : (R6 l k).getD q 0 = K3 l k q := by
 unfold R6; rw [List.getD_eq_getElem?_getD, List.getElem?_map, List.getElem?_range h]; rfl
theorem Fq {l1 l2 : List Int} (h1 : l1.length = l2.length) (h : ∀ q, q < l1.length → l1.getD q 0 = l2.getD q 0) : l1 = l2 := by
 apply List.ext_getElem h1
 intro q h2 h3
 have := h q h2
 rw [List.getD_eq_getElem?_getD, List.getD_eq_getElem?_getD, List.getElem?_eq_getElem h2, List.getElem?_eq_getElem h3] at this
 exact this
theorem Qd : ∀ (k : Fin 64) (b : Fin 7), Fb .i64 (Ew .i64 (k.val : Int) (b.val : Int)) 1 = (if k.val.testBit b.val then 1 else 0) ∧ Int.tmod (Ew .i64 (k.val : Int) (b.val : Int)) 2 = (if k.val.testBit b.val then 1 else 0) := by decide +kernel
theorem S4 : ∀ n : Fin 7, C3 .i64 1 (n.val : Int) = ((2 ^ n.val : Nat) : Int) := by decide +kernel
structure L6 (m x : Ah) : Prop where
 base : x.fBase = m.fBase
 held : x.fHeld = m.fHeld
 len : x.fNext.length = m.fNext.length
 next : ∀ q, q < m.fNext.length → x.fNext.getD q 0 = m.fNext.getD q 0 ∨ (0 ≤ m.fNext.getD q 0 ∧ x.fNext.getD q 0 = -1)
theorem L6.refl (m : Ah) : L6 m m := ⟨rfl, rfl, rfl, fun _ _ => .inl rfl⟩
theorem L6.trans {a b c : Ah} (h1 : L6 a b) (h2 : L6 b c) : L6 a c :=
 ⟨h2.base.trans h1.base, h2.held.trans h1.held, h2.len.trans h1.len, fun q hq => by
  have e1 := h1.next q hq
  have e2 := h2.next q (by rw [h1.len]; exact hq)
  omega⟩
theorem RZ (m : Ah) (k : Nat) : L6 m (T5 m k) :=
 ⟨rfl, rfl, Ku _ _, fun q hq => by
  show (R6 m.fNext k).getD q 0 = _ ∨ _ ∧ (R6 m.fNext k).getD q 0 = _
  rw [N9 _ _ _ hq]; unfold K3
  split
  ·rename_i h; exact .inr ⟨h.1, rfl⟩
  ·exact .inl rfl⟩
theorem Qf : ∀ (l x : List Int), x.length = l.length → (∀ q, q < l.length → x.getD q 0 = l.getD q 0 ∨ (0 ≤ l.getD q 0 ∧ x.getD q 0 = -1)) → ∃ k, k < 2 ^ G1 l l.length ∧ ∀ q, q < l.length → x.getD q 0 = K3 l k q
 | [], x, h, _ => ⟨0, by simp [G1], fun q hq => by simp at hq⟩
 | n :: ns, [], h, _ => by simp at h
 | n :: ns, y :: ys, h, hq => by
  obtain ⟨k, hk, hk2⟩ := Qf ns ys (by simpa using h) (fun q hq' => by have := hq (q + 1) (by simpa using hq'); simpa using this)
  have h0 := hq 0 (by simp)
  simp only [List.getD_cons_zero] at h0
  by_cases hn : 0 ≤ n
  ·refine ⟨2 * k + if y = n then 0 else 1, ?_, ?_⟩
   ·rw [List.length_cons, G1, if_pos hn, Nat.pow_add]
    split <;> omega
   ·intro q hq'
    cases q with
    | zero =>
     simp only [List.getD_cons_zero, K3, Hn]
     by_cases hy : y = n
     ·simp [hy]
     ·rw [if_neg hy, if_pos ⟨hn, by simp⟩]; omega
    | succ q =>
     have := hk2 q (by simpa using hq')
     simp only [List.getD_cons_succ, K3, G1, if_pos hn] at this ⊢
     rw [this, Nat.add_comm 1, Nat.testBit_succ]
     have : (2 * k + if y = n then 0 else 1) / 2 = k := by split <;> omega
     rw [this]
  ·refine ⟨k, ?_, ?_⟩
   ·rw [List.length_cons, G1, if_neg hn, Nat.zero_add]; exact hk
   ·intro q hq'
    cases q with
    | zero =>
     simp only [List.getD_cons_zero, K3, Hn]
     rw [if_neg (fun h => hn h.1)]
     omega
    | succ q =>
     have := hk2 q (by simpa using hq')
     simp only [List.getD_cons_succ, K3, G1, if_neg hn, Nat.zero_add] at this ⊢
     exact this
theorem Io {m x : Ah} : x ∈ EQ m ↔ L6 m x := by
 unfold EQ
 rw [List.mem_map]
 constructor
 ·rintro ⟨k, _, rfl⟩; exact RZ m k
 ·intro h
  obtain ⟨k, hk, hq⟩ := Qf m.fNext x.fNext h.len h.next
  refine ⟨k, List.mem_range.2 hk, ?_⟩
  have : R6 m.fNext k = x.fNext := Fq (by rw [Ku, h.len]) fun q hq' => by
   rw [Ku] at hq'
   rw [N9 _ _ _ hq', hq q hq']
  unfold T5
  rw [this, ← h.base, ← h.held]
theorem TX {m x : Ah} (h : L6 m x) {s : Nat} (hs : s < m.fNext.length) {v : Nat} (hv : FL x s v = true) : FL m s v = true := by
 unfold FL at hv ⊢
 rw [h.base] at hv
 have := h.next s hs
 simp only [Bool.or_eq_true, decide_eq_true_eq] at hv ⊢
 omega
theorem Th {p : Ae} {m x : Ah} (hp : B3 p) (hm : Cw p m) (h : L6 m x) : Cw p x := by
 refine ⟨⟨by rw [h.base]; exact hm.base, by rw [h.len]; exact hm.next, by rw [h.held]; exact hm.held, fun i hi => by rw [h.base]; exact hm.b0 i hi, fun i hi => ?_, fun i hi => ?_⟩, fun i hi => by rw [h.held]; exact hm.range i hi, fun i t ht hs v hv => ?_, fun i t ht hs v hv => ?_, fun i t ht hs => by rw [h.held]; exact hm.none i t ht hs⟩
 ·have h1 := hm.n0 i hi
  have h2 := h.next i (by rw [hm.next]; exact hi)
  have h3 := Hd hp hi
  omega
 ·have h1 := hm.ne i hi
  have h2 := h.next i (by rw [hm.next]; exact hi)
  have h3 := hm.b0 i hi
  rw [h.base]
  omega
 ·have hin := (K7 (hp.tab t (List.mem_of_getElem? ht))).from0
  rw [h.held]
  exact hm.low i t ht hs v (TX h (by rw [hm.next]; omega) hv)
 ·rw [h.held] at hv
  exact hm.high i t ht hs v hv
theorem H4 (N : Nat) (l : List Int) (h : l.length ≤ Dj) : Bv N l = some l := by
 unfold Bv
 rw [Az (by simpa using h)]; rfl
theorem M6 (N : Nat) (l : List Int) (h : l.length ≤ Dj) : By N l = some l := by
 unfold By
 rw [Az (by simpa using h)]; rfl
theorem Fv {l : List Int} {i q : Nat} {y : Int} (hi : i < l.length) : (l.set i y).getD q 0 = if q = i then y else l.getD q 0 := by
 rw [List.getD_eq_getElem?_getD, List.getD_eq_getElem?_getD, List.getElem?_set]
 by_cases h : i = q
 ·subst h; simp [hi]
 ·rw [if_neg h, if_neg (fun e => h e.symm)]
theorem Tc {l : List Int} {a b : Nat} (ha : a < l.length) (hb : b < l.length) (h1 : 0 ≤ l.getD a 0) (h2 : 0 ≤ l.getD b 0) (h : G1 l a = G1 l b) : a = b := by
 rcases Nat.lt_trichotomy a b with h3 | h3 | h3
 ·have := LP l (a := a + 1) (b := b) h3 (by omega)
  rw [Gg l a ha, if_pos h1] at this; omega
 ·exact h3
 ·have := LP l (a := b + 1) (b := a) h3 (by omega)
  rw [Gg l b hb, if_pos h2] at this; omega
structure Q8 (l : List Int) (o : List Int) : Prop where
 len : o.length = G1 l l.length
 at_ : ∀ b, b < o.length → ∃ i : Nat, o.getD b 0 = (i : Int) ∧ i < l.length ∧ 0 ≤ l.getD i 0 ∧ G1 l i = b
theorem OL (N : Nat) (l o : List Int) (k : Nat) (acc : List Ah) (hN : N ≤ 1000000) (h20 : 20 ≤ N) (hl : l.length ≤ 6) (ho : Q8 l o) (hk : k < 64) (j : List Int → Option (List Ah × Int)) :
  Cr N o (acc, (k : Int)) j N (l, 0) = j (R6 l k) := by
 have hol := Jc l l.length (Nat.le_refl _)
 have hoL := ho.len
 obtain ⟨x, e, h1, h2⟩ := EM (A := List Int) (Cr N o (acc, (k : Int)) j) (fun a k => (a, k)) o.length j
  (fun b a => a.length = l.length ∧ ∀ q, q < l.length → a.getD q 0 = if 0 ≤ l.getD q 0 ∧ G1 l q < b ∧ k.testBit (G1 l q) = true then -1 else l.getD q 0)
  (fun n b a hb ha => by
   obtain ⟨i, hi1, hi2, hi3, hi4⟩ := ho.at_ b hb
   have hbit := Qd ⟨k, hk⟩ ⟨b, by omega⟩
   rw [Cr]
   simp only [Bb]
   rw [AN (by omega), Ct (d := 0) hb]
   simp only [Option.bind_some]
   rw [Az (by omega), hi1, hbit.1, Ct (d := 0) (show i < a.length by rw [ha.1]; exact hi2), AT (by omega)]
   simp only [Option.bind_some, Int.toNat_natCast]
   cases hkb : k.testBit b
   ·refine ⟨a, rfl, ha.1, fun q hq => ?_⟩
    rw [ha.2 q hq]
    by_cases hqb : G1 l q = b
    ·rw [hqb, hkb]; simp
    ·by_cases h3 : G1 l q < b
     ·have : G1 l q < b + 1 := by omega
      simp [h3, this]
     ·have : ¬ G1 l q < b + 1 := by omega
      simp [h3, this]
   ·refine ⟨a.set i (-1), rfl, by simp [ha.1], fun q hq => ?_⟩
    rw [Fv (by rw [ha.1]; exact hi2), ha.2 q hq]
    by_cases hqi : q = i
    ·subst hqi
     rw [if_pos rfl, if_pos ⟨hi3, by omega, by rw [hi4]; exact hkb⟩]
    ·rw [if_neg hqi]
     by_cases h0 : 0 ≤ l.getD q 0
     ·have hne : G1 l q ≠ b := fun h => hqi (Tc hq hi2 h0 hi3 (by omega))
      by_cases h3 : G1 l q < b
      ·have : G1 l q < b + 1 := by omega
       simp [h3, this]
      ·have : ¬ G1 l q < b + 1 := by omega
       simp [h3, this]
     ·rw [if_neg (fun h => h0 h.1), if_neg (fun h => h0 h.1)])
  (fun n a _ => by
   rw [Cr]
   simp only [Bb]
   rw [AM (by omega)]) N 0 l (Nat.zero_le _) (by omega) ⟨rfl, fun q hq => by simp⟩
 have e' : Cr N o (acc, (k : Int)) j N (l, 0) = j x := e
 rw [e']
 congr 1
 refine Fq (by rw [Ku, h1]) fun q hq => ?_
 rw [h1] at hq
 rw [h2 q hq, N9 _ _ _ hq, K3]
 by_cases h0 : 0 ≤ l.getD q 0
 ·have h3 := LP l (a := q + 1) (b := l.length) hq (Nat.le_refl _)
  rw [Gg l q hq, if_pos h0] at h3
  have : G1 l q < o.length := by omega
  simp [this]
 ·rw [if_neg (fun h => h0 h.1), if_neg (fun h => h0 h.1)]
theorem OZ (N : Nat) (m : Ah) (k : Nat) (acc : List Ah) (hN : N ≤ 1000000) (h20 : 20 ≤ N) (hl : m.fNext.length ≤ 6) (hk : k < 64) (j : List Int → Option (List Ah)) :
  BD N m (acc, (k : Int)) j N (m.fNext, 0, 0) = j (R6 m.fNext k) := by
 obtain ⟨⟨x, pl⟩, e, h1, h2, h3⟩ := EM (A := List Int × Nat) (BD N m (acc, (k : Int)) j) (fun a k => (a.1, (a.2 : Int), k)) m.fNext.length (fun a => j a.1)
  (fun i a => a.2 = G1 m.fNext i ∧ a.1.length = m.fNext.length ∧ ∀ q, q < m.fNext.length → a.1.getD q 0 = if q < i then K3 m.fNext k q else m.fNext.getD q 0)
  (fun n i a hi ha => by
   obtain ⟨a, pl⟩ := a
   obtain ⟨a1, a2, a3⟩ := ha
   simp only at a1 a2 a3
   have hple := Jc m.fNext i (by omega)
   have hbit := Qd ⟨k, hk⟩ ⟨pl, by omega⟩
   have hs := Gg m.fNext i hi
   rw [BD]
   simp only [Bb]
   rw [AN (by omega), Ct (d := 0) hi]
   simp only [Option.bind_some]
   rw [AT (by omega)]
   by_cases h0 : m.fNext.getD i 0 < 0
   ·rw [AN h0]
    refine ⟨(a, pl), rfl, by simp only; rw [hs, if_neg (by omega), a1]; rfl, a2, fun q hq => ?_⟩
    simp only
    rw [a3 q hq]
    by_cases hqi : q = i
    ·subst hqi
     rw [if_neg (by omega), if_pos (by omega), K3, if_neg (by omega)]
    ·by_cases h4 : q < i
     ·rw [if_pos h4, if_pos (by omega)]
     ·rw [if_neg h4, if_neg (by omega)]
   ·rw [AM h0, Az (by omega), Ct (d := 0) (show i < a.length by omega), hbit.2, AT (by omega)]
    simp only [Option.bind_some, Int.toNat_natCast]
    cases hkb : k.testBit pl
    ·refine ⟨(a, pl + 1), rfl, by simp only; rw [hs, if_pos (by omega), a1], a2, fun q hq => ?_⟩
     simp only
     rw [a3 q hq]
     by_cases hqi : q = i
     ·subst hqi
      rw [if_neg (by omega), if_pos (by omega), K3, ← a1, hkb]; simp
     ·by_cases h4 : q < i
      ·rw [if_pos h4, if_pos (by omega)]
      ·rw [if_neg h4, if_neg (by omega)]
    ·refine ⟨(a.set i (-1), pl + 1), rfl, by simp only; rw [hs, if_pos (by omega), a1], by simp [a2], fun q hq => ?_⟩
     simp only
     rw [Fv (by omega), a3 q hq]
     by_cases hqi : q = i
     ·subst hqi
      rw [if_pos rfl, if_pos (by omega), K3, ← a1, if_pos ⟨by omega, hkb⟩]
     ·rw [if_neg hqi]
      by_cases h4 : q < i
      ·rw [if_pos h4, if_pos (by omega)]
      ·rw [if_neg h4, if_neg (by omega)])
  (fun n a _ => by
   rw [BD]
   simp only [Bb]
   rw [AM (by omega)]) N 0 (m.fNext, 0) (Nat.zero_le _) (by omega) ⟨(Hn _).symm, rfl, fun q hq => by simp⟩
 have e' : BD N m (acc, (k : Int)) j N (m.fNext, 0, 0) = j x := e
 rw [e']
 congr 1
 simp only at h2 h3
 refine Fq (by rw [Ku, h2]) fun q hq => ?_
 rw [h2] at hq
 rw [h3 q hq, if_pos hq, N9 _ _ _ hq]
end Go.Lift

/- Aborts, the first mix that is to blame, and robustness: both implementations give one answer. -/
namespace Go.Lift
theorem Q1 (N : Nat) (m : Ah) (hN : N ≤ 1000000) (h20 : 20 ≤ N) (hl : m.fNext.length ≤ 6) (j : List Int → Option (List Ah × Int)) :
  ∃ o, CZ N m j N ([], 0) = j o ∧ Q8 m.fNext o := by
 obtain ⟨o, e, h1, h2⟩ := EM (A := List Int) (CZ N m j) (fun a k => (a, k)) m.fNext.length j
  (fun i o => o.length = G1 m.fNext i ∧ ∀ b, b < o.length → ∃ q : Nat, o.getD b 0 = (q : Int) ∧ q < m.fNext.length ∧ 0 ≤ m.fNext.getD q 0 ∧ G1 m.fNext q = b)
  (fun n i o hi ho => by
   have hple := Jc m.fNext i (by omega)
   have hs := Gg m.fNext i hi
   rw [CZ]
   simp only [Bb]
   rw [AN (by omega), Ct (d := 0) hi]
   simp only [Option.bind_some]
   rw [AT (by omega)]
   by_cases h0 : 0 ≤ m.fNext.getD i 0
   ·rw [AN h0, Az (by rw [ho.1]; unfold Dj; simp; omega)]
    refine ⟨o ++ [(i : Int)], rfl, by rw [hs, if_pos h0, ← ho.1]; simp, ?_⟩
    rw [List.length_append]
    exact LL (P := fun b y => ∃ q : Nat, y = (q : Int) ∧ q < m.fNext.length ∧ 0 ≤ m.fNext.getD q 0 ∧ G1 m.fNext q = b) rfl ho.2 ⟨i, rfl, hi, h0, ho.1.symm⟩
   ·rw [AM h0]
    exact ⟨o, rfl, by rw [hs, if_neg h0, ho.1]; rfl, ho.2⟩)
  (fun n a _ => by
   rw [CZ]
   simp only [Bb]
   rw [AM (by omega)]) N 0 [] (Nat.zero_le _) (by omega) ⟨(Hn _).symm, fun b hb => by simp at hb⟩
 exact ⟨o, e, h1, h2⟩
theorem JN {n : Nat} (h : n ≤ 6) : 2 ^ n ≤ 64 := Nat.pow_le_pow_right (n := 2) (by omega) h
theorem LI {n : Nat} (h : n ≤ 6) : C3 .i64 1 (n : Int) = ((2 ^ n : Nat) : Int) := S4 ⟨n, by omega⟩
theorem I9 {β : Type} (f : Nat → β) (n : Nat) : (List.range (n + 1)).map f = (List.range n).map f ++ [f n] := by
 rw [List.range_succ, List.map_append]; rfl
theorem ME (N : Nat) (p : Ae) (m : Ah) (hN : N ≤ 1000000) (h20 : 100 ≤ N) (hw : L2 KP m.fHeld) (hv : Eq p m = 0) : FB N p m = some (EQ m, 0) := by
 obtain ⟨hp, hm⟩ := Hz hw hv
 have hnv := hp.nv
 have hnt := hp.nt
 have hl : m.fNext.length ≤ 6 := by rw [hm.next]; omega
 unfold FB
 rw [Ix N p m hN (by omega) hw, hv]
 simp only [Option.bind_some, bne_self_eq_false, Aw]
 obtain ⟨o, e, ho⟩ := Q1 N m hN (by omega) hl (fun (v4 : (List Int)) =>
   (DK (0 ≤ (v4.length : Int))).bind fun _ =>
   Cq N m v4 (fun (v12 : (List Ah)) =>
    some (v12, 0)) N (([] : List Ah), 0))
 rw [e, Az (by omega)]
 have hoL := ho.len
 have hol := Jc m.fNext m.fNext.length (Nat.le_refl _)
 have hpow := JN (show G1 m.fNext m.fNext.length ≤ 6 by omega)
 obtain ⟨a, e2, h1⟩ := EM (A := List Ah) (Cq N m o fun v12 => some (v12, 0)) (fun a k => (a, k)) (2 ^ G1 m.fNext m.fNext.length) (fun v12 => some (v12, 0))
  (fun i a => a = (List.range i).map (T5 m))
  (fun n i a hi ha => by
   refine ⟨a ++ [T5 m i], ?_, by rw [I9, ha]⟩
   have hal : a.length = i := by rw [ha]; simp
   rw [Cq]
   rw [hoL, LI (n := G1 m.fNext m.fNext.length) (by omega), AN (by omega), H4 N m.fBase (by have := hm.base; unfold Dj; omega), H4 N m.fNext (by unfold Dj; omega), M6 N m.fHeld (by have := hm.held; unfold Dj; omega)]
   simp only [Option.bind_some]
   rw [OL N m.fNext o i a hN (by omega) hl ho (by omega), Az (by rw [hal]; unfold Dj; simp; omega), AT (by omega)]
   rfl)
  (fun n a _ => by
   rw [Cq]
   rw [hoL, LI (n := G1 m.fNext m.fNext.length) (by omega), AM (by simp)]) N 0 [] (Nat.zero_le _) (by omega) rfl
 have e2' : Cq N m o (fun v12 => some (v12, 0)) N ([], 0) = some (a, 0) := e2
 rw [e2', h1]; rfl
theorem PG (N : Nat) (m : Ah) (h1 : m.fBase.length ≤ Dj) (h2 : m.fNext.length ≤ Dj) (h3 : m.fHeld.length ≤ Dj) : Du N m = some m := by
 unfold Du
 rw [Az (by simpa using h1), Az (by simpa using h2), Az (by simpa using h3)]; rfl
theorem Ps (N : Nat) (m : Ah) (hN : N ≤ 1000000) (h20 : 100 ≤ N) (h1 : m.fBase.length ≤ 100) (hl : m.fNext.length ≤ 6) (h3 : m.fHeld.length ≤ 100) : Dw N m = some (EQ m) := by
 unfold Dw
 obtain ⟨c, e, hc⟩ := EM (A := Nat) (B7 N m (fun (v2 : Int) =>
  Bi N m v2 (fun (v8 : (List Ah)) => some v8) N (([] : List Ah), 0))) (fun a k => ((a : Int), k)) m.fNext.length (fun a => Bi N m (a : Int) (fun (v8 : (List Ah)) => some v8) N (([] : List Ah), 0))
  (fun i a => a = G1 m.fNext i)
  (fun n i a hi ha => by
   have hple := Jc m.fNext i (by omega)
   have hs := Gg m.fNext i hi
   rw [B7]
   simp only [Bb]
   rw [AN (by omega), Ct (d := 0) hi]
   simp only [Option.bind_some]
   rw [AT (by omega), AT (by omega)]
   by_cases h0 : 0 ≤ m.fNext.getD i 0
   ·rw [AN h0]
    exact ⟨a + 1, rfl, by rw [hs, if_pos h0, ha]⟩
   ·rw [AM h0]
    exact ⟨a, rfl, by rw [hs, if_neg h0, ha]; rfl⟩)
  (fun n a _ => by
   rw [B7]
   simp only [Bb]
   rw [AM (by omega)]) N 0 0 (Nat.zero_le _) (by omega) (Hn _).symm
 have e' : B7 N m (fun (v2 : Int) => Bi N m v2 (fun (v8 : (List Ah)) => some v8) N (([] : List Ah), 0)) N (0, 0) = _ := e
 rw [e', hc]
 have hol := Jc m.fNext m.fNext.length (Nat.le_refl _)
 have hpow := JN (show G1 m.fNext m.fNext.length ≤ 6 by omega)
 obtain ⟨a, e2, h1⟩ := EM (A := List Ah) (Bi N m (G1 m.fNext m.fNext.length : Int) fun v8 => some v8) (fun a k => (a, k)) (2 ^ G1 m.fNext m.fNext.length) some
  (fun i a => a = (List.range i).map (T5 m))
  (fun n i a hi ha => by
   refine ⟨a ++ [T5 m i], ?_, by rw [I9, ha]⟩
   have hal : a.length = i := by rw [ha]; simp
   rw [Bi]
   rw [Az (by omega), LI (n := G1 m.fNext m.fNext.length) (by omega), AN (by omega), PG N m (by unfold Dj; omega) (by unfold Dj; omega) (by unfold Dj; omega)]
   simp only [Option.bind_some]
   rw [OZ N m i a hN (by omega) hl (by omega), Az (by rw [hal]; unfold Dj; simp; omega), AT (by omega)]
   rfl)
  (fun n a _ => by
   rw [Bi]
   rw [Az (by omega), LI (n := G1 m.fNext m.fNext.length) (by omega), AM (by simp)]) N 0 [] (Nat.zero_le _) (by omega) rfl
 have e2' : Bi N m (G1 m.fNext m.fNext.length : Int) (fun v8 => some v8) N ([], 0) = some a := e2
 rw [e2', h1]; rfl
theorem PP (N : Nat) (p : Ae) (m : Ah) (hN : N ≤ 1000000) (h20 : 100 ≤ N) (hp : B3 p) (hm : Cw p m) : Dw N m = some (EQ m) := by
 have := hp.nv
 have := hp.nt
 exact Ps N m hN h20 (by rw [hm.base]; omega) (by rw [hm.next]; omega) (by rw [hm.held]; omega)
theorem Lh {p : Ae} {m : Ah} (hm : Cw p m) : L2 KP m.fHeld := by
 intro x hx
 obtain ⟨q, hq⟩ := List.mem_iff_getElem?.1 hx
 have h1 := (List.getElem?_eq_some_iff.1 hq).1
 have := hm.range q (by rw [← hm.held]; exact h1)
 rw [List.getD_eq_getElem?_getD, hq] at this
 unfold KP
 simp only [Option.getD_some] at this
 simp [Lit.wf, IntKind.min, IntKind.max, IntKind.signed, IntKind.bits]
 omega
def Im (p : Ae) (x : Ah) : Option (Ah × Aj) := match D4 p x with
 | [] => none
 | c :: _ => some (x, c)
def GF (p : Ae) (m : Ah) : Option (Ah × Aj) := Df (fun _ x => Im p x) 0 (EQ m)
def ED : Ah := ⟨[], [], []⟩
def Kz : Aj := ⟨0, 0, 0⟩
def IK (p : Ae) (m : Ah) : Ah × Aj × Int := match GF p m with
 | some (x, c) => (x, c, 0)
 | none => (ED, Kz, 15)
def FI (p : Ae) (m : Ah) : Bool := (GF p m).isNone
theorem LN {m : Ah} (hl : m.fNext.length ≤ 6) : (EQ m).length ≤ 64 := by
 unfold EQ
 have hol := Jc m.fNext m.fNext.length (Nat.le_refl _)
 have hpow := JN (show G1 m.fNext m.fNext.length ≤ 6 by omega)
 simpa using hpow
theorem Mq {α R R' : Type} (f : Nat → α → Option R) (g : R → R') : ∀ (i : Nat) (xs : List α), Df (fun i x => (f i x).map g) i xs = (Df f i xs).map g
 | _, [] => rfl
 | i, x :: xs => by
  rw [GA, GA]
  cases f i x
  ·exact Mq f g (i + 1) xs
  ·rfl
theorem Kd (N : Nat) (p : Ae) (m : Ah) (hN : N ≤ 1000000) (h20 : 100 ≤ N) (hw : L2 KP m.fHeld) (hv : Eq p m = 0) : EC N p m = some (IK p m) := by
 obtain ⟨hp, hm⟩ := Hz hw hv
 have hnv := hp.nv
 unfold EC
 rw [ME N p m hN h20 hw hv]
 simp only [Option.bind_some, bne_self_eq_false, Aw]
 have hal := LN (m := m) (by rw [hm.next]; omega)
 have := Cx (DP N p (EQ m, 0) fun _ => some (ED, Kz, 15)) (EQ m) (some (ED, Kz, 15)) (fun _ x => (Im p x).map fun y => (y.1, y.2, 0))
  (fun n i x hx => by
   have hi := (List.getElem?_eq_some_iff.1 hx).1
   have hx2 := Th hp hm (Io.1 (List.mem_of_getElem? hx))
   rw [DP, AN (by simp only; omega)]
   simp only [Bs, hx, Option.bind_some]
   rw [KV N p x hN (by omega) hp hx2, AT (by omega)]
   simp only [Option.bind_some, Im]
   cases D4 p x with
   | nil => rfl
   | cons c cs => rw [AN (by simp only [List.length_cons]; omega)]; rfl)
  (fun n => by rw [DP, AM (by simp)]) N 0 (Nat.zero_le _) (by omega)
 rw [List.drop_zero, Mq] at this
 exact this.trans (by
  unfold IK GF
  cases Df (fun _ x => Im p x) 0 (EQ m) <;> rfl)
theorem J6 (N : Nat) (p : Ae) (m : Ah) (hN : N ≤ 1000000) (h20 : 100 ≤ N) (hw : L2 KP m.fHeld) (hv : Eq p m = 0) : DC N p m = some (IK p m) := by
 obtain ⟨hp, hm⟩ := Hz hw hv
 have hnv := hp.nv
 unfold DC D6
 rw [Is N p m hN (by omega), hv, PP N p m hN h20 hp hm]
 simp only [Option.bind_some, bne_self_eq_false, Aw]
 have hal := LN (m := m) (by rw [hm.next]; omega)
 have := Cx (B8 N p (EQ m, 0) fun _ => some (ED, Kz, 15)) (EQ m) (some (ED, Kz, 15)) (fun _ x => (Im p x).map fun y => (y.1, y.2, 0))
  (fun n i x hx => by
   have hi := (List.getElem?_eq_some_iff.1 hx).1
   have hx2 := Th hp hm (Io.1 (List.mem_of_getElem? hx))
   rw [B8, AN (by simp only; omega)]
   simp only [Bs, hx, Option.bind_some]
   rw [K4 N p x hN (by omega) hp hx2, AT (by omega)]
   simp only [Option.bind_some, Im]
   cases D4 p x with
   | nil => rfl
   | cons c cs => rw [AN (by simp only [List.length_cons]; omega)]; rfl)
  (fun n => by rw [B8, AM (by simp)]) N 0 (Nat.zero_le _) (by omega)
 rw [List.drop_zero, Mq] at this
 exact this.trans (by
  unfold IK GF
  cases Df (fun _ x => Im p x) 0 (EQ m) <;> rfl)
theorem Pf {α R : Type} {f : Nat → α → Option R} {i : Nat} {xs : List α} : (Df f i xs).isNone = true ↔ ∀ j x, xs[j]? = some x → f (i + j) x = none := by
 constructor
 ·intro h
  exact Ev (Option.isNone_iff_eq_none.1 h)
 ·intro h
  rw [DS h]; rfl
theorem Lv {p : Ae} {x : Ah} : Im p x = none ↔ D4 p x = [] := by
 unfold Im
 cases D4 p x <;> simp
theorem Pu {p : Ae} {m : Ah} : FI p m = true ↔ ∀ x, L6 m x → D4 p x = [] := by
 unfold FI GF
 rw [Pf]
 constructor
 ·intro h x hx
  obtain ⟨j, hj⟩ := List.mem_iff_getElem?.1 (Io.2 hx)
  exact Lv.1 (h j x hj)
 ·intro h j x hx
  exact Lv.2 (h x (Io.1 (List.mem_of_getElem? hx)))
end Go.Lift

/- The laws of the mixes in plain words: MixConflicts, MixAborts, MixAborted, MixGoal, MixValid. -/
namespace Go.Lift
end Go.Lift

/- The laws of the mixes in plain words: MixGoal, MixValid. -/
namespace Go.Lift
theorem Ny (N : Nat) (a b : List Int) (hN : N ≤ 1000000) (h : a.length < N) : CT N a b = some (a == b) := by
 unfold CT
 by_cases hl : a.length = b.length
 ·rw [hl, bne_self_eq_false, Aw]
  have := Cx (BM N a b fun _ => some true) a (some true) (fun i x => if x = b.getD i 0 then none else some false)
   (fun n i x hx => by
    have hi := (List.getElem?_eq_some_iff.1 hx).1
    rw [BM, AN (by omega), Bs, hx, Ct (d := 0) (by omega)]
    simp only [Option.bind_some]
    rw [AT (by omega)]
    by_cases h : x = b.getD i 0
    ·rw [if_pos h, h, bne_self_eq_false]; rfl
    ·rw [if_neg h, bne_iff_ne.2 h]; rfl)
   (fun n => by rw [BM, AM (by simp)]) N 0 (Nat.zero_le _) (by omega)
  refine this.trans ?_
  rw [List.drop_zero]
  cases hs : Df (fun i x => if x = b.getD i 0 then none else some false) 0 a with
  | none =>
   have : a = b := Fq hl fun q hq => by
    have hx : a[q]? = some (a.getD q 0) := by rw [List.getD_eq_getElem?_getD]; simp [hq]
    have := Ev hs q _ hx
    rw [Nat.zero_add] at this
    split at this
    ·assumption
    ·cases this
   rw [this, beq_self_eq_true]; rfl
  | some r =>
   obtain ⟨j, x, hx, hf⟩ := Ed hs
   rw [Nat.zero_add] at hf
   split at hf
   ·cases hf
   ·rename_i hne
    cases hf
    have : (a == b) = false := beq_eq_false_iff_ne.2 fun e => hne (by rw [← e, List.getD_eq_getElem?_getD, hx]; rfl)
    rw [this]; rfl
 ·have h1 : ((a.length : Int) != (b.length : Int)) = true := bne_iff_ne.2 (by omega)
  have h2 : (a == b) = false := beq_eq_false_iff_ne.2 fun e => hl (by rw [e])
  rw [h1, h2]; rfl
theorem Ob (N : Nat) (a : List Int) (f : Int → Option Bool) (g : Int → Bool) (hN : N ≤ 1000000) (h : a.length < N) (hf : ∀ x, x ∈ a → f x = some (g x)) : Cb N a f = some (a.any g) := by
 unfold Cb C1
 have := Cx (A8 N a f fun _ => some (-1)) a (some (-1)) (fun i x => if g x then some (i : Int) else none)
  (fun n i x hx => by
   have hi := (List.getElem?_eq_some_iff.1 hx).1
   rw [A8, AN (by omega), Bs, hx]
   simp only [Option.bind_some]
   rw [hf x (List.mem_of_getElem? hx), AT (by omega)]
   simp only [Option.bind_some]
   cases g x <;> rfl)
  (fun n => by rw [A8, AM (by simp)]) N 0 (Nat.zero_le _) (by omega)
 have e : A8 N a f (fun _ => some (-1)) N 0 = _ := this
 rw [e, List.drop_zero]
 cases hs : Df (fun i x => if g x then some (i : Int) else none) 0 a with
 | none =>
  have : a.any g = false := by
   rw [List.any_eq_false]
   intro x hx
   obtain ⟨j, hj⟩ := List.mem_iff_getElem?.1 hx
   have := Ev hs j x hj
   intro hg
   rw [hg] at this; cases this
  rw [this]; rfl
 | some r =>
  obtain ⟨j, x, hx, hf⟩ := Ed hs
  split at hf
  ·rename_i hg
   cases hf
   have : a.any g = true := List.any_eq_true.2 ⟨x, List.mem_of_getElem? hx, hg⟩
   rw [this]
   simp only [Bw, Option.bind_some]
   rw [decide_eq_true (by omega)]
  ·cases hf
def Gs (p : Ae) (m : Ah) : Bool := Eq p m == 0 && (m.fBase == p.fTarget && m.fNext.all (fun n => decide (n < 0)))
theorem Oo (N : Nat) (p : Ae) (m : Ah) (hN : N ≤ 1000000) (h20 : 100 ≤ N) (hw : L2 KP m.fHeld) : E3 N p m = some (Gs p m) := by
 unfold E3 Gs
 rw [Ix N p m hN (by omega) hw]
 simp only [Bb, Option.bind_some]
 by_cases hv : Eq p m = 0
 ·obtain ⟨hp, hm⟩ := Hz hw hv
  have := hp.nv
  rw [hv, Ny N _ _ hN (by rw [hm.base]; omega), Ob N m.fNext (fun x => Fw N x) (fun n => decide (0 ≤ n)) hN (by rw [hm.next]; omega) (fun x _ => rfl)]
  simp only [Option.bind_some, beq_self_eq_true, AK, Bool.true_and]
  have : m.fNext.all (fun n => decide (n < 0)) = !m.fNext.any (fun n => decide (0 ≤ n)) := by
   rw [List.not_any_eq_all_not]
   congr 1; funext n
   by_cases h : 0 ≤ n
   ·rw [decide_eq_true h, decide_eq_false (by omega)]; rfl
   ·rw [decide_eq_false h, decide_eq_true (by omega)]; rfl
  rw [this]
  cases m.fBase == p.fTarget <;> simp
 ·rw [beq_eq_false_iff_ne.2 hv]; rfl
theorem Oy (N : Nat) (p : Ae) (m : Ah) (hN : N ≤ 1000000) (h20 : 100 ≤ N) (hw : L2 KP m.fHeld) : De N p m = some (Gs p m) := by
 unfold De Gs
 rw [Is N p m hN (by omega)]
 simp only [Option.bind_some]
 by_cases hv : Eq p m = 0
 ·obtain ⟨hp, hm⟩ := Hz hw hv
  have h1 := hp.nv
  have h2 := hp.tgt
  have h3 := hm.base
  have h4 := hm.next
  rw [hv]
  simp only [bne_self_eq_false, Aw, beq_self_eq_true, Bool.true_and]
  have := Cx (Cg N p m fun _ => some true) m.fBase (some true) (fun i x => if 0 ≤ m.fNext.getD i 0 ∨ x ≠ p.fTarget.getD i 0 then some false else none)
   (fun n i x hx => by
    have hi := (List.getElem?_eq_some_iff.1 hx).1
    rw [Cg, AN (by omega)]
    simp only [Bb]
    rw [show BT m.fBase (i : Int) = some x from by rw [Bs, hx], Ct (d := 0) (by omega), Ct (d := 0) (by omega)]
    simp only [Option.bind_some]
    rw [AT (by omega)]
    by_cases k1 : 0 ≤ m.fNext.getD i 0
    ·rw [AN k1, if_pos (.inl k1)]; rfl
    ·rw [AM k1]
     by_cases k2 : x = p.fTarget.getD i 0
     ·rw [if_neg (fun h => h.elim k1 (fun h => h k2)), k2, bne_self_eq_false]; rfl
     ·rw [if_pos (.inr k2), bne_iff_ne.2 k2]; rfl)
   (fun n => by rw [Cg, AM (by simp)]) N 0 (Nat.zero_le _) (by omega)
  refine this.trans ?_
  rw [List.drop_zero]
  cases hs : Df (fun i x => if 0 ≤ m.fNext.getD i 0 ∨ x ≠ p.fTarget.getD i 0 then some false else none) 0 m.fBase with
  | none =>
   have key : ∀ q, q < m.fBase.length → m.fBase.getD q 0 = p.fTarget.getD q 0 ∧ ¬ 0 ≤ m.fNext.getD q 0 := by
    intro q hq
    have hx : m.fBase[q]? = some (m.fBase.getD q 0) := by rw [List.getD_eq_getElem?_getD]; simp [hq]
    have := Ev hs q _ hx
    rw [Nat.zero_add] at this
    split at this
    ·cases this
    ·rename_i h; exact ⟨Decidable.not_not.1 fun h' => h (.inr h'), fun h' => h (.inl h')⟩
   have e1 : m.fBase = p.fTarget := Fq (by omega) fun q hq => (key q hq).1
   have e2 : m.fNext.all (fun n => decide (n < 0)) = true := by
    rw [List.all_eq_true]
    intro n hn
    obtain ⟨q, hq⟩ := List.mem_iff_getElem?.1 hn
    have hl := (List.getElem?_eq_some_iff.1 hq).1
    have := (key q (by omega)).2
    rw [List.getD_eq_getElem?_getD, hq] at this
    simp only [Option.getD_some] at this
    simp only [decide_eq_true_eq]
    omega
   rw [e2, e1]; simp [Bw]
  | some r =>
   obtain ⟨j, x, hx, hf⟩ := Ed hs
   rw [Nat.zero_add] at hf
   have hj := (List.getElem?_eq_some_iff.1 hx).1
   split at hf
   ·rename_i h
    cases hf
    have : (m.fBase == p.fTarget && m.fNext.all (fun n => decide (n < 0))) = false := by
     rw [Bool.and_eq_false_iff]
     rcases h with h | h
     ·right
      rw [List.all_eq_false]
      refine ⟨m.fNext.getD j 0, ?_, ?_⟩
      ·rw [List.getD_eq_getElem?_getD, List.getElem?_eq_getElem (by omega)]; exact List.getElem_mem _
      ·simp only [decide_eq_true_eq]; omega
     ·left
      exact beq_eq_false_iff_ne.2 fun e => h (by rw [← e, List.getD_eq_getElem?_getD, hx]; rfl)
    rw [this]; rfl
   ·cases hf
 ·rw [bne_iff_ne.2 hv, beq_eq_false_iff_ne.2 hv]; rfl
end Go.Lift

/- The first mix in plain words, and the law MixStart. -/
namespace Go.Lift
open Go
def Ex (p : Ae) (t : AC) : Int := if Bt t = true then C3 .u8 1 (p.fNow.getD t.fFrom.toNat 0) else 0
def D1 (p : Ae) : Ah := ⟨p.fNow, List.replicate p.fNow.length (-1), p.fTables.map (Ex p)⟩
theorem Qz (N : Nat) (h : 100 ≤ N) (n : Nat) (hn : n ≤ 6) : DA N [(-1)] (n : Int) = some (List.replicate n (-1)) := by
 obtain ⟨k, rfl⟩ : ∃ k, N = k + 100 := ⟨N - 100, by omega⟩
 have : n = 0 ∨ n = 1 ∨ n = 2 ∨ n = 3 ∨ n = 4 ∨ n = 5 ∨ n = 6 := by omega
 rcases this with rfl | rfl | rfl | rfl | rfl | rfl | rfl
 all_goals (show _ = _; kernel_rfl)
theorem OG (T : List Int) (i : Nat) (hi : i < T.length) : (T.take i ++ List.replicate (T.length - i) 0).set i (T.getD i 0) = T.take (i + 1) ++ List.replicate (T.length - (i + 1)) 0 := by
 have hl : (T.take i).length = i := by simp; omega
 rw [List.set_append_right _ _ (by omega), hl, Nat.sub_self, show T.length - i = (T.length - (i + 1)) + 1 from by omega, List.replicate_succ, List.set_cons_zero, List.take_add_one, List.append_assoc]
 have : T[i]? = some (T.getD i 0) := by rw [List.getD_eq_getElem?_getD]; simp [hi]
 rw [this]; rfl
theorem QC (T : List Int) (i : Nat) (hi : i < T.length) (h0 : T.getD i 0 = 0) : T.take i ++ List.replicate (T.length - i) 0 = T.take (i + 1) ++ List.replicate (T.length - (i + 1)) 0 := by
 rw [← OG T i hi, h0, List.set_append_right _ _ (by rw [List.length_take]; omega)]
 congr 1
 have hl : (T.take i).length = i := by simp; omega
 rw [hl, Nat.sub_self, show T.length - i = (T.length - (i + 1)) + 1 from by omega, List.replicate_succ, List.set_cons_zero]
theorem PN {p : Ae} (hv : BJ p = 0) {t : AC} (ht : t ∈ p.fTables) : 0 ≤ t.fFrom ∧ t.fFrom.toNat < p.fNow.length ∧ 0 ≤ p.fNow.getD t.fFrom.toNat 0 ∧ p.fNow.getD t.fFrom.toNat 0 < 6 ∧ p.fNow.getD t.fFrom.toNat 0 < p.fVersions.getD t.fFrom.toNat 0 ∧ t.fFrom.toNat < p.fVersions.length := by
 obtain ⟨hp, hr⟩ := EV hv
 have h1 := Gw (hp.tab t ht)
 have h2 := hr t.fFrom.toNat (by omega)
 have h3 := Hd hp (i := t.fFrom.toNat) (by omega)
 have := hp.now
 refine ⟨h1.1, by omega, h2.1, by omega, h2.2.1, by omega⟩
theorem H5 {p : Ae} {i : Nat} {t : AC} (ht : p.fTables[i]? = some t) : (p.fTables.map (Ex p)).getD i 0 = Ex p t := by
 rw [List.getD_eq_getElem?_getD, List.getElem?_map, ht]; rfl
theorem Of (N : Nat) (p : Ae) (hN : N ≤ 1000000) (h20 : 100 ≤ N) : Fc N p = some (if BJ p = 0 then D1 p else ⟨[], [], []⟩, BJ p) := by
 unfold Fc
 rw [Id N p hN (by omega)]
 simp only [Option.bind_some]
 by_cases hv : BJ p = 0
 ·rw [if_pos hv, hv]
  obtain ⟨hp, _⟩ := EV hv
  have hnv := hp.nv
  have hnt := hp.nt
  have hnow := hp.now
  rw [bne_self_eq_false, Aw, H4 N _ (by simp only [Dj]; omega)]
  simp only [Option.bind_some]
  rw [Qz N h20 _ (by omega)]
  simp only [Option.bind_some]
  rw [Az (by simp only [Dj]; omega)]
  obtain ⟨a', e, ha⟩ := EM (Dk N p fun v7 => some (Ah.mk p.fNow (List.replicate p.fNow.length (-1)) v7, 0)) (fun a i => (a, i)) p.fTables.length (fun v7 => some (Ah.mk p.fNow (List.replicate p.fNow.length (-1)) v7, 0))
   (fun i a => a = (p.fTables.map (Ex p)).take i ++ List.replicate ((p.fTables.map (Ex p)).length - i) 0)
   (fun n i a hi ha => by
    have hx : p.fTables[i]? = some p.fTables[i] := by simp [hi]
    have hm : p.fTables[i] ∈ p.fTables := List.getElem_mem hi
    obtain ⟨n1, n2, n3, n4, _⟩ := PN hv hm
    rw [Dk, AN (by simp only; omega)]
    simp only [Bb, Bs, hx, Option.bind_some, HS, AT (show i < 1000000 by omega)]
    have hal : i < (p.fTables.map (Ex p)).length := by simpa using hi
    cases hs : Bt p.fTables[i]
    ·rw [Aw]
     refine ⟨a, rfl, ?_⟩
     rw [ha]
     exact QC _ _ hal (by rw [H5 hx]; unfold Ex; rw [hs]; rfl)
    ·rw [AK]
     have e1 : BT p.fNow p.fTables[i].fFrom = some (p.fNow.getD p.fTables[i].fFrom.toNat 0) := by
      obtain ⟨q, hq⟩ := Int.eq_ofNat_of_zero_le n1
      rw [hq]; exact Ct (by rw [hq] at n2; simpa using n2)
     rw [e1]
     simp only [Option.bind_some]
     rw [Az n3]
     have hl : i < a.length := by rw [ha]; simp; omega
     have e2 : a[i]? = some a[i] := by simp [hl]
     rw [e2]
     simp only [Option.bind_some]
     refine ⟨_, rfl, ?_⟩
     rw [← OG _ _ hal, H5 hx, ha]
     unfold Ex; rw [hs]; rfl)
   (fun n a ha => by rw [Dk, AM (by simp)]) N 0 (List.replicate p.fTables.length 0) (Nat.zero_le _) (by omega) (by simp)
  have e' : Dk N p (fun v7 => some (Ah.mk p.fNow (List.replicate p.fNow.length (-1)) v7, 0)) N (List.replicate ((p.fTables.length : Int)).toNat (0 : Int), 0) = _ := e
  rw [e', ha]
  have e5 : (p.fTables.map (Ex p)).take p.fTables.length = p.fTables.map (Ex p) := List.take_of_length_le (by simp)
  simp [D1, e5]
 ·rw [if_neg hv, bne_iff_ne.2 hv, AK]
theorem N0 (N : Nat) (p : Ae) (hN : N ≤ 1000000) (h20 : 100 ≤ N) : DB N p = some (if BJ p = 0 then D1 p else ⟨[], [], []⟩, BJ p) := by
 unfold DB
 rw [JX N p hN (by omega)]
 simp only [Option.bind_some]
 by_cases hv : BJ p = 0
 ·rw [if_pos hv, hv]
  obtain ⟨hp, _⟩ := EV hv
  have hnv := hp.nv
  have hnt := hp.nt
  have hnow := hp.now
  rw [bne_self_eq_false, Aw]
  obtain ⟨a', e, ha⟩ := EM (BP N p fun v4 => Ba N p (fun v10 => some (Ah.mk v4.1 v4.2 v10, 0)) N (([] : List Int), 0)) (fun a i => (a.1, a.2, i)) p.fVersions.length (fun v4 => Ba N p (fun v10 => some (Ah.mk v4.1 v4.2 v10, 0)) N (([] : List Int), 0))
   (fun i a => a = (p.fNow.take i, List.replicate i (-1)))
   (fun n i a hi ha => by
    subst ha
    rw [BP, AN (by simp only; omega)]
    have hx : p.fNow[i]? = some p.fNow[i] := by simp [show i < p.fNow.length from by omega]
    simp only [Bs, hx, Option.bind_some, AT (show i < 1000000 by omega)]
    rw [Az (by simp [Dj]; omega), Az (by simp [Dj]; omega)]
    refine ⟨(p.fNow.take i ++ [p.fNow[i]], List.replicate i (-1) ++ [-1]), rfl, ?_⟩
    rw [List.take_add_one, hx, List.replicate_succ']; rfl)
   (fun n a ha => by rw [BP, AM (by simp)]) N 0 ([], []) (Nat.zero_le _) (by omega) rfl
  have e' : BP N p (fun v4 => Ba N p (fun v10 => some (Ah.mk v4.1 v4.2 v10, 0)) N (([] : List Int), 0)) N (([] : List Int), ([] : List Int), 0) = _ := e
  rw [e', ha]
  simp only
  obtain ⟨b', e2, hb⟩ := EM (Ba N p fun v10 => some (Ah.mk (p.fNow.take p.fVersions.length) (List.replicate p.fVersions.length (-1)) v10, 0)) (fun a i => (a, i)) p.fTables.length (fun v10 => some (Ah.mk (p.fNow.take p.fVersions.length) (List.replicate p.fVersions.length (-1)) v10, 0))
   (fun i a => a = (p.fTables.map (Ex p)).take i)
   (fun n i a hi ha => by
    subst ha
    have hx : p.fTables[i]? = some p.fTables[i] := by simp [hi]
    have hm : p.fTables[i] ∈ p.fTables := List.getElem_mem hi
    obtain ⟨n1, n2, n3, n4, _⟩ := PN hv hm
    rw [Ba, AN (by simp only; omega)]
    simp only [Bb, Bs, hx, Option.bind_some, Fu, AT (show i < 1000000 by omega)]
    have hT : (p.fTables.map (Ex p))[i]? = some (Ex p p.fTables[i]) := by rw [List.getElem?_map, hx]; rfl
    have hlen : ((p.fTables.map (Ex p)).take i).length + 1 ≤ Dj := by simp [Dj]; omega
    cases hs : Bt p.fTables[i]
    ·rw [Aw, Az (by simpa using hlen)]
     refine ⟨_, rfl, ?_⟩
     rw [List.take_add_one, hT]
     unfold Ex; rw [hs]; rfl
    ·rw [AK]
     have e1 : BT p.fNow p.fTables[i].fFrom = some (p.fNow.getD p.fTables[i].fFrom.toNat 0) := by
      obtain ⟨q, hq⟩ := Int.eq_ofNat_of_zero_le n1
      rw [hq]; exact Ct (by rw [hq] at n2; simpa using n2)
     rw [e1]
     simp only [Option.bind_some]
     rw [Az n3, Az (by simpa using hlen)]
     refine ⟨_, rfl, ?_⟩
     rw [List.take_add_one, hT]
     unfold Ex; rw [hs]; rfl)
   (fun n a ha => by rw [Ba, AM (by simp)]) N 0 [] (Nat.zero_le _) (by omega) rfl
  have e3 : Ba N p (fun v10 => some (Ah.mk (p.fNow.take p.fVersions.length) (List.replicate p.fVersions.length (-1)) v10, 0)) N (([] : List Int), 0) = _ := e2
  rw [e3, hb]
  simp only [D1, ← hnow, List.take_length]
  rw [show p.fTables.length = (p.fTables.map (Ex p)).length from by simp, List.take_length]
 ·rw [if_neg hv, bne_iff_ne.2 hv, AK]
theorem KJ {p : Ae} (hv : BJ p = 0) : Cw p (D1 p) := by
 obtain ⟨hp, hr⟩ := EV hv
 have hnow := hp.now
 have hnx : ∀ i, i < p.fVersions.length → (List.replicate p.fNow.length (-1 : Int)).getD i 0 = -1 := fun i hi => by
  rw [List.getD_eq_getElem?_getD, List.getElem?_replicate, if_pos (by omega)]; rfl
 have hone : ∀ (i : Nat) (t : AC), p.fTables[i]? = some t → ∃ b : Nat, b < 6 ∧ p.fNow.getD t.fFrom.toNat 0 = (b : Int) ∧ (b : Int) < p.fVersions.getD t.fFrom.toNat 0 ∧ t.fFrom.toNat < p.fVersions.length := fun i t ht => by
  obtain ⟨n1, n2, n3, n4, n5, n6⟩ := PN hv (List.mem_of_getElem? ht)
  obtain ⟨b, hb⟩ := Int.eq_ofNat_of_zero_le n3
  exact ⟨b, by omega, hb, by omega, n6⟩
 have hbit : ∀ b : Nat, b < 8 → ∀ v, CC (C3 .u8 1 (b : Int)) v = decide (b = v) := fun b hb v => by
  by_cases h : v < 8
  ·exact (Iz ⟨b, hb⟩ ⟨v, h⟩).1
  ·rw [Iy (Iz ⟨b, hb⟩ ⟨0, by omega⟩).2.2 (by omega)]
   symm; apply decide_eq_false; omega
 refine { base := hnow, next := by simp [D1, hnow], held := by simp [D1], b0 := fun i hi => ⟨(hr i hi).1, (hr i hi).2.1⟩, n0 := fun i hi => ?_, ne := fun i hi => ?_, range := fun i hi => ?_, low := fun i t ht hs v hv' => ?_, high := fun i t ht hs v hb => ?_, none := fun i t ht hs => ?_ }
 ·show -1 ≤ (List.replicate p.fNow.length (-1 : Int)).getD i 0 ∧ (List.replicate p.fNow.length (-1 : Int)).getD i 0 < _
  rw [hnx i hi]
  have := Hd hp hi
  omega
 ·show p.fNow.getD i 0 ≠ (List.replicate p.fNow.length (-1 : Int)).getD i 0
  rw [hnx i hi]
  have := hr i hi
  omega
 ·have hx : p.fTables[i]? = some p.fTables[i] := by simp [hi]
  show 0 ≤ (p.fTables.map (Ex p)).getD i 0 ∧ (p.fTables.map (Ex p)).getD i 0 ≤ 255
  rw [H5 hx]
  unfold Ex
  split
  ·obtain ⟨b, h1, h2, _⟩ := hone i _ hx
   rw [h2]
   exact (Iz ⟨b, by omega⟩ ⟨0, by omega⟩).2
  ·omega
 ·show CC ((p.fTables.map (Ex p)).getD i 0) v = true
  obtain ⟨b, h1, h2, h3, h4⟩ := hone i t ht
  rw [H5 ht]
  unfold Ex
  rw [if_pos hs, h2, hbit b (by omega)]
  unfold FL at hv'
  have h5 : (D1 p).fBase.getD t.fFrom.toNat 0 = (b : Int) := h2
  have h6 : (D1 p).fNext.getD t.fFrom.toNat 0 = -1 := hnx _ h4
  rw [h5, h6, Bool.or_eq_true, decide_eq_true_iff, decide_eq_true_iff] at hv'
  apply decide_eq_true; omega
 ·have hb : CC ((p.fTables.map (Ex p)).getD i 0) v = true := hb
  obtain ⟨b, h1, h2, h3, h4⟩ := hone i t ht
  rw [H5 ht] at hb
  unfold Ex at hb
  rw [if_pos hs, h2, hbit b (by omega), decide_eq_true_iff] at hb
  omega
 ·show (p.fTables.map (Ex p)).getD i 0 = 0
  rw [H5 ht]; unfold Ex; rw [hs]; rfl
theorem Lo {p : Ae} (hv : BJ p = 0) : Eq p (D1 p) = 0 := Hy hv (KJ hv)
end Go.Lift

/- Bits of sets of versions: or, and-not, the lowest bit. -/
namespace Go.Lift
open Go
theorem Lf (x : BitVec 8) : IntKind.wrap .u8 (x.toNat : Int) = (x.toNat : Int) := by
 have := x.isLt
 simp [IntKind.wrap, IntKind.signed, IntKind.bits]
 omega
theorem OU (x : BitVec 8) : 0 ≤ (x.toNat : Int) ∧ (x.toNat : Int) ≤ 255 := by
 have := x.isLt
 omega
theorem R5 (x : BitVec 8) (v : Nat) : CC (x.toNat : Int) v = x.getLsbD v := by
 unfold CC; rw [Int.toNat_natCast]; rfl
theorem NJ {a : Int} (ha : 0 ≤ a ∧ a ≤ 255) (v : Nat) : (BitVec.ofInt 8 a).getLsbD v = CC a v := by
 obtain ⟨a, rfl⟩ := Int.eq_ofNat_of_zero_le ha.1
 unfold BitVec.getLsbD CC
 rw [RE (by omega), Int.toNat_natCast]
theorem PE {a b : Int} (ha : 0 ≤ a ∧ a ≤ 255) (hb : 0 ≤ b ∧ b ≤ 255) : (∀ v, CC (CE .u8 a b) v = (CC a v && !CC b v)) ∧ 0 ≤ CE .u8 a b ∧ CE .u8 a b ≤ 255 := by
 have e : CE .u8 a b = ((BitVec.ofInt 8 a &&& ~~~BitVec.ofInt 8 b).toNat : Int) := Lf (BitVec.ofInt 8 a &&& ~~~BitVec.ofInt 8 b)
 rw [e]
 refine ⟨fun v => ?_, OU _⟩
 rw [R5, BitVec.getLsbD_and, BitVec.getLsbD_not, NJ ha, NJ hb]
 by_cases h : v < 8
 ·simp [h]
 ·rw [Iy ha.2 (by omega)]; simp
theorem L8 {a b : Int} (ha : 0 ≤ a ∧ a ≤ 255) (hb : 0 ≤ b ∧ b ≤ 255) : (∀ v, CC (MB .u8 a b) v = (CC a v || CC b v)) ∧ 0 ≤ MB .u8 a b ∧ MB .u8 a b ≤ 255 := by
 have e : MB .u8 a b = ((BitVec.ofInt 8 a ||| BitVec.ofInt 8 b).toNat : Int) := Lf (BitVec.ofInt 8 a ||| BitVec.ofInt 8 b)
 rw [e]
 refine ⟨fun v => ?_, OU _⟩
 rw [R5, BitVec.getLsbD_or, NJ ha, NJ hb]
theorem Qi {b : Nat} (hb : b < 8) : (∀ v, CC (C3 .u8 1 (b : Int)) v = decide (b = v)) ∧ 0 ≤ C3 .u8 1 (b : Int) ∧ C3 .u8 1 (b : Int) ≤ 255 := by
 refine ⟨fun v => ?_, (Iz ⟨b, hb⟩ ⟨0, by omega⟩).2⟩
 by_cases h : v < 8
 ·exact (Iz ⟨b, hb⟩ ⟨v, h⟩).1
 ·rw [Iy (Iz ⟨b, hb⟩ ⟨0, by omega⟩).2.2 (by omega)]
  symm; apply decide_eq_false; omega
theorem Ru (N : Nat) {s : Int} {v : Nat} (hs : 0 ≤ s ∧ s ≤ 255) (hv : v < 8) : B2 N s (v : Int) = some (CC s v) := by
 unfold B2
 rw [Az (by omega), NQ hs.1 hs.2 hv]
 cases CC s v <;> rfl
def TB (v : Nat) : Nat := ((List.range 8).find? fun u => v.testBit u).getD 8
def UF (v : Nat) : Nat := ((List.range 8).filter fun u => v.testBit u).length
theorem TK : ∀ v : Fin 256, Ck 0 (v.val : Int) = some (TB v.val : Int) := by decide +kernel
theorem U8 (N : Nat) {v : Nat} (h : v < 256) : Ck N (v : Int) = some (TB v : Int) := TK ⟨v, h⟩
theorem SV : ∀ v : Fin 256, v.val ≠ 0 → TB v.val < 8 ∧ CC (v.val : Int) (TB v.val) = true ∧ 0 ≤ Fb .u8 (v.val : Int) (IntKind.wrap .u8 ((v.val : Int) - 1)) ∧ Fb .u8 (v.val : Int) (IntKind.wrap .u8 ((v.val : Int) - 1)) ≤ 255 ∧
  UF (Fb .u8 (v.val : Int) (IntKind.wrap .u8 ((v.val : Int) - 1))).toNat + 1 = UF v.val ∧
  ∀ u : Fin 8, CC (Fb .u8 (v.val : Int) (IntKind.wrap .u8 ((v.val : Int) - 1))) u.val = (CC (v.val : Int) u.val && decide (u.val ≠ TB v.val)) := by decide +kernel
theorem UP (v : Nat) : UF v ≤ 8 := by
 have := List.length_filter_le (fun u => v.testBit u) (List.range 8)
 simpa [UF] using this
theorem Pa (N : Nat) (t : AC) (b : Int) (rw_ : Nat → Bool) : ∀ (k n v : Nat), UF v ≤ k → k < n → v < 256 →
  (∀ u, u < 8 → CC (v : Int) u = true → ∃ row, BT t.fRewrite (u : Int) = some row ∧ BT row b = some (rw_ u)) →
  CM N t b (fun _ => some true) n (v : Int) = some ((List.range 8).all fun u => !CC (v : Int) u || rw_ u)
 | k, 0, v, _, h, _, _ => by omega
 | k, n + 1, v, hk, hn, hv, hr => by
  rw [CM]
  by_cases h0 : v = 0
  ·subst h0
   have : (((0 : Nat) : Int) != 0) = false := rfl
   rw [this, Aw]
   congr 1
  ·have h1 : ((v : Int) != 0) = true := bne_iff_ne.2 (by omega)
   obtain ⟨l1, l2, l3, l4, l5, l6⟩ := SV ⟨v, hv⟩ h0
   simp only at l1 l2 l3 l4 l5 l6
   obtain ⟨row, e1, e2⟩ := hr _ l1 l2
   rw [h1, AK, U8 N hv]
   simp only [Option.bind_some, e1, e2]
   obtain ⟨w, hw⟩ := Int.eq_ofNat_of_zero_le l3
   rw [hw] at l4 l5 l6 ⊢
   rw [Int.toNat_natCast] at l5
   cases hq : rw_ (TB v)
   ·rw [Bool.not_false, AK]
    congr 1
    symm
    rw [List.all_eq_false]
    exact ⟨TB v, by simpa using l1, by rw [l2, hq]; simp⟩
   ·rw [Bool.not_true, Aw]
    match k, hk with
    | 0, hk => exfalso; omega
    | k + 1, hk =>
    rw [Pa N t b rw_ k n w (by omega) (by omega) (by omega) (fun u hu hb => hr u hu (by have := l6 ⟨u, hu⟩; simp only at this; rw [hb] at this; simpa using (Bool.and_eq_true_iff.1 this.symm).1))]
    congr 1
    rw [Bool.eq_iff_iff, List.all_eq_true, List.all_eq_true]
    refine ⟨fun h u hu => ?_, fun h u hu => ?_⟩
    ·have hu8 : u < 8 := by simpa using hu
     have h3 := h u hu
     have h4 := l6 ⟨u, hu8⟩
     simp only at h4
     rw [h4] at h3
     by_cases e : u = TB v
     ·rw [e, hq]; simp
     ·simpa [e] using h3
    ·have hu8 : u < 8 := by simpa using hu
     have h3 := h u hu
     have h4 := l6 ⟨u, hu8⟩
     simp only at h4
     rw [h4]
     cases hb : CC (v : Int) u
     ·simp
     ·rw [hb] at h3; simp at h3; simp [h3]
end Go.Lift

/- Steps: both implementations give one answer. -/
namespace Go.Lift
open Go
theorem OJ (N : Nat) (m : Ah) (s : Int) (h0 : 0 ≤ s) (h1 : s < (m.fBase.length : Int)) (h2 : s < (m.fNext.length : Int)) (hb : 0 ≤ m.fBase.getD s.toNat 0) : EF N m s = some (ET m s.toNat) := by
 unfold EF ET
 rw [DT (d := 0) h0 h1, DT (d := 0) h0 h2]
 simp only [Option.bind_some, Bj]
 rw [show DK (0 ≤ m.fBase.getD s.toNat 0) = some () from by unfold DK; rw [if_pos hb]]
 simp only [Option.bind_some]
 by_cases h : 0 ≤ m.fNext.getD s.toNat 0
 ·rw [AN h, if_pos h, show DK (0 ≤ m.fNext.getD s.toNat 0) = some () from by unfold DK; rw [if_pos h]]; rfl
 ·rw [AM h, if_neg h]
theorem Jf (N : Nat) (t : AC) : Et N t = some (Bt t) := by
 unfold Et Bt
 simp only [Bj]
 cases h : t.fKind == 3 <;> simp
def GP (s : Ag) : Bool := decide (1 ≤ s.fKind ∧ s.fKind ≤ 4 ∧ 0 ≤ s.fIndex ∧ 0 ≤ s.fVersion) && (s.fKind == 1 || s.fVersion == 0)
def Fy (p : Ae) (s : Ag) : Bool :=
 if s.fKind = 3 then decide (s.fIndex < (p.fTables.length : Int)) else decide (s.fIndex < (p.fVersions.length : Int)) && (s.fKind != 1 || decide (s.fVersion < p.fVersions.getD s.fIndex.toNat 0))
theorem MS (N : Nat) (s : Ag) : FC N s = some (GP s) := by
 unfold FC GP QV
 simp only [Bj]
 by_cases h1 : (if s.fVersion < s.fIndex then s.fVersion else s.fIndex) < 0
 ·rw [AN h1, AK, decide_eq_false (by split at h1 <;> omega)]; rfl
 ·rw [AM h1]
  by_cases h2 : s.fKind < 1
  ·rw [AN h2, AK, decide_eq_false (by omega)]; rfl
  ·rw [AM h2]
   by_cases h3 : 4 < s.fKind
   ·rw [decide_eq_true h3, AK, decide_eq_false (by omega)]; rfl
   ·rw [decide_eq_false h3, Aw, decide_eq_true (by split at h1 <;> omega), Bool.true_and]
    cases h4 : s.fKind == 1 <;> simp
theorem Nt (N : Nat) (s : Ag) : DD N s = some (GP s) := by
 unfold DD GP
 simp only [Bj]
 by_cases h1 : 1 ≤ s.fKind
 ·rw [AN h1]
  by_cases h2 : s.fKind ≤ 4
  ·rw [AN h2]
   by_cases h3 : 0 ≤ s.fIndex
   ·rw [AN h3]
    by_cases h4 : 0 ≤ s.fVersion
    ·rw [AN h4, decide_eq_true (by omega), Bool.true_and]
     cases h5 : s.fKind == 1 <;> simp
    ·rw [AM h4, decide_eq_false (by omega)]; rfl
   ·rw [AM h3, decide_eq_false (by omega)]; rfl
  ·rw [AM h2, decide_eq_false (by omega)]; rfl
 ·rw [AM h1, decide_eq_false (by omega)]; rfl
theorem LW (N : Nat) (p : Ae) (s : Ag) (hv : GP s = true) : EW N p s = some (Fy p s) := by
 have h0 : 0 ≤ s.fIndex := by
  unfold GP at hv
  rw [Bool.and_eq_true, decide_eq_true_iff] at hv
  exact hv.1.2.2.1
 unfold EW Fy
 simp only [Bj]
 by_cases h1 : s.fKind = 3
 ·rw [if_pos h1, beq_iff_eq.2 h1, AK]
 ·rw [if_neg h1, beq_eq_false_iff_ne.2 h1, Aw]
  by_cases h2 : s.fIndex < (p.fVersions.length : Int)
  ·rw [AN h2, decide_eq_true h2, Bool.true_and]
   cases h3 : s.fKind != 1
   ·rw [Aw, DT (d := 0) h0 h2, Bool.false_or]; rfl
   ·rw [AK]; rfl
  ·rw [AM h2, decide_eq_false h2]; rfl
def P9 (s : Ag) (t : AC) : Bool := t.fFrom == s.fIndex && Bt t
def QR (s : Ag) (i : Nat) (t : AC) (a : List Int) : List Int := if P9 s t = true then a.set i (MB .u8 (a.getD i 0) (C3 .u8 1 s.fVersion)) else a
def GG (p : Ae) (s : Ag) (held : List Int) : List Int := GU (QR s) 0 p.fTables held
theorem LD {R : Type} (N : Nat) (p : Ae) (s : Ag) (held : List Int) (hv : 0 ≤ s.fVersion) (hl : held.length = p.fTables.length) (h12 : p.fTables.length < N) (hN : N ≤ 1000000) (j : List Int → Option (Bool × List Int × List Int)) :
  CY N p s j N (held, 0) = j (GG p s held) ∧ (GG p s held).length = p.fTables.length := by
 have := G7 (CY N p s j) (fun a i => (a, i)) p.fTables j (QR s) (fun i a => a.length = p.fTables.length)
  (fun n i x a hx ha => by
   have hi := (List.getElem?_eq_some_iff.1 hx).1
   rw [CY, AN (by simp only; omega)]
   simp only [Bb, Bs, hx, Option.bind_some, Jf, AT (show i < 1000000 by omega)]
   have e2 : a[i]? = some (a.getD i 0) := by rw [List.getD_eq_getElem?_getD]; simp [show i < a.length from by omega]
   unfold QR P9
   cases h1 : x.fFrom == s.fIndex
   ·rw [Aw, Aw, Bool.false_and, if_neg (by simp)]; exact ⟨rfl, ha⟩
   ·rw [AK, Bool.true_and]
    cases h2 : Bt x
    ·rw [Aw, if_neg (by simp)]; exact ⟨rfl, ha⟩
    ·rw [AK, e2, if_pos rfl]
     simp only [Option.bind_some]
     rw [Az hv]
     exact ⟨rfl, by simpa using ha⟩)
  (fun n a ha => by rw [CY, AM (by simp)]) N 0 held (Nat.zero_le _) (by omega) hl
 rw [List.drop_zero] at this
 exact this
theorem Mg (N : Nat) (p : Ae) (s : Ag) (held : List Int) (hv : 0 ≤ s.fVersion) (hl : held.length = p.fTables.length) (h12 : p.fTables.length < N) (hN : N ≤ 1000000) (j : List Int → Option (Ah × Bool)) :
  BG N p s j N (held, 0) = j (GG p s held) := by
 have := G7 (BG N p s j) (fun a i => (a, i)) p.fTables j (QR s) (fun i a => a.length = p.fTables.length)
  (fun n i x a hx ha => by
   have hi := (List.getElem?_eq_some_iff.1 hx).1
   rw [BG, AN (by simp only; omega)]
   simp only [Bb, Bs, hx, Option.bind_some, Fu, AT (show i < 1000000 by omega)]
   have e2 : a[i]? = some (a.getD i 0) := by rw [List.getD_eq_getElem?_getD]; simp [show i < a.length from by omega]
   unfold QR P9
   cases h1 : x.fFrom == s.fIndex
   ·rw [Aw, Aw, Bool.false_and, if_neg (by simp)]; exact ⟨rfl, ha⟩
   ·rw [AK, Bool.true_and]
    cases h2 : Bt x
    ·rw [Aw, if_neg (by simp)]; exact ⟨rfl, ha⟩
    ·rw [AK, e2, if_pos rfl]
     simp only [Option.bind_some]
     rw [Az hv]
     exact ⟨rfl, by simpa using ha⟩)
  (fun n a ha => by rw [BG, AM (by simp)]) N 0 held (Nat.zero_le _) (by omega) hl
 rw [List.drop_zero] at this
 exact this.1
def H3 (m : Ah) (t : AC) (u : Nat) : Bool := (t.fRewrite.getD u []).getD (m.fBase.getD t.fFrom.toNat 0).toNat false
def LC (m : Ah) (i : Nat) (t : AC) (u : Nat) : Bool := CC (m.fHeld.getD i 0) u && !FL m t.fFrom.toNat u
def Fk (p : Ae) (m : Ah) (i : Nat) (t : AC) : Bool := t.fKind == 4 && (List.range 8).any fun u => LC m i t u && !H3 m t u
def Ea (p : Ae) (m : Ah) (s : Ag) : Option Ah :=
 let i := s.fIndex.toNat
 if s.fKind = 1 then (if 0 ≤ m.fNext.getD i 0 ∨ m.fBase.getD i 0 = s.fVersion then none else some ⟨m.fBase, m.fNext.set i s.fVersion, GG p s m.fHeld⟩)
 else if s.fKind = 3 then match p.fTables[i]? with
  | none => none
  | some t => if Bt t = false ∨ m.fHeld.getD i 0 = ET m t.fFrom.toNat ∨ Fk p m i t = true then none else some ⟨m.fBase, m.fNext, m.fHeld.set i (ET m t.fFrom.toNat)⟩
 else if m.fNext.getD i 0 < 0 then none
 else some ⟨if s.fKind = 2 then m.fBase.set i (m.fNext.getD i 0) else m.fBase, m.fNext.set i (-1), m.fHeld⟩
def DZ (p : Ae) (m : Ah) (s : Ag) : Ah × Int :=
 if GP s = false then (ED, 1) else if Fy p s = false then (ED, 4) else match Ea p m s with
  | none => (ED, 11)
  | some x => (x, 0)
end Go.Lift

/- Steps: clearing, and the whole of Apply. -/
namespace Go.Lift
open Go
section clear
variable {p : Ae} {m : Ah} {i : Nat} {t : AC}
theorem RK (hp : B3 p) (hm : Cw p m) (ht : p.fTables[i]? = some t) (hs : Bt t = true) {u : Nat} (h : CC (m.fHeld.getD i 0) u = true) : (u : Int) < p.fVersions.getD t.fFrom.toNat 0 ∧ u < 6 ∧ t.fFrom.toNat < p.fVersions.length := by
 have h1 := hm.high i t ht hs u h
 have hin := Gw (hp.tab t (List.mem_of_getElem? ht))
 have h2 := Hd hp (i := t.fFrom.toNat) (by omega)
 exact ⟨h1, by omega, by omega⟩
theorem RO (hp : B3 p) (hm : Cw p m) (ht : p.fTables[i]? = some t) (hs : Bt t = true) (h4 : t.fKind = 4) {u : Nat} (h : CC (m.fHeld.getD i 0) u = true) :
  BT t.fRewrite (u : Int) = some (t.fRewrite.getD u []) ∧ BT (t.fRewrite.getD u []) (m.fBase.getD t.fFrom.toNat 0) = some (H3 m t u) := by
 have hT := K7 (hp.tab t (List.mem_of_getElem? ht))
 obtain ⟨h1, h2, h3⟩ := RK hp hm ht hs h
 have hl := hT.reL h4
 have e : t.fRewrite[u]? = some (t.fRewrite.getD u []) := by rw [List.getD_eq_getElem?_getD]; simp [show u < t.fRewrite.length from by omega]
 have hr := hT.reR _ (List.mem_of_getElem? e)
 have hb := hm.b0 t.fFrom.toNat h3
 refine ⟨by rw [Bs, e], ?_⟩
 unfold H3
 obtain ⟨b, hb'⟩ := Int.eq_ofNat_of_zero_le hb.1
 rw [hb'] at hb ⊢
 rw [Int.toNat_natCast]
 exact Ct (by omega)
theorem MO (N : Nat) (hN : N ≤ 1000000) (h20 : 100 ≤ N) (hp : B3 p) (hm : Cw p m) (ht : p.fTables[i]? = some t) :
  FA N p m (i : Int) = some (if Bt t = false ∨ m.fHeld.getD i 0 = ET m t.fFrom.toNat ∨ Fk p m i t = true then (false, m.fHeld) else (true, m.fHeld.set i (ET m t.fFrom.toNat))) := by
 have hi := (List.getElem?_eq_some_iff.1 ht).1
 have hin := Gw (hp.tab t (List.mem_of_getElem? ht))
 have hb := hm.base
 have hnx := hm.next
 have hh := hm.held
 have hr := Fz hp hm.toMixServ (s := t.fFrom.toNat) (by omega)
 have hrg := hm.range i hi
 have eh : BT m.fHeld (i : Int) = some (m.fHeld.getD i 0) := Ct (by omega)
 unfold FA
 simp only [Bb, Bs, ht, Option.bind_some, Jf]
 have eh' : m.fHeld[i]? = some (m.fHeld.getD i 0) := by rw [← Bs, eh]
 cases hs : Bt t
 ·rw [Bool.not_false, AK, if_pos (.inl rfl)]
 ·rw [Bool.not_true, Aw, OJ N m _ hin.1 (by omega) (by omega) (hm.b0 _ (by omega)).1]
  simp only [Option.bind_some, eh']
  by_cases h1 : m.fHeld.getD i 0 = ET m t.fFrom.toNat
  ·rw [beq_iff_eq.2 h1, AK, AK, if_pos (.inr (.inl h1))]
  ·rw [beq_eq_false_iff_ne.2 h1, Aw]
   by_cases h4 : t.fKind = 4
   ·rw [beq_iff_eq.2 h4, AK, DT (d := 0) hin.1 (by omega)]
    simp only [Option.bind_some]
    obtain ⟨a1, a2, a3⟩ := PE hrg hr.2
    obtain ⟨w, hw⟩ := Int.eq_ofNat_of_zero_le a2
    unfold EB
    rw [hw] at a1 a3 ⊢
    rw [Pa N t _ (H3 m t) 8 N w (UP _) (by omega) (by omega) (fun u hu hbu => by
     have := a1 u; rw [hbu] at this
     exact ⟨_, RO hp hm ht hs h4 (Bool.and_eq_true_iff.1 this.symm).1⟩)]
    simp only [Option.bind_some]
    have e : (!(List.range 8).all fun u => !CC (w : Int) u || H3 m t u) = Fk p m i t := by
     unfold Fk
     rw [beq_iff_eq.2 h4, Bool.true_and, List.not_all_eq_any_not]
     congr 1
     funext u
     rw [a1 u, hr.1 u]
     unfold LC
     cases CC (m.fHeld.getD i 0) u <;> cases FL m t.fFrom.toNat u <;> cases H3 m t u <;> rfl
    rw [e]
    cases hst : Fk p m i t
    ·rw [Aw, if_neg (by rintro (h | h | h); cases h; exact h1 h; cases h)]; rfl
    ·rw [AK, if_pos (.inr (.inr rfl))]
   ·have e : Fk p m i t = false := by unfold Fk; rw [beq_eq_false_iff_ne.2 h4]; rfl
    rw [beq_eq_false_iff_ne.2 h4, Aw, Aw, e, if_neg (by rintro (h | h | h); cases h; exact h1 h; cases h)]; rfl
theorem L3 (N : Nat) (hN : N ≤ 1000000) (h20 : 100 ≤ N) (hp : B3 p) (hm : Cw p m) (ht : p.fTables[i]? = some t) (hs : Bt t = true) (s : Ag) (hsi : s.fIndex = (i : Int)) (j : Option (Ah × Bool)) :
  Bp N p m s t (ET m t.fFrom.toNat) (fun _ => j) N 0 = if Fk p m i t = true then some (ED, false) else j := by
 have hi := (List.getElem?_eq_some_iff.1 ht).1
 have hin := Gw (hp.tab t (List.mem_of_getElem? ht))
 have hb := hm.base
 have hh := hm.held
 have hr := Fz hp hm.toMixServ (s := t.fFrom.toNat) (by omega)
 have hrg := hm.range i hi
 have hver := Hd hp (i := t.fFrom.toNat) (by omega)
 obtain ⟨nv, hnv⟩ := Int.eq_ofNat_of_zero_le (show 0 ≤ p.fVersions.getD t.fFrom.toNat 0 by omega)
 have eh' : m.fHeld[i]? = some (m.fHeld.getD i 0) := by rw [List.getD_eq_getElem?_getD]; simp [show i < m.fHeld.length from by omega]
 have := Cx (Bp N p m s t (ET m t.fFrom.toNat) fun _ => j) (List.range nv) j (fun u _ => if (LC m i t u && (t.fKind == 4 && !H3 m t u)) = true then some (ED, false) else none)
  (fun n u x hx => by
   have hu : u < nv := by
    have := (List.getElem?_eq_some_iff.1 hx).1
    simpa using this
   rw [Bp, DT (d := 0) hin.1 (by omega), hnv]
   simp only [Option.bind_some]
   rw [AN (by omega)]
   simp only [Bb, hsi, Bs, eh', Option.bind_some]
   rw [Ru N hrg (by omega), AT (by omega)]
   simp only [Option.bind_some]
   cases h1 : CC (m.fHeld.getD i 0) u
   ·have e : LC m i t u = false := by unfold LC; rw [h1]; rfl
    rw [Aw, Aw, Aw, e]; rfl
   ·rw [AK, Ru N hr.2 (by omega), hr.1 u]
    simp only [Option.bind_some]
    have e : LC m i t u = !FL m t.fFrom.toNat u := by unfold LC; rw [h1]; rfl
    rw [← e]
    cases h2 : LC m i t u
    ·rw [Aw, Aw]; rfl
    ·rw [AK]
     by_cases h4 : t.fKind = 4
     ·obtain ⟨e1, e2⟩ := RO hp hm ht hs h4 h1
      rw [Bs] at e1
      rw [beq_iff_eq.2 h4, AK, e1, DT (d := 0) hin.1 (by omega)]
      simp only [Option.bind_some]
      rw [e2]
      simp only [Option.bind_some]
      cases H3 m t u <;> rfl
     ·rw [beq_eq_false_iff_ne.2 h4, Aw, Aw]; rfl)
  (fun n => by
   rw [Bp, DT (d := 0) hin.1 (by omega), hnv]
   simp only [Option.bind_some, List.length_range]
   rw [AM (by omega)]) N 0 (Nat.zero_le _) (by simp; omega)
 have e0 : Bp N p m s t (ET m t.fFrom.toNat) (fun _ => j) N 0 = _ := this
 rw [e0, List.drop_zero]
 by_cases hst : Fk p m i t = true
 ·rw [if_pos hst]
  unfold Fk at hst
  rw [Bool.and_eq_true, List.any_eq_true] at hst
  obtain ⟨h4, u, hu, h5⟩ := hst
  rw [Bool.and_eq_true] at h5
  have h6 : CC (m.fHeld.getD i 0) u = true := by have := h5.1; unfold LC at this; exact (Bool.and_eq_true_iff.1 this).1
  have h7 := RK hp hm ht hs h6
  cases hsc : Df (fun u (_ : Nat) => if (LC m i t u && (t.fKind == 4 && !H3 m t u)) = true then some (ED, false) else none) 0 (List.range nv) with
  | some r =>
   obtain ⟨q, x, hx, hf⟩ := Ed hsc
   split at hf
   ·cases hf; rfl
   ·cases hf
  | none =>
   exfalso
   have hx : (List.range nv)[u]? = some u := List.getElem?_range (by omega)
   have := Ev hsc u u hx
   rw [Nat.zero_add, h5.1, h4, h5.2] at this
   cases this
 ·rw [if_neg hst]
  have : Df (fun u (_ : Nat) => if (LC m i t u && (t.fKind == 4 && !H3 m t u)) = true then some (ED, false) else none) 0 (List.range nv) = none := DS fun q x hx => by
   rw [Nat.zero_add]
   split
   ·rename_i h5
    exfalso; apply hst
    rw [Bool.and_eq_true, Bool.and_eq_true] at h5
    unfold Fk
    rw [h5.2.1, Bool.true_and, List.any_eq_true]
    have hq : q < nv := by
     have := (List.getElem?_eq_some_iff.1 hx).1
     simpa using this
    exact ⟨q, List.mem_range.2 (by omega), by rw [h5.1, h5.2.2]; rfl⟩
   ·rfl
  rw [this]; rfl
end clear
end Go.Lift

/- Apply: both implementations give applyP; a step leads from a valid mix to a valid mix. -/
namespace Go.Lift
open Go
theorem FR {s : Ag} (h : GP s = true) : 1 ≤ s.fKind ∧ s.fKind ≤ 4 ∧ 0 ≤ s.fIndex ∧ 0 ≤ s.fVersion ∧ (s.fKind ≠ 1 → s.fVersion = 0) := by
 unfold GP at h
 rw [Bool.and_eq_true, decide_eq_true_iff, Bool.or_eq_true, beq_iff_eq, beq_iff_eq] at h
 exact ⟨h.1.1, h.1.2.1, h.1.2.2.1, h.1.2.2.2, fun hk => h.2.elim (fun e => (hk e).elim) id⟩
theorem GC {p : Ae} {s : Ag} (h : Fy p s = true) : (s.fKind = 3 → s.fIndex < (p.fTables.length : Int)) ∧ (s.fKind ≠ 3 → s.fIndex < (p.fVersions.length : Int)) ∧ (s.fKind = 1 → s.fVersion < p.fVersions.getD s.fIndex.toNat 0) := by
 unfold Fy at h
 split at h
 ·rename_i hk
  rw [decide_eq_true_iff] at h
  exact ⟨fun _ => h, fun hn => (hn hk).elim, fun h1 => by omega⟩
 ·rename_i hk
  rw [Bool.and_eq_true, decide_eq_true_iff, Bool.or_eq_true, decide_eq_true_iff, bne_iff_ne] at h
  exact ⟨fun h3 => (hk h3).elim, fun _ => h.1, fun h1 => h.2.elim (fun hn => (hn h1).elim) id⟩
theorem Qr (N : Nat) {p : Ae} {m : Ah} (hp : B3 p) (hm : Cw p m) : EX N m = some m := by
 have hnv := hp.nv
 have hnt := hp.nt
 have h1 := hm.base
 have h2 := hm.next
 have h3 := hm.held
 unfold EX
 rw [H4 N _ (by simp only [Dj]; omega), H4 N _ (by simp only [Dj]; omega), M6 N _ (by simp only [Dj]; omega)]
 rfl
theorem ML (N : Nat) (hN : N ≤ 1000000) (h20 : 100 ≤ N) {p : Ae} {m : Ah} (hp : B3 p) (hm : Cw p m) {s : Ag} (hv : GP s = true) (hx : Fy p s = true) :
  ∃ o, EI N p m s = some (o, (Ea p m s).isSome) ∧ ∀ x, Ea p m s = some x → o = x := by
 obtain ⟨k1, k4, i0, v0, vk⟩ := FR hv
 obtain ⟨x3, xn, x1⟩ := GC hx
 have hnv := hp.nv
 have hnt := hp.nt
 have hb := hm.base
 have hn := hm.next
 have hh := hm.held
 obtain ⟨i, hi⟩ := Int.eq_ofNat_of_zero_le i0
 unfold EI Ea
 rw [Qr N hp hm]
 simp only [Option.bind_some, Bb]
 by_cases hk1 : s.fKind = 1
 ·have hi1 : (i : Int) < p.fVersions.length := by have := xn (by omega); omega
  rw [beq_iff_eq.2 hk1, AK, if_pos hk1]
  unfold GI
  simp only [Bb, hi, Int.toNat_natCast]
  rw [Ct (d := 0) (show i < m.fNext.length by omega)]
  simp only [Option.bind_some]
  by_cases c1 : 0 ≤ m.fNext.getD i 0
  ·rw [AN c1, AK, if_pos (.inl c1)]
   exact ⟨_, rfl, fun x hx => by cases hx⟩
  ·rw [AM c1, Ct (d := 0) (show i < m.fBase.length by omega)]
   simp only [Option.bind_some]
   by_cases c2 : m.fBase.getD i 0 = s.fVersion
   ·rw [beq_iff_eq.2 c2, AK, if_pos (.inr c2)]
    exact ⟨_, rfl, fun x hx => by cases hx⟩
   ·rw [beq_eq_false_iff_ne.2 c2, Aw, (LD (R := Unit) N p s m.fHeld v0 hh (by omega) hN _).1, if_neg (by rintro (h | h); exact c1 h; exact c2 h)]
    exact ⟨_, rfl, fun x hx => by cases hx; rfl⟩
 ·rw [beq_eq_false_iff_ne.2 hk1, Aw, if_neg hk1]
  by_cases hk3 : s.fKind = 3
  ·have hi3 : i < p.fTables.length := by have := x3 hk3; omega
   have ht : p.fTables[i]? = some p.fTables[i] := by simp [hi3]
   rw [beq_iff_eq.2 hk3, AK, if_pos hk3, hi, MO N hN h20 hp hm ht]
   simp only [Option.bind_some, Int.toNat_natCast, ht]
   split
   ·exact ⟨_, rfl, fun x hx => by cases hx⟩
   ·exact ⟨_, rfl, fun x hx => by cases hx; rfl⟩
  ·have hi1 : (i : Int) < p.fVersions.length := by have := xn hk3; omega
   rw [beq_eq_false_iff_ne.2 hk3, Aw, if_neg hk3, hi, Ct (d := 0) (show i < m.fNext.length by omega)]
   simp only [Option.bind_some, Int.toNat_natCast]
   by_cases c1 : m.fNext.getD i 0 < 0
   ·rw [AN c1, if_pos c1]
    exact ⟨_, rfl, fun x hx => by cases hx⟩
   ·rw [AM c1, if_neg c1]
    by_cases hk2 : s.fKind = 2
    ·rw [beq_iff_eq.2 hk2, AK, Ct (d := 0) (show i < m.fBase.length by omega), if_pos hk2]
     exact ⟨_, rfl, fun x hx => by cases hx; rfl⟩
    ·rw [beq_eq_false_iff_ne.2 hk2, Aw, if_neg hk2]
     exact ⟨_, rfl, fun x hx => by cases hx; rfl⟩
theorem MP (N : Nat) (hN : N ≤ 1000000) (h20 : 100 ≤ N) {p : Ae} {m : Ah} (hp : B3 p) (hm : Cw p m) (s : Ag) : Ft N p m s = some (DZ p m s) := by
 unfold Ft DZ
 rw [MS]
 simp only [Option.bind_some]
 cases hv : GP s
 ·rw [Bool.not_false, AK, if_pos rfl]; rfl
 ·rw [Bool.not_true, Aw, if_neg (by simp), LW N p s hv]
  simp only [Option.bind_some]
  cases hx : Fy p s
  ·rw [Bool.not_false, AK, if_pos rfl]; rfl
  ·rw [Bool.not_true, Aw, if_neg (by simp)]
   obtain ⟨o, e, ho⟩ := ML N hN h20 hp hm hv hx
   rw [e]
   simp only [Option.bind_some]
   cases ha : Ea p m s with
   | none => rfl
   | some x => rw [ho x ha]; rfl
theorem NU (N : Nat) (hN : N ≤ 1000000) (h20 : 100 ≤ N) {p : Ae} {m : Ah} (hp : B3 p) (hm : Cw p m) {s : Ag} (hv : GP s = true) (hx : Fy p s = true) :
  CV N p m s = some (match Ea p m s with | none => (ED, false) | some x => (x, true)) := by
 obtain ⟨k1, k4, i0, v0, vk⟩ := FR hv
 obtain ⟨x3, xn, x1⟩ := GC hx
 have hnv := hp.nv
 have hnt := hp.nt
 have hb := hm.base
 have hn := hm.next
 have hh := hm.held
 obtain ⟨i, hi⟩ := Int.eq_ofNat_of_zero_le i0
 unfold CV Ea
 rw [Az (by simp [Dj]; omega), Az (by simp [Dj]; omega), Az (by simp [Dj]; omega)]
 simp only [Option.bind_some, Bb, List.nil_append]
 by_cases hk1 : s.fKind = 1
 ·have hi1 : (i : Int) < p.fVersions.length := by have := xn (by omega); omega
  rw [beq_iff_eq.2 hk1, AK, if_pos hk1]
  simp only [hi, Int.toNat_natCast]
  rw [Ct (d := 0) (show i < m.fNext.length by omega)]
  simp only [Option.bind_some]
  by_cases c1 : 0 ≤ m.fNext.getD i 0
  ·rw [AN c1, AK, if_pos (.inl c1)]; rfl
  ·rw [AM c1, Ct (d := 0) (show i < m.fBase.length by omega)]
   simp only [Option.bind_some]
   by_cases c2 : m.fBase.getD i 0 = s.fVersion
   ·rw [beq_iff_eq.2 c2.symm, AK, if_pos (.inr c2)]; rfl
   ·rw [beq_eq_false_iff_ne.2 (fun h => c2 h.symm), Aw, Mg N p s m.fHeld v0 hh (by omega) hN _, if_neg (by rintro (h | h); exact c1 h; exact c2 h)]
 ·rw [beq_eq_false_iff_ne.2 hk1, Aw, if_neg hk1]
  by_cases hk3 : s.fKind = 3
  ·have hi3 : i < p.fTables.length := by have := x3 hk3; omega
   have ht : p.fTables[i]? = some p.fTables[i] := by simp [hi3]
   have hin := Gw (hp.tab _ (List.mem_of_getElem? ht))
   have eh' : BT m.fHeld (i : Int) = some (m.fHeld.getD i 0) := Ct (by omega)
   rw [beq_eq_false_iff_ne.2 (show s.fKind ≠ 2 by omega), Aw, beq_iff_eq.2 hk3, AK, if_pos hk3, hi, Bs, ht]
   simp only [Option.bind_some, Fu, Int.toNat_natCast, ht]
   cases hs : Bt p.fTables[i]
   ·rw [Bool.not_false, AK, if_pos (.inl rfl)]; rfl
   ·rw [Bool.not_true, Aw, In N m _ hin.1 (by omega) (by omega) (hm.b0 _ (by omega)).1, eh']
    simp only [Option.bind_some]
    by_cases h1 : m.fHeld.getD i 0 = ET m (p.fTables[i]).fFrom.toNat
    ·rw [beq_iff_eq.2 h1, AK, if_pos (.inr (.inl h1))]; rfl
    ·rw [beq_eq_false_iff_ne.2 h1, Aw]
     rw [L3 N hN h20 hp hm ht hs s hi]
     cases hst : Fk p m i p.fTables[i]
     ·rw [if_neg (by simp), if_neg (by rintro (h | h | h); cases h; exact h1 h; cases h)]
     ·rw [if_pos rfl, if_pos (.inr (.inr rfl))]
  ·have hi1 : (i : Int) < p.fVersions.length := by have := xn hk3; omega
   rw [if_neg hk3, hi, Ct (d := 0) (show i < m.fNext.length by omega)]
   simp only [Option.bind_some, Int.toNat_natCast]
   by_cases hk2 : s.fKind = 2
   ·rw [beq_iff_eq.2 hk2, AK, if_pos hk2]
    by_cases c1 : m.fNext.getD i 0 < 0
    ·rw [AN c1, if_pos c1]; rfl
    ·rw [AM c1, if_neg c1, Ct (d := 0) (show i < m.fBase.length by omega)]; rfl
   ·rw [beq_eq_false_iff_ne.2 hk2, Aw, beq_eq_false_iff_ne.2 hk3, Aw, if_neg hk2]
    by_cases c1 : m.fNext.getD i 0 < 0
    ·rw [AN c1, if_pos c1]; rfl
    ·rw [AM c1, if_neg c1]
end Go.Lift

/- A step leads from a valid mix to a valid mix; Apply of both implementations. -/
namespace Go.Lift
open Go
theorem OC (s : Ag) : ∀ (xs : List AC) (i : Nat) (a : List Int), i + xs.length ≤ a.length → (GU (QR s) i xs a).length = a.length ∧ ∀ q, (GU (QR s) i xs a).getD q 0 = match (if i ≤ q then xs[q - i]? else none) with
  | some t => if P9 s t = true then MB .u8 (a.getD q 0) (C3 .u8 1 s.fVersion) else a.getD q 0
  | none => a.getD q 0
 | [], i, a, _ => by
  refine ⟨rfl, fun q => ?_⟩
  split
  ·rename_i h; split at h
   ·simp at h
   ·cases h
  ·rfl
 | x :: xs, i, a, hl => by
  have hl' : i + (xs.length + 1) ≤ a.length := by simpa using hl
  have ha : (QR s i x a).length = a.length := by unfold QR; split <;> simp
  obtain ⟨ih1, ih2⟩ := OC s xs (i + 1) (QR s i x a) (by omega)
  refine ⟨by rw [GU, ih1, ha], fun q => ?_⟩
  rw [GU, ih2 q]
  have hu : (QR s i x a).getD q 0 = if q = i ∧ P9 s x = true then MB .u8 (a.getD q 0) (C3 .u8 1 s.fVersion) else a.getD q 0 := by
   unfold QR
   by_cases hc : P9 s x = true
   ·rw [if_pos hc, Fv (by omega)]
    by_cases hq : q = i
    ·subst hq; rw [if_pos rfl, if_pos ⟨rfl, hc⟩]
    ·rw [if_neg hq, if_neg (fun h => hq h.1)]
   ·rw [if_neg hc, if_neg (fun h => hc h.2)]
  by_cases h1 : i + 1 ≤ q
  ·rw [if_pos h1, if_pos (show i ≤ q by omega), hu, if_neg (by omega)]
   rw [show (x :: xs)[q - i]? = xs[q - (i + 1)]? from by rw [show q - i = (q - (i + 1)) + 1 from by omega, List.getElem?_cons_succ]]
  ·rw [if_neg h1]
   by_cases h2 : q = i
   ·subst h2
    rw [if_pos (Nat.le_refl _), Nat.sub_self, hu]
    simp
   ·rw [if_neg (show ¬ i ≤ q by omega), hu, if_neg (by omega)]
theorem K9 {p : Ae} {s : Ag} {held : List Int} (hl : held.length = p.fTables.length) : (GG p s held).length = p.fTables.length ∧ ∀ q t, p.fTables[q]? = some t → (GG p s held).getD q 0 = if P9 s t = true then MB .u8 (held.getD q 0) (C3 .u8 1 s.fVersion) else held.getD q 0 := by
 obtain ⟨h1, h2⟩ := OC s p.fTables 0 held (by omega)
 refine ⟨h1.trans hl, fun q t ht => ?_⟩
 have := h2 q
 rw [if_pos (Nat.zero_le _), Nat.sub_zero, ht] at this
 exact this
theorem LV {m : Ah} {s v : Nat} : FL m s v = true ↔ m.fBase.getD s 0 = (v : Int) ∨ m.fNext.getD s 0 = (v : Int) := by
 unfold FL; rw [Bool.or_eq_true, decide_eq_true_iff, decide_eq_true_iff]
theorem Pj {p : Ae} {m x : Ah} (hp : B3 p) (hm : Cw p m) {s : Ag} (hv : GP s = true) (hx : Fy p s = true) (h : Ea p m s = some x) : Cw p x := by
 obtain ⟨k1, k4, i0, v0, vk⟩ := FR hv
 obtain ⟨x3, xn, x1⟩ := GC hx
 obtain ⟨i, hi⟩ := Int.eq_ofNat_of_zero_le i0
 have hb := hm.base
 have hn := hm.next
 have hh := hm.held
 unfold Ea at h
 simp only [hi, Int.toNat_natCast] at h
 rw [hi, Int.toNat_natCast] at x1
 split at h
 ·rename_i hk1
  have hi1 : i < p.fVersions.length := by have := xn (by omega); omega
  have hx1 := x1 hk1
  have hvi := Hd hp hi1
  split at h
  ·cases h
  rename_i hc
  cases h
  obtain ⟨u1, u2⟩ := K9 (s := s) hh
  obtain ⟨b, hbv⟩ := Int.eq_ofNat_of_zero_le v0
  have hob := Qi (b := b) (by omega)
  have hN : ∀ q, (m.fNext.set i s.fVersion).getD q 0 = if q = i then s.fVersion else m.fNext.getD q 0 := fun q => Fv (by omega)
  refine { base := hb, next := by simpa using hn, held := u1, b0 := hm.b0, n0 := fun q hq => ?_, ne := fun q hq => ?_, range := fun q hq => ?_, low := fun q t ht hs v hr => ?_, high := fun q t ht hs v hbit => ?_, none := fun q t ht hs => ?_ }
  ·show -1 ≤ (m.fNext.set i s.fVersion).getD q 0 ∧ (m.fNext.set i s.fVersion).getD q 0 < _
   rw [hN q]
   split
   ·rename_i e; subst e; omega
   ·exact hm.n0 q hq
  ·show m.fBase.getD q 0 ≠ (m.fNext.set i s.fVersion).getD q 0
   rw [hN q]
   split
   ·rename_i e; subst e; exact fun h => hc (.inr h)
   ·exact hm.ne q hq
  ·have ht : p.fTables[q]? = some p.fTables[q] := by simp [hq]
   show 0 ≤ (GG p s m.fHeld).getD q 0 ∧ (GG p s m.fHeld).getD q 0 ≤ 255
   rw [u2 q _ ht, hbv]
   split
   ·exact (L8 (hm.range q hq) hob.2).2
   ·exact hm.range q hq
  ·have hq := (List.getElem?_eq_some_iff.1 ht).1
   show CC ((GG p s m.fHeld).getD q 0) v = true
   have hin := Gw (hp.tab t (List.mem_of_getElem? ht))
   rw [LV] at hr
   have hr : m.fBase.getD t.fFrom.toNat 0 = (v : Int) ∨ (m.fNext.set i s.fVersion).getD t.fFrom.toNat 0 = (v : Int) := hr
   rw [hN] at hr
   rw [u2 q t ht, hbv]
   have hlow := hm.low q t ht hs v
   rw [LV] at hlow
   by_cases hf : t.fFrom.toNat = i
   ·have hup : P9 s t = true := by unfold P9; rw [hs, Bool.and_true, beq_iff_eq, hi]; omega
    rw [if_pos hup, (L8 (hm.range q hq) hob.2).1, hob.1 v, Bool.or_eq_true, decide_eq_true_iff]
    rw [if_pos hf] at hr
    rcases hr with h | h
    ·exact .inl (hlow (.inl h))
    ·right; omega
   ·rw [if_neg hf] at hr
    have hup : P9 s t = false := by unfold P9; rw [hs, Bool.and_true, beq_eq_false_iff_ne, hi]; omega
    rw [hup, if_neg (by simp)]
    exact hlow hr
  ·have hq := (List.getElem?_eq_some_iff.1 ht).1
   have hbit : CC ((GG p s m.fHeld).getD q 0) v = true := hbit
   have hin := Gw (hp.tab t (List.mem_of_getElem? ht))
   rw [u2 q t ht, hbv] at hbit
   split at hbit
   ·rename_i hup
    rw [(L8 (hm.range q hq) hob.2).1, hob.1 v, Bool.or_eq_true, decide_eq_true_iff] at hbit
    rcases hbit with h | h
    ·exact hm.high q t ht hs v h
    ·unfold P9 at hup
     rw [hs, Bool.and_true, beq_iff_eq, hi] at hup
     rw [hup, Int.toNat_natCast]; omega
   ·exact hm.high q t ht hs v hbit
  ·show (GG p s m.fHeld).getD q 0 = 0
   have hup : P9 s t = false := by unfold P9; rw [hs, Bool.and_false]
   rw [u2 q t ht, hup, if_neg (by simp)]
   exact hm.none q t ht hs
 ·rename_i hk1
  split at h
  ·rename_i hk3
   have hi3 : i < p.fTables.length := by have := x3 hk3; omega
   have ht0 : p.fTables[i]? = some p.fTables[i] := by simp [hi3]
   rw [ht0] at h
   simp only at h
   split at h
   ·cases h
   rename_i hc
   cases h
   have hin0 := Gw (hp.tab _ (List.mem_of_getElem? ht0))
   have hr0 := Fz hp hm.toMixServ (s := (p.fTables[i]).fFrom.toNat) (by omega)
   have hs0 : Bt p.fTables[i] = true := by
    cases hs : Bt p.fTables[i]
    ·exact (hc (.inl hs)).elim
    ·rfl
   have hH : ∀ q, (m.fHeld.set i (ET m (p.fTables[i]).fFrom.toNat)).getD q 0 = if q = i then ET m (p.fTables[i]).fFrom.toNat else m.fHeld.getD q 0 := fun q => Fv (by omega)
   refine { base := hb, next := hn, held := by simpa using hh, b0 := hm.b0, n0 := hm.n0, ne := hm.ne, range := fun q hq => ?_, low := fun q t ht hs v hr => ?_, high := fun q t ht hs v hbit => ?_, none := fun q t ht hs => ?_ }
   ·show 0 ≤ (m.fHeld.set i (ET m (p.fTables[i]).fFrom.toNat)).getD q 0 ∧ (m.fHeld.set i (ET m (p.fTables[i]).fFrom.toNat)).getD q 0 ≤ 255
    rw [hH q]
    split
    ·exact hr0.2
    ·exact hm.range q hq
   ·show CC ((m.fHeld.set i (ET m (p.fTables[i]).fFrom.toNat)).getD q 0) v = true
    have hr : FL m t.fFrom.toNat v = true := hr
    rw [hH q]
    split
    ·rename_i e; subst e
     rw [ht0] at ht; cases ht
     rw [hr0.1]; exact hr
    ·exact hm.low q t ht hs v hr
   ·have hbit : CC ((m.fHeld.set i (ET m (p.fTables[i]).fFrom.toNat)).getD q 0) v = true := hbit
    rw [hH q] at hbit
    split at hbit
    ·rename_i e; subst e
     rw [ht0] at ht; cases ht
     rw [hr0.1] at hbit
     exact hm.high q _ ht0 hs0 v (hm.low q _ ht0 hs0 v hbit)
    ·exact hm.high q t ht hs v hbit
   ·show (m.fHeld.set i (ET m (p.fTables[i]).fFrom.toNat)).getD q 0 = 0
    rw [hH q, if_neg (fun e => by subst e; rw [ht0] at ht; cases ht; rw [hs0] at hs; cases hs)]
    exact hm.none q t ht hs
  ·rename_i hk3
   have hi1 : i < p.fVersions.length := by have := xn hk3; omega
   have hvi := Hd hp hi1
   split at h
   ·cases h
   rename_i hc
   cases h
   have hN : ∀ q, (m.fNext.set i (-1)).getD q 0 = if q = i then -1 else m.fNext.getD q 0 := fun q => Fv (by omega)
   have hB : ∀ q, (if s.fKind = 2 then m.fBase.set i (m.fNext.getD i 0) else m.fBase).getD q 0 = if s.fKind = 2 ∧ q = i then m.fNext.getD i 0 else m.fBase.getD q 0 := fun q => by
    by_cases hk2 : s.fKind = 2
    ·rw [if_pos hk2, Fv (by omega)]
     by_cases e : q = i
     ·rw [if_pos e, if_pos ⟨hk2, e⟩]
     ·rw [if_neg e, if_neg (fun h => e h.2)]
    ·rw [if_neg hk2, if_neg (fun h => hk2 h.1)]
   have hrun : ∀ q v, FL ⟨if s.fKind = 2 then m.fBase.set i (m.fNext.getD i 0) else m.fBase, m.fNext.set i (-1), m.fHeld⟩ q v = true → FL m q v = true := fun q v hr => by
    rw [LV] at hr ⊢
    simp only [hN q, hB q] at hr
    by_cases e : q = i
    ·subst e
     rw [if_pos rfl] at hr
     by_cases hk2 : s.fKind = 2
     ·rw [if_pos ⟨hk2, rfl⟩] at hr; omega
     ·rw [if_neg (fun h => hk2 h.1)] at hr; omega
    ·rw [if_neg e, if_neg (fun h => e h.2)] at hr; exact hr
   refine { base := by simp only; split <;> simp [hb], next := by simpa using hn, held := hh, b0 := fun q hq => ?_, n0 := fun q hq => ?_, ne := fun q hq => ?_, range := hm.range, low := fun q t ht hs v hr => hm.low q t ht hs v (hrun _ _ hr), high := hm.high, none := hm.none }
   ·simp only [hB q]
    split
    ·rename_i e; obtain ⟨_, e⟩ := e; subst e
     have := hm.n0 q hq
     omega
    ·exact hm.b0 q hq
   ·simp only [hN q]
    split
    ·rename_i e; subst e; omega
    ·exact hm.n0 q hq
   ·simp only [hB q, hN q]
    have h1 := hm.b0 q hq
    by_cases e : q = i
    ·rw [if_pos e]
     split
     ·rename_i e2; obtain ⟨_, e2⟩ := e2; subst e2; omega
     ·omega
    ·rw [if_neg e, if_neg (fun h => e h.2)]; exact hm.ne q hq
theorem N2 (N : Nat) (hN : N ≤ 1000000) (h20 : 100 ≤ N) {p : Ae} {m : Ah} (hw : L2 KP m.fHeld) (s : Ag) : DF N p m s = some (if Eq p m = 0 then DZ p m s else (ED, Eq p m)) := by
 unfold DF DZ
 rw [Is N p m hN (by omega)]
 simp only [Option.bind_some, Bb]
 by_cases hval : Eq p m = 0
 ·obtain ⟨hp, hm⟩ := Hz hw hval
  rw [if_pos hval, hval, bne_self_eq_false, Aw, Nt]
  simp only [Option.bind_some]
  cases hv : GP s
  ·rw [Bool.not_false, AK, if_pos rfl]; rfl
  ·rw [Bool.not_true, Aw, if_neg (by simp)]
   obtain ⟨k1, k4, i0, v0, vk⟩ := FR hv
   have key : ∀ b : Bool, Fy p s = b → (if b = false then (ED, (4 : Int)) else match Ea p m s with | none => (ED, 11) | some x => (x, 0)) = (if b = false then (ED, (4 : Int)) else match Ea p m s with | none => (ED, 11) | some x => (x, 0)) := fun _ _ => rfl
   have tail : Fy p s = true → ((CV N p m s).bind fun v15 => AY (!v15.2) (some (Ah.mk [] [] [], (11 : Int))) (some (v15.1, 0))) = some (match Ea p m s with | none => (ED, 11) | some x => (x, 0)) := fun hx => by
    rw [NU N hN h20 hp hm hv hx]
    cases Ea p m s <;> rfl
   have zz : (Ah.mk [] [] [], (4 : Int)) = (ED, 4) := rfl
   by_cases hk3 : s.fKind = 3
   ·rw [beq_iff_eq.2 hk3, AK, show (s.fKind != 3) = false from by rw [hk3]; rfl]
    have hX : Fy p s = decide (s.fIndex < (p.fTables.length : Int)) := by unfold Fy; rw [if_pos hk3]
    by_cases c : (p.fTables.length : Int) ≤ s.fIndex
    ·rw [AN c, AK, hX, decide_eq_false (by omega), if_pos rfl]; rfl
    ·have hx : Fy p s = true := by rw [hX, decide_eq_true (by omega)]
     rw [AM c, Aw, Aw, beq_eq_false_iff_ne.2 (show s.fKind ≠ 1 by omega), Aw, Aw, hx, if_neg (by simp)]
     exact tail hx
   ·rw [beq_eq_false_iff_ne.2 hk3, Aw, bne_iff_ne.2 hk3, AK]
    have hX : Fy p s = (decide (s.fIndex < (p.fVersions.length : Int)) && (s.fKind != 1 || decide (s.fVersion < p.fVersions.getD s.fIndex.toNat 0))) := by unfold Fy; rw [if_neg hk3]
    by_cases c : (p.fVersions.length : Int) ≤ s.fIndex
    ·rw [decide_eq_true c, AK, hX, decide_eq_false (show ¬ s.fIndex < (p.fVersions.length : Int) by omega), Bool.false_and, if_pos rfl]; rfl
    ·rw [decide_eq_false c, Aw]
     by_cases hk1 : s.fKind = 1
     ·rw [beq_iff_eq.2 hk1, AK, DT (d := 0) i0 (by omega)]
      simp only [Option.bind_some]
      by_cases c2 : p.fVersions.getD s.fIndex.toNat 0 ≤ s.fVersion
      ·rw [decide_eq_true c2, AK, hX, decide_eq_false (show ¬ s.fVersion < p.fVersions.getD s.fIndex.toNat 0 by omega), show (s.fKind != 1) = false from by rw [hk1]; rfl, Bool.false_or, Bool.and_false, if_pos rfl]; rfl
      ·have hx : Fy p s = true := by rw [hX, decide_eq_true (by omega), decide_eq_true (by omega), Bool.or_true]; rfl
       rw [decide_eq_false c2, Aw, hx, if_neg (by simp)]
       exact tail hx
     ·have hx : Fy p s = true := by rw [hX, decide_eq_true (by omega), bne_iff_ne.2 hk1]; rfl
      rw [beq_eq_false_iff_ne.2 hk1, Aw, Aw, hx, if_neg (by simp)]
      exact tail hx
 ·rw [if_neg hval, bne_iff_ne.2 hval, AK]; rfl
theorem MU (N : Nat) (hN : N ≤ 1000000) (h20 : 100 ≤ N) {p : Ae} {m : Ah} (hw : L2 KP m.fHeld) (s : Ag) : EH N p m s = some (if Eq p m = 0 then DZ p m s else (ED, Eq p m)) := by
 unfold EH
 rw [Ix N p m hN (by omega) hw]
 simp only [Option.bind_some]
 by_cases hval : Eq p m = 0
 ·obtain ⟨hp, hm⟩ := Hz hw hval
  rw [if_pos hval, hval, bne_self_eq_false, Aw, MP N hN h20 hp hm s]; rfl
 ·rw [if_neg hval, bne_iff_ne.2 hval, AK]; rfl
theorem M7 {p : Ae} {m : Ah} (hp : B3 p) (hm : Cw p m) {s : Ag} (h : (DZ p m s).2 = 0) : Cw p (DZ p m s).1 := by
 unfold DZ at h ⊢
 split at h
 ·cases h
 rename_i h1
 rw [if_neg h1]
 split at h
 ·cases h
 rename_i h2
 rw [if_neg h2]
 cases ha : Ea p m s with
 | none => rw [ha] at h; cases h
 | some x => exact Pj hp hm (by simpa using h1) (by simpa using h2) ha
end Go.Lift

/- Failure and Check: both implementations give one answer; the laws PlanCheck and PlanFailure. -/
namespace Go.Lift
open Go
def Hi (p : Ae) (total : Nat) : List Ag → Nat → Ah → Int × Ah × Aj × Int
 | [], _, m => if Gs p m = true then (0, ED, Kz, 15) else ((total : Int), ED, Kz, 14)
 | s :: l, i, m => if (DZ p m s).2 ≠ 0 ∨ s.fKind = 4 then ((i : Int), ED, Kz, 0) else match GF p (DZ p m s).1 with
  | some (x, c) => ((i : Int), x, c, 0)
  | none => Hi p total l (i + 1) (DZ p m s).1
def Nh (p : Ae) (l : List Ag) : Int × Ah × Aj × Int :=
 if BJ p ≠ 0 then (0, ED, Kz, BJ p) else match GF p (D1 p) with
  | some (x, c) => (-1, x, c, 0)
  | none => Hi p l.length l 0 (D1 p)
section
variable {N : Nat} {p : Ae} {l : List Ag}
theorem Jh (hN : N ≤ 1000000) (h20 : 100 ≤ N) (hv : BJ p = 0) (hl : l.length ≤ 1000) : ∀ (n i : Nat) (m : Ah), i ≤ l.length → l.length - i < n → Cw p m →
  Dx N p l (fun v6 => (E3 N p v6).bind fun v15 => AY (!v15) (some ((l.length : Int), (Ah.mk ([] : List Int) ([] : List Int) ([] : List Int)), (Aj.mk 0 0 0), 14)) (some (0, (Ah.mk ([] : List Int) ([] : List Int) ([] : List Int)), (Aj.mk 0 0 0), 15))) n (m, (i : Int)) = some (Hi p l.length (l.drop i) i m)
 | 0, i, m, _, h, _ => by omega
 | n + 1, i, m, hi, h, hm => by
  obtain ⟨hp, _⟩ := EV hv
  have hval := Hy hv hm
  rw [Dx]
  by_cases hlt : i < l.length
  ·have hx : l[i]? = some l[i] := by simp [hlt]
   rw [AN (by simp only; omega), Jp hx, Hi]
   simp only [Bb, Bs, hx, Option.bind_some, AT (show i < 1000000 by omega)]
   rw [MU N hN h20 (Lh hm), if_pos hval]
   simp only [Option.bind_some]
   by_cases h1 : (DZ p m l[i]).2 = 0
   ·rw [h1, bne_self_eq_false, Aw]
    by_cases h2 : l[i].fKind = 4
    ·rw [beq_iff_eq.2 h2, AK, if_pos (.inr h2)]; rfl
    ·have hm' := M7 hp hm h1
     rw [beq_eq_false_iff_ne.2 h2, Aw, if_neg (by rintro (h | h); exact h rfl; exact h2 h), Kd N p _ hN h20 (Lh hm') (Hy hv hm')]
     unfold IK
     simp only [Option.bind_some]
     cases hb : GF p (DZ p m l[i]).1 with
     | some y => rfl
     | none =>
      have e : ((15 : Int) == 0) = false := rfl
      simp only
      rw [e, Aw]
      exact Jh hN h20 hv hl n (i + 1) _ (by omega) (by omega) hm'
   ·rw [bne_iff_ne.2 h1, AK, AK, if_pos (.inl h1)]; rfl
  ·have hd : l.drop i = [] := List.drop_eq_nil_of_le (by omega)
   rw [AM (by simp only; omega), hd, Hi, Oo N p m hN h20 (Lh hm)]
   simp only [Option.bind_some]
   cases Gs p m <;> rfl
theorem JD (hN : N ≤ 1000000) (h20 : 100 ≤ N) (hv : BJ p = 0) (hl : l.length ≤ 1000) : ∀ (n i : Nat) (m : Ah), i ≤ l.length → l.length - i < n → Cw p m →
  BS N p l (fun v4 => (De N p v4).bind fun v16 => AY (!v16) (some ((l.length : Int), (Ah.mk ([] : List Int) ([] : List Int) ([] : List Int)), (Aj.mk 0 0 0), 14)) (some (0, (Ah.mk ([] : List Int) ([] : List Int) ([] : List Int)), (Aj.mk 0 0 0), 15))) n (m.fBase, m.fNext, m.fHeld, (i : Int)) = some (Hi p l.length (l.drop i) i m)
 | 0, i, m, _, h, _ => by omega
 | n + 1, i, m, hi, h, hm => by
  obtain ⟨hp, _⟩ := EV hv
  have hval := Hy hv hm
  rw [BS]
  by_cases hlt : i < l.length
  ·have hx : l[i]? = some l[i] := by simp [hlt]
   rw [AN (by simp only; omega), Jp hx, Hi]
   simp only [Bb, Bs, hx, Option.bind_some, AT (show i < 1000000 by omega)]
   rw [AN (by omega), N2 N hN h20 (Lh hm), if_pos hval]
   simp only [Option.bind_some]
   by_cases h1 : (DZ p m l[i]).2 = 0
   ·rw [h1, bne_self_eq_false, Aw]
    by_cases h2 : l[i].fKind = 4
    ·rw [beq_iff_eq.2 h2, AK, if_pos (.inr h2)]; rfl
    ·have hm' := M7 hp hm h1
     rw [beq_eq_false_iff_ne.2 h2, Aw, if_neg (by rintro (h | h); exact h rfl; exact h2 h), J6 N p _ hN h20 (Lh hm') (Hy hv hm')]
     unfold IK
     simp only [Option.bind_some]
     cases hb : GF p (DZ p m l[i]).1 with
     | some y => rfl
     | none =>
      have e : ((15 : Int) == 0) = false := rfl
      simp only
      rw [e, Aw]
      exact JD hN h20 hv hl n (i + 1) _ (by omega) (by omega) hm'
   ·rw [bne_iff_ne.2 h1, AK, AK, if_pos (.inl h1)]; rfl
  ·have hd : l.drop i = [] := List.drop_eq_nil_of_le (by omega)
   rw [AM (by simp only; omega), hd, Hi, Oy N p _ hN h20 (Lh hm)]
   simp only [Option.bind_some]
   cases Gs p m <;> rfl
theorem NO (hN : N ≤ 1000000) (h20 : 100 ≤ N) (hl : l.length ≤ 1000) (hln : l.length < N) : Ee N p l = some (Nh p l) := by
 unfold Ee Nh
 rw [Of N p hN h20]
 simp only [Option.bind_some]
 by_cases hv : BJ p = 0
 ·have hm := KJ hv
  rw [if_pos hv, hv, bne_self_eq_false, Aw, if_neg (by simp), Kd N p _ hN h20 (Lh hm) (Lo hv)]
  unfold IK
  simp only [Option.bind_some]
  cases hb : GF p (D1 p) with
  | some y => rfl
  | none =>
   have e : ((15 : Int) == 0) = false := rfl
   simp only
   rw [e, Aw]
   have := Jh (N := N) (p := p) (l := l) hN h20 hv hl N 0 (D1 p) (Nat.zero_le _) (by omega) hm
   rw [List.drop_zero] at this
   exact this
 ·rw [if_neg hv, bne_iff_ne.2 hv, AK, if_pos hv]; rfl
theorem OP (hN : N ≤ 1000000) (h20 : 100 ≤ N) (hl : l.length ≤ 1000) (hln : l.length + 1 < N) : C6 N p l = some (Nh p l) := by
 unfold C6 Nh
 rw [N0 N p hN h20]
 simp only [Option.bind_some]
 by_cases hv : BJ p = 0
 ·have hm := KJ hv
  rw [if_pos hv, hv, bne_self_eq_false, Aw, if_neg (by simp)]
  obtain ⟨k, rfl⟩ : ∃ k, N = k + 1 := ⟨N - 1, by omega⟩
  rw [BS, AN (by simp only; omega)]
  simp only [Bb]
  rw [AM (by omega), J6 (k + 1) p _ hN h20 (Lh hm) (Lo hv)]
  unfold IK
  simp only [Option.bind_some]
  cases hb : GF p (D1 p) with
  | some y => rfl
  | none =>
   have e : ((15 : Int) == 0) = false := rfl
   simp only
   rw [e, Aw, show IntKind.wrap .i64 ((-1 : Int) + 1) = ((0 : Nat) : Int) from by decide +kernel]
   have := JD (N := k + 1) (p := p) (l := l) hN h20 hv hl k 0 (D1 p) (Nat.zero_le _) (by omega) hm
   rw [List.drop_zero] at this
   exact this
 ·rw [if_neg hv, bne_iff_ne.2 hv, AK, if_pos hv]; rfl
def Em (p : Ae) (l : List Ag) : Bool := (Nh p l).2.2.2 == 15
theorem GK (hN : N ≤ 1000000) (h20 : 100 ≤ N) (hl : l.length ≤ 1000) (hln : l.length < N) : C4 N p l = some (Em p l) := by
 unfold C4
 rw [NO hN h20 hl hln]; rfl
theorem KH (hN : N ≤ 1000000) (h20 : 100 ≤ N) (hl : l.length ≤ 1000) (hln : l.length + 1 < N) : CX N p l = some (Em p l) := by
 unfold CX
 rw [OP hN h20 hl hln]; rfl
end
theorem Nu : DI 1000 = some true := by show _ = _; kernel_rfl
end Go.Lift

/- The law PlanErrors in plain words. -/
namespace Go.Lift
open Go
end Go.Lift

/- Trim: both implementations give one list. -/
namespace Go.Lift
open Go
theorem O6 {α : Type} (l : List α) (i : Nat) : l.eraseIdx i = l.take i ++ l.drop (i + 1) := List.eraseIdx_eq_take_drop_succ ..
theorem QB (N : Nat) (l : List Ag) (i : Nat) (hi : i < l.length) (hl : l.length ≤ 1000) : ∃ X, BL N l (i : Int) (((i + 1 : Nat) : Int)) = some (l.length - 1, X) ∧ X.take (l.length - 1) = l.eraseIdx i ∧ l.length - 1 ≤ X.length := by
 unfold BL
 have e1 : ((l.drop (i + 1)).take (l.length - (i + 1))) = l.drop (i + 1) := List.take_of_length_le (by simp)
 have e2 : i + (l.drop (i + 1)).length = l.length - 1 := by simp; omega
 have e3 : (F4 l (0 + i) (l.drop (i + 1))).length = l.length := FM (by simp; omega)
 have e4 : ((i : Int) + ((l.drop (i + 1)).length : Int)).toNat = l.length - 1 := by omega
 simp only [Int.toNat_natCast, e1, e2, e4, e3]
 rw [Az ⟨by omega, by omega, by omega, by omega, by omega, Nat.le_refl _⟩, beq_eq_false_iff_ne.2 (show (i : Int) ≠ ((i + 1 : Nat) : Int) by omega), Aw,
  Az ⟨by omega, by omega, by omega⟩, Az ⟨by omega, by omega, Nat.le_refl _⟩, Az (by omega), Az ⟨by omega, by omega, by omega, Nat.le_refl _⟩]
 refine ⟨_, rfl, ?_, ?_⟩
 ·rw [O6]
  unfold F4
  rw [Nat.zero_add, List.append_assoc]
  have h1 : (l.take i ++ l.drop (i + 1) ++ l.drop (i + (l.drop (i + 1)).length)).take (l.length - 1) = l.take i ++ l.drop (i + 1) := by
   have : (l.take i ++ l.drop (i + 1)).length = l.length - 1 := by simp; omega
   rw [List.take_append_of_le_length (by omega), List.take_of_length_le (by omega)]
  rw [h1, List.take_append_of_le_length (by simp; omega), List.take_of_length_le (by simp; omega)]
 ·rw [FM (by rw [e3, List.length_replicate]; omega), e3]; omega
def Fh (p : Ae) : Nat → List Ag → List Ag
 | 0, out => out
 | k + 1, out => if Em p (out.eraseIdx k) = true then Fh p k (out.eraseIdx k) else Fh p k out
def JG (p : Ae) (l : List Ag) : List Ag × Int :=
 if BJ p ≠ 0 then ([], BJ p) else if Em p l = false then ([], 13) else (Fh p l.length l, 0)
theorem Jj {α : Type} {l : List α} {i : Nat} (h : i < l.length) : (l.eraseIdx i).length = l.length - 1 := List.length_eraseIdx_of_lt h
theorem LM (N : Nat) (l : List Ag) (h : l.length ≤ Dj) : Bq N l = some l := by
 unfold Bq
 rw [Az (by simpa using h)]; rfl
theorem Ha {N : Nat} (hN : N ≤ 1000000) (h20 : 100 ≤ N) {p : Ae} {R : Type} : ∀ (k n : Nat) (out : List Ag), k ≤ out.length → out.length ≤ 99 → k < n →
  DO N p (fun v7 => some (v7, 0)) n (out, ((k : Nat) : Int) - 1) = some (Fh p k out, 0)
 | k, 0, out, _, _, h => by omega
 | 0, n + 1, out, _, _, _ => by
  rw [DO, AM (by simp only; omega)]; rfl
 | k + 1, n + 1, out, hk, hl, hn => by
  rw [DO, show (((k + 1 : Nat) : Int) - 1) = (k : Int) from by omega, AN (by simp only; omega)]
  have hlim : out.length ≤ Dj := by simp only [Dj]; omega
  obtain ⟨X, x1, x2, x3⟩ := QB N out k (by omega) (by omega)
  simp only [Bb, LM N out hlim, Option.bind_some, AT (show k < 1000000 by omega), x1]
  have hel := Jj (l := out) (i := k) (by omega)
  rw [Az x3, x2, GK hN h20 (by omega) (by omega)]
  simp only [Option.bind_some]
  have hw : IntKind.wrap .i64 ((k : Int) - 1) = (k : Int) - 1 := C9 (by omega) (by omega)
  rw [hw]
  cases hc : Em p (out.eraseIdx k)
  ·rw [Aw, Ha hN h20 (R := R) k n out (by omega) hl (by omega), Fh, hc, if_neg (by simp)]
  ·rw [AK, Ha hN h20 (R := R) k n _ (by omega) (by omega) (by omega), Fh, hc, if_pos rfl]
theorem Rq {l : List Ag} {i : Nat} : (([] : List Ag) ++ ((l.drop 0).take (i - 0))) ++ ((l.drop (i + 1)).take (l.length - (i + 1))) = l.eraseIdx i := by
 rw [O6, List.nil_append, List.drop_zero, Nat.sub_zero, List.take_of_length_le (l := l.drop (i + 1)) (by simp)]
theorem HT {N : Nat} (hN : N ≤ 1000000) (h20 : 100 ≤ N) {p : Ae} {R : Type} : ∀ (k n : Nat) (out : List Ag), k ≤ out.length → out.length ≤ 98 → k < n →
  Cf N p (fun v7 => some (v7, 0)) n (out, ((k : Nat) : Int) - 1) = some (Fh p k out, 0)
 | k, 0, out, _, _, h => by omega
 | 0, n + 1, out, _, _, _ => by
  rw [Cf, AM (by simp only; omega)]; rfl
 | k + 1, n + 1, out, hk, hl, hn => by
  rw [Cf, show (((k + 1 : Nat) : Int) - 1) = (k : Int) from by omega, AN (by simp only; omega)]
  have hel := Jj (l := out) (i := k) (by omega)
  simp only [Bb, AT (show k < 1000000 by omega), Int.toNat_natCast]
  rw [Az ⟨by omega, by omega, by omega⟩, Az (by simp [Dj]; omega), Az ⟨by omega, by omega, Nat.le_refl _⟩, Az (by simp [Dj]; omega), Rq, KH hN h20 (by omega) (by omega)]
  simp only [Option.bind_some]
  have hw : IntKind.wrap .i64 ((k : Int) - 1) = (k : Int) - 1 := C9 (by omega) (by omega)
  rw [hw]
  cases hc : Em p (out.eraseIdx k)
  ·rw [Aw, HT hN h20 (R := R) k n out (by omega) hl (by omega), Fh, hc, if_neg (by simp)]
  ·rw [AK, HT hN h20 (R := R) k n _ (by omega) (by omega) (by omega), Fh, hc, if_pos rfl]
theorem NY {N : Nat} (hN : N ≤ 1000000) (h20 : 100 ≤ N) {p : Ae} {l : List Ag} (hl : l.length ≤ 98) : F2 N p l = some (JG p l) := by
 unfold F2 JG
 rw [Id N p hN (by omega)]
 simp only [Option.bind_some]
 by_cases hv : BJ p = 0
 ·rw [hv, bne_self_eq_false, Aw, if_neg (by simp), GK hN h20 (by omega) (by omega)]
  simp only [Option.bind_some]
  cases hc : Em p l
  ·rw [Bool.not_false, AK, if_pos rfl]
  ·rw [Bool.not_true, Aw, if_neg (by simp), LM N l (by simp only [Dj]; omega)]
   simp only [Option.bind_some]
   rw [C9 (by omega) (by omega)]
   exact Ha hN h20 (R := Unit) l.length N l (Nat.le_refl _) (by omega) (by omega)
 ·rw [if_pos hv, bne_iff_ne.2 hv, AK]
theorem Pm {N : Nat} (hN : N ≤ 1000000) (h20 : 100 ≤ N) {p : Ae} {l : List Ag} (hl : l.length ≤ 98) : DQ N p l = some (JG p l) := by
 unfold DQ JG
 rw [JX N p hN (by omega)]
 simp only [Option.bind_some]
 by_cases hv : BJ p = 0
 ·rw [hv, bne_self_eq_false, Aw, if_neg (by simp), KH hN h20 (by omega) (by omega)]
  simp only [Option.bind_some]
  cases hc : Em p l
  ·rw [Bool.not_false, AK, if_pos rfl]
  ·rw [Bool.not_true, Aw, if_neg (by simp), Az (by simp [Dj]; omega)]
   rw [C9 (by omega) (by omega), List.nil_append]
   exact HT hN h20 (R := Unit) l.length N l (Nat.le_refl _) (by omega) (by omega)
 ·rw [if_pos hv, bne_iff_ne.2 hv, AK]
end Go.Lift

/- A plan without a step: what can be left out. -/
namespace Go.Lift
open Go
def Gu (p : Ae) (m : Ah) (s : Ag) : Option Ah := if (DZ p m s).2 = 0 ∧ s.fKind ≠ 4 ∧ FI p (DZ p m s).1 = true then some (DZ p m s).1 else none
def EE (p : Ae) : Ah → List Ag → Option Ah
 | m, [] => some m
 | m, s :: l => (Gu p m s).bind fun x => EE p x l
def Hm (p : Ae) (m : Ah) (l : List Ag) : Bool := match EE p m l with
 | some x => Gs p x
 | none => false
theorem Lq (p : Ae) (total : Nat) : ∀ (l : List Ag) (i : Nat) (m : Ah), ((Hi p total l i m).2.2.2 == 15) = Hm p m l
 | [], i, m => by
  rw [Hi]
  unfold Hm
  rw [EE]
  cases h : Gs p m
  ·rw [if_neg (by simp)]; exact h.symm
  ·rw [if_pos rfl]; exact h.symm
 | s :: l, i, m => by
  rw [Hi]
  unfold Hm EE Gu FI
  by_cases h1 : (DZ p m s).2 ≠ 0 ∨ s.fKind = 4
  ·rw [if_pos h1, if_neg (fun h => h1.elim (fun a => a h.1) (fun a => h.2.1 a))]; rfl
  ·rw [if_neg h1]
   have h2 : (DZ p m s).2 = 0 := Decidable.byContradiction fun h => h1 (.inl h)
   have h3 : s.fKind ≠ 4 := fun h => h1 (.inr h)
   cases hb : GF p (DZ p m s).1 with
   | some y => rw [if_neg (fun h => by have := h.2.2; cases this)]; rfl
   | none =>
    rw [if_pos ⟨h2, h3, rfl⟩]
    exact Lq p total l (i + 1) _
theorem La (p : Ae) (l : List Ag) : Em p l = (decide (BJ p = 0) && (FI p (D1 p) && Hm p (D1 p) l)) := by
 unfold Em Nh FI
 by_cases hv : BJ p = 0
 ·rw [if_neg (fun h => h hv), decide_eq_true hv, Bool.true_and]
  cases hb : GF p (D1 p) with
  | some y => rfl
  | none => exact Lq p l.length l 0 _
 ·rw [if_pos hv, decide_eq_false hv, Bool.false_and, beq_eq_false_iff_ne]
  rcases F6 p with h | h <;> (simp only; omega)
theorem Gx {p : Ae} {m x : Ah} {s : Ag} : Gu p m s = some x ↔ GP s = true ∧ Fy p s = true ∧ Ea p m s = some x ∧ s.fKind ≠ 4 ∧ FI p x = true := by
 unfold Gu DZ
 cases h1 : GP s
 ·simp
 cases h2 : Fy p s
 ·simp
 cases h3 : Ea p m s with
 | none => simp
 | some y =>
  simp only [Bool.true_eq_false, if_false, true_and, Option.some.injEq]
  constructor
  ·intro h
   split at h
   ·rename_i hc; cases h; exact ⟨rfl, hc.1, hc.2⟩
   ·cases h
  ·rintro ⟨rfl, h4, h5⟩
   rw [if_pos ⟨h4, h5⟩]
theorem Hs {p : Ae} {m x : Ah} {s : Ag} (hp : B3 p) (hm : Cw p m) (h : Gu p m s = some x) : Cw p x := by
 obtain ⟨h1, h2, h3, _⟩ := Gx.1 h
 exact Pj hp hm h1 h2 h3
theorem FU (p : Ae) : ∀ (A B : List Ag) (m : Ah), EE p m (A ++ B) = (EE p m A).bind fun x => EE p x B
 | [], B, m => rfl
 | s :: A, B, m => by
  rw [List.cons_append, EE, EE]
  cases Gu p m s with
  | none => rfl
  | some x => exact FU p A B x
theorem Ir {p : Ae} (hp : B3 p) : ∀ (l : List Ag) (m x : Ah), Cw p m → EE p m l = some x → Cw p x
 | [], m, x, hm, h => by cases h; exact hm
 | s :: l, m, x, hm, h => by
  rw [EE] at h
  cases hs : Gu p m s with
  | none => rw [hs] at h; cases h
  | some y => rw [hs] at h; exact Ir hp l y x (Hs hp hm hs) h
structure K6 (p : Ae) (m x : Ah) : Prop where
 base : m.fBase = x.fBase
 next : m.fNext = x.fNext
 held : ∀ i, i < p.fTables.length → ∀ v, CC (m.fHeld.getD i 0) v = true → CC (x.fHeld.getD i 0) v = true
theorem K6.refl (p : Ae) (m : Ah) : K6 p m m := ⟨rfl, rfl, fun _ _ _ h => h⟩
theorem K6.trans {p : Ae} {a b c : Ah} (h : K6 p a b) (g : K6 p b c) : K6 p a c := ⟨h.base.trans g.base, h.next.trans g.next, fun i hi v hv => g.held i hi v (h.held i hi v hv)⟩
theorem QO {p : Ae} {m x : Ah} (h : K6 p m x) (hx : D4 p x = []) : D4 p m = [] := by
 unfold D4 at hx ⊢
 rw [JH] at hx ⊢
 intro j t ht
 have h1 := hx j t ht
 rw [Nat.zero_add] at h1 ⊢
 unfold HB at h1 ⊢
 rw [JH] at h1 ⊢
 intro u row hr
 have h2 := h1 u row hr
 rw [Nat.zero_add] at h2 ⊢
 have hb : ∀ s v, FL m s v = FL x s v := fun s v => by unfold FL; rw [h.base, h.next]
 have hrd : GS j m t u row = GS j x t u row := by
  unfold GS
  have e1 : gC j u m t = gC j u x t := by funext v ok; unfold gC; rw [hb]
  have e2 : hC m t = hC x t := by funext v ok; unfold hC; rw [hb]
  rw [e1, e2]
 by_cases hw : Pr m j t u = true
 ·have hw' : Pr x j t u = true := by
   unfold Pr at hw ⊢
   split at hw
   ·rename_i hs; rw [if_pos hs]
    exact h.held j (List.getElem?_eq_some_iff.1 ht).1 u hw
   ·rename_i hs; rw [if_neg hs, ← hb]; exact hw
  rw [if_pos hw'] at h2
  rw [if_pos hw, hrd]; exact h2
 ·rw [if_neg hw]
theorem OF {p : Ae} {m x : Ah} (h : K6 p m x) (hx : FI p x = true) : FI p m = true := by
 rw [Pu] at hx ⊢
 intro y hy
 refine QO (x := ⟨y.fBase, y.fNext, x.fHeld⟩) ⟨rfl, rfl, fun i hi v hv => ?_⟩ (hx _ ⟨?_, rfl, ?_, fun q hq => ?_⟩)
 ·have hv : CC (y.fHeld.getD i 0) v = true := hv
  rw [hy.held] at hv
  exact h.held i hi v hv
 ·exact hy.base.trans h.base
 ·rw [← h.next]; exact hy.len
 ·rw [← h.next] at hq ⊢; exact hy.next q hq
end Go.Lift

/- A step between two mixes; openings and closings; the law PlanTrim. -/
namespace Go.Lift
open Go
theorem SY {p : Ae} {m x : Ah} (h : K6 p m x) (s v : Nat) : FL m s v = FL x s v := by unfold FL; rw [h.base, h.next]
theorem Oa {p : Ae} {m x : Ah} (h : K6 p m x) (s : Nat) : ET m s = ET x s := by unfold ET; rw [h.base, h.next]
theorem Sr {a b : Int} (ha : 0 ≤ a ∧ a ≤ 255) (hb : 0 ≤ b ∧ b ≤ 255) (h : ∀ v, CC a v = CC b v) : a = b := by
 obtain ⟨a, rfl⟩ := Int.eq_ofNat_of_zero_le ha.1
 obtain ⟨b, rfl⟩ := Int.eq_ofNat_of_zero_le hb.1
 have : a = b := Nat.eq_of_testBit_eq fun v => by have := h v; unfold CC at this; simpa using this
 rw [this]
theorem Ti {p : Ae} {m x : Ah} (hp : B3 p) (hm : Cw p m) (hx : Cw p x) (h : K6 p m x) {s : Ag} (v0 : 0 ≤ s.fVersion) (v8 : s.fVersion < 8) : ∀ i, i < p.fTables.length → ∀ v, CC ((GG p s m.fHeld).getD i 0) v = true → CC ((GG p s x.fHeld).getD i 0) v = true := by
 intro i hi v hv
 have ht : p.fTables[i]? = some p.fTables[i] := by simp [hi]
 obtain ⟨_, u1⟩ := K9 (s := s) hm.held
 obtain ⟨_, u2⟩ := K9 (s := s) hx.held
 obtain ⟨b, hb⟩ := Int.eq_ofNat_of_zero_le v0
 have hob := Qi (b := b) (by omega)
 rw [u1 i _ ht, hb] at hv
 rw [u2 i _ ht, hb]
 split at hv
 ·rename_i hc
  rw [if_pos hc, (L8 (hx.range i hi) hob.2).1, Bool.or_eq_true]
  rw [(L8 (hm.range i hi) hob.2).1, Bool.or_eq_true] at hv
  exact hv.imp (h.held i hi v) id
 ·rename_i hc
  rw [if_neg hc]; exact h.held i hi v hv
theorem Rl {p : Ae} {m x : Ah} (h : K6 p m x) {i : Nat} {t : AC} (hi : i < p.fTables.length) (hs : Fk p m i t = true) : Fk p x i t = true := by
 unfold Fk at hs ⊢
 rw [Bool.and_eq_true, List.any_eq_true] at hs ⊢
 obtain ⟨h1, u, hu, h2⟩ := hs
 refine ⟨h1, u, hu, ?_⟩
 rw [Bool.and_eq_true] at h2 ⊢
 have e : H3 m t u = H3 x t u := by unfold H3; rw [h.base]
 rw [← e]
 refine ⟨?_, h2.2⟩
 have := h2.1
 unfold LC at this ⊢
 rw [Bool.and_eq_true] at this ⊢
 rw [← SY h]
 exact ⟨h.held i hi u this.1, this.2⟩
theorem QH {p : Ae} {a b c a' c' : Ah} (hp : B3 p) (ha : Cw p a) (hb : Cw p b) (hc : Cw p c) (h1 : K6 p a b) (h2 : K6 p b c) {s : Ag} (hv : GP s = true) (hx : Fy p s = true)
  (e1 : Ea p a s = some a') (e2 : Ea p c s = some c') : ∃ b', Ea p b s = some b' ∧ K6 p a' b' ∧ K6 p b' c' := by
 obtain ⟨k1, k4, i0, v0, vk⟩ := FR hv
 obtain ⟨x3, xn, x1⟩ := GC hx
 obtain ⟨i, hi⟩ := Int.eq_ofNat_of_zero_le i0
 unfold Ea at e1 e2 ⊢
 simp only [hi, Int.toNat_natCast] at e1 e2 ⊢
 rw [hi, Int.toNat_natCast] at x1
 rw [← h1.base, ← h1.next]
 rw [← h2.base, ← h2.next, ← h1.base, ← h1.next] at e2
 by_cases hk1 : s.fKind = 1
 ·rw [if_pos hk1] at e1 e2 ⊢
  have hi1 : i < p.fVersions.length := by have := xn (by omega); omega
  have hvi := Hd hp hi1
  have hx1 := x1 hk1
  split at e1
  ·cases e1
  rename_i hcnd
  rw [if_neg hcnd] at e2
  rw [if_neg hcnd]
  cases e1; cases e2
  exact ⟨_, rfl, ⟨rfl, rfl, Ti hp ha hb h1 v0 (by omega)⟩, ⟨rfl, rfl, Ti hp hb hc h2 v0 (by omega)⟩⟩
 ·rw [if_neg hk1] at e1 e2 ⊢
  by_cases hk3 : s.fKind = 3
  ·rw [if_pos hk3] at e1 e2 ⊢
   have hi3 : i < p.fTables.length := by have := x3 hk3; omega
   have ht : p.fTables[i]? = some p.fTables[i] := by simp [hi3]
   rw [ht] at e1 e2 ⊢
   simp only at e1 e2 ⊢
   have hin := Gw (hp.tab _ (List.mem_of_getElem? ht))
   split at e1
   ·cases e1
   rename_i c1
   split at e2
   ·cases e2
   rename_i c2
   have hs : Bt p.fTables[i] = true := by
    cases hs : Bt p.fTables[i]
    ·exact (c1 (.inl hs)).elim
    ·rfl
   have hra := Fz hp ha.toMixServ (s := (p.fTables[i]).fFrom.toNat) (by omega)
   have hcb : ¬ (Bt p.fTables[i] = false ∨ b.fHeld.getD i 0 = ET b (p.fTables[i]).fFrom.toNat ∨ Fk p b i p.fTables[i] = true) := by
    rintro (h | h | h)
    ·rw [hs] at h; cases h
    ·apply c1
     refine .inr (.inl ?_)
     refine Sr (ha.range i hi3) hra.2 fun v => ?_
     rw [hra.1]
     cases hr : FL a (p.fTables[i]).fFrom.toNat v
     ·cases hbv : CC (a.fHeld.getD i 0) v
      ·rfl
      ·have := h1.held i hi3 v hbv
       rw [h, ← Oa h1, hra.1, hr] at this; cases this
     ·exact ha.low i _ ht hs v hr
    ·exact c2 (.inr (.inr (Rl h2 hi3 h)))
   rw [if_neg hcb]
   cases e1; cases e2
   have hH : ∀ (y : Ah) (r : Int), Cw p y → ∀ q, (y.fHeld.set i r).getD q 0 = if q = i then r else y.fHeld.getD q 0 := fun y r hy q => Fv (by rw [hy.held]; exact hi3)
   refine ⟨_, rfl, ⟨rfl, rfl, fun q hq v hbv => ?_⟩, ⟨rfl, rfl, fun q hq v hbv => ?_⟩⟩
   ·simp only [hH _ _ ha] at hbv
    simp only [hH _ _ hb]
    rw [← Oa h1]
    split at hbv
    ·rename_i e; rw [if_pos e]; exact hbv
    ·rename_i e; rw [if_neg e]; exact h1.held q hq v hbv
   ·simp only [hH _ _ hb] at hbv
    simp only [hH _ _ hc]
    rw [← Oa h2]
    split at hbv
    ·rename_i e; rw [if_pos e]; exact hbv
    ·rename_i e; rw [if_neg e]; exact h2.held q hq v hbv
  ·rw [if_neg hk3] at e1 e2 ⊢
   split at e1
   ·cases e1
   rename_i c1
   rw [if_neg c1] at e2
   rw [if_neg c1]
   cases e1; cases e2
   exact ⟨_, rfl, ⟨rfl, rfl, h1.held⟩, ⟨rfl, rfl, h2.held⟩⟩
theorem RX {p : Ae} {a b c a' c' : Ah} (hp : B3 p) (ha : Cw p a) (hb : Cw p b) (hc : Cw p c) (h1 : K6 p a b) (h2 : K6 p b c) {s : Ag}
  (e1 : Gu p a s = some a') (e2 : Gu p c s = some c') : ∃ b', Gu p b s = some b' ∧ K6 p a' b' ∧ K6 p b' c' := by
 obtain ⟨v1, x1, f1, k1, r1⟩ := Gx.1 e1
 obtain ⟨v2, x2, f2, k2, r2⟩ := Gx.1 e2
 obtain ⟨b', g1, g2, g3⟩ := QH hp ha hb hc h1 h2 v1 x1 f1 f2
 exact ⟨b', Gx.2 ⟨v1, x1, g1, k1, OF g3 r2⟩, g2, g3⟩
theorem NK {p : Ae} (hp : B3 p) : ∀ (l : List Ag) {a b c a' c' : Ah}, Cw p a → Cw p b → Cw p c → K6 p a b → K6 p b c → EE p a l = some a' → EE p c l = some c' → ∃ b', EE p b l = some b' ∧ K6 p a' b' ∧ K6 p b' c'
 | [], a, b, c, a', c', ha, hb, hc, h1, h2, e1, e2 => by cases e1; cases e2; exact ⟨b, rfl, h1, h2⟩
 | s :: l, a, b, c, a', c', ha, hb, hc, h1, h2, e1, e2 => by
  rw [EE] at e1 e2
  cases s1 : Gu p a s with
  | none => rw [s1] at e1; cases e1
  | some a1 =>
   cases s2 : Gu p c s with
   | none => rw [s2] at e2; cases e2
   | some c1 =>
    rw [s1] at e1; rw [s2] at e2
    obtain ⟨b1, g1, g2, g3⟩ := RX hp ha hb hc h1 h2 s1 s2
    obtain ⟨b', k1, k2, k3⟩ := NK hp l (Hs hp ha s1) (Hs hp hb g1) (Hs hp hc s2) g2 g3 e1 e2
    exact ⟨b', by rw [EE, g1]; exact k1, k2, k3⟩
def Ko (m : Ah) (q : Nat) : Bool := decide (0 ≤ m.fNext.getD q 0)
def Pe (q : Nat) (s : Ag) : Bool := s.fKind != 3 && s.fIndex.toNat == q
def JV (q : Nat) : List Ag → Bool
 | [] => false
 | s :: l => xor (Pe q s) (JV q l)
theorem IQ (q : Nat) : ∀ (A B : List Ag), JV q (A ++ B) = xor (JV q A) (JV q B)
 | [], B => by simp [JV]
 | s :: A, B => by rw [List.cons_append, JV, JV, IQ q A B, Bool.xor_assoc]
theorem QP {p : Ae} {m x : Ah} (hm : Cw p m) {s : Ag} (h : Gu p m s = some x) (q : Nat) (hq : q < p.fVersions.length) : Ko x q = xor (Ko m q) (Pe q s) := by
 obtain ⟨hv, hx, ha, h4, _⟩ := Gx.1 h
 obtain ⟨k1, k4, i0, v0, vk⟩ := FR hv
 obtain ⟨x3, xn, x1⟩ := GC hx
 have hn := hm.next
 obtain ⟨i, hi⟩ := Int.eq_ofNat_of_zero_le i0
 unfold Ea at ha
 simp only [hi, Int.toNat_natCast] at ha
 unfold Ko Pe
 rw [hi, Int.toNat_natCast]
 by_cases hk3 : s.fKind = 3
 ·rw [if_neg (by omega), if_pos hk3] at ha
  have e : (s.fKind != 3) = false := by rw [hk3]; rfl
  rw [e, Bool.false_and, Bool.xor_false]
  split at ha
  ·cases ha
  ·split at ha
   ·cases ha
   ·cases ha; rfl
 ·have hi1 : i < p.fVersions.length := by have := xn hk3; omega
  rw [bne_iff_ne.2 hk3, Bool.true_and]
  have hN : ∀ (r : Int), (m.fNext.set i r).getD q 0 = if q = i then r else m.fNext.getD q 0 := fun r => Fv (by omega)
  by_cases hk1 : s.fKind = 1
  ·rw [if_pos hk1] at ha
   split at ha
   ·cases ha
   rename_i c
   cases ha
   simp only [hN]
   by_cases e : q = i
   ·subst e
    rw [if_pos rfl, decide_eq_true v0, decide_eq_false (fun h => c (.inl h)), beq_self_eq_true]; rfl
   ·rw [if_neg e, beq_eq_false_iff_ne.2 (fun h => e h.symm), Bool.xor_false]
  ·rw [if_neg hk1, if_neg hk3] at ha
   split at ha
   ·cases ha
   rename_i c
   cases ha
   simp only [hN]
   by_cases e : q = i
   ·subst e
    rw [if_pos rfl, decide_eq_true (show 0 ≤ m.fNext.getD q 0 by omega), beq_self_eq_true]; rfl
   ·rw [if_neg e, beq_eq_false_iff_ne.2 (fun h => e h.symm), Bool.xor_false]
theorem OA {p : Ae} (hp : B3 p) (q : Nat) (hq : q < p.fVersions.length) : ∀ (l : List Ag) {m x : Ah}, Cw p m → EE p m l = some x → Ko x q = xor (Ko m q) (JV q l)
 | [], m, x, hm, h => by cases h; simp [JV]
 | s :: l, m, x, hm, h => by
  rw [EE] at h
  cases hs : Gu p m s with
  | none => rw [hs] at h; cases h
  | some y =>
   rw [hs] at h
   rw [OA hp q hq l (Hs hp hm hs) h, QP hm hs q hq, JV, Bool.xor_assoc]
theorem OO {p : Ae} {m : Ah} (hm : Cw p m) (h : Gs p m = true) (q : Nat) (hq : q < p.fVersions.length) : Ko m q = false := by
 unfold Gs at h
 rw [Bool.and_eq_true, Bool.and_eq_true, List.all_eq_true] at h
 have hx : m.fNext[q]? = some (m.fNext.getD q 0) := by rw [List.getD_eq_getElem?_getD]; simp [hm.next, hq]
 have := h.2.2 _ (List.mem_of_getElem? hx)
 rw [decide_eq_true_iff] at this
 unfold Ko
 exact decide_eq_false (by omega)
theorem Jl {p : Ae} {m : Ah} {l : List Ag} (h : Hm p m l = true) : ∃ x, EE p m l = some x ∧ Gs p x = true := by
 unfold Hm at h
 cases hr : EE p m l with
 | none => rw [hr] at h; cases h
 | some x => rw [hr] at h; exact ⟨x, rfl, h⟩
theorem O2 {p : Ae} (hp : B3 p) {m : Ah} (hm : Cw p m) {l : List Ag} (h : Hm p m l = true) (q : Nat) (hq : q < p.fVersions.length) : JV q l = Ko m q := by
 obtain ⟨x, h1, h2⟩ := Jl h
 have h3 := OA hp q hq l hm h1
 rw [OO (Ir hp l m x hm h1) h2 q hq] at h3
 cases hA : Ko m q <;> cases hB : JV q l <;> rw [hA, hB] at h3 <;> first | rfl | cases h3
theorem Mr {p : Ae} (hp : B3 p) {m : Ah} (hm : Cw p m) {A B : List Ag} {s : Ag} (h1 : Hm p m (A ++ s :: B) = true) (h2 : Hm p m (A ++ B) = true) : s.fKind = 3 := by
 refine Decidable.byContradiction fun hk => ?_
 obtain ⟨x, r1, _⟩ := Jl h1
 rw [FU] at r1
 cases ra : EE p m A with
 | none => rw [ra] at r1; cases r1
 | some y =>
  rw [ra] at r1
  have r1 : EE p y (s :: B) = some x := r1
  rw [EE] at r1
  cases rs : Gu p y s with
  | none => rw [rs] at r1; cases r1
  | some z =>
   obtain ⟨hv, hx, _, _, _⟩ := Gx.1 rs
   obtain ⟨k1, k4, i0, v0, vk⟩ := FR hv
   obtain ⟨x3, xn, x1⟩ := GC hx
   have hq : s.fIndex.toNat < p.fVersions.length := by have := xn hk; omega
   have p1 := O2 hp hm h1 _ hq
   have p2 := O2 hp hm h2 _ hq
   rw [← p2, IQ, IQ, JV] at p1
   have ht : Pe s.fIndex.toNat s = true := by unfold Pe; rw [bne_iff_ne.2 hk, beq_self_eq_true]; rfl
   rw [ht] at p1
   cases hA : JV s.fIndex.toNat A <;> cases hB : JV s.fIndex.toNat B <;> rw [hA, hB] at p1 <;> cases p1
end Go.Lift

/- The law PlanTrim in plain words. -/
namespace Go.Lift
open Go
theorem OX {p : Ae} {m x : Ah} (hp : B3 p) (hm : Cw p m) {s : Ag} (hk : s.fKind = 3) (h : Gu p m s = some x) : K6 p x m := by
 obtain ⟨hv, hx, ha, h4, _⟩ := Gx.1 h
 obtain ⟨k1, k4, i0, v0, vk⟩ := FR hv
 obtain ⟨x3, xn, x1⟩ := GC hx
 obtain ⟨i, hi⟩ := Int.eq_ofNat_of_zero_le i0
 have hi3 : i < p.fTables.length := by have := x3 hk; omega
 have ht : p.fTables[i]? = some p.fTables[i] := by simp [hi3]
 have hin := Gw (hp.tab _ (List.mem_of_getElem? ht))
 have hr := Fz hp hm.toMixServ (s := (p.fTables[i]).fFrom.toNat) (by omega)
 unfold Ea at ha
 simp only [hi, Int.toNat_natCast] at ha
 rw [if_neg (by omega), if_pos hk, ht] at ha
 simp only at ha
 split at ha
 ·cases ha
 rename_i c
 cases ha
 have hs : Bt p.fTables[i] = true := by
  cases hs : Bt p.fTables[i]
  ·exact (c (.inl hs)).elim
  ·rfl
 refine ⟨rfl, rfl, fun q hq v hbv => ?_⟩
 simp only [Fv (show i < m.fHeld.length by rw [hm.held]; exact hi3)] at hbv
 split at hbv
 ·rename_i e; subst e
  rw [hr.1] at hbv
  exact hm.low q _ ht hs v hbv
 ·exact hbv
theorem SH {p : Ae} {m x : Ah} (hv : BJ p = 0) (hm : Cw p m) (hx : Cw p x) (h : K6 p m x) (hg : Gs p m = true) : Gs p x = true := by
 unfold Gs at hg ⊢
 rw [Hy hv hm] at hg
 rw [Hy hv hx, ← h.base, ← h.next]; exact hg
theorem QL {p : Ae} (hv : BJ p = 0) {m0 : Ah} (hm0 : Cw p m0) {A B C : List Ag} {i j : Ag}
  (h1 : Hm p m0 (A ++ i :: (B ++ j :: C)) = true) (h2 : Hm p m0 (A ++ (B ++ j :: C)) = true) (h3 : Hm p m0 (A ++ (B ++ C)) = true) : Hm p m0 (A ++ i :: (B ++ C)) = true := by
 obtain ⟨hp, _⟩ := EV hv
 have hi : i.fKind = 3 := Mr hp hm0 h1 h2
 have hj : j.fKind = 3 := Mr hp hm0 (A := A ++ B) (B := C) (s := j) (by rw [List.append_assoc]; exact h2) (by rw [List.append_assoc]; exact h3)
 obtain ⟨x1, r1, g1⟩ := Jl h1
 obtain ⟨x3, r3, g3⟩ := Jl h3
 rw [FU] at r1 r3
 cases ra : EE p m0 A with
 | none => rw [ra] at r1; cases r1
 | some m =>
  have hm := Ir hp A m0 m hm0 ra
  rw [ra] at r1 r3
  have r1 : EE p m (i :: (B ++ j :: C)) = some x1 := r1
  have r3 : EE p m (B ++ C) = some x3 := r3
  rw [EE] at r1
  cases ri : Gu p m i with
  | none => rw [ri] at r1; cases r1
  | some m1 =>
   have hm1 := Hs hp hm ri
   rw [ri] at r1
   have r1 : EE p m1 (B ++ j :: C) = some x1 := r1
   rw [FU] at r1 r3
   cases rb : EE p m1 B with
   | none => rw [rb] at r1; cases r1
   | some m1b =>
    cases rb3 : EE p m B with
    | none => rw [rb3] at r3; cases r3
    | some m3b =>
     rw [rb] at r1; rw [rb3] at r3
     have r1 : EE p m1b (j :: C) = some x1 := r1
     have r3 : EE p m3b C = some x3 := r3
     have hm1b := Ir hp B m1 m1b hm1 rb
     have hm3b := Ir hp B m m3b hm rb3
     rw [EE] at r1
     cases rj : Gu p m1b j with
     | none => rw [rj] at r1; cases r1
     | some m1j =>
      rw [rj] at r1
      have r1 : EE p m1j C = some x1 := r1
      have hm1j := Hs hp hm1b rj
      obtain ⟨y, k1, _, k3⟩ := NK hp B hm1 hm1 hm (K6.refl p m1) (OX hp hm hi ri) rb rb3
      rw [rb] at k1; cases k1
      obtain ⟨z, q1, q2, _⟩ := NK hp C hm1j hm1b hm3b (OX hp hm1b hj rj) k3 r1 r3
      unfold Hm
      rw [FU, ra]
      show (match EE p m (i :: (B ++ C)) with | some x => Gs p x | none => false) = true
      rw [EE, ri]
      show (match EE p m1 (B ++ C) with | some x => Gs p x | none => false) = true
      rw [FU, rb]
      show (match EE p m1b C with | some x => Gs p x | none => false) = true
      rw [q1]
      exact SH hv (Ir hp C m1j x1 hm1j r1) (Ir hp C m1b z hm1b q1) q2 g1
theorem Pq {α : Type} (l : List α) (k q : Nat) (hk : k ≤ q) (hq : q + 1 < l.length) : ∃ A B C i j, l = A ++ i :: (B ++ j :: C) ∧ l.eraseIdx k = A ++ (B ++ j :: C) ∧ (l.eraseIdx k).eraseIdx q = A ++ (B ++ C) ∧ l.eraseIdx (q + 1) = A ++ i :: (B ++ C) := by
 have e0 : l = l.take k ++ l[k] :: ((l.drop (k + 1)).take (q - k) ++ l[q + 1] :: l.drop (q + 2)) := by
  have h1 : l.drop (k + 1) = (l.drop (k + 1)).take (q - k) ++ l.drop (q + 1) := by
   have := (List.take_append_drop (q - k) (l.drop (k + 1))).symm
   rwa [List.drop_drop, show k + 1 + (q - k) = q + 1 from by omega] at this
  have h2 : l.drop (q + 1) = l[q + 1] :: l.drop (q + 2) := List.drop_eq_getElem_cons (by omega)
  have h3 : l.drop k = l[k] :: l.drop (k + 1) := List.drop_eq_getElem_cons (by omega)
  rw [← h2, ← h1, ← h3, List.take_append_drop]
 refine ⟨l.take k, (l.drop (k + 1)).take (q - k), l.drop (q + 2), l[k], l[q + 1], e0, ?_, ?_, ?_⟩
 all_goals
  have hlA : (l.take k).length = k := by simp; omega
  have hlB : ((l.drop (k + 1)).take (q - k)).length = q - k := by simp; omega
  generalize hA : l.take k = A at *
  generalize hB : (l.drop (k + 1)).take (q - k) = B at *
  generalize hC : l.drop (q + 2) = C at *
  generalize hi : l[k] = i at *
  generalize hj : l[q + 1] = j at *
  clear hA hB hC hi hj
  subst e0
 ·rw [List.eraseIdx_append_of_length_le (by omega), hlA, Nat.sub_self]; rfl
 ·rw [List.eraseIdx_append_of_length_le (by omega), hlA, Nat.sub_self]
  show (A ++ (B ++ j :: C)).eraseIdx q = _
  rw [List.eraseIdx_append_of_length_le (by omega), hlA, List.eraseIdx_append_of_length_le (by omega), hlB, Nat.sub_self]; rfl
 ·rw [List.eraseIdx_append_of_length_le (by omega), hlA, show q + 1 - k = (q - k) + 1 from by omega, List.eraseIdx_cons_succ, List.eraseIdx_append_of_length_le (by omega), hlB, Nat.sub_self]; rfl
theorem Kx {p : Ae} (hv : BJ p = 0) (hr : FI p (D1 p) = true) : ∀ (k : Nat) (out : List Ag), k ≤ out.length → Em p out = true → (∀ q, k ≤ q → q < out.length → Em p (out.eraseIdx q) = false) →
  Em p (Fh p k out) = true ∧ (Fh p k out).length ≤ out.length ∧ ∀ q, q < (Fh p k out).length → Em p ((Fh p k out).eraseIdx q) = false
 | 0, out, _, h1, h2 => ⟨h1, Nat.le_refl _, fun q hq => h2 q (Nat.zero_le _) hq⟩
 | k + 1, out, hk, h1, h2 => by
  have hC : ∀ l, Em p l = Hm p (D1 p) l := fun l => by rw [La, decide_eq_true hv, hr]; rfl
  rw [Fh]
  have hel := Jj (l := out) (i := k) (by omega)
  by_cases hc : Em p (out.eraseIdx k) = true
  ·rw [if_pos hc]
   obtain ⟨a1, a2, a3⟩ := Kx hv hr k (out.eraseIdx k) (by omega) hc (fun q hq hql => by
    cases hb : Em p ((out.eraseIdx k).eraseIdx q) with
    | false => rfl
    | true =>
     obtain ⟨A, B, C, i, j, e1, e2, e3, e4⟩ := Pq out k q hq (by omega)
     have := QL hv (KJ hv) (A := A) (B := B) (C := C) (i := i) (j := j) (by rw [← e1, ← hC]; exact h1) (by rw [← e2, ← hC]; exact hc) (by rw [← e3, ← hC]; exact hb)
     rw [← e4, ← hC, h2 (q + 1) (by omega) (by omega)] at this
     cases this)
   exact ⟨a1, by omega, a3⟩
  ·rw [if_neg hc]
   refine Kx hv hr k out (by omega) h1 fun q hq hql => ?_
   by_cases e : q = k
   ·subst e; simpa using hc
   ·exact h2 q (by omega) hql
theorem Pn (N : Nat) (l : List Ag) (hN : N ≤ 1000000) (h : l.length < N) : CG N l l = some true := by
 unfold CG
 rw [bne_self_eq_false, Aw]
 have := Cx (Ce N l l fun _ => some true) l (some true) (fun _ _ => none)
  (fun n i x hx => by
   have hi := (List.getElem?_eq_some_iff.1 hx).1
   rw [Ce, AN (by omega), Bs, hx]
   simp only [Option.bind_some, beq_self_eq_true, Bool.and_true, Bool.not_true, Aw]
   rw [AT (by omega)]; rfl)
  (fun n => by rw [Ce, AM (by simp)]) N 0 (Nat.zero_le _) (by omega)
 refine this.trans ?_
 rw [DS fun j x hx => rfl]; rfl
theorem JF (p : Ae) (ok : Bool) (a : List Ag) (c : Int) (j : List Ag → Option Bool) (ha : a.length ≤ 90) (hc : ∀ q, q < a.length → Em p (a.eraseIdx q) = false) : ∀ (n i : Nat), i ≤ a.length → a.length - i < n →
  B6 1000 (p, ok) (a, c) j n (a, (i : Int)) = j a
 | 0, i, _, h => by omega
 | n + 1, i, hi, h => by
  rw [B6]
  by_cases hlt : i < a.length
  ·rw [AN (by simp only; omega)]
   have hel := Jj hlt
   simp only [AT (show i < 1000000 by omega), Int.toNat_natCast]
   rw [Az ⟨by omega, by omega, by omega⟩, Az (by simp [Dj]; omega), Az ⟨by omega, by omega, Nat.le_refl _⟩, Az (by simp [Dj]; omega), Rq, GK (by omega) (by omega) (by omega) (by omega), hc i hlt]
   simp only [Option.bind_some, Aw]
   exact JF p ok a c j ha hc n (i + 1) (by omega) (by omega)
  ·rw [AM (by simp only; omega)]
theorem Mj (d : Ca) (l : List Ag) (wd : EO d) (_ : L2 KB l) : CW 1000 d l = some true := by
 obtain ⟨p, ok, e, _⟩ := We 1000 d (by omega) (by omega) wd
 unfold CW
 rw [e]
 simp only [Option.bind_some, Bb, Nu, Bool.not_true, Aw]
 cases ok
 ·rfl
 simp only [Bool.not_true, Aw]
 by_cases h12 : (12 : Int) < (l.length : Int)
 ·rw [decide_eq_true h12, AK]
 ·rw [decide_eq_false h12, Aw, NY (by omega) (by omega) (by omega), Pm (by omega) (by omega) (by omega)]
  have hlen : (JG p l).1.length ≤ 12 := by
   unfold JG
   split
   ·simp
   ·rename_i hv
    have hv : BJ p = 0 := Decidable.byContradiction hv
    split
    ·simp
    ·rename_i hc
     have hc : Em p l = true := by simpa using hc
     have hr : FI p (D1 p) = true := by rw [La, Bool.and_eq_true, Bool.and_eq_true] at hc; exact hc.2.1
     have := (Kx hv hr l.length l (Nat.le_refl _) hc (fun q h1 h2 => by omega)).2.1
     simp only; omega
  simp only [Option.bind_some, bne_self_eq_false, Aw, Pn 1000 _ (by omega) (show (JG p l).1.length < 1000 by omega), Bool.not_true, beq_self_eq_true, AK]
  by_cases h0 : (JG p l).2 = 0
  ·rw [h0, bne_self_eq_false, Aw]
   have hT : ∃ hv : BJ p = 0, Em p l = true ∧ JG p l = (Fh p l.length l, 0) := by
    unfold JG at h0 ⊢
    by_cases hv : BJ p = 0
    ·rw [if_neg (fun h => h hv)] at h0 ⊢
     refine ⟨hv, ?_⟩
     cases hc : Em p l
     ·rw [hc, if_pos rfl] at h0; cases h0
     ·exact ⟨rfl, if_neg (by simp)⟩
    ·rw [if_pos hv] at h0; exact (hv h0).elim
   obtain ⟨hv, hc, hT⟩ := hT
   have hr : FI p (D1 p) = true := by rw [La, Bool.and_eq_true, Bool.and_eq_true] at hc; exact hc.2.1
   obtain ⟨t1, t2, t3⟩ := Kx hv hr l.length l (Nat.le_refl _) hc (fun q h1 h2 => by omega)
   rw [hT] at hlen ⊢
   have := JF p true (Fh p l.length l) 0 (fun v19 => (C4 1000 p v19).bind fun v27 => some v27) (by omega) t3 1000 0 (Nat.zero_le _) (by omega)
   refine this.trans ?_
   rw [GK (by omega) (by omega) (by omega) (by omega), t1]; rfl
  ·rw [bne_iff_ne.2 h0, AK]
end Go.Lift

/- The keys of mixes. -/
namespace Go.Lift
open Go
end Go.Lift

/- Keys tell mixes. -/
namespace Go.Lift
open Go
end Go.Lift

/- The possible steps of a mix, in order: both implementations. -/
namespace Go.Lift
open Go
end Go.Lift

/- Enabled: the possible steps. -/
namespace Go.Lift
open Go
end Go.Lift

/- Enabled gives the possible steps. -/
namespace Go.Lift
open Go
end Go.Lift

/- The reference's list of possible steps is the same. -/
namespace Go.Lift
open Go
end Go.Lift

/- Breadth-first search in plain Lean: the ways that it finds are the least ones, by length and then by the ranks of their steps. No condition. -/
namespace Go.Lift
namespace Bfs
section
variable {α σ : Type}
def code (rk : σ → Nat) (K : Nat) (w : List σ) : Nat := w.foldl (fun c s => c * K + rk s) 0
def Wd (rk : σ → Nat) (K : Nat) (w : List σ) : Prop := ∀ s, s ∈ w → 1 ≤ rk s ∧ rk s ≤ K
theorem Wd.snoc {rk : σ → Nat} {K : Nat} {w : List σ} {s : σ} (h : Wd rk K w) (hs : 1 ≤ rk s ∧ rk s ≤ K) : Wd rk K (w ++ [s]) := by
 intro x hx; rcases List.mem_append.1 hx with h1 | h1
 ·exact h x h1
 ·rw [List.mem_singleton.1 h1]; exact hs
abbrev Nd (α σ : Type) := α × Int × σ
def put [DecidableEq α] (i : Nat) (l : List (Nd α σ)) (q : σ × α) : List (Nd α σ) := if (l.any fun n => decide (n.1 = q.2)) = true then l else l ++ [(q.2, (i : Int), q.1)]
def Fg [DecidableEq α] (most i : Nat) : List (σ × α) → List (Nd α σ) → Option (List (Nd α σ))
 | [], l => some l
 | q :: qs, l => if most < (put i l q).length then none else Fg most i qs (put i l q)
def go [DecidableEq α] (nxt : α → List (σ × α)) (most : Nat) : Nat → Nat → List (Nd α σ) → Option (List (Nd α σ))
 | 0, _, _ => none
 | n + 1, i, l => match l[i]? with
  | none => some l
  | some nd => (Fg most i (nxt nd.1) l).bind fun l' => go nxt most n (i + 1) l'
def run (nxt : α → List (σ × α)) (x : α) : List σ → α → Prop
 | [], y => y = x
 | s :: w, y => ∃ z, (s, z) ∈ nxt x ∧ run nxt z w y
theorem FQ {nxt : α → List (σ × α)} : ∀ {u w : List σ} {x y : α}, run nxt x (u ++ w) y ↔ ∃ z, run nxt x u z ∧ run nxt z w y
 | [], w, x, y => by simp [run]
 | s :: u, w, x, y => by
  simp only [List.cons_append, run]
  constructor
  ·rintro ⟨z, h1, h2⟩
   obtain ⟨z', h3, h4⟩ := FQ.1 h2
   exact ⟨z', ⟨z, h1, h3⟩, h4⟩
  ·rintro ⟨z', ⟨z, h1, h3⟩, h4⟩
   exact ⟨z, h1, FQ.2 ⟨z', h3, h4⟩⟩
end
end Bfs
end Go.Lift

/- The region of a mix: the reference's list of nodes is the breadth-first search. -/
namespace Go.Lift
open Go
theorem Pd : ∀ {l : List Int}, UC l = 0 → ∀ x, x ∈ l → x = 0
 | [], _, x, hx => by cases hx
 | y :: ys, h, x, hx => by
  unfold UC at h
  split at h
  ·rename_i hy
   rcases List.mem_cons.1 hx with rfl | hx
   ·exact hy
   ·exact Pd h x hx
  ·rename_i hy; exact absurd h hy
theorem Qw {a b : Ah} (h : SZ a b = 0) : a = b := by
 have := Pd h
 have h1 := LG _ _ (this (KY a.fBase b.fBase) (by simp))
 have h2 := LG _ _ (this (KY a.fNext b.fNext) (by simp))
 have h3 := LG _ _ (this (KY a.fHeld b.fHeld) (by simp))
 cases a; cases b; simp only at h1 h2 h3; subst h1; subst h2; subst h3; rfl
instance Wb : DecidableEq Ah := fun a b => if h : SZ a b = 0 then isTrue (Qw h) else isFalse (fun e => h (by rw [e]; exact QJ b))
end Go.Lift

/- The region of a mix: the reference's whole list. -/
namespace Go.Lift
open Go
end Go.Lift

/- The region of a mix: the program's list of nodes is the same. -/
namespace Go.Lift
open Go
end Go.Lift

/- Ways to goals: From and Find, both implementations. -/
namespace Go.Lift
open Go
end Go.Lift

/- The laws PlanFind, PlanFrom, PlanShortest. -/
namespace Go.Lift
open Go
end Go.Lift

/- The law PlanRest. -/
namespace Go.Lift
open Go
end Go.Lift

