/- Lemmas for ReachWalkSaid, which YtfnobkfnohhmmaaGreatFinW5 proves. -/
import Derived.Test.YtfnobkfnohhmmaaGreatDec
import Derived.KernelRfl
/- Plain words of the shallow programs. -/
namespace Go.Lift
theorem Bw {α : Type} (xs : List α) (i : Nat) : A9 xs (i : Int) = xs[i]? := by
 unfold A9; simp
theorem Ey {n : Int} (h0 : -9223372036854775808 ≤ n) (h1 : n ≤ 9223372036854775807) : IntKind.wrap .i64 n = n := by
 simp [IntKind.wrap, IntKind.signed, IntKind.bits]; omega
theorem AT {i : Nat} (h : i < 1000000) : IntKind.wrap .i64 ((i : Int) + 1) = ((i + 1 : Nat) : Int) := by
 rw [Ey (by omega) (by omega)]; simp
@[simp] theorem AV {α : Type} {a b : Option α} : AW true a b = a := rfl
@[simp] theorem Ay {α : Type} {a b : Option α} : AW false a b = b := rfl
theorem AU {α : Type} {p : Prop} [Decidable p] {a b : Option α} (h : p) : AW (decide p) a b = a := by simp [h]
theorem AQ {α : Type} {p : Prop} [Decidable p] {a b : Option α} (h : ¬ p) : AW (decide p) a b = b := by simp [h]
def Lk : List Int → List Int → Int
 | [], [] => 0
 | [], _ :: _ => -1
 | _ :: _, [] => 1
 | a :: as1, b :: bs => if a < b then -1 else if b < a then 1 else Lk as1 bs
theorem Hu {α : Type} {xs : List α} {i : Nat} {x : α} (h : xs[i]? = some x) : xs.drop i = x :: xs.drop (i + 1) := by
 obtain ⟨hi, rfl⟩ := List.getElem?_eq_some_iff.1 h
 exact List.drop_eq_getElem_cons hi
end Go.Lift

/- MixCompare: the order on mixes. -/
namespace Go.Lift
theorem N2 : ∀ a : List Int, Lk a a = 0
 | [] => rfl
 | a :: as1 => by simp [Lk, N2 as1]
theorem Mg : ∀ a b : List Int, Lk a b = 0 → a = b
 | [], [], _ => rfl
 | [], _ :: _, h => by simp [Lk] at h
 | _ :: _, [], h => by simp [Lk] at h
 | a :: as1, b :: bs, h => by
  unfold Lk at h
  split at h
  ·omega
  ·split at h
   ·omega
   ·rw [Mg as1 bs h, show a = b from by omega]
def VC : List Int → Int
 | [] => 0
 | x :: xs => if x = 0 then VC xs else x
def Xc (a : Ae) : Prop := a.fBase.length ≤ 8 ∧ a.fNext.length ≤ 8 ∧ a.fHeld.length ≤ 14
def SQ (a b : Ae) : Int := VC [Lk a.fBase b.fBase, Lk a.fNext b.fNext, Lk a.fHeld b.fHeld]
theorem Rb (a : Ae) : SQ a a = 0 := by unfold SQ; simp [N2, VC]
end Go.Lift

/- The law MixCompare in plain words. -/
namespace Go.Lift
end Go.Lift

/- Search loops in plain words; the two tests of a problem give the same answer. -/
namespace Go.Lift
def DY {α R : Type} (f : Nat → α → Option R) : Nat → List α → Option R
 | _, [] => none
 | i, x :: xs => match f i x with
  | some r => some r
  | none => DY f (i + 1) xs
theorem GR {α R : Type} (f : Nat → α → Option R) (i : Nat) (x : α) (xs : List α) : DY f i (x :: xs) = match f i x with
  | some r => some r
  | none => DY f (i + 1) xs := rfl
def BU {R : Type} (a : Option R) (b : Option R) : Option R := match a with
 | some r => some r
 | none => b
theorem Dt {α R : Type} (L : Nat → Int → Option R) (xs : List α) (j : Option R) (f : Nat → α → Option R)
  (hs : ∀ (n i : Nat) (x : α), xs[i]? = some x → L (n + 1) (i : Int) = BU (f i x) (L n ((i + 1 : Nat) : Int))) (he : ∀ n : Nat, L (n + 1) (xs.length : Int) = j) :
  ∀ n i : Nat, i ≤ xs.length → xs.length - i < n → L n (i : Int) = BU (DY f i (xs.drop i)) j
 | 0, i, _, h => by omega
 | n + 1, i, hi, h => by
  by_cases h1 : i < xs.length
  ·have hx : xs[i]? = some xs[i] := by simp [h1]
   rw [hs n i _ hx, Hu hx, Dt L xs j f hs he n (i + 1) (by omega) (by omega)]
   rw [GR]
   cases f i xs[i] <;> rfl
  ·have : i = xs.length := by omega
   subst this
   rw [he n, List.drop_eq_nil_of_le (Nat.le_refl _)]
   rfl
theorem NM (N : Nat) (k n : Int) : DZ N k n = some (decide (0 ≤ k) && decide (k < n)) := by
 unfold DZ
 simp only [Ba]
 by_cases h : 0 ≤ k
 ·rw [AU h]; simp [h]
 ·rw [AQ h]; simp [h]
theorem Ls (N : Nat) (t : AF) : A6 N t = some (t.fKind == 3 || t.fKind == 4) := by
 unfold A6
 simp only [Ba]
 cases h : t.fKind == 3 <;> simp
def sq (l : List (List Bool)) (n m : Int) : Bool := decide ((l.length : Int) = n) && l.all fun r => decide ((r.length : Int) = m)
theorem M5 {α : Type} (p : α → Bool) {R : Type} (r : Nat → R) : ∀ (i : Nat) (xs : List α), (DY (fun i x => if p x then none else some (r i)) i xs).isNone = xs.all p
 | i, [] => rfl
 | i, x :: xs => by
  unfold DY
  cases h : p x <;> simp [h, M5 p r (i + 1) xs]
theorem NC (N : Nat) (l : List (List Bool)) (n m : Int) (h : n < (N : Int)) (hN : N ≤ 1000000) : Dr N l n m = some (sq l n m) := by
 unfold Dr sq
 by_cases h1 : (l.length : Int) = n
 ·subst h1
  simp only [bne_self_eq_false, Ay, decide_true, Bool.true_and]
  have := Dt (Cr N l (l.length : Int) m (fun _ => some true)) l (some true) (fun _ r => if decide ((r.length : Int) = m) then none else some false)
   (fun n i x hx => by
    have hi := (List.getElem?_eq_some_iff.1 hx).1
    rw [Cr, AU (by omega), Bw, hx]
    simp only [Option.bind_some]
    rw [AT (by omega)]
    by_cases h2 : (x.length : Int) = m
    ·simp [h2, BU]
    ·have : ((x.length : Int) != m) = true := by simpa using h2
     simp [h2, this, BU])
   (fun n => by rw [Cr, AQ (by omega)]) N 0 (by omega) (by omega)
  simp only [Int.ofNat_zero, List.drop_zero] at this
  rw [this]
  have h3 := M5 (fun r : List Bool => decide ((r.length : Int) = m)) (fun _ => false) 0 l
  cases hsc : DY (fun (_ : Nat) (r : List Bool) => if decide ((r.length : Int) = m) = true then none else some false) 0 l with
  | none => rw [hsc] at h3; rw [← h3]; rfl
  | some b =>
   rw [hsc] at h3
   rw [← h3]
   have : ∀ (i : Nat) (xs : List (List Bool)) b, DY (fun (_ : Nat) (r : List Bool) => if decide ((r.length : Int) = m) = true then none else some false) i xs = some b → b = false := by
    intro i xs
    induction xs generalizing i with
    | nil => intro b hb; cases hb
    | cons x xs ih =>
     intro b hb
     unfold DY at hb
     split at hb
     ·rename_i r hr; cases hb; split at hr <;> simp at hr; exact hr
     ·exact ih _ b hb
   rw [this 0 l b hsc]; rfl
 ·have : ((l.length : Int) != n) = true := by simpa using h1
  simp [this, h1]
end Go.Lift

/- The tests of a table and of a problem: both implementations give one answer. -/
namespace Go.Lift
theorem NX (N : Nat) (l : List (List Bool)) (n m : Int) (h : n < (N : Int)) (hN : N ≤ 1000000) : EX N l n m = some (sq l n m) := by
 unfold EX sq
 simp only [Ba]
 by_cases h1 : (l.length : Int) = n
 ·subst h1
  simp only [beq_self_eq_true, AV, decide_true, Bool.true_and]
  have := Dt (Bk N l (fun x => DV N x m) (fun _ => some (-1))) l (some (-1)) (fun i r => if decide ((r.length : Int) = m) then none else some (i : Int))
   (fun n i x hx => by
    have hi := (List.getElem?_eq_some_iff.1 hx).1
    rw [Bk, AU (by omega), Bw, hx]
    simp only [Option.bind_some, DV]
    rw [AT (by omega)]
    by_cases h2 : (x.length : Int) = m
    ·simp [h2, BU]
    ·have : ((x.length : Int) != m) = true := by simpa using h2
     simp [h2, this, BU])
   (fun n => by rw [Bk, AQ (by omega)]) N 0 (by omega) (by omega)
  simp only [Int.ofNat_zero, List.drop_zero] at this
  unfold CZ Do
  rw [this]
  have h3 := M5 (fun r : List Bool => decide ((r.length : Int) = m)) (fun i : Nat => (i : Int)) 0 l
  cases hsc : DY (fun (i : Nat) (r : List Bool) => if decide ((r.length : Int) = m) = true then none else some (i : Int)) 0 l with
  | none => rw [hsc] at h3; rw [← h3]; rfl
  | some b =>
   rw [hsc] at h3
   rw [← h3]
   have : ∀ (i : Nat) (xs : List (List Bool)) b, DY (fun (i : Nat) (r : List Bool) => if decide ((r.length : Int) = m) = true then none else some (i : Int)) i xs = some b → 0 ≤ b := by
    intro i xs
    induction xs generalizing i with
    | nil => intro b hb; cases hb
    | cons x xs ih =>
     intro b hb
     rw [GR] at hb
     split at hb
     ·rename_i r hr
      cases hb
      split at hr
      ·cases hr
      ·cases hr; omega
     ·exact ih _ b hb
   have := this 0 l b hsc
   simp [BU, this]
 ·have : ((l.length : Int) == n) = false := by simpa using h1
  simp [this, h1]
end Go.Lift

/- The test of a table: both implementations give one answer. -/
namespace Go.Lift
def Il (l : List (List Bool)) : Option Int := DY (fun i row => if row.getD i false then none else some 1) 0 l
theorem PK {row : List Bool} {i : Nat} (h : i < row.length) : A9 row (i : Int) = some (row.getD i false) := by
 rw [Bw, List.getD_eq_getElem?_getD]; simp [h]
theorem TG (N : Nat) (t : AF) (h : t.fRewrite.length < N) (hN : N ≤ 1000000) (hsq : ∀ row, row ∈ t.fRewrite → row.length = t.fRewrite.length) (j : Option Int) :
  BY N t (fun _ => j) N 0 = BU (Il t.fRewrite) j := by
 have := Dt (BY N t (fun _ => j)) t.fRewrite j (fun i row => if row.getD i false then none else some 1)
  (fun n i x hx => by
   have hi := (List.getElem?_eq_some_iff.1 hx).1
   have hl := hsq x (List.mem_of_getElem? hx)
   rw [BY, AU (by omega), Bw, hx]
   simp only [Option.bind_some]
   rw [PK (by omega), AT (by omega)]
   simp only [Option.bind_some]
   cases x.getD i false <;> rfl)
  (fun n => by rw [BY, AQ (by omega)]) N 0 (by omega) (by omega)
 simpa [Il] using this
theorem NY (N : Nat) (t : AF) (h : t.fRewrite.length < N) (hN : N ≤ 1000000) (hsq : ∀ row, row ∈ t.fRewrite → row.length = t.fRewrite.length) (j : Option Int) :
  C3 N t (fun _ => j) N 0 = BU (Il t.fRewrite) j := by
 have := Dt (C3 N t (fun _ => j)) t.fRewrite j (fun i row => if row.getD i false then none else some 1)
  (fun n i x hx => by
   have hi := (List.getElem?_eq_some_iff.1 hx).1
   have hl := hsq x (List.mem_of_getElem? hx)
   rw [C3, AU (by omega), Bw, hx]
   simp only [Option.bind_some]
   rw [PK (by omega), AT (by omega)]
   simp only [Option.bind_some]
   cases x.getD i false <;> rfl)
  (fun n => by rw [C3, AQ (by omega)]) N 0 (by omega) (by omega)
 simpa [Il] using this
theorem Mf {l : List (List Bool)} {n m : Int} (h : sq l n m = true) : (l.length : Int) = n ∧ ∀ row, row ∈ l → (row.length : Int) = m := by
 unfold sq at h
 simp only [Bool.and_eq_true, decide_eq_true_eq, List.all_eq_true] at h
 exact h
def D2 (p : Ag) (t : AF) : Int :=
 if t.fKind < 1 ∨ 4 < t.fKind ∨ (t.fAware = true ∧ (t.fKind = 3 ∨ t.fKind = 4)) then 1
 else if t.fFrom < 0 ∨ (p.fVersions.length : Int) ≤ t.fFrom ∨ t.fTo < 0 ∨ (p.fVersions.length : Int) ≤ t.fTo then 4
 else
  let f := p.fVersions.getD t.fFrom.toNat 0
  let g := p.fVersions.getD t.fTo.toNat 0
  if sq t.fOK f g = false then 6
  else if t.fKind = 4 then (if sq t.fRewrite f f = false then 6 else (Il t.fRewrite).getD 0)
  else if t.fRewrite.length = 0 then 0 else 6
theorem EG {α : Type} {xs : List α} {i : Int} {d : α} (h0 : 0 ≤ i) (h1 : i < (xs.length : Int)) : A9 xs i = some (xs.getD i.toNat d) := by
 obtain ⟨k, rfl⟩ := Int.eq_ofNat_of_zero_le h0
 rw [Bw, List.getD_eq_getElem?_getD, Int.toNat_natCast]
 simp [show k < xs.length from by omega]
theorem Rt {t : AF} (A B : Option Int) (hk : ¬ (t.fAware = true ∧ (t.fKind = 3 ∨ t.fKind = 4))) : AW t.fAware (AW (t.fKind == 3 || t.fKind == 4) A B) B = B := by
 cases ha : t.fAware
 ·rfl
 ·have : (t.fKind == 3 || t.fKind == 4) = false := by
   rw [Bool.or_eq_false_iff]
   constructor
   ·simp only [beq_eq_false_iff_ne]; intro h; exact hk ⟨ha, .inl h⟩
   ·simp only [beq_eq_false_iff_ne]; intro h; exact hk ⟨ha, .inr h⟩
  rw [this]; rfl
theorem JL {p : Ag} {i : Int} (hv : ∀ v, v ∈ p.fVersions → 1 ≤ v ∧ v ≤ 6) (h0 : 0 ≤ i) (h1 : i < (p.fVersions.length : Int)) : 1 ≤ p.fVersions.getD i.toNat 0 ∧ p.fVersions.getD i.toNat 0 ≤ 6 := by
 refine hv _ ?_
 rw [List.getD_eq_getElem?_getD, List.getElem?_eq_getElem (by omega)]
 exact List.getElem_mem _
theorem Q4 (N : Nat) (p : Ag) (t : AF) (hN : N ≤ 1000000) (h6 : 7 ≤ N) (hv : ∀ v, v ∈ p.fVersions → 1 ≤ v ∧ v ≤ 6) : Em N p t = some (D2 p t) := by
 unfold Em D2
 simp only [Ba, Ls, Option.bind_some]
 by_cases k1 : t.fKind < 1
 ·simp [k1]
 by_cases k2 : 4 < t.fKind
 ·simp [k1, k2]
 rw [AQ k1, AQ k2]
 by_cases hk : t.fAware = true ∧ (t.fKind = 3 ∨ t.fKind = 4)
 ·obtain ⟨ha, k | k⟩ := hk <;> simp [ha, k]
 rw [Ay, Rt _ _ hk, if_neg (fun h => h.elim k1 fun h => h.elim k2 hk)]
 by_cases f1 : t.fFrom < 0
 ·simp [f1]
 by_cases f2 : (p.fVersions.length : Int) ≤ t.fFrom
 ·simp [f1, f2]
 by_cases f3 : t.fTo < 0
 ·simp [f1, f2, f3]
 by_cases f4 : (p.fVersions.length : Int) ≤ t.fTo
 ·simp [f1, f2, f3, f4]
 rw [AQ f1, AQ f2, AQ f3, if_neg (fun h => h.elim f1 fun h => h.elim f2 fun h => h.elim f3 f4)]
 have hf := JL hv (i := t.fFrom) (by omega) (by omega)
 rw [decide_eq_false f4, Ay, EG (d := 0) (by omega : 0 ≤ t.fFrom) (by omega), EG (d := 0) (by omega : 0 ≤ t.fTo) (by omega)]
 simp only [Option.bind_some]
 generalize p.fVersions.getD t.fFrom.toNat 0 = f at *
 generalize p.fVersions.getD t.fTo.toNat 0 = g at *
 rw [NC N t.fOK f g (by omega) hN, NC N t.fRewrite f f (by omega) hN]
 simp only [Option.bind_some]
 cases hq : sq t.fOK f g
 ·rfl
 simp only [Bool.not_true, Ay]
 by_cases k4 : t.fKind = 4
 ·have : (t.fKind != 4) = false := by simp [k4]
  rw [this, Ay]
  simp only [k4, if_true]
  cases hr : sq t.fRewrite f f
  ·rfl
  ·have h7 := Mf hr
   simp only [Bool.not_true, Ay]
   rw [TG N t (by omega) hN (fun row hm => by have := h7.2 row hm; omega)]
   cases Il t.fRewrite <;> simp [BU]
 ·have : (t.fKind != 4) = true := by simpa using k4
  rw [this, AV]
  simp only [k4, if_false]
  by_cases hr : t.fRewrite.length = 0
  ·simp [hr]
  ·have : ((t.fRewrite.length : Int) != 0) = true := bne_iff_ne.2 (by omega)
   rw [this]; simp [hr]
theorem S5 (N : Nat) (k : Int) (a : Bool) : Gp N k a = some (k == 1 || (k == 2 || ((k == 3 || k == 4) && !a))) := by
 unfold Gp
 simp only [Ba]
 cases h1 : k == 1 <;> cases h2 : k == 2 <;> cases h3 : k == 3 <;> cases h4 : k == 4 <;> cases a <;> rfl
theorem Ml (N : Nat) (p : Ag) (t : AF) (hN : N ≤ 1000000) (h6 : 7 ≤ N) (hv : ∀ v, v ∈ p.fVersions → 1 ≤ v ∧ v ≤ 6) : F0 N p t = some (D2 p t) := by
 unfold F0 D2
 simp only [Ba, S5, NM, Option.bind_some]
 by_cases hb : t.fKind < 1 ∨ 4 < t.fKind ∨ (t.fAware = true ∧ (t.fKind = 3 ∨ t.fKind = 4))
 ·have : (t.fKind == 1 || (t.fKind == 2 || ((t.fKind == 3 || t.fKind == 4) && !t.fAware))) = false := by
   rcases hb with h | h | ⟨ha, h | h⟩
   ·rw [beq_eq_false_iff_ne.2 (by omega : t.fKind ≠ 1), beq_eq_false_iff_ne.2 (by omega : t.fKind ≠ 2), beq_eq_false_iff_ne.2 (by omega : t.fKind ≠ 3), beq_eq_false_iff_ne.2 (by omega : t.fKind ≠ 4)]; rfl
   ·rw [beq_eq_false_iff_ne.2 (by omega : t.fKind ≠ 1), beq_eq_false_iff_ne.2 (by omega : t.fKind ≠ 2), beq_eq_false_iff_ne.2 (by omega : t.fKind ≠ 3), beq_eq_false_iff_ne.2 (by omega : t.fKind ≠ 4)]; rfl
   ·simp [ha, h]
   ·simp [ha, h]
  rw [this, if_pos hb]; rfl
 ·have : (t.fKind == 1 || (t.fKind == 2 || ((t.fKind == 3 || t.fKind == 4) && !t.fAware))) = true := by
   have hk : t.fKind = 1 ∨ t.fKind = 2 ∨ t.fKind = 3 ∨ t.fKind = 4 := by
    have h1 : ¬ t.fKind < 1 := fun h => hb (.inl h)
    have h2 : ¬ 4 < t.fKind := fun h => hb (.inr (.inl h))
    omega
   rcases hk with h | h | h | h
   ·simp [h]
   ·simp [h]
   ·cases ha : t.fAware
    ·simp [h]
    ·exact (hb (.inr (.inr ⟨ha, .inl h⟩))).elim
   ·cases ha : t.fAware
    ·simp [h]
    ·exact (hb (.inr (.inr ⟨ha, .inr h⟩))).elim
  rw [this, if_neg hb]
  simp only [Bool.not_true, Ay]
  by_cases f1 : t.fFrom < 0
  ·simp [f1, show ¬ (0 ≤ t.fFrom) from by omega]
  by_cases f2 : (p.fVersions.length : Int) ≤ t.fFrom
  ·simp [f2, show ¬ (t.fFrom < (p.fVersions.length : Int)) from by omega]
  by_cases f3 : t.fTo < 0
  ·simp [f3, show 0 ≤ t.fFrom from by omega, show t.fFrom < (p.fVersions.length : Int) from by omega, show ¬ (0 ≤ t.fTo) from by omega]
  by_cases f4 : (p.fVersions.length : Int) ≤ t.fTo
  ·simp [f4, show 0 ≤ t.fFrom from by omega, show t.fFrom < (p.fVersions.length : Int) from by omega, show ¬ (t.fTo < (p.fVersions.length : Int)) from by omega]
  rw [if_neg (fun h => h.elim f1 fun h => h.elim f2 fun h => h.elim f3 f4)]
  have hf := JL hv (i := t.fFrom) (by omega) (by omega)
  have hg := JL hv (i := t.fTo) (by omega) (by omega)
  rw [decide_eq_true (by omega : 0 ≤ t.fFrom), decide_eq_true (by omega : t.fFrom < (p.fVersions.length : Int)), decide_eq_true (by omega : 0 ≤ t.fTo), decide_eq_true (by omega : t.fTo < (p.fVersions.length : Int)), EG (d := 0) (by omega : 0 ≤ t.fFrom) (by omega), EG (d := 0) (by omega : 0 ≤ t.fTo) (by omega)]
  simp only [Bool.and_self, Bool.not_true, Ay, Option.bind_some]
  generalize p.fVersions.getD t.fFrom.toNat 0 = f at *
  generalize p.fVersions.getD t.fTo.toNat 0 = g at *
  rw [NX N t.fOK f g (by omega) hN, NX N t.fRewrite f f (by omega) hN]
  simp only [Option.bind_some]
  cases hq : sq t.fOK f g
  ·rfl
  simp only [Bool.not_true, Ay]
  by_cases k4 : t.fKind = 4
  ·simp only [k4, beq_self_eq_true, AV, if_true]
   cases hr : sq t.fRewrite f f
   ·rfl
   ·have h7 := Mf hr
    simp only [Bool.not_true, Ay]
    rw [NY N t (by omega) hN (fun row hm => by have := h7.2 row hm; omega)]
    cases Il t.fRewrite <;> simp [BU]
  ·have : (t.fKind == 4) = false := beq_eq_false_iff_ne.2 k4
   rw [this, Ay]
   simp only [k4, if_false, Bool.not_false, AV]
   by_cases hr : t.fRewrite.length = 0
   ·rw [NY N t (by omega) hN (fun row hm => by rw [List.eq_nil_of_length_eq_zero hr] at hm; cases hm), List.eq_nil_of_length_eq_zero hr]
    simp [Il, DY, BU]
   ·rw [decide_eq_true (by omega : 0 < (t.fRewrite.length : Int))]
    simp [hr]
end Go.Lift

/- The test of a problem: both implementations give one answer. -/
namespace Go.Lift
def FH (p : Ag) (i : Nat) (v : Int) : Option Int :=
 if v < 1 ∨ 6 < v ∨ p.fNow.getD i 0 < 0 ∨ v ≤ p.fNow.getD i 0 ∨ p.fTarget.getD i 0 < 0 ∨ v ≤ p.fTarget.getD i 0 then some 7 else none
def KG (p : Ag) (_ : Nat) (t : AF) : Option Int := if D2 p t = 0 then none else some (D2 p t)
def Cx (p : Ag) : Int :=
 if 6 < p.fVersions.length ∨ 12 < p.fTables.length then 3
 else if p.fNow.length ≠ p.fVersions.length ∨ p.fTarget.length ≠ p.fVersions.length then 6
 else ((BU (DY (FH p) 0 p.fVersions) (DY (KG p) 0 p.fTables)).getD 0)
theorem GS {α R : Type} {f : Nat → α → Option R} : ∀ {i : Nat} {xs : List α}, DY f i xs = none → ∀ j x, xs[j]? = some x → f (i + j) x = none
 | _, [], _, j, x, hx => by simp at hx
 | i, y :: ys, h, j, x, hx => by
  rw [GR] at h
  split at h
  ·cases h
  ·rename_i h0
   cases j with
   | zero => simp at hx; subst hx; exact h0
   | succ j =>
    have := GS h j x (by simpa using hx)
    rwa [show i + 1 + j = i + (j + 1) from by omega] at this
theorem MC {p : Ag} (h : DY (FH p) 0 p.fVersions = none) : ∀ v, v ∈ p.fVersions → 1 ≤ v ∧ v ≤ 6 := by
 intro v hv
 obtain ⟨i, hi⟩ := List.mem_iff_getElem?.1 hv
 have := GS h i v hi
 unfold FH at this
 split at this
 ·cases this
 ·rename_i hn
  constructor
  ·exact Int.not_lt.1 fun h => hn (.inl h)
  ·exact Int.not_lt.1 fun h => hn (.inr (.inl h))
theorem Dj {α : Type} {xs : List α} {i : Nat} {d : α} (h : i < xs.length) : A9 xs (i : Int) = some (xs.getD i d) := by
 rw [Bw, List.getD_eq_getElem?_getD]; simp [h]
theorem Qr (N : Nat) (p : Ag) (hN : N ≤ 1000000) (h1 : p.fVersions.length < N) (h2 : p.fNow.length = p.fVersions.length) (h3 : p.fTarget.length = p.fVersions.length) (j : Option Int) :
  Bg N p (fun _ => j) N 0 = BU (DY (FH p) 0 p.fVersions) j := by
 have := Dt (Bg N p (fun _ => j)) p.fVersions j (FH p)
  (fun n i x hx => by
   have hi := (List.getElem?_eq_some_iff.1 hx).1
   rw [Bg, AU (by omega), Bw, hx]
   simp only [Option.bind_some, Ba]
   rw [Dj (d := 0) (by omega), Dj (d := 0) (by omega), AT (by omega)]
   simp only [Option.bind_some]
   unfold FH
   generalize p.fNow.getD i 0 = a
   generalize p.fTarget.getD i 0 = b
   by_cases k1 : x < 1 <;> by_cases k2 : 6 < x <;> by_cases k3 : a < 0 <;> by_cases k4 : x ≤ a <;> by_cases k5 : b < 0 <;> by_cases k6 : x ≤ b <;> simp [k1, k2, k3, k4, k5, k6, BU])
  (fun n => by rw [Bg, AQ (by omega)]) N 0 (by omega) (by omega)
 simpa using this
theorem Ox (N : Nat) (p : Ag) (hN : N ≤ 1000000) (h1 : p.fVersions.length < N) (h2 : p.fNow.length = p.fVersions.length) (h3 : p.fTarget.length = p.fVersions.length) (j : Option Int) :
  BW N p (fun _ => j) N 0 = BU (DY (FH p) 0 p.fVersions) j := by
 have := Dt (BW N p (fun _ => j)) p.fVersions j (FH p)
  (fun n i x hx => by
   have hi := (List.getElem?_eq_some_iff.1 hx).1
   rw [BW, AU (by omega), Bw, hx]
   simp only [Option.bind_some, Ba, NM]
   rw [Dj (d := 0) (by omega), Dj (d := 0) (by omega), AT (by omega)]
   simp only [Option.bind_some]
   unfold FH
   generalize p.fNow.getD i 0 = a
   generalize p.fTarget.getD i 0 = b
   have e1 : decide (0 ≤ a) = !decide (a < 0) := by rw [← decide_not]; congr 1; simp
   have e2 : decide (a < x) = !decide (x ≤ a) := by rw [← decide_not]; congr 1; simp
   have e3 : decide (0 ≤ b) = !decide (b < 0) := by rw [← decide_not]; congr 1; simp
   have e4 : decide (b < x) = !decide (x ≤ b) := by rw [← decide_not]; congr 1; simp
   rw [e1, e2, e3, e4]
   by_cases k1 : x < 1 <;> by_cases k2 : 6 < x <;> by_cases k3 : a < 0 <;> by_cases k4 : x ≤ a <;> by_cases k5 : b < 0 <;> by_cases k6 : x ≤ b <;> simp [k1, k2, k3, k4, k5, k6, BU])
  (fun n => by rw [BW, AQ (by omega)]) N 0 (by omega) (by omega)
 simpa using this
theorem Ro (N : Nat) (p : Ag) (hN : N ≤ 1000000) (h6 : 7 ≤ N) (h1 : p.fTables.length < N) (hv : ∀ v, v ∈ p.fVersions → 1 ≤ v ∧ v ≤ 6) (j : Option Int) :
  Bd N p (fun _ => j) N 0 = BU (DY (KG p) 0 p.fTables) j := by
 have := Dt (Bd N p (fun _ => j)) p.fTables j (KG p)
  (fun n i x hx => by
   have hi := (List.getElem?_eq_some_iff.1 hx).1
   rw [Bd, AU (by omega), Bw, hx]
   simp only [Option.bind_some]
   rw [Q4 N p x hN h6 hv, AT (by omega)]
   simp only [Option.bind_some]
   unfold KG
   by_cases k : D2 p x = 0
   ·simp [k, BU]
   ·rw [bne_iff_ne.2 k, if_neg k]; rfl)
  (fun n => by rw [Bd, AQ (by omega)]) N 0 (by omega) (by omega)
 simpa using this
theorem Qi (N : Nat) (p : Ag) (hN : N ≤ 1000000) (h6 : 7 ≤ N) (h1 : p.fTables.length < N) (hv : ∀ v, v ∈ p.fVersions → 1 ≤ v ∧ v ≤ 6) (j : Option Int) :
  BL N p (fun _ => j) N 0 = BU (DY (KG p) 0 p.fTables) j := by
 have := Dt (BL N p (fun _ => j)) p.fTables j (KG p)
  (fun n i x hx => by
   have hi := (List.getElem?_eq_some_iff.1 hx).1
   rw [BL, AU (by omega), Bw, hx]
   simp only [Option.bind_some]
   rw [Ml N p x hN h6 hv, AT (by omega)]
   simp only [Option.bind_some]
   unfold KG
   by_cases k : D2 p x = 0
   ·simp [k, BU]
   ·rw [bne_iff_ne.2 k, if_neg k]; rfl)
  (fun n => by rw [BL, AQ (by omega)]) N 0 (by omega) (by omega)
 simpa using this
theorem MN (N : Nat) (p : Ag) (hN : N ≤ 1000000) (h : 20 ≤ N) : Ct N p = some (Cx p) := by
 unfold Ct Cx
 simp only [Ba]
 by_cases k1 : 6 < p.fVersions.length
 ·rw [AU (by omega)]; simp [k1]
 rw [AQ (by omega)]
 by_cases k2 : 12 < p.fTables.length
 ·rw [decide_eq_true (by omega : (12 : Int) < (p.fTables.length : Int))]; simp [k2]
 rw [decide_eq_false (by omega : ¬ (12 : Int) < (p.fTables.length : Int)), Ay, if_neg (by omega)]
 by_cases k3 : p.fNow.length = p.fVersions.length
 ·by_cases k4 : p.fTarget.length = p.fVersions.length
  ·rw [k3, k4]
   simp only [bne_self_eq_false, Ay, ne_eq, not_true_eq_false, or_self, if_false]
   rw [Qr N p hN (by omega) k3 k4]
   cases hs : DY (FH p) 0 p.fVersions with
   | some r => rfl
   | none =>
    simp only [BU]
    rw [Ro N p hN (by omega) (by omega) (MC hs)]
    cases DY (KG p) 0 p.fTables <;> rfl
  ·have : ((p.fTarget.length : Int) != (p.fVersions.length : Int)) = true := bne_iff_ne.2 (by omega)
   rw [this, k3]; simp [k4]
 ·have : ((p.fNow.length : Int) != (p.fVersions.length : Int)) = true := bne_iff_ne.2 (by omega)
  rw [this]; simp [k3]
theorem KJ (N : Nat) (p : Ag) (hN : N ≤ 1000000) (h : 20 ≤ N) : Du N p = some (Cx p) := by
 unfold Du Cx
 simp only [Ba]
 by_cases k1 : 6 < p.fVersions.length
 ·rw [AU (by omega)]; simp [k1]
 rw [AQ (by omega)]
 by_cases k2 : 12 < p.fTables.length
 ·rw [decide_eq_true (by omega : (12 : Int) < (p.fTables.length : Int))]; simp [k2]
 rw [decide_eq_false (by omega : ¬ (12 : Int) < (p.fTables.length : Int)), Ay, if_neg (by omega)]
 by_cases k3 : p.fNow.length = p.fVersions.length
 ·by_cases k4 : p.fTarget.length = p.fVersions.length
  ·rw [k3, k4]
   simp only [bne_self_eq_false, Ay, ne_eq, not_true_eq_false, or_self, if_false]
   rw [Ox N p hN (by omega) k3 k4]
   cases hs : DY (FH p) 0 p.fVersions with
   | some r => rfl
   | none =>
    simp only [BU]
    rw [Qi N p hN (by omega) (by omega) (MC hs)]
    cases DY (KG p) 0 p.fTables <;> rfl
  ·have : ((p.fTarget.length : Int) != (p.fVersions.length : Int)) = true := bne_iff_ne.2 (by omega)
   rw [this, k3]; simp [k4]
 ·have : ((p.fNow.length : Int) != (p.fVersions.length : Int)) = true := bne_iff_ne.2 (by omega)
  rw [this]; simp [k3]
end Go.Lift

/- The test of a mix: both implementations give one answer. -/
namespace Go.Lift
theorem H6 {n : Int} (h : KC n) : 0 ≤ n ∧ n ≤ 255 := by
 unfold KC at h
 simpa [Lit.wf, IntKind.min, IntKind.max, IntKind.signed, IntKind.bits] using h
theorem Np : ∀ k : Fin 256, Df .u8 0 (k.val : Int) = 0 := by decide +kernel
theorem Nl : ∀ k : Fin 256, Df .u8 (k.val : Int) 0 = (k.val : Int) := by decide +kernel
theorem RX {n : Int} (h : KC n) : Df .u8 0 n = 0 := by
 have := H6 h
 obtain ⟨k, rfl⟩ := Int.eq_ofNat_of_zero_le this.1
 exact Np ⟨k, by omega⟩
theorem Sz {n : Int} (h : KC n) : Df .u8 n 0 = n := by
 have := H6 h
 obtain ⟨k, rfl⟩ := Int.eq_ofNat_of_zero_le this.1
 exact Nl ⟨k, by omega⟩
theorem FC {α R : Type} {f : Nat → α → Option R} : ∀ {i : Nat} {xs : List α} {r : R}, DY f i xs = some r → ∃ j x, xs[j]? = some x ∧ f (i + j) x = some r
 | _, [], _, h => by cases h
 | i, y :: ys, r, h => by
  rw [GR] at h
  split at h
  ·rename_i r' h0
   cases h
   exact ⟨0, y, rfl, h0⟩
  ·obtain ⟨j, x, h1, h2⟩ := FC h
   exact ⟨j + 1, x, by simpa using h1, by rwa [show i + (j + 1) = i + 1 + j from by omega]⟩
structure Cc (p : Ag) : Prop where
 nv : p.fVersions.length ≤ 6
 nt : p.fTables.length ≤ 12
 now : p.fNow.length = p.fVersions.length
 tgt : p.fTarget.length = p.fVersions.length
 ver : ∀ v, v ∈ p.fVersions → 1 ≤ v ∧ v ≤ 6
 tab : ∀ t, t ∈ p.fTables → D2 p t = 0
theorem Qm (l : List (List Bool)) : (Il l).getD 0 = 0 ∨ (Il l).getD 0 = 1 := by
 cases h : Il l with
 | none => exact .inl rfl
 | some r =>
  obtain ⟨j, x, _, h⟩ := FC h
  split at h
  ·cases h
  ·cases h; exact .inr rfl
theorem OK (p : Ag) (t : AF) : D2 p t = 0 ∨ D2 p t = 1 ∨ D2 p t = 4 ∨ D2 p t = 6 := by
 unfold D2
 split
 ·exact .inr (.inl rfl)
 split
 ·exact .inr (.inr (.inl rfl))
 simp only
 split
 ·exact .inr (.inr (.inr rfl))
 split
 ·split
  ·exact .inr (.inr (.inr rfl))
  ·rcases Qm t.fRewrite with h | h
   ·exact .inl h
   ·exact .inr (.inl h)
 ·split
  ·exact .inl rfl
  ·exact .inr (.inr (.inr rfl))
theorem HX (p : Ag) : (Cx p = 0 ∧ Cc p) ∨ (Cx p = 1 ∨ Cx p = 3 ∨ Cx p = 4 ∨ Cx p = 6 ∨ Cx p = 7) := by
 unfold Cx
 split
 ·simp
 rename_i k1
 split
 ·simp
 rename_i k2
 cases hs : DY (FH p) 0 p.fVersions with
 | some r =>
  obtain ⟨j, x, _, h⟩ := FC hs
  unfold FH at h
  split at h
  ·cases h; simp [BU]
  ·cases h
 | none =>
  cases ht : DY (KG p) 0 p.fTables with
  | some r =>
   obtain ⟨j, t, _, h⟩ := FC ht
   unfold KG at h
   split at h
   ·cases h
   ·rename_i hne
    cases h
    simp only [BU, Option.getD_some]
    right
    rcases OK p t with h | h | h | h
    ·exact (hne h).elim
    ·exact .inl h
    ·exact .inr (.inr (.inl h))
    ·exact .inr (.inr (.inr (.inl h)))
  | none =>
   left
   refine ⟨rfl, by omega, by omega, by omega, by omega, MC hs, fun t hm => ?_⟩
   obtain ⟨j, hj⟩ := List.mem_iff_getElem?.1 hm
   have := GS ht j t hj
   unfold KG at this
   split at this
   ·assumption
   ·cases this
end Go.Lift

/- The test of a mix: both implementations give one answer. -/
namespace Go.Lift
def Gu (m : Ae) (s : Nat) : Int :=
 if 0 ≤ m.fNext.getD s 0 then Nf .u8 (CJ .u8 1 (m.fBase.getD s 0)) (CJ .u8 1 (m.fNext.getD s 0)) else CJ .u8 1 (m.fBase.getD s 0)
def Kn (m : Ae) (i : Nat) (v : Int) : Option Int :=
 if m.fBase.getD i 0 < 0 ∨ v ≤ m.fBase.getD i 0 ∨ m.fNext.getD i 0 < -1 ∨ v ≤ m.fNext.getD i 0 then some 7
 else if m.fBase.getD i 0 = m.fNext.getD i 0 then some 1 else none
def Cd (t : AF) : Bool := t.fKind == 3 || t.fKind == 4
def TS (p : Ag) (t : AF) : Int := IntKind.wrap .u8 (CJ .u8 1 (p.fVersions.getD t.fFrom.toNat 0) - 1)
def IA (p : Ag) (m : Ae) (i : Nat) (t : AF) : Option Int :=
 if Cd t = true then (if Df .u8 (Gu m t.fFrom.toNat) (m.fHeld.getD i 0) ≠ 0 ∨ Df .u8 (m.fHeld.getD i 0) (TS p t) ≠ 0 then some 1 else none)
 else if m.fHeld.getD i 0 ≠ 0 then some 1 else none
def FZ (p : Ag) (m : Ae) : Int :=
 if Cx p ≠ 0 then Cx p
 else if m.fBase.length ≠ p.fVersions.length ∨ m.fNext.length ≠ p.fVersions.length ∨ m.fHeld.length ≠ p.fTables.length then 6
 else (BU (DY (Kn m) 0 p.fVersions) (DY (IA p m) 0 p.fTables)).getD 0
theorem In {p : Ag} {t : AF} (h : D2 p t = 0) : 0 ≤ t.fFrom ∧ t.fFrom < (p.fVersions.length : Int) ∧ 0 ≤ t.fTo ∧ t.fTo < (p.fVersions.length : Int) := by
 unfold D2 at h
 split at h
 ·cases h
 ·split at h
  ·cases h
  ·omega
theorem Ku (N : Nat) (m : Ae) (s : Int) (h0 : 0 ≤ s) (h1 : s < (m.fBase.length : Int)) (h2 : s < (m.fNext.length : Int)) (hb : 0 ≤ m.fBase.getD s.toNat 0) : ES N m s = some (Gu m s.toNat) := by
 unfold ES Gu
 rw [EG (d := 0) h0 h1, EG (d := 0) h0 h2]
 simp only [Option.bind_some, Ba]
 rw [show Ef (0 ≤ m.fBase.getD s.toNat 0) = some () from by unfold Ef; rw [if_pos hb]]
 simp only [Option.bind_some]
 by_cases h : 0 ≤ m.fNext.getD s.toNat 0
 ·rw [AU h, if_pos h, show Ef (0 ≤ m.fNext.getD s.toNat 0) = some () from by unfold Ef; rw [if_pos h]]; rfl
 ·rw [AQ h, if_neg h]
theorem Jh (N : Nat) (m : Ae) (s : Int) (h0 : 0 ≤ s) (h1 : s < (m.fBase.length : Int)) (h2 : s < (m.fNext.length : Int)) (hb : 0 ≤ m.fBase.getD s.toNat 0) : BT N m s = some (Gu m s.toNat) := by
 unfold BT Gu
 rw [EG (d := 0) h0 h1, EG (d := 0) h0 h2]
 simp only [Option.bind_some, Ba]
 rw [show Ef (0 ≤ m.fBase.getD s.toNat 0) = some () from by unfold Ef; rw [if_pos hb]]
 simp only [Option.bind_some]
 by_cases h : 0 ≤ m.fNext.getD s.toNat 0
 ·rw [AU h, if_pos h, show Ef (0 ≤ m.fNext.getD s.toNat 0) = some () from by unfold Ef; rw [if_pos h]]; rfl
 ·rw [AQ h, if_neg h]
theorem OG (N : Nat) (p : Ag) (m : Ae) (hN : N ≤ 1000000) (h1 : p.fVersions.length < N) (h2 : m.fBase.length = p.fVersions.length) (h3 : m.fNext.length = p.fVersions.length) (j : Option Int) :
  D0 N p m (fun _ => j) N 0 = BU (DY (Kn m) 0 p.fVersions) j := by
 have := Dt (D0 N p m (fun _ => j)) p.fVersions j (Kn m)
  (fun n i x hx => by
   have hi := (List.getElem?_eq_some_iff.1 hx).1
   rw [D0, AU (by omega), Bw, hx]
   simp only [Option.bind_some, Ba]
   rw [Dj (d := 0) (by omega), Dj (d := 0) (by omega), AT (by omega)]
   simp only [Option.bind_some]
   unfold Kn
   generalize m.fBase.getD i 0 = a
   generalize m.fNext.getD i 0 = b
   by_cases k7 : a = b
   ·subst k7
    by_cases k3 : a < 0 <;> by_cases k4 : x ≤ a <;> by_cases k5 : a < -1 <;> simp [k3, k4, k5, BU]
   ·have k8 : (a == b) = false := beq_eq_false_iff_ne.2 k7
    by_cases k3 : a < 0 <;> by_cases k4 : x ≤ a <;> by_cases k5 : b < -1 <;> by_cases k6 : x ≤ b <;> simp [k3, k4, k5, k6, k7, k8, BU])
  (fun n => by rw [D0, AQ (by omega)]) N 0 (by omega) (by omega)
 simpa using this
theorem OU (N : Nat) (p : Ag) (m : Ae) (hN : N ≤ 1000000) (h1 : p.fVersions.length < N) (h2 : m.fBase.length = p.fVersions.length) (h3 : m.fNext.length = p.fVersions.length) (j : Option Int) :
  B8 N p m (fun _ => j) N 0 = BU (DY (Kn m) 0 p.fVersions) j := by
 have := Dt (B8 N p m (fun _ => j)) p.fVersions j (Kn m)
  (fun n i x hx => by
   have hi := (List.getElem?_eq_some_iff.1 hx).1
   rw [B8, AU (by omega), show A9 p.fVersions (i : Int) = some x from by rw [Bw, hx]]
   simp only [Option.bind_some, Ba]
   rw [Dj (d := 0) (by omega), Dj (d := 0) (by omega), AT (by omega)]
   simp only [Option.bind_some]
   unfold Kn
   generalize m.fBase.getD i 0 = a
   generalize m.fNext.getD i 0 = b
   by_cases k7 : a = b
   ·subst k7
    by_cases k3 : a < 0 <;> by_cases k4 : x ≤ a <;> by_cases k5 : a < -1 <;> simp [k3, k4, k5, BU]
   ·have k8 : (a == b) = false := beq_eq_false_iff_ne.2 k7
    by_cases k3 : a < 0 <;> by_cases k4 : x ≤ a <;> by_cases k5 : b < -1 <;> by_cases k6 : x ≤ b <;> simp [k3, k4, k5, k6, k7, k8, BU])
  (fun n => by rw [B8, AQ (by omega)]) N 0 (by omega) (by omega)
 simpa using this
end Go.Lift

/- The test of a mix, the whole: both implementations give one answer. -/
namespace Go.Lift
structure MixServ (p : Ag) (m : Ae) : Prop where
 base : m.fBase.length = p.fVersions.length
 next : m.fNext.length = p.fVersions.length
 held : m.fHeld.length = p.fTables.length
 b0 : ∀ i, i < p.fVersions.length → 0 ≤ m.fBase.getD i 0 ∧ m.fBase.getD i 0 < p.fVersions.getD i 0
 n0 : ∀ i, i < p.fVersions.length → -1 ≤ m.fNext.getD i 0 ∧ m.fNext.getD i 0 < p.fVersions.getD i 0
 ne : ∀ i, i < p.fVersions.length → m.fBase.getD i 0 ≠ m.fNext.getD i 0
theorem Ob {p : Ag} {m : Ae} (h2 : m.fBase.length = p.fVersions.length) (h3 : m.fNext.length = p.fVersions.length) (h4 : m.fHeld.length = p.fTables.length) (h : DY (Kn m) 0 p.fVersions = none) : MixServ p m := by
 have key : ∀ i, i < p.fVersions.length → ¬ (m.fBase.getD i 0 < 0 ∨ p.fVersions.getD i 0 ≤ m.fBase.getD i 0 ∨ m.fNext.getD i 0 < -1 ∨ p.fVersions.getD i 0 ≤ m.fNext.getD i 0) ∧ ¬ m.fBase.getD i 0 = m.fNext.getD i 0 := by
  intro i hi
  have hx : p.fVersions[i]? = some (p.fVersions.getD i 0) := by rw [List.getD_eq_getElem?_getD]; simp [hi]
  have := GS h i _ hx
  rw [Nat.zero_add] at this
  unfold Kn at this
  split at this
  ·cases this
  ·split at this
   ·cases this
   ·rename_i k1 k2; exact ⟨k1, k2⟩
 exact ⟨h2, h3, h4, fun i hi => by have := (key i hi).1; omega, fun i hi => by have := (key i hi).1; omega, fun i hi => (key i hi).2⟩
theorem PN {m : Ae} (hw : NV KC m.fHeld) {i : Nat} (h : i < m.fHeld.length) : KC (m.fHeld.getD i 0) := by
 refine hw _ ?_
 rw [List.getD_eq_getElem?_getD, List.getElem?_eq_getElem h]
 exact List.getElem_mem _
theorem IN (N : Nat) (t : AF) : E9 N t = some (Cd t) := by
 unfold E9 Cd
 simp only [Ba]
 cases h : t.fKind == 3 <;> simp
theorem Gt (N : Nat) (t : AF) : A6 N t = some (Cd t) := Ls N t
theorem P1 (N : Nat) (p : Ag) (m : Ae) (hN : N ≤ 1000000) (h1 : p.fTables.length < N) (hp : Cc p) (hm : MixServ p m) (hw : NV KC m.fHeld) (j : Option Int) :
  DJ N p m (fun _ => j) N 0 = BU (DY (IA p m) 0 p.fTables) j := by
 have := Dt (DJ N p m (fun _ => j)) p.fTables j (IA p m)
  (fun n i x hx => by
   have hi := (List.getElem?_eq_some_iff.1 hx).1
   have hin := In (hp.tab x (List.mem_of_getElem? hx))
   have hheld := PN hw (show i < m.fHeld.length from by rw [hm.held]; exact hi)
   have hv := JL hp.ver hin.1 hin.2.1
   rw [DJ, AU (by omega), Bw, hx]
   simp only [Option.bind_some, Ba, IN]
   rw [Ku N m x.fFrom hin.1 (by rw [hm.base]; exact hin.2.1) (by rw [hm.next]; exact hin.2.1) (hm.b0 _ (by omega)).1, EG (d := 0) hin.1 hin.2.1, Dj (d := 0) (show i < m.fHeld.length from by rw [hm.held]; exact hi), AT (by omega)]
   simp only [Option.bind_some]
   rw [show Ef (0 ≤ p.fVersions.getD x.fFrom.toNat 0) = some () from by unfold Ef; rw [if_pos (by omega)]]
   simp only [Option.bind_some]
   unfold IA TS
   rw [RX hheld, Sz hheld]
   generalize Df .u8 (Gu m x.fFrom.toNat) (m.fHeld.getD i 0) = A
   generalize Df .u8 (m.fHeld.getD i 0) (IntKind.wrap .u8 (CJ .u8 1 (p.fVersions.getD x.fFrom.toNat 0) - 1)) = B
   generalize m.fHeld.getD i 0 = H
   cases Cd x
   ·simp only [Ay, bne_self_eq_false]
    by_cases k : H = 0
    ·simp [k, BU]
    ·have : (H != 0) = true := bne_iff_ne.2 k
     simp [k, this, BU]
   ·simp only [AV]
    by_cases k : A = 0
    ·by_cases k2 : B = 0
     ·simp [k, k2, BU]
     ·have : (B != 0) = true := bne_iff_ne.2 k2
      simp [k, k2, this, BU]
    ·have : (A != 0) = true := bne_iff_ne.2 k
     simp [k, this, BU])
  (fun n => by rw [DJ, AQ (by omega)]) N 0 (by omega) (by omega)
 simpa using this
theorem PY (N : Nat) (p : Ag) (m : Ae) (hN : N ≤ 1000000) (h1 : p.fTables.length < N) (hp : Cc p) (hm : MixServ p m) (j : Option Int) :
  BZ N p m (fun _ => j) N 0 = BU (DY (IA p m) 0 p.fTables) j := by
 have := Dt (BZ N p m (fun _ => j)) p.fTables j (IA p m)
  (fun n i x hx => by
   have hi := (List.getElem?_eq_some_iff.1 hx).1
   have hin := In (hp.tab x (List.mem_of_getElem? hx))
   have hv := JL hp.ver hin.1 hin.2.1
   rw [BZ, AU (by omega), Bw, hx]
   simp only [Option.bind_some, Ba, Gt]
   rw [Jh N m x.fFrom hin.1 (by rw [hm.base]; exact hin.2.1) (by rw [hm.next]; exact hin.2.1) (hm.b0 _ (by omega)).1, EG (d := 0) hin.1 hin.2.1, Dj (d := 0) (show i < m.fHeld.length from by rw [hm.held]; exact hi), AT (by omega)]
   simp only [Option.bind_some]
   rw [show Ef (0 ≤ p.fVersions.getD x.fFrom.toNat 0) = some () from by unfold Ef; rw [if_pos (by omega)]]
   simp only [Option.bind_some]
   unfold IA TS
   generalize Df .u8 (Gu m x.fFrom.toNat) (m.fHeld.getD i 0) = A
   generalize Df .u8 (m.fHeld.getD i 0) (IntKind.wrap .u8 (CJ .u8 1 (p.fVersions.getD x.fFrom.toNat 0) - 1)) = B
   generalize m.fHeld.getD i 0 = H
   cases Cd x
   ·simp only [Bool.not_false, AV, Ay]
    by_cases k : H = 0
    ·simp [k, BU]
    ·have : (H != 0) = true := bne_iff_ne.2 k
     simp [k, this, BU]
   ·simp only [Bool.not_true, Ay, AV]
    by_cases k : A = 0
    ·by_cases k2 : B = 0
     ·simp [k, k2, BU]
     ·have : (B != 0) = true := bne_iff_ne.2 k2
      simp [k, k2, this, BU]
    ·have : (A != 0) = true := bne_iff_ne.2 k
     by_cases k2 : B = 0
     ·simp [k, k2, this, BU]
     ·have h5 : (B != 0) = true := bne_iff_ne.2 k2
      simp [k, h5, BU])
  (fun n => by rw [BZ, AQ (by omega)]) N 0 (by omega) (by omega)
 simpa using this
theorem H0 (N : Nat) (p : Ag) (m : Ae) (hN : N ≤ 1000000) (h : 20 ≤ N) (hw : NV KC m.fHeld) : E3 N p m = some (FZ p m) := by
 unfold E3 FZ
 rw [KJ N p hN h]
 simp only [Option.bind_some, Ba]
 by_cases k0 : Cx p = 0
 ·have hp : Cc p := by
   rcases HX p with h | h
   ·exact h.2
   ·omega
  have hnv := hp.nv
  have hnt := hp.nt
  rw [k0]
  simp only [bne_self_eq_false, Ay, ne_eq, not_true_eq_false, if_false]
  by_cases k1 : m.fBase.length = p.fVersions.length
  ·by_cases k2 : m.fNext.length = p.fVersions.length
   ·by_cases k3 : m.fHeld.length = p.fTables.length
    ·rw [k1, k2, k3]
     simp only [bne_self_eq_false, Ay, not_true_eq_false, or_self, if_false]
     rw [OG N p m hN (by omega) k1 k2]
     cases hs : DY (Kn m) 0 p.fVersions with
     | some r => rfl
     | none =>
      simp only [BU]
      rw [P1 N p m hN (by omega) hp (Ob k1 k2 k3 hs) hw]
      cases DY (IA p m) 0 p.fTables <;> rfl
    ·have : ((m.fHeld.length : Int) != (p.fTables.length : Int)) = true := bne_iff_ne.2 (by omega)
     rw [this, k1, k2]; simp [k3]
   ·have : ((m.fNext.length : Int) != (p.fVersions.length : Int)) = true := bne_iff_ne.2 (by omega)
    rw [this, k1]; simp [k2]
  ·have : ((m.fBase.length : Int) != (p.fVersions.length : Int)) = true := bne_iff_ne.2 (by omega)
   rw [this]; simp [k1]
 ·rw [bne_iff_ne.2 k0]; simp [k0]
theorem Od (N : Nat) (p : Ag) (m : Ae) (hN : N ≤ 1000000) (h : 20 ≤ N) : El N p m = some (FZ p m) := by
 unfold El FZ
 rw [MN N p hN h]
 simp only [Option.bind_some, Ba]
 by_cases k0 : Cx p = 0
 ·have hp : Cc p := by
   rcases HX p with h | h
   ·exact h.2
   ·omega
  have hnv := hp.nv
  have hnt := hp.nt
  rw [k0]
  simp only [bne_self_eq_false, Ay, ne_eq, not_true_eq_false, if_false]
  by_cases k1 : m.fBase.length = p.fVersions.length
  ·by_cases k2 : m.fNext.length = p.fVersions.length
   ·by_cases k3 : m.fHeld.length = p.fTables.length
    ·rw [k1, k2, k3]
     simp only [bne_self_eq_false, Ay, not_true_eq_false, or_self, if_false]
     rw [OU N p m hN (by omega) k1 k2]
     cases hs : DY (Kn m) 0 p.fVersions with
     | some r => rfl
     | none =>
      simp only [BU]
      rw [PY N p m hN (by omega) hp (Ob k1 k2 k3 hs)]
      cases DY (IA p m) 0 p.fTables <;> rfl
    ·have : ((m.fHeld.length : Int) != (p.fTables.length : Int)) = true := bne_iff_ne.2 (by omega)
     rw [this, k1, k2]; simp [k3]
   ·have : ((m.fNext.length : Int) != (p.fVersions.length : Int)) = true := bne_iff_ne.2 (by omega)
    rw [this, k1]; simp [k2]
  ·have : ((m.fBase.length : Int) != (p.fVersions.length : Int)) = true := bne_iff_ne.2 (by omega)
   rw [this]; simp [k1]
 ·rw [bne_iff_ne.2 k0]; simp [k0]
end Go.Lift

/- Loops of the shallow programs as folds along lists. -/
namespace Go.Lift
@[simp] theorem Bl {α β : Type} (k : α) (f : α → β) : Ba k f = f k := rfl
@[simp] theorem Rp {p : Prop} [Decidable p] (h : p) : Ef p = some () := by unfold Ef; rw [if_pos h]
theorem AA {β : Type} {p : Prop} [Decidable p] (h : p) (f : Unit → Option β) : (Ef p).bind f = f () := by rw [Rp h]; rfl
def Eh {α β : Type} (g : Nat → α → List β) : Nat → List α → List β
 | _, [] => []
 | i, x :: xs => g i x ++ Eh g (i + 1) xs
def HR {α A : Type} (f : Nat → α → A → A) : Nat → List α → A → A
 | _, [], a => a
 | i, x :: xs, a => HR f (i + 1) xs (f i x a)
theorem Le {α β : Type} (g : Nat → α → List β) : ∀ (i : Nat) (xs ys : List α), Eh g i (xs ++ ys) = Eh g i xs ++ Eh g (i + xs.length) ys
 | i, [], ys => by simp [Eh]
 | i, x :: xs, ys => by
  rw [List.cons_append, Eh, Eh, Le g (i + 1) xs ys, List.append_assoc, List.length_cons, Nat.add_assoc, Nat.add_comm 1]
theorem N6 {α β : Type} {g : Nat → α → List β} {y : β} : ∀ {i : Nat} {xs : List α}, y ∈ Eh g i xs ↔ ∃ j x, xs[j]? = some x ∧ y ∈ g (i + j) x
 | _, [] => by simp [Eh]
 | i, x :: xs => by
  rw [Eh, List.mem_append, N6]
  constructor
  ·rintro (h | ⟨j, z, hz, h⟩)
   ·exact ⟨0, x, rfl, h⟩
   ·exact ⟨j + 1, z, by simpa using hz, by rwa [show i + (j + 1) = i + 1 + j from by omega]⟩
  ·rintro ⟨j, z, hz, h⟩
   cases j with
   | zero => simp at hz; subst hz; exact .inl h
   | succ j => exact .inr ⟨j, z, by simpa using hz, by rwa [show i + 1 + j = i + (j + 1) from by omega]⟩
theorem Gb {α β : Type} {g : Nat → α → List β} {c : Nat} : ∀ {i : Nat} {xs : List α}, (∀ j x, xs[j]? = some x → (g (i + j) x).length ≤ c) → (Eh g i xs).length ≤ c * xs.length
 | _, [], _ => by simp [Eh]
 | i, x :: xs, h => by
  have h1 := h 0 x rfl
  have h2 := Gb (g := g) (c := c) (i := i + 1) (xs := xs) fun j y hy => by
   have := h (j + 1) y (by simpa using hy)
   rwa [show i + (j + 1) = i + 1 + j from by omega] at this
  rw [Eh, List.length_append, List.length_cons, Nat.mul_add]
  simp only [Nat.add_zero] at h1
  omega
theorem H4 {α A S R : Type} (L : Nat → S → Option R) (mk : A → Int → S) (xs : List α) (j : A → Option R) (f : Nat → α → A → A) (I : Nat → A → Prop)
  (hs : ∀ (n i : Nat) (x : α) (a : A), xs[i]? = some x → I i a → L (n + 1) (mk a (i : Int)) = L n (mk (f i x a) ((i + 1 : Nat) : Int)) ∧ I (i + 1) (f i x a))
  (he : ∀ (n : Nat) (a : A), I xs.length a → L (n + 1) (mk a (xs.length : Int)) = j a) :
  ∀ (n i : Nat) (a : A), i ≤ xs.length → xs.length - i < n → I i a → L n (mk a (i : Int)) = j (HR f i (xs.drop i) a) ∧ I xs.length (HR f i (xs.drop i) a)
 | 0, i, _, _, h, _ => by omega
 | n + 1, i, a, hi, h, ha => by
  by_cases h1 : i < xs.length
  ·have hx : xs[i]? = some xs[i] := by simp [h1]
   obtain ⟨e1, e2⟩ := hs n i _ a hx ha
   rw [e1, Hu hx, HR]
   exact H4 L mk xs j f I hs he n (i + 1) _ (by omega) (by omega) e2
  ·have : i = xs.length := by omega
   subst this
   rw [List.drop_eq_nil_of_le (Nat.le_refl _), HR]
   exact ⟨he n a ha, ha⟩
theorem M2 {α β : Type} (g : Nat → α → List β) : ∀ (i : Nat) (xs : List α) (acc : List β), HR (fun i x a => a ++ g i x) i xs acc = acc ++ Eh g i xs
 | _, [], acc => by simp [HR, Eh]
 | i, x :: xs, acc => by rw [HR, M2 g (i + 1) xs, Eh, List.append_assoc]
theorem Ho {α β S R : Type} (L : Nat → S → Option R) (mk : List β → Int → S) (xs : List α) (j : List β → Option R) (g : Nat → α → List β) (c B : Nat)
  (hg : ∀ i x, xs[i]? = some x → (g i x).length ≤ c)
  (hs : ∀ (n i : Nat) (x : α) (a : List β), xs[i]? = some x → a.length + (g i x).length ≤ B → L (n + 1) (mk a (i : Int)) = L n (mk (a ++ g i x) ((i + 1 : Nat) : Int)))
  (he : ∀ (n : Nat) (a : List β), L (n + 1) (mk a (xs.length : Int)) = j a) (n : Nat) (a : List β) (hn : xs.length < n) (ha : a.length + c * xs.length ≤ B) :
  L n (mk a 0) = j (a ++ Eh g 0 xs) := by
 have := H4 L mk xs j (fun i x a => a ++ g i x) (fun i b => i ≤ xs.length ∧ b.length ≤ a.length + c * i)
  (fun n i x b hx hb => by
   have h1 := hg i x hx
   have hi := (List.getElem?_eq_some_iff.1 hx).1
   have h2 : c * (i + 1) ≤ c * xs.length := Nat.mul_le_mul_left c hi
   have h3 : c * (i + 1) = c * i + c := Nat.mul_succ c i
   refine ⟨hs n i x b hx (by have := hb.2; omega), hi, ?_⟩
   rw [List.length_append]
   have := hb.2
   omega)
  (fun n b _ => he n b) n 0 a (Nat.zero_le _) (by omega) ⟨Nat.zero_le _, by omega⟩
 have h2 := this.1
 rw [List.drop_zero, M2] at h2
 exact h2
end Go.Lift

/- Sets as bits, the mixes that are valid, and the conflicts of a mix: both implementations give one answer. -/
namespace Go.Lift
def DK (s : Int) (v : Nat) : Bool := s.toNat.testBit v
def HW (m : Ae) (s v : Nat) : Bool := decide (m.fBase.getD s 0 = (v : Int)) || decide (m.fNext.getD s 0 = (v : Int))
theorem To : ∀ (s : Fin 256) (v : Fin 8), FI .u8 (En .u8 (s.val : Int) (v.val : Int)) 1 = if DK (s.val : Int) v.val then 1 else 0 := by decide +kernel
theorem OV {s : Int} {v : Nat} (h0 : 0 ≤ s) (h1 : s ≤ 255) (hv : v < 8) : FI .u8 (En .u8 s (v : Int)) 1 = if DK s v then 1 else 0 := by
 obtain ⟨k, rfl⟩ := Int.eq_ofNat_of_zero_le h0
 exact To ⟨k, by omega⟩ ⟨v, hv⟩
theorem Pm {s : Int} {v : Nat} (h0 : 0 ≤ s) (h1 : s ≤ 255) (hv : v < 8) : (FI .u8 (En .u8 s (v : Int)) 1 == 0) = !DK s v := by
 rw [OV h0 h1 hv]; cases DK s v <;> rfl
theorem PP {s : Int} {v : Nat} (h0 : 0 ≤ s) (h1 : s ≤ 255) (hv : v < 8) : (FI .u8 (En .u8 s (v : Int)) 1 == 1) = DK s v := by
 rw [OV h0 h1 hv]; cases DK s v <;> rfl
theorem Jl {s : Int} {v : Nat} (h1 : s ≤ 255) (hv : 8 ≤ v) : DK s v = false := by
 unfold DK
 apply Nat.testBit_lt_two_pow
 have : (2 : Nat) ^ 8 ≤ 2 ^ v := Nat.pow_le_pow_right (by omega) hv
 omega
theorem Jb : ∀ (b : Fin 8) (v : Fin 8), DK (CJ .u8 1 (b.val : Int)) v.val = decide (b.val = v.val) ∧ 0 ≤ CJ .u8 1 (b.val : Int) ∧ CJ .u8 1 (b.val : Int) ≤ 255 := by decide +kernel
theorem Tn : ∀ (b n : Fin 8) (v : Fin 8), DK (Nf .u8 (CJ .u8 1 (b.val : Int)) (CJ .u8 1 (n.val : Int))) v.val = (decide (b.val = v.val) || decide (n.val = v.val))
  ∧ 0 ≤ Nf .u8 (CJ .u8 1 (b.val : Int)) (CJ .u8 1 (n.val : Int)) ∧ Nf .u8 (CJ .u8 1 (b.val : Int)) (CJ .u8 1 (n.val : Int)) ≤ 255 := by decide +kernel
theorem Sl {m : Ae} {s : Nat} (hb0 : 0 ≤ m.fBase.getD s 0) (hb1 : m.fBase.getD s 0 < 8) (hn1 : m.fNext.getD s 0 < 8) :
  (∀ v, DK (Gu m s) v = HW m s v) ∧ 0 ≤ Gu m s ∧ Gu m s ≤ 255 := by
 unfold Gu HW
 obtain ⟨b, hb⟩ := Int.eq_ofNat_of_zero_le hb0
 rw [hb] at hb1 ⊢
 by_cases h : 0 ≤ m.fNext.getD s 0
 ·obtain ⟨n, hn⟩ := Int.eq_ofNat_of_zero_le h
  rw [hn] at hn1 ⊢
  rw [if_pos (by omega)]
  have h1 := Tn ⟨b, by omega⟩ ⟨n, by omega⟩
  refine ⟨fun v => ?_, (h1 0).2⟩
  by_cases hv : v < 8
  ·rw [(h1 ⟨v, hv⟩).1]
   simp only [Int.ofNat_inj]
  ·rw [Jl (h1 0).2.2 (by omega)]
   simp; omega
 ·rw [if_neg h]
  have h1 := Jb ⟨b, by omega⟩
  refine ⟨fun v => ?_, (h1 0).2⟩
  have h3 : decide (m.fNext.getD s 0 = (v : Int)) = false := decide_eq_false (by omega)
  rw [h3, Bool.or_false]
  by_cases hv : v < 8
  ·rw [(h1 ⟨v, hv⟩).1]
   simp only [Int.ofNat_inj]
  ·rw [Jl (h1 0).2.2 (by omega)]
   simp; omega
theorem SA {a : Nat} (h : a < 256) : (BitVec.ofInt 8 (a : Int)).toNat = a := by
 simp; omega
theorem Mk {a b : Int} (ha : 0 ≤ a ∧ a ≤ 255) (hb : 0 ≤ b ∧ b ≤ 255) : Df .u8 a b = 0 ↔ ∀ v, DK a v = true → DK b v = true := by
 obtain ⟨a, rfl⟩ := Int.eq_ofNat_of_zero_le ha.1
 obtain ⟨b, rfl⟩ := Int.eq_ofNat_of_zero_le hb.1
 have hA := SA (a := a) (by omega)
 have hB := SA (a := b) (by omega)
 unfold Df DK
 simp only [IntKind.bits, Int.toNat_natCast]
 have hx : ∀ x : BitVec 8, IntKind.wrap .u8 (x.toNat : Int) = (x.toNat : Int) := by
  intro x
  have := x.isLt
  simp [IntKind.wrap, IntKind.signed, IntKind.bits]
  omega
 rw [hx]
 constructor
 ·intro h v hv
  have h0 : (BitVec.ofInt 8 (a : Int) &&& ~~~BitVec.ofInt 8 (b : Int)) = (BitVec.ofNat 8 0) := by
   apply BitVec.eq_of_toNat_eq
   simp only [BitVec.toNat_ofNat, Nat.zero_mod]
   exact Int.ofNat_inj.1 h
  by_cases hv8 : v < 8
  ·have h1 : (BitVec.ofInt 8 (a : Int) &&& ~~~BitVec.ofInt 8 (b : Int)).getLsbD v = false := by rw [h0]; simp
   rw [BitVec.getLsbD_and, BitVec.getLsbD_not] at h1
   have e1 : (BitVec.ofInt 8 (a : Int)).getLsbD v = a.testBit v := by unfold BitVec.getLsbD; rw [hA]
   have e2 : (BitVec.ofInt 8 (b : Int)).getLsbD v = b.testBit v := by unfold BitVec.getLsbD; rw [hB]
   rw [e1, e2, hv] at h1
   simpa [hv8] using h1
  ·have := Jl (s := (a : Int)) (v := v) (by omega) (by omega)
   unfold DK at this
   rw [Int.toNat_natCast, hv] at this
   cases this
 ·intro h
  have h0 : (BitVec.ofInt 8 (a : Int) &&& ~~~BitVec.ofInt 8 (b : Int)) = (BitVec.ofNat 8 0) := by
   apply BitVec.eq_of_getLsbD_eq
   intro i hi
   rw [BitVec.getLsbD_and, BitVec.getLsbD_not]
   have e1 : (BitVec.ofInt 8 (a : Int)).getLsbD i = a.testBit i := by unfold BitVec.getLsbD; rw [hA]
   have e2 : (BitVec.ofInt 8 (b : Int)).getLsbD i = b.testBit i := by unfold BitVec.getLsbD; rw [hB]
   rw [e1, e2]
   have := h i
   cases h3 : a.testBit i
   ·simp
   ·rw [this h3]; simp
  have h2 : ∀ x : BitVec 8, x = (BitVec.ofNat 8 0) → (x.toNat : Int) = 0 := fun x hx => by rw [hx]; rfl
  exact h2 _ h0
theorem Tr : ∀ n : Fin 9, (∀ v : Fin 8, DK (IntKind.wrap .u8 (CJ .u8 1 (n.val : Int) - 1)) v.val = decide (v.val < n.val)) ∧ 0 ≤ IntKind.wrap .u8 (CJ .u8 1 (n.val : Int) - 1) ∧ IntKind.wrap .u8 (CJ .u8 1 (n.val : Int) - 1) ≤ 255 := by decide +kernel
theorem TM {n : Int} (h0 : 0 ≤ n) (h1 : n ≤ 8) : (∀ v, DK (IntKind.wrap .u8 (CJ .u8 1 n - 1)) v = decide ((v : Int) < n)) ∧ 0 ≤ IntKind.wrap .u8 (CJ .u8 1 n - 1) ∧ IntKind.wrap .u8 (CJ .u8 1 n - 1) ≤ 255 := by
 obtain ⟨n, rfl⟩ := Int.eq_ofNat_of_zero_le h0
 have h := Tr ⟨n, by omega⟩
 refine ⟨fun v => ?_, h.2⟩
 by_cases hv : v < 8
 ·rw [h.1 ⟨v, hv⟩]; simp
 ·rw [Jl h.2.2 (by omega)]
  symm; apply decide_eq_false; omega
structure Dn (p : Ag) (m : Ae) : Prop extends MixServ p m where
 range : ∀ i, i < p.fTables.length → 0 ≤ m.fHeld.getD i 0 ∧ m.fHeld.getD i 0 ≤ 255
 low : ∀ i t, p.fTables[i]? = some t → Cd t = true → ∀ v, HW m t.fFrom.toNat v = true → DK (m.fHeld.getD i 0) v = true
 high : ∀ i t, p.fTables[i]? = some t → Cd t = true → ∀ v, DK (m.fHeld.getD i 0) v = true → (v : Int) < p.fVersions.getD t.fFrom.toNat 0
 none : ∀ i t, p.fTables[i]? = some t → Cd t = false → m.fHeld.getD i 0 = 0
theorem IF {p : Ag} (hp : Cc p) {i : Nat} (hi : i < p.fVersions.length) : 1 ≤ p.fVersions.getD i 0 ∧ p.fVersions.getD i 0 ≤ 6 := by
 have := JL (i := (i : Int)) hp.ver (by omega) (by omega)
 simpa using this
theorem HH {p : Ag} {m : Ae} (hp : Cc p) (hm : MixServ p m) {s : Nat} (hs : s < p.fVersions.length) :
  (∀ v, DK (Gu m s) v = HW m s v) ∧ 0 ≤ Gu m s ∧ Gu m s ≤ 255 := by
 have h1 := hm.b0 s hs
 have h2 := hm.n0 s hs
 have h3 := IF hp hs
 exact Sl h1.1 (by omega) (by omega)
theorem Pz {p : Ag} {m : Ae} (hp : Cc p) (hm : MixServ p m) {i : Nat} {t : AF} (ht : p.fTables[i]? = some t) (hr : 0 ≤ m.fHeld.getD i 0 ∧ m.fHeld.getD i 0 ≤ 255) :
  IA p m i t = none ↔ ((Cd t = true → (∀ v, HW m t.fFrom.toNat v = true → DK (m.fHeld.getD i 0) v = true) ∧ (∀ v, DK (m.fHeld.getD i 0) v = true → (v : Int) < p.fVersions.getD t.fFrom.toNat 0)) ∧ (Cd t = false → m.fHeld.getD i 0 = 0)) := by
 have hin := In (hp.tab t (List.mem_of_getElem? ht))
 have hrun := HH hp hm (s := t.fFrom.toNat) (by omega)
 have hver := IF hp (i := t.fFrom.toNat) (by omega)
 have hall := TM (n := p.fVersions.getD t.fFrom.toNat 0) (by omega) (by omega)
 unfold IA TS
 have e1 := Mk hrun.2 hr
 have e2 := Mk hr hall.2
 cases hst : Cd t
 ·simp
 ·simp only [if_true, true_implies, Bool.true_eq_false, false_implies, and_true, ite_eq_right_iff, reduceCtorEq, imp_false, not_or, Decidable.not_not]
  rw [e1, e2]
  simp only [hrun.1, hall.1, decide_eq_true_eq]
theorem K0 {p : Ag} {m : Ae} (hw : NV KC m.fHeld) (h : FZ p m = 0) : Cc p ∧ Dn p m := by
 unfold FZ at h
 split at h
 ·rename_i k; exact (k h).elim
 ·rename_i k0
  have hp : Cc p := by
   rcases HX p with h | h
   ·exact h.2
   ·omega
  split at h
  ·cases h
  ·rename_i k1
   have b1 : m.fBase.length = p.fVersions.length := Decidable.not_not.1 fun h => k1 (.inl h)
   have b2 : m.fNext.length = p.fVersions.length := Decidable.not_not.1 fun h => k1 (.inr (.inl h))
   have b3 : m.fHeld.length = p.fTables.length := Decidable.not_not.1 fun h => k1 (.inr (.inr h))
   cases hs : DY (Kn m) 0 p.fVersions with
   | some r =>
    obtain ⟨j, x, _, he⟩ := FC hs
    rw [hs] at h
    unfold Kn at he
    simp only [BU, Option.getD_some] at h
    split at he
    ·cases he; cases h
    ·split at he
     ·cases he; cases h
     ·cases he
   | none =>
    have hm := Ob b1 b2 b3 hs
    rw [hs] at h
    simp only [BU] at h
    cases ht : DY (IA p m) 0 p.fTables with
    | some r =>
     obtain ⟨j, x, _, he⟩ := FC ht
     rw [ht] at h
     simp only [Option.getD_some] at h
     subst h
     unfold IA at he
     split at he
     ·split at he <;> cases he
     ·split at he <;> cases he
    | none =>
     have hr : ∀ i, i < p.fTables.length → 0 ≤ m.fHeld.getD i 0 ∧ m.fHeld.getD i 0 ≤ 255 := fun i hi => H6 (PN hw (by omega))
     have key : ∀ i t, p.fTables[i]? = some t → _ := fun i t hi => (Pz hp hm hi (hr i (List.getElem?_eq_some_iff.1 hi).1)).1 (by have := GS ht i t hi; rwa [Nat.zero_add] at this)
     exact ⟨hp, hm, hr, fun i t hi hst => ((key i t hi).1 hst).1, fun i t hi hst => ((key i t hi).1 hst).2, fun i t hi hst => (key i t hi).2 hst⟩
theorem E1 {α R : Type} {f : Nat → α → Option R} : ∀ {i : Nat} {xs : List α}, (∀ j x, xs[j]? = some x → f (i + j) x = none) → DY f i xs = none
 | _, [], _ => rfl
 | i, y :: ys, h => by
  rw [GR, show f i y = none from h 0 y rfl]
  exact E1 fun j x hx => by
   have := h (j + 1) x (by simpa using hx)
   rwa [show i + (j + 1) = i + 1 + j from by omega] at this
theorem Oo {p : Ag} (hp : Cc p) (hr : ∀ i, i < p.fVersions.length → 0 ≤ p.fNow.getD i 0 ∧ p.fNow.getD i 0 < p.fVersions.getD i 0 ∧ 0 ≤ p.fTarget.getD i 0 ∧ p.fTarget.getD i 0 < p.fVersions.getD i 0) : Cx p = 0 := by
 have := hp.nv
 have := hp.nt
 have := hp.now
 have := hp.tgt
 unfold Cx
 rw [if_neg (by omega), if_neg (by omega)]
 have h1 : DY (FH p) 0 p.fVersions = none := E1 fun j x hx => by
  have hj := (List.getElem?_eq_some_iff.1 hx).1
  have h1 := hr j hj
  have h2 := IF hp hj
  have e : p.fVersions.getD j 0 = x := by rw [List.getD_eq_getElem?_getD, hx]; rfl
  rw [e] at h1 h2
  unfold FH
  rw [Nat.zero_add, if_neg (by omega)]
 have h2 : DY (KG p) 0 p.fTables = none := E1 fun j x hx => by
  unfold KG
  rw [if_pos (hp.tab x (List.mem_of_getElem? hx))]
 rw [h1, h2]; rfl
theorem CV {p : Ag} (h : Cx p = 0) : Cc p ∧ ∀ i, i < p.fVersions.length → 0 ≤ p.fNow.getD i 0 ∧ p.fNow.getD i 0 < p.fVersions.getD i 0 ∧ 0 ≤ p.fTarget.getD i 0 ∧ p.fTarget.getD i 0 < p.fVersions.getD i 0 := by
 have hp : Cc p := by
  rcases HX p with h | h
  ·exact h.2
  ·omega
 refine ⟨hp, fun i hi => ?_⟩
 have h1 := hp.nv
 have h2 := hp.nt
 have h3 := hp.now
 have h4 := hp.tgt
 unfold Cx at h
 rw [if_neg (by omega), if_neg (by omega)] at h
 cases hs : DY (FH p) 0 p.fVersions with
 | some r =>
  obtain ⟨j, x, _, he⟩ := FC hs
  rw [hs] at h
  unfold FH at he
  split at he
  ·cases he; cases h
  ·cases he
 | none =>
  have hx : p.fVersions[i]? = some (p.fVersions.getD i 0) := by rw [List.getD_eq_getElem?_getD]; simp [hi]
  have := GS hs i _ hx
  rw [Nat.zero_add] at this
  unfold FH at this
  split at this
  ·cases this
  ·rename_i hn; omega
theorem Ih {p : Ag} {m : Ae} (hv : Cx p = 0) (hm : Dn p m) : FZ p m = 0 := by
 obtain ⟨hp, _⟩ := CV hv
 unfold FZ
 rw [hv, if_neg (by simp), if_neg (by have := hm.base; have := hm.next; have := hm.held; omega)]
 have h1 : DY (Kn m) 0 p.fVersions = none := E1 fun j x hx => by
  have hj := (List.getElem?_eq_some_iff.1 hx).1
  have e : p.fVersions.getD j 0 = x := by rw [List.getD_eq_getElem?_getD, hx]; rfl
  have h1 := hm.b0 j hj
  have h2 := hm.n0 j hj
  have h3 := hm.ne j hj
  rw [e] at h1 h2
  unfold Kn
  rw [Nat.zero_add, if_neg (by omega), if_neg h3]
 have h2 : DY (IA p m) 0 p.fTables = none := E1 fun j x hx => by
  have hj := (List.getElem?_eq_some_iff.1 hx).1
  rw [Nat.zero_add]
  exact (Pz hp hm.toMixServ hx (hm.range j hj)).2 ⟨fun hst => ⟨hm.low j x hx hst, hm.high j x hx hst⟩, fun hst => hm.none j x hx hst⟩
 rw [h1, h2]; rfl
end Go.Lift

/- The conflicts of a mix: both implementations give one answer. -/
namespace Go.Lift
def ME {α : Type} (g : Nat → α → Bool) : Nat → List α → Bool
 | _, [] => false
 | i, x :: xs => g i x || ME g (i + 1) xs
theorem Ky {α β : Type} (g : Nat → α → List β) (h : Nat → α → Bool) : ∀ (i : Nat) (xs : List α) (a : List β) (b : Bool),
  HR (fun i x (s : List β × Bool) => (s.1 ++ g i x, s.2 || h i x)) i xs (a, b) = (a ++ Eh g i xs, b || ME h i xs)
 | _, [], a, b => by simp [HR, Eh, ME]
 | i, x :: xs, a, b => by rw [HR, Ky g h, Eh, ME, List.append_assoc, Bool.or_assoc]
def gC (i u : Nat) (m : Ae) (t : AF) (v : Nat) (ok : Bool) : List Av :=
 if HW m t.fTo.toNat v && (!ok && !t.fAware) then [⟨(i : Int), (u : Int), (v : Int)⟩] else []
def hC (m : Ae) (t : AF) (v : Nat) (ok : Bool) : Bool := HW m t.fTo.toNat v && ok
def Jm (i : Nat) (m : Ae) (t : AF) (u : Nat) (row : List Bool) : List Av :=
 Eh (gC i u m t) 0 row ++ if t.fAware && !ME (hC m t) 0 row then [⟨(i : Int), (u : Int), -1⟩] else []
def QW (m : Ae) (i : Nat) (t : AF) (u : Nat) : Bool := if Cd t then DK (m.fHeld.getD i 0) u else HW m t.fFrom.toNat u
def Je (m : Ae) (i : Nat) (t : AF) : List Av := Eh (fun u row => if QW m i t u then Jm i m t u row else []) 0 t.fOK
def GG (p : Ag) (m : Ae) : List Av := Eh (Je m) 0 p.fTables
structure MU (p : Ag) (t : AF) : Prop where
 kind : 1 ≤ t.fKind ∧ t.fKind ≤ 4
 aware : t.fAware = true → Cd t = false
 from0 : 0 ≤ t.fFrom ∧ t.fFrom < (p.fVersions.length : Int)
 to0 : 0 ≤ t.fTo ∧ t.fTo < (p.fVersions.length : Int)
 okL : (t.fOK.length : Int) = p.fVersions.getD t.fFrom.toNat 0
 okR : ∀ row, row ∈ t.fOK → (row.length : Int) = p.fVersions.getD t.fTo.toNat 0
 reL : t.fKind = 4 → (t.fRewrite.length : Int) = p.fVersions.getD t.fFrom.toNat 0
 reR : ∀ row, row ∈ t.fRewrite → (row.length : Int) = p.fVersions.getD t.fFrom.toNat 0
 reD : t.fKind = 4 → Il t.fRewrite = none
 reN : t.fKind ≠ 4 → t.fRewrite = []
theorem Lj {p : Ag} {t : AF} (h : D2 p t = 0) : MU p t := by
 unfold D2 at h
 split at h
 ·cases h
 rename_i h1
 split at h
 ·cases h
 rename_i h2
 simp only at h
 split at h
 ·cases h
 rename_i h3
 have h3 : sq t.fOK (p.fVersions.getD t.fFrom.toNat 0) (p.fVersions.getD t.fTo.toNat 0) = true := by simpa using h3
 have h3 := Mf h3
 have ha : t.fAware = true → Cd t = false := by
  intro ha
  unfold Cd
  rw [Bool.or_eq_false_iff, beq_eq_false_iff_ne, beq_eq_false_iff_ne]
  exact ⟨fun hk => h1 (.inr (.inr ⟨ha, .inl hk⟩)), fun hk => h1 (.inr (.inr ⟨ha, .inr hk⟩))⟩
 split at h
 ·rename_i h4
  split at h
  ·cases h
  rename_i h5
  have h5 : sq t.fRewrite (p.fVersions.getD t.fFrom.toNat 0) (p.fVersions.getD t.fFrom.toNat 0) = true := by simpa using h5
  have h5 := Mf h5
  refine ⟨by omega, ha, by omega, by omega, h3.1, h3.2, fun _ => h5.1, h5.2, fun _ => ?_, fun h => (h h4).elim⟩
  cases hd : Il t.fRewrite with
  | none => rfl
  | some r =>
   obtain ⟨j, x, _, hx⟩ := FC hd
   rw [hd] at h
   split at hx
   ·cases hx
   ·cases hx; cases h
 ·rename_i h4
  split at h
  ·rename_i h5
   have h5 := List.eq_nil_of_length_eq_zero h5
   refine ⟨by omega, ha, by omega, by omega, h3.1, h3.2, fun h => (h4 h).elim, fun row hr => ?_, fun h => (h4 h).elim, fun _ => h5⟩
   rw [h5] at hr; cases hr
  ·cases h
theorem JZ {R : Type} (b : Bool) (acc : List Av) (x : Av) (j : List Av → Option R) (h : acc.length + 1 ≤ D3) :
  AW b ((Ef (acc.length + ([x] : List Av).length ≤ D3)).bind fun _ => j (acc ++ [x])) (j acc) = j (acc ++ if b then [x] else []) := by
 cases b
 ·simp
 ·rw [AV, AA (by simpa using h)]; rfl
theorem PS (N : Nat) (m : Ae) (t : AF) (i u : Nat) (row : List Bool) (R : Int) (b1 b2 acc : List Av) (j : List Av × Bool → Option (List Av))
  (hN : N ≤ 1000000) (h8 : 8 ≤ N) (hrow : row.length ≤ 6) (hacc : acc.length + 6 ≤ D3) (hR0 : 0 ≤ R) (hR1 : R ≤ 255) (hRb : ∀ v, DK R v = HW m t.fTo.toNat v) :
  BV N (b1, (i : Int)) t R (b2, (u : Int)) row j N (acc, false, 0) = j (acc ++ Eh (gC i u m t) 0 row, ME (hC m t) 0 row) := by
 have := H4 (A := List Av × Bool) (BV N (b1, (i : Int)) t R (b2, (u : Int)) row j) (fun a k => (a.1, a.2, k)) row (fun a => j a) (fun v ok s => (s.1 ++ gC i u m t v ok, s.2 || hC m t v ok))
  (fun v a => v ≤ row.length ∧ a.1.length ≤ acc.length + v)
  (fun n v ok a hx ha => by
   have hv := (List.getElem?_eq_some_iff.1 hx).1
   obtain ⟨c, f⟩ := a
   simp only at ha
   refine ⟨?_, by omega, ?_⟩
   ·rw [BV]
    simp only [Bl]
    rw [AU (by omega), Bw, hx]
    simp only [Option.bind_some]
    rw [AA (by omega), Pm hR0 hR1 (by omega), hRb, AT (by omega), JZ _ _ _ (fun l => BV N (b1, (i : Int)) t R (b2, (u : Int)) row j n (l, true, ((v + 1 : Nat) : Int))) (by omega)]
    unfold gC hC
    rw [JZ _ _ _ (fun l => BV N (b1, (i : Int)) t R (b2, (u : Int)) row j n (l, ok, ((v + 1 : Nat) : Int))) (by omega)]
    cases HW m t.fTo.toNat v
    ·simp
    ·cases ok <;> cases f <;> cases t.fAware <;> simp
   ·simp only [gC, List.length_append]
    split <;> simp <;> omega)
  (fun n a _ => by
   rw [BV]
   simp only [Bl]
   rw [AQ (by omega)]) N 0 (acc, false) (by omega) (by omega) ⟨by omega, by simp⟩
 have h2 := this.1
 rw [List.drop_zero, Ky, Bool.false_or] at h2
 exact h2
end Go.Lift

/- The conflicts of a mix: both implementations give one answer. -/
namespace Go.Lift
theorem Ma {p : Ag} {t : AF} (hp : Cc p) (ht : MU p t) : t.fOK.length ≤ 6 ∧ ∀ row, row ∈ t.fOK → row.length ≤ 6 := by
 have h1 := JL hp.ver ht.from0.1 ht.from0.2
 have h2 := JL hp.ver ht.to0.1 ht.to0.2
 have h3 := ht.okL
 exact ⟨by omega, fun row hr => by have := ht.okR row hr; omega⟩
theorem Qn (i u : Nat) (m : Ae) (t : AF) (v : Nat) (ok : Bool) : (gC i u m t v ok).length ≤ 1 := by
 unfold gC; split <;> simp
theorem Qk (i : Nat) (m : Ae) (t : AF) (u : Nat) (row : List Bool) (h : row.length ≤ 6) : (Jm i m t u row).length ≤ 7 := by
 unfold Jm
 rw [List.length_append]
 have := Gb (g := gC i u m t) (c := 1) (i := 0) (xs := row) (fun j x _ => Qn _ _ _ _ _ _)
 split <;> simp <;> omega
theorem P9 (i : Nat) (m : Ae) (t : AF) (u : Nat) (row : List Bool) (h : row.length ≤ 6) : (if QW m i t u = true then Jm i m t u row else []).length ≤ 7 := by
 have := Qk i m t u row h
 split <;> simp <;> omega
theorem LP {p : Ag} {t : AF} (hp : Cc p) (ht : MU p t) (i : Nat) (m : Ae) : (Je m i t).length ≤ 42 := by
 have h1 := Ma hp ht
 have := Gb (g := fun u row => if QW m i t u = true then Jm i m t u row else []) (c := 7) (i := 0) (xs := t.fOK) (fun j x hx => P9 i m t _ x (h1.2 x (List.mem_of_getElem? hx)))
 unfold Je
 omega
theorem KS (N : Nat) (p : Ag) (m : Ae) (t : AF) (i : Nat) (W R : Int) (b1 acc : List Av) (j : List Av → Option (List Av))
  (hN : N ≤ 1000000) (h8 : 8 ≤ N) (hp : Cc p) (ht : MU p t) (hacc : acc.length + 42 ≤ 10000) (hR0 : 0 ≤ R) (hR1 : R ≤ 255) (hRb : ∀ v, DK R v = HW m t.fTo.toNat v) (hW0 : 0 ≤ W) (hW1 : W ≤ 255) (hWb : ∀ v, DK W v = QW m i t v) :
  Ck N (b1, (i : Int)) t R W j N (acc, 0) = j (acc ++ Je m i t) := by
 have hl := Ma hp ht
 exact Ho (Ck N (b1, (i : Int)) t R W j) (fun a k => (a, k)) t.fOK j (fun u row => if QW m i t u then Jm i m t u row else []) 7 10000
  (fun u row hx => P9 i m t u row (hl.2 row (List.mem_of_getElem? hx)))
  (fun n u row a hx ha => by
   have hu := (List.getElem?_eq_some_iff.1 hx).1
   have hrow := hl.2 row (List.mem_of_getElem? hx)
   rw [Ck]
   simp only [Bl]
   rw [AU (by omega), AA (by omega), Pm hW0 hW1 (by omega), hWb, Bw, hx]
   simp only [Option.bind_some]
   rw [PS N m t i u row R b1 a a _ hN h8 hrow (by unfold D3; omega) hR0 hR1 hRb, AT (by omega)]
   cases hw : QW m i t u
   ·simp
   ·simp only [Bool.not_true, Ay, if_true, Jm]
    have h1 := Gb (g := gC i u m t) (c := 1) (i := 0) (xs := row) (fun j x _ => Qn _ _ _ _ _ _)
    have := JZ (R := List Av) (t.fAware && !ME (hC m t) 0 row) (a ++ Eh (gC i u m t) 0 row) ⟨(i : Int), (u : Int), -1⟩ (fun l => Ck N (b1, (i : Int)) t R W j n (l, ((u + 1 : Nat) : Int))) (by rw [List.length_append]; unfold D3; rw [hw, if_pos rfl] at ha; omega)
    rw [← List.append_assoc, ← this]
    cases t.fAware <;> cases ME (hC m t) 0 row <;> rfl)
  (fun n a => by
   rw [Ck]
   simp only [Bl]
   rw [AQ (by omega)]) N acc (by omega) (by omega)
theorem O6 (N : Nat) (p : Ag) (m : Ae) (t : AF) (i u : Nat) (row : List Bool) (b1 b2 acc : List Av) (j : List Av × Bool → Option (List Av))
  (hN : N ≤ 1000000) (h8 : 8 ≤ N) (hp : Cc p) (hm : MixServ p m) (ht : MU p t) (hu : t.fOK[u]? = some row) (hacc : acc.length + 6 ≤ D3) :
  Bj N p m (b1, (i : Int)) t (b2, (u : Int)) j N (acc, false, 0) = j (acc ++ Eh (gC i u m t) 0 row, ME (hC m t) 0 row) := by
 have hrow := (Ma hp ht).2 row (List.mem_of_getElem? hu)
 have hR := HH hp hm (s := t.fTo.toNat) (by have := ht.to0; omega)
 have hlen := ht.okR row (List.mem_of_getElem? hu)
 have hto := ht.to0
 have := H4 (A := List Av × Bool) (Bj N p m (b1, (i : Int)) t (b2, (u : Int)) j) (fun a k => (a.1, a.2, k)) row (fun a => j a) (fun v ok s => (s.1 ++ gC i u m t v ok, s.2 || hC m t v ok))
  (fun v a => v ≤ row.length ∧ a.1.length ≤ acc.length + v)
  (fun n v ok a hx ha => by
   have hv := (List.getElem?_eq_some_iff.1 hx).1
   obtain ⟨c, f⟩ := a
   simp only at ha
   refine ⟨?_, by omega, ?_⟩
   ·rw [Bj]
    simp only [Bl]
    rw [EG (d := 0) hto.1 hto.2, Jh N m t.fTo hto.1 (by rw [hm.base]; exact hto.2) (by rw [hm.next]; exact hto.2) (hm.b0 _ (by omega)).1, Bw, hu]
    simp only [Option.bind_some]
    unfold Cs
    rw [AU (by omega), Bw, hx, AA (by omega), PP hR.2.1 hR.2.2 (by omega), hR.1]
    simp only [Option.bind_some]
    rw [AT (by omega), JZ _ _ _ (fun l => Bj N p m (b1, (i : Int)) t (b2, (u : Int)) j n (l, true, ((v + 1 : Nat) : Int))) (by omega)]
    unfold gC hC
    rw [JZ _ _ _ (fun l => Bj N p m (b1, (i : Int)) t (b2, (u : Int)) j n (l, ok, ((v + 1 : Nat) : Int))) (by omega)]
    cases HW m t.fTo.toNat v
    ·simp
    ·cases ok <;> cases f <;> cases t.fAware <;> simp
   ·simp only [gC, List.length_append]
    split <;> simp <;> omega)
  (fun n a _ => by
   rw [Bj]
   simp only [Bl]
   rw [EG (d := 0) hto.1 hto.2]
   simp only [Option.bind_some]
   rw [AQ (by omega)]) N 0 (acc, false) (by omega) (by omega) ⟨by omega, by simp⟩
 have h2 := this.1
 rw [List.drop_zero, Ky, Bool.false_or] at h2
 exact h2
theorem KN (N : Nat) (p : Ag) (m : Ae) (t : AF) (i : Nat) (W : Int) (b1 acc : List Av) (j : List Av → Option (List Av))
  (hN : N ≤ 1000000) (h8 : 8 ≤ N) (hp : Cc p) (hm : MixServ p m) (ht : MU p t) (hacc : acc.length + 42 ≤ 10000) (hW0 : 0 ≤ W) (hW1 : W ≤ 255) (hWb : ∀ v, DK W v = QW m i t v) :
  BC N p m (b1, (i : Int)) t W j N (acc, 0) = j (acc ++ Je m i t) := by
 have hl := Ma hp ht
 have hfr := ht.from0
 have hok := ht.okL
 exact Ho (BC N p m (b1, (i : Int)) t W j) (fun a k => (a, k)) t.fOK j (fun u row => if QW m i t u then Jm i m t u row else []) 7 10000
  (fun u row hx => P9 i m t u row (hl.2 row (List.mem_of_getElem? hx)))
  (fun n u row a hx ha => by
   have hu := (List.getElem?_eq_some_iff.1 hx).1
   have hrow := hl.2 row (List.mem_of_getElem? hx)
   rw [BC]
   simp only [Bl]
   rw [EG (d := 0) hfr.1 hfr.2]
   simp only [Option.bind_some]
   unfold Cs
   rw [AU (by omega), AA (by omega), PP hW0 hW1 (by omega), hWb]
   simp only [Option.bind_some]
   rw [O6 N p m t i u row b1 a a _ hN h8 hp hm ht hx (by unfold D3; omega), AT (by omega)]
   cases hw : QW m i t u
   ·simp
   ·simp only [Bool.not_true, Ay, if_true, Jm]
    have h1 := Gb (g := gC i u m t) (c := 1) (i := 0) (xs := row) (fun j x _ => Qn _ _ _ _ _ _)
    have := JZ (R := List Av) (t.fAware && !ME (hC m t) 0 row) (a ++ Eh (gC i u m t) 0 row) ⟨(i : Int), (u : Int), -1⟩ (fun l => BC N p m (b1, (i : Int)) t W j n (l, ((u + 1 : Nat) : Int))) (by rw [List.length_append]; unfold D3; rw [hw, if_pos rfl] at ha; omega)
    rw [← List.append_assoc, ← this]
    cases t.fAware <;> cases ME (hC m t) 0 row <;> rfl)
  (fun n a => by
   rw [BC]
   simp only [Bl]
   rw [EG (d := 0) hfr.1 hfr.2]
   simp only [Option.bind_some]
   rw [AQ (by omega)]) N acc (by omega) (by omega)
theorem Lm (N : Nat) (p : Ag) (m : Ae) (hN : N ≤ 1000000) (h20 : 20 ≤ N) (hp : Cc p) (hm : Dn p m) : Fk N p m = some (GG p m) := by
 unfold Fk
 have hnt := hp.nt
 rw [Ho (Dl N p m _) (fun a k => (a, k)) p.fTables some (Je m) 42 9000
  (fun i t hx => LP hp (Lj (hp.tab t (List.mem_of_getElem? hx))) i m)
  (fun n i t a hx ha => by
   have hi := (List.getElem?_eq_some_iff.1 hx).1
   have ht := Lj (hp.tab t (List.mem_of_getElem? hx))
   have hto := ht.to0
   have hfr := ht.from0
   have hR := HH hp hm.toMixServ (s := t.fTo.toNat) (by omega)
   have hF := HH hp hm.toMixServ (s := t.fFrom.toNat) (by omega)
   have hH := hm.range i hi
   rw [Dl]
   simp only [Bl]
   rw [AU (by omega), Bw, hx]
   simp only [Option.bind_some, IN]
   rw [Ku N m t.fFrom hfr.1 (by rw [hm.base]; exact hfr.2) (by rw [hm.next]; exact hfr.2) (hm.b0 _ (by omega)).1, Ku N m t.fTo hto.1 (by rw [hm.base]; exact hto.2) (by rw [hm.next]; exact hto.2) (hm.b0 _ (by omega)).1, Dj (d := 0) (by rw [hm.held]; exact hi), AT (by omega)]
   simp only [Option.bind_some]
   cases hs : Cd t
   ·rw [Ay, KS N p m t i _ _ a a _ hN (by omega) hp ht (by omega) hR.2.1 hR.2.2 hR.1 hF.2.1 hF.2.2 (fun v => by unfold QW; rw [hs, hF.1]; rfl)]
   ·rw [AV, KS N p m t i _ _ a a _ hN (by omega) hp ht (by omega) hR.2.1 hR.2.2 hR.1 hH.1 hH.2 (fun v => by unfold QW; rw [hs]; rfl)])
  (fun n a => by
   rw [Dl]
   simp only [Bl]
   rw [AQ (by omega)]) N [] (by omega) (by simp; omega)]
 rfl
theorem Ly (N : Nat) (p : Ag) (m : Ae) (hN : N ≤ 1000000) (h20 : 20 ≤ N) (hp : Cc p) (hm : Dn p m) : Eo N p m = some (GG p m) := by
 unfold Eo
 have hnt := hp.nt
 rw [Ho (CH N p m _) (fun a k => (a, k)) p.fTables some (Je m) 42 9000
  (fun i t hx => LP hp (Lj (hp.tab t (List.mem_of_getElem? hx))) i m)
  (fun n i t a hx ha => by
   have hi := (List.getElem?_eq_some_iff.1 hx).1
   have ht := Lj (hp.tab t (List.mem_of_getElem? hx))
   have hto := ht.to0
   have hfr := ht.from0
   have hF := HH hp hm.toMixServ (s := t.fFrom.toNat) (by omega)
   have hH := hm.range i hi
   rw [CH]
   simp only [Bl]
   rw [AU (by omega), Bw, hx]
   simp only [Option.bind_some, Gt]
   rw [Jh N m t.fFrom hfr.1 (by rw [hm.base]; exact hfr.2) (by rw [hm.next]; exact hfr.2) (hm.b0 _ (by omega)).1, Dj (d := 0) (by rw [hm.held]; exact hi), AT (by omega)]
   simp only [Option.bind_some]
   cases hs : Cd t
   ·rw [Ay, KN N p m t i _ a a _ hN (by omega) hp hm.toMixServ ht (by omega) hF.2.1 hF.2.2 (fun v => by unfold QW; rw [hs, hF.1]; rfl)]
   ·rw [AV, KN N p m t i _ a a _ hN (by omega) hp hm.toMixServ ht (by omega) hH.1 hH.2 (fun v => by unfold QW; rw [hs]; rfl)])
  (fun n a => by
   rw [CH]
   simp only [Bl]
   rw [AQ (by omega)]) N [] (by omega) (by simp; omega)]
 rfl
end Go.Lift

/- The drafts: what the recipes give is a valid problem and a valid mix. -/
namespace Go.Lift
theorem ET {A S R : Type} (L : Nat → S → Option R) (mk : A → Int → S) (len : Nat) (j : A → Option R) (I : Nat → A → Prop)
  (hs : ∀ (n i : Nat) (a : A), i < len → I i a → ∃ a', L (n + 1) (mk a (i : Int)) = L n (mk a' ((i + 1 : Nat) : Int)) ∧ I (i + 1) a')
  (he : ∀ (n : Nat) (a : A), I len a → L (n + 1) (mk a (len : Int)) = j a) :
  ∀ (n i : Nat) (a : A), i ≤ len → len - i < n → I i a → ∃ a', L n (mk a (i : Int)) = j a' ∧ I len a'
 | 0, i, _, _, h, _ => by omega
 | n + 1, i, a, hi, h, ha => by
  by_cases h1 : i < len
  ·obtain ⟨a', e1, e2⟩ := hs n i a h1 ha
   rw [e1]
   exact ET L mk len j I hs he n (i + 1) _ (by omega) (by omega) e2
  ·have : i = len := by omega
   subst this
   exact ⟨a, he n a ha, ha⟩
theorem Iy {α : Type} {xs ys : List α} {i : Nat} {d : α} (h : i < xs.length) : (xs ++ ys).getD i d = xs.getD i d := by
 rw [List.getD_eq_getElem?_getD, List.getD_eq_getElem?_getD, List.getElem?_append_left h]
theorem Ip {α : Type} {xs : List α} {y : α} {i : Nat} {d : α} (h : i = xs.length) : (xs ++ [y]).getD i d = y := by
 subst h; rw [List.getD_eq_getElem?_getD, List.getElem?_append_right (Nat.le_refl _)]; simp
theorem MA {α : Type} {P : Nat → α → Prop} {xs : List α} {y : α} {d : α} {n : Nat} (hn : xs.length = n) (h : ∀ k, k < n → P k (xs.getD k d)) (hy : P n y) : ∀ k, k < n + 1 → P k ((xs ++ [y]).getD k d) := by
 intro k hk
 by_cases h1 : k < n
 ·rw [Iy (by omega)]; exact h k h1
 ·have : k = n := by omega
  subst this
  rw [Ip hn.symm]; exact hy
theorem QK {l : List Int} (hw : NV KC l) (i : Nat) : 0 ≤ l.getD i 0 ∧ l.getD i 0 ≤ 255 := by
 by_cases h : i < l.length
 ·have : l.getD i 0 ∈ l := by rw [List.getD_eq_getElem?_getD, List.getElem?_eq_getElem h]; exact List.getElem_mem _
  exact H6 (hw _ this)
 ·rw [List.getD_eq_getElem?_getD, List.getElem?_eq_none (by omega)]
  exact ⟨by decide, by decide⟩
theorem ND (N : Nat) {l : List Int} (hw : NV KC l) (i : Nat) : DW N l (i : Int) = some (l.getD i 0) := by
 unfold DW
 have h2 := QK hw i
 by_cases h : i < l.length
 ·rw [AU (by omega), Dj (d := 0) h]
  simp only [Option.bind_some]
  rw [Ey (by omega) (by omega)]
 ·rw [AQ (by omega), List.getD_eq_getElem?_getD, List.getElem?_eq_none (by omega)]; rfl
theorem Hp {a n : Int} (ha : 0 ≤ a) (hn : 0 < n) : 0 ≤ Int.tmod a n ∧ Int.tmod a n < n := ⟨Int.tmod_nonneg n ha, Int.tmod_lt_of_pos a hn⟩
end Go.Lift

/- The drafts of problems: what the recipe gives is a valid problem. -/
namespace Go.Lift
theorem Ud {l : List (List Bool)} {n m : Int} (h1 : (l.length : Int) = n) (h2 : ∀ row, row ∈ l → (row.length : Int) = m) : sq l n m = true := by
 unfold sq
 simp only [Bool.and_eq_true, decide_eq_true_eq, List.all_eq_true]
 exact ⟨h1, h2⟩
theorem Um {p : Ag} {t : AF} (h : MU p t) : D2 p t = 0 := by
 have hk := h.kind
 have hf := h.from0
 have ht := h.to0
 unfold D2
 rw [if_neg, if_neg (by omega)]
 ·simp only [Ud h.okL h.okR]
  rw [if_neg (by simp)]
  by_cases h4 : t.fKind = 4
  ·rw [if_pos h4, Ud (h.reL h4) h.reR, if_neg (by simp), h.reD h4]; rfl
  ·rw [if_neg h4, h.reN h4]; rfl
 ·rintro (h1 | h1 | ⟨h1, h2⟩)
  ·omega
  ·omega
  ·have := h.aware h1
   unfold Cd at this
   rw [Bool.or_eq_false_iff, beq_eq_false_iff_ne, beq_eq_false_iff_ne] at this
   omega
theorem Ss (N : Nat) (m bad : Int) (diag : Bool) (i : Nat) (acc : List (List Bool)) {R : Type} (j : List Bool → Option (List (List Bool))) (hN : N ≤ 1000000) (h20 : 20 ≤ N) (hm : 0 ≤ m ∧ m ≤ 6) (hi : i < 6) :
  ∃ row, Cj N m bad diag (acc, (i : Int)) j N ([], 0) = j row ∧ (row.length : Int) = m ∧ (diag = true → (i : Int) < m → row.getD i false = true) := by
 obtain ⟨M, rfl⟩ := Int.eq_ofNat_of_zero_le hm.1
 obtain ⟨row, e, h1, h2⟩ := ET (A := List Bool) (Cj N (M : Int) bad diag (acc, (i : Int)) j) (fun a k => (a, k)) M j
  (fun k a => a.length = k ∧ ∀ q, q < k → diag = true → q = i → a.getD q false = true)
  (fun n k a hk ha => by
   refine ⟨a ++ [(diag && decide (i = k)) || (Int.tmod (En .u16 bad ((3 * i + k : Nat) : Int)) 2 == 0)], ?_, by simp [ha.1], MA (P := fun q y => diag = true → q = i → y = true) ha.1 ha.2 (fun h1 h2 => by simp [h1, h2])⟩
   rw [Cj]
   simp only [Bl]
   rw [AU (by omega), AT (by omega), Ey (n := 3 * (i : Int)) (by omega) (by omega), Ey (n := 3 * (i : Int) + (k : Int)) (by omega) (by omega)]
   have l1 : ∀ y : Bool, a.length + ([y] : List Bool).length ≤ D3 := by intro y; rw [ha.1]; unfold D3; simp; omega
   simp only [AA (l1 _), AA (show (0 : Int) ≤ 3 * (i : Int) + (k : Int) by omega)]
   have e1 : ((3 * i + k : Nat) : Int) = 3 * (i : Int) + (k : Int) := by omega
   rw [e1]
   have e2 : (((i : Nat) : Int) == ((k : Nat) : Int)) = decide (i = k) := by
    by_cases h : i = k
    ·simp [h]
    ·rw [decide_eq_false h]; exact beq_eq_false_iff_ne.2 (by omega)
   rw [e2]
   cases diag <;> cases decide (i = k) <;> rfl)
  (fun n a _ => by
   rw [Cj]
   simp only [Bl]
   rw [AQ (by omega)]) N 0 [] (Nat.zero_le _) (by omega) ⟨rfl, fun q hq => by omega⟩
 exact ⟨row, e, by omega, fun hd hlt => h2 i (by omega) hd rfl⟩
theorem QP (N : Nat) (n m bad : Int) (diag : Bool) (hN : N ≤ 1000000) (h20 : 20 ≤ N) (hn : 0 ≤ n ∧ n ≤ 6) (hm : 0 ≤ m ∧ m ≤ 6) :
  ∃ l, DX N n m bad diag = some l ∧ (l.length : Int) = n ∧ (∀ row, row ∈ l → (row.length : Int) = m) ∧ (diag = true → n = m → Il l = none) := by
 obtain ⟨M, rfl⟩ := Int.eq_ofNat_of_zero_le hn.1
 unfold DX
 obtain ⟨l, e, h1, h2⟩ := ET (A := List (List Bool)) (Co N (M : Int) m bad diag (fun v => some v)) (fun a k => (a, k)) M some
  (fun k a => a.length = k ∧ ∀ q, q < k → (((a.getD q []).length : Nat) : Int) = m ∧ (diag = true → (q : Int) < m → (a.getD q []).getD q false = true))
  (fun n k a hk ha => by
   obtain ⟨row, e, h1, h2⟩ := Ss (R := Unit) N m bad diag k a (fun (v5 : List Bool) =>
    (Ef (a.length + (([v5] : List (List Bool))).length ≤ D3)).bind fun _ =>
    Co N (M : Int) m bad diag (fun v => some v) n (a ++ (([v5] : List (List Bool))), (IntKind.wrap .i64 ((k : Int) + 1)))) hN h20 hm (by omega)
   refine ⟨a ++ [row], ?_, by simp [ha.1], MA (P := fun q y => ((y.length : Nat) : Int) = m ∧ (diag = true → (q : Int) < m → y.getD q false = true)) ha.1 ha.2 ⟨h1, h2⟩⟩
   rw [Co]
   simp only [Bl]
   rw [AU (by omega), e, AA (by rw [ha.1]; unfold D3; simp; omega), AT (by omega)])
  (fun n a _ => by
   rw [Co]
   simp only [Bl]
   rw [AQ (by omega)]) N 0 [] (Nat.zero_le _) (by omega) ⟨rfl, fun q hq => by omega⟩
 have key : ∀ q row, l[q]? = some row → l.getD q [] = row := fun q row hq => by rw [List.getD_eq_getElem?_getD, hq]; rfl
 refine ⟨l, e, by omega, fun row hr => ?_, fun hd hnm => ?_⟩
 ·obtain ⟨q, hq⟩ := List.mem_iff_getElem?.1 hr
  have := (h2 q (by have := (List.getElem?_eq_some_iff.1 hq).1; omega)).1
  rwa [key q row hq] at this
 ·unfold Il
  refine E1 fun q row hq => ?_
  have hlt := (List.getElem?_eq_some_iff.1 hq).1
  have := (h2 q (by omega)).2 hd (by omega)
  rw [key q row hq] at this
  rw [Nat.zero_add, this]; rfl
structure T0 (p : Ag) : Prop where
 valid : Cx p = 0
 nv : p.fVersions.length ≤ 3
 nt : p.fTables.length ≤ 4
 v3 : ∀ v, v ∈ p.fVersions → v ≤ 3
theorem Q1 {p q : Ag} (h : p.fVersions = q.fVersions) (t : AF) : D2 p t = D2 q t := by
 unfold D2; rw [h]
theorem W0 (N : Nat) (d : CI) (hN : N ≤ 1000000) (h20 : 20 ≤ N) (hw : FL d) : ∃ p ok, EY N d = some (p, ok) ∧ (ok = true → T0 p) := by
 obtain ⟨w1, w2, w3, w4, _⟩ := hw
 unfold EY
 simp only [Bl]
 by_cases k1 : 3 < d.fVersions.length
 ·rw [AU (by omega)]; exact ⟨_, false, rfl, fun h => by cases h⟩
 by_cases k2 : 4 < d.fLinks.length
 ·rw [AQ (by omega), decide_eq_true (by omega : (4 : Int) < (d.fLinks.length : Int))]; exact ⟨_, false, rfl, fun h => by cases h⟩
 rw [AQ (by omega), decide_eq_false (by omega : ¬ (4 : Int) < (d.fLinks.length : Int)), Ay]
 obtain ⟨⟨vs, ns, ts⟩, e, h1, h2, h3, h4⟩ := ET (A := List Int × List Int × List Int) (CK N d fun v5 => By N d v5 (fun v16 => some (Ag.mk v5.1 v5.2.1 v5.2.2 v16, true)) N ([], 0)) (fun a k => (a.1, a.2.1, a.2.2, k)) d.fVersions.length
  (fun v5 => By N d v5 (fun v16 => some (Ag.mk v5.1 v5.2.1 v5.2.2 v16, true)) N ([], 0))
  (fun i a => a.1.length = i ∧ a.2.1.length = i ∧ a.2.2.length = i ∧ (∀ k, k < i → (1 ≤ a.1.getD k 0 ∧ a.1.getD k 0 ≤ 3) ∧ (0 ≤ a.2.1.getD k 0 ∧ a.2.1.getD k 0 < a.1.getD k 0) ∧ (0 ≤ a.2.2.getD k 0 ∧ a.2.2.getD k 0 < a.1.getD k 0)))
  (fun n i a hi ha => by
   obtain ⟨vs, ns, ts⟩ := a
   obtain ⟨h1, h2, h3, h4⟩ := ha
   simp only at h1 h2 h3 h4
   have hv := QK w1 i
   have hb := QK w2 i
   have hk := QK w3 i
   have hm := Hp (n := 3) hv.1 (by omega)
   obtain ⟨v, hvd⟩ : ∃ v, v = 1 + Int.tmod (d.fVersions.getD i 0) 3 := ⟨_, rfl⟩
   have m1 := Hp (n := v) hb.1 (by omega)
   have m2 := Hp (n := v) hk.1 (by omega)
   refine ⟨(vs ++ [v], ns ++ [Int.tmod (d.fNow.getD i 0) v], ts ++ [Int.tmod (d.fTarget.getD i 0) v]), ?_, by simp [h1], by simp [h2], by simp [h3], ?_⟩
   ·rw [CK]
    simp only [Bl]
    rw [AU (by omega), Dj (d := 0) hi, ND N w2, ND N w3]
    simp only [Option.bind_some]
    rw [Ey (n := Int.tmod _ _) (by omega) (by omega), Ey (n := 1 + _) (by omega) (by omega), ← hvd, AT (by omega)]
    have l1 : ∀ y : Int, vs.length + ([y] : List Int).length ≤ D3 := by intro y; rw [h1]; unfold D3; simp; omega
    have l2 : ∀ y : Int, ns.length + ([y] : List Int).length ≤ D3 := by intro y; rw [h2]; unfold D3; simp; omega
    have l3 : ∀ y : Int, ts.length + ([y] : List Int).length ≤ D3 := by intro y; rw [h3]; unfold D3; simp; omega
    simp only [AA (l1 _), AA (l2 _), AA (l3 _), AA (show v ≠ 0 by omega)]
   ·intro k hk
    simp only
    by_cases hki : k < i
    ·rw [Iy (by omega), Iy (by omega), Iy (by omega)]; exact h4 k hki
    ·have : k = i := by omega
     subst this
     rw [Ip h1.symm, Ip h2.symm, Ip h3.symm]
     omega)
  (fun n a _ => by
   rw [CK]
   simp only [Bl]
   rw [AQ (by omega)]) N 0 ([], [], []) (Nat.zero_le _) (by omega) ⟨rfl, rfl, rfl, fun k hk => by omega⟩
 simp only at h1 h2 h3 h4
 have e' : CK N d (fun v5 => By N d v5 (fun v16 => some (Ag.mk v5.1 v5.2.1 v5.2.2 v16, true)) N ([], 0)) N ([], [], [], 0) = _ := e
 rw [e']
 have hvs : ∀ v, v ∈ vs → 1 ≤ v ∧ v ≤ 3 := by
  intro v hv
  obtain ⟨q, hq⟩ := List.mem_iff_getElem?.1 hv
  have := (h4 q (by have := (List.getElem?_eq_some_iff.1 hq).1; omega)).1
  rwa [List.getD_eq_getElem?_getD, hq] at this
 have fin : ∀ tabs : List AF, tabs.length ≤ 4 → (∀ t, t ∈ tabs → D2 ⟨vs, ns, ts, []⟩ t = 0) → T0 ⟨vs, ns, ts, tabs⟩ := by
  intro tabs ht h
  have hp : Cc ⟨vs, ns, ts, tabs⟩ := ⟨show vs.length ≤ 6 by omega, show tabs.length ≤ 12 by omega, show ns.length = vs.length by omega, show ts.length = vs.length by omega, fun v hv => by have := hvs v hv; omega, fun t ht => by rw [← h t ht]; exact Q1 rfl t⟩
  exact ⟨Oo hp fun i hi => by have := h4 i (by have : i < vs.length := hi; omega); simp only; omega, show vs.length ≤ 3 by omega, ht, fun v hv => (hvs v hv).2⟩
 by_cases k3 : vs.length = 0
 ·refine ⟨_, true, ?_, fun _ => fin [] (by simp) (fun t ht => by cases ht)⟩
  obtain ⟨M, rfl⟩ : ∃ M, N = M + 1 := ⟨N - 1, by omega⟩
  rw [By]
  simp only [Bl]
  rw [k3]
  by_cases k4 : (0 : Int) < (d.fLinks.length : Int)
  ·rw [AU k4]; rfl
  ·rw [AQ k4]; rfl
 obtain ⟨tabs, e2, g1, g2⟩ := ET (A := List AF) (By N d (vs, ns, ts) (fun v16 => some (Ag.mk vs ns ts v16, true))) (fun a k => (a, k)) d.fLinks.length (fun v16 => some (Ag.mk vs ns ts v16, true))
  (fun i a => a.length = i ∧ ∀ t, t ∈ a → D2 ⟨vs, ns, ts, []⟩ t = 0)
  (fun n i a hi ha => by
   have hx : d.fLinks[i]? = some d.fLinks[i] := by simp [hi]
   generalize d.fLinks[i] = l at hx
   obtain ⟨u1, u2, u3, _, u5, u6, _⟩ := w4 l (List.mem_of_getElem? hx)
   have u1 := H6 u1
   have u2 := H6 u2
   have u3 := H6 u3
   have mk := Hp (n := 4) u1.1 (by omega)
   have hL : (0 : Int) < (vs.length : Int) := by omega
   have mf := Hp (n := (vs.length : Int)) u2.1 hL
   have mt := Hp (n := (vs.length : Int)) u3.1 hL
   rw [By]
   simp only [Bl]
   rw [AU (by omega), decide_eq_true hL, AV, Bw, hx]
   simp only [Option.bind_some]
   rw [AA (by omega), AA (by omega), Ey (n := l.fFrom) (by omega) (by omega), Ey (n := l.fTo) (by omega) (by omega), Ey (n := Int.tmod l.fKind 4) (by omega) (by omega), Ey (n := 1 + _) (by omega) (by omega), AT (by omega)]
   simp only [Ls, Option.bind_some]
   rw [EG (d := 0) mf.1 mf.2, EG (d := 0) mt.1 mt.2]
   simp only [Option.bind_some]
   have hA : ∀ q : Int, 0 ≤ q → q < (vs.length : Int) → 1 ≤ vs.getD q.toNat 0 ∧ vs.getD q.toNat 0 ≤ 3 := fun q h0 h1 => (h4 q.toNat (by omega)).1
   have hf := hA _ mf.1 mf.2
   have ht := hA _ mt.1 mt.2
   obtain ⟨A, eA, a1, a2, _⟩ := QP N (vs.getD (Int.tmod l.fFrom (vs.length : Int)).toNat 0) (vs.getD (Int.tmod l.fTo (vs.length : Int)).toNat 0) l.fBad false hN h20 (by omega) (by omega)
   obtain ⟨B, eB, b1, b2, b3⟩ := QP N (vs.getD (Int.tmod l.fFrom (vs.length : Int)).toNat 0) (vs.getD (Int.tmod l.fFrom (vs.length : Int)).toNat 0) l.fLost true hN h20 (by omega) (by omega)
   rw [eA, eB]
   simp only [Option.bind_some]
   have l1 : ∀ y : AF, a.length + ([y] : List AF).length ≤ D3 := by intro y; rw [ha.1]; unfold D3; simp; omega
   simp only [AA (l1 _)]
   obtain ⟨kd, hkd⟩ : ∃ kd, kd = 1 + Int.tmod l.fKind 4 := ⟨_, rfl⟩
   rw [← hkd]
   have fin2 : ∀ (aw : Bool) (re : List (List Bool)), (aw = true → (kd == 3 || kd == 4) = false) → ((kd = 4 → re = B) ∧ (kd ≠ 4 → re = [])) →
     D2 ⟨vs, ns, ts, []⟩ (AF.mk kd (Int.tmod l.fFrom (vs.length : Int)) (Int.tmod l.fTo (vs.length : Int)) aw A re) = 0 := by
    intro aw re haw hre
    refine Um ⟨show 1 ≤ kd ∧ kd ≤ 4 by omega, haw, mf, mt, a1, a2, fun h => by rw [hre.1 h]; exact b1, fun row hr => ?_, fun h => by rw [hre.1 h]; exact b3 rfl rfl, fun h => hre.2 h⟩
    by_cases h4 : kd = 4
    ·simp only at hr; rw [hre.1 h4] at hr; exact b2 row hr
    ·simp only at hr; rw [hre.2 h4] at hr; cases hr
   have app : ∀ t, D2 ⟨vs, ns, ts, []⟩ t = 0 → (a ++ [t]).length = i + 1 ∧ ∀ t', t' ∈ a ++ [t] → D2 ⟨vs, ns, ts, []⟩ t' = 0 := by
    intro t ht
    refine ⟨by simp [ha.1], fun t' ht' => ?_⟩
    rcases List.mem_append.1 ht' with h | h
    ·exact ha.2 t' h
    ·rw [List.mem_singleton.1 h]; exact ht
   by_cases h4 : kd = 4
   ·have e4 : (kd == 4) = true := beq_iff_eq.2 h4
    have hre : (kd = 4 → B = B) ∧ (kd ≠ 4 → B = []) := ⟨fun _ => rfl, fun h => (h h4).elim⟩
    rw [e4]
    simp only [AV, Bool.or_true, Bool.not_true]
    cases l.fAware
    ·exact ⟨_, rfl, app _ (fin2 false B (fun h => by cases h) hre)⟩
    ·exact ⟨_, rfl, app _ (fin2 false B (fun h => by cases h) hre)⟩
   ·have e4 : (kd == 4) = false := beq_eq_false_iff_ne.2 h4
    have hre : (kd = 4 → ([] : List (List Bool)) = B) ∧ (kd ≠ 4 → ([] : List (List Bool)) = []) := ⟨fun h => (h4 h).elim, fun _ => rfl⟩
    rw [e4]
    simp only [Ay, Bool.or_false]
    cases l.fAware
    ·exact ⟨_, rfl, app _ (fin2 false [] (fun h => by cases h) hre)⟩
    ·cases e3 : kd == 3
     ·exact ⟨_, rfl, app _ (fin2 true [] (fun _ => by rw [e3, e4]; rfl) hre)⟩
     ·exact ⟨_, rfl, app _ (fin2 false [] (fun h => by cases h) hre)⟩)
  (fun n a _ => by
   rw [By]
   simp only [Bl]
   rw [AQ (by omega), Ay]) N 0 [] (Nat.zero_le _) (by omega) ⟨rfl, fun t ht => by cases ht⟩
 exact ⟨_, true, e2, fun _ => fin tabs (by omega) g2⟩
end Go.Lift

/- The mixes that result from aborts: both implementations give one list. -/
namespace Go.Lift
def HV : List Int → Nat → Nat
 | [], _ => 0
 | _, 0 => 0
 | n :: ns, q + 1 => (if 0 ≤ n then 1 else 0) + HV ns q
theorem Ij (l : List Int) : HV l 0 = 0 := by cases l <;> rfl
theorem Hf : ∀ (l : List Int) (q : Nat), q < l.length → HV l (q + 1) = HV l q + if 0 ≤ l.getD q 0 then 1 else 0
 | [], q, h => by simp at h
 | n :: ns, 0, _ => by simp [HV, Ij]
 | n :: ns, q + 1, h => by
  rw [HV, Hf ns q (by simpa using h), HV, List.getD_cons_succ, Nat.add_assoc]
theorem Na (l : List Int) {a b : Nat} (h : a ≤ b) (hb : b ≤ l.length) : HV l a ≤ HV l b := by
 induction b with
 | zero => rw [Nat.le_zero.1 h]; exact Nat.le_refl _
 | succ b ih =>
  by_cases h1 : a = b + 1
  ·rw [h1]; exact Nat.le_refl _
  ·have := ih (by omega) (by omega)
   rw [Hf l b (by omega)]; omega
theorem JT (l : List Int) : ∀ q, q ≤ l.length → HV l q ≤ q
 | 0, _ => by rw [Ij]; exact Nat.le_refl _
 | q + 1, h => by
  have := JT l q (by omega)
  rw [Hf l q h]
  split <;> omega
def Ll (l : List Int) (k q : Nat) : Int := if 0 ≤ l.getD q 0 ∧ k.testBit (HV l q) = true then -1 else l.getD q 0
def SN (l : List Int) (k : Nat) : List Int := (List.range l.length).map (Ll l k)
def UF (m : Ae) (k : Nat) : Ae := ⟨m.fBase, SN m.fNext k, m.fHeld⟩
def FO (m : Ae) : List Ae := (List.range (2 ^ HV m.fNext m.fNext.length)).map (UF m)
theorem KW (l : List Int) (k : Nat) : (SN l k).length = l.length := by simp [SN]
theorem Ok (l : List Int) (k q : Nat) (h : q < l.length) : (SN l k).getD q 0 = Ll l k q := by
 unfold SN; rw [List.getD_eq_getElem?_getD, List.getElem?_map, List.getElem?_range h]; rfl
theorem IL {l1 l2 : List Int} (h1 : l1.length = l2.length) (h : ∀ q, q < l1.length → l1.getD q 0 = l2.getD q 0) : l1 = l2 := by
 apply List.ext_getElem h1
 intro q h2 h3
 have := h q h2
 rw [List.getD_eq_getElem?_getD, List.getD_eq_getElem?_getD, List.getElem?_eq_getElem h2, List.getElem?_eq_getElem h3] at this
 exact this
theorem QF : ∀ (k : Fin 64) (b : Fin 7), FI .i64 (En .i64 (k.val : Int) (b.val : Int)) 1 = (if k.val.testBit b.val then 1 else 0) ∧ Int.tmod (En .i64 (k.val : Int) (b.val : Int)) 2 = (if k.val.testBit b.val then 1 else 0) := by decide +kernel
theorem TI : ∀ n : Fin 7, CJ .i64 1 (n.val : Int) = ((2 ^ n.val : Nat) : Int) := by decide +kernel
structure Ns (m x : Ae) : Prop where
 base : x.fBase = m.fBase
 held : x.fHeld = m.fHeld
 len : x.fNext.length = m.fNext.length
 next : ∀ q, q < m.fNext.length → x.fNext.getD q 0 = m.fNext.getD q 0 ∨ (0 ≤ m.fNext.getD q 0 ∧ x.fNext.getD q 0 = -1)
theorem Ns.refl (m : Ae) : Ns m m := ⟨rfl, rfl, rfl, fun _ _ => .inl rfl⟩
theorem Ns.trans {a b c : Ae} (h1 : Ns a b) (h2 : Ns b c) : Ns a c :=
 ⟨h2.base.trans h1.base, h2.held.trans h1.held, h2.len.trans h1.len, fun q hq => by
  have e1 := h1.next q hq
  have e2 := h2.next q (by rw [h1.len]; exact hq)
  omega⟩
theorem Sc (m : Ae) (k : Nat) : Ns m (UF m k) :=
 ⟨rfl, rfl, KW _ _, fun q hq => by
  show (SN m.fNext k).getD q 0 = _ ∨ _ ∧ (SN m.fNext k).getD q 0 = _
  rw [Ok _ _ _ hq]; unfold Ll
  split
  ·rename_i h; exact .inr ⟨h.1, rfl⟩
  ·exact .inl rfl⟩
theorem Qz : ∀ (l x : List Int), x.length = l.length → (∀ q, q < l.length → x.getD q 0 = l.getD q 0 ∨ (0 ≤ l.getD q 0 ∧ x.getD q 0 = -1)) → ∃ k, k < 2 ^ HV l l.length ∧ ∀ q, q < l.length → x.getD q 0 = Ll l k q
 | [], x, h, _ => ⟨0, by simp [HV], fun q hq => by simp at hq⟩
 | n :: ns, [], h, _ => by simp at h
 | n :: ns, y :: ys, h, hq => by
  obtain ⟨k, hk, hk2⟩ := Qz ns ys (by simpa using h) (fun q hq' => by have := hq (q + 1) (by simpa using hq'); simpa using this)
  have h0 := hq 0 (by simp)
  simp only [List.getD_cons_zero] at h0
  by_cases hn : 0 ≤ n
  ·refine ⟨2 * k + if y = n then 0 else 1, ?_, ?_⟩
   ·rw [List.length_cons, HV, if_pos hn, Nat.pow_add]
    split <;> omega
   ·intro q hq'
    cases q with
    | zero =>
     simp only [List.getD_cons_zero, Ll, Ij]
     by_cases hy : y = n
     ·simp [hy]
     ·rw [if_neg hy, if_pos ⟨hn, by simp⟩]; omega
    | succ q =>
     have := hk2 q (by simpa using hq')
     simp only [List.getD_cons_succ, Ll, HV, if_pos hn] at this ⊢
     rw [this, Nat.add_comm 1, Nat.testBit_succ]
     have : (2 * k + if y = n then 0 else 1) / 2 = k := by split <;> omega
     rw [this]
  ·refine ⟨k, ?_, ?_⟩
   ·rw [List.length_cons, HV, if_neg hn, Nat.zero_add]; exact hk
   ·intro q hq'
    cases q with
    | zero =>
     simp only [List.getD_cons_zero, Ll, Ij]
     rw [if_neg (fun h => hn h.1)]
     omega
    | succ q =>
     have := hk2 q (by simpa using hq')
     simp only [List.getD_cons_succ, Ll, HV, if_neg hn, Nat.zero_add] at this ⊢
     exact this
theorem M6 {m x : Ae} : x ∈ FO m ↔ Ns m x := by
 unfold FO
 rw [List.mem_map]
 constructor
 ·rintro ⟨k, _, rfl⟩; exact Sc m k
 ·intro h
  obtain ⟨k, hk, hq⟩ := Qz m.fNext x.fNext h.len h.next
  refine ⟨k, List.mem_range.2 hk, ?_⟩
  have : SN m.fNext k = x.fNext := IL (by rw [KW, h.len]) fun q hq' => by
   rw [KW] at hq'
   rw [Ok _ _ _ hq', hq q hq']
  unfold UF
  rw [this, ← h.base, ← h.held]
theorem Uo {m x : Ae} (h : Ns m x) {s : Nat} (hs : s < m.fNext.length) {v : Nat} (hv : HW x s v = true) : HW m s v = true := by
 unfold HW at hv ⊢
 rw [h.base] at hv
 have := h.next s hs
 simp only [Bool.or_eq_true, decide_eq_true_eq] at hv ⊢
 omega
theorem T8 {p : Ag} {m x : Ae} (hp : Cc p) (hm : Dn p m) (h : Ns m x) : Dn p x := by
 refine ⟨⟨by rw [h.base]; exact hm.base, by rw [h.len]; exact hm.next, by rw [h.held]; exact hm.held, fun i hi => by rw [h.base]; exact hm.b0 i hi, fun i hi => ?_, fun i hi => ?_⟩, fun i hi => by rw [h.held]; exact hm.range i hi, fun i t ht hs v hv => ?_, fun i t ht hs v hv => ?_, fun i t ht hs => by rw [h.held]; exact hm.none i t ht hs⟩
 ·have h1 := hm.n0 i hi
  have h2 := h.next i (by rw [hm.next]; exact hi)
  have h3 := IF hp hi
  omega
 ·have h1 := hm.ne i hi
  have h2 := h.next i (by rw [hm.next]; exact hi)
  have h3 := hm.b0 i hi
  rw [h.base]
  omega
 ·have hin := (Lj (hp.tab t (List.mem_of_getElem? ht))).from0
  rw [h.held]
  exact hm.low i t ht hs v (Uo h (by rw [hm.next]; omega) hv)
 ·rw [h.held] at hv
  exact hm.high i t ht hs v hv
theorem I1 (N : Nat) (l : List Int) (h : l.length ≤ D3) : BF N l = some l := by
 unfold BF
 rw [AA (by simpa using h)]; rfl
theorem NT (N : Nat) (l : List Int) (h : l.length ≤ D3) : BP N l = some l := by
 unfold BP
 rw [AA (by simpa using h)]; rfl
theorem Ic {l : List Int} {i q : Nat} {y : Int} (hi : i < l.length) : (l.set i y).getD q 0 = if q = i then y else l.getD q 0 := by
 rw [List.getD_eq_getElem?_getD, List.getD_eq_getElem?_getD, List.getElem?_set]
 by_cases h : i = q
 ·subst h; simp [hi]
 ·rw [if_neg h, if_neg (fun e => h e.symm)]
theorem Tp {l : List Int} {a b : Nat} (ha : a < l.length) (hb : b < l.length) (h1 : 0 ≤ l.getD a 0) (h2 : 0 ≤ l.getD b 0) (h : HV l a = HV l b) : a = b := by
 rcases Nat.lt_trichotomy a b with h3 | h3 | h3
 ·have := Na l (a := a + 1) (b := b) h3 (by omega)
  rw [Hf l a ha, if_pos h1] at this; omega
 ·exact h3
 ·have := Na l (a := b + 1) (b := a) h3 (by omega)
  rw [Hf l b hb, if_pos h2] at this; omega
structure Sg (l : List Int) (o : List Int) : Prop where
 len : o.length = HV l l.length
 at_ : ∀ b, b < o.length → ∃ i : Nat, o.getD b 0 = (i : Int) ∧ i < l.length ∧ 0 ≤ l.getD i 0 ∧ HV l i = b
theorem PO (N : Nat) (l o : List Int) (k : Nat) (acc : List Ae) (hN : N ≤ 1000000) (h20 : 20 ≤ N) (hl : l.length ≤ 6) (ho : Sg l o) (hk : k < 64) (j : List Int → Option (List Ae × Int)) :
  CW N o (acc, (k : Int)) j N (l, 0) = j (SN l k) := by
 have hol := JT l l.length (Nat.le_refl _)
 have hoL := ho.len
 obtain ⟨x, e, h1, h2⟩ := ET (A := List Int) (CW N o (acc, (k : Int)) j) (fun a k => (a, k)) o.length j
  (fun b a => a.length = l.length ∧ ∀ q, q < l.length → a.getD q 0 = if 0 ≤ l.getD q 0 ∧ HV l q < b ∧ k.testBit (HV l q) = true then -1 else l.getD q 0)
  (fun n b a hb ha => by
   obtain ⟨i, hi1, hi2, hi3, hi4⟩ := ho.at_ b hb
   have hbit := QF ⟨k, hk⟩ ⟨b, by omega⟩
   rw [CW]
   simp only [Bl]
   rw [AU (by omega), Dj (d := 0) hb]
   simp only [Option.bind_some]
   rw [AA (by omega), hi1, hbit.1, Dj (d := 0) (show i < a.length by rw [ha.1]; exact hi2), AT (by omega)]
   simp only [Option.bind_some, Int.toNat_natCast]
   cases hkb : k.testBit b
   ·refine ⟨a, rfl, ha.1, fun q hq => ?_⟩
    rw [ha.2 q hq]
    by_cases hqb : HV l q = b
    ·rw [hqb, hkb]; simp
    ·by_cases h3 : HV l q < b
     ·have : HV l q < b + 1 := by omega
      simp [h3, this]
     ·have : ¬ HV l q < b + 1 := by omega
      simp [h3, this]
   ·refine ⟨a.set i (-1), rfl, by simp [ha.1], fun q hq => ?_⟩
    rw [Ic (by rw [ha.1]; exact hi2), ha.2 q hq]
    by_cases hqi : q = i
    ·subst hqi
     rw [if_pos rfl, if_pos ⟨hi3, by omega, by rw [hi4]; exact hkb⟩]
    ·rw [if_neg hqi]
     by_cases h0 : 0 ≤ l.getD q 0
     ·have hne : HV l q ≠ b := fun h => hqi (Tp hq hi2 h0 hi3 (by omega))
      by_cases h3 : HV l q < b
      ·have : HV l q < b + 1 := by omega
       simp [h3, this]
      ·have : ¬ HV l q < b + 1 := by omega
       simp [h3, this]
     ·rw [if_neg (fun h => h0 h.1), if_neg (fun h => h0 h.1)])
  (fun n a _ => by
   rw [CW]
   simp only [Bl]
   rw [AQ (by omega)]) N 0 l (Nat.zero_le _) (by omega) ⟨rfl, fun q hq => by simp⟩
 have e' : CW N o (acc, (k : Int)) j N (l, 0) = j x := e
 rw [e']
 congr 1
 refine IL (by rw [KW, h1]) fun q hq => ?_
 rw [h1] at hq
 rw [h2 q hq, Ok _ _ _ hq, Ll]
 by_cases h0 : 0 ≤ l.getD q 0
 ·have h3 := Na l (a := q + 1) (b := l.length) hq (Nat.le_refl _)
  rw [Hf l q hq, if_pos h0] at h3
  have : HV l q < o.length := by omega
  simp [this]
 ·rw [if_neg (fun h => h0 h.1), if_neg (fun h => h0 h.1)]
theorem Po (N : Nat) (m : Ae) (k : Nat) (acc : List Ae) (hN : N ≤ 1000000) (h20 : 20 ≤ N) (hl : m.fNext.length ≤ 6) (hk : k < 64) (j : List Int → Option (List Ae)) :
  BS N m (acc, (k : Int)) j N (m.fNext, 0, 0) = j (SN m.fNext k) := by
 obtain ⟨⟨x, pl⟩, e, h1, h2, h3⟩ := ET (A := List Int × Nat) (BS N m (acc, (k : Int)) j) (fun a k => (a.1, (a.2 : Int), k)) m.fNext.length (fun a => j a.1)
  (fun i a => a.2 = HV m.fNext i ∧ a.1.length = m.fNext.length ∧ ∀ q, q < m.fNext.length → a.1.getD q 0 = if q < i then Ll m.fNext k q else m.fNext.getD q 0)
  (fun n i a hi ha => by
   obtain ⟨a, pl⟩ := a
   obtain ⟨a1, a2, a3⟩ := ha
   simp only at a1 a2 a3
   have hple := JT m.fNext i (by omega)
   have hbit := QF ⟨k, hk⟩ ⟨pl, by omega⟩
   have hs := Hf m.fNext i hi
   rw [BS]
   simp only [Bl]
   rw [AU (by omega), Dj (d := 0) hi]
   simp only [Option.bind_some]
   rw [AT (by omega)]
   by_cases h0 : m.fNext.getD i 0 < 0
   ·rw [AU h0]
    refine ⟨(a, pl), rfl, by simp only; rw [hs, if_neg (by omega), a1]; rfl, a2, fun q hq => ?_⟩
    simp only
    rw [a3 q hq]
    by_cases hqi : q = i
    ·subst hqi
     rw [if_neg (by omega), if_pos (by omega), Ll, if_neg (by omega)]
    ·by_cases h4 : q < i
     ·rw [if_pos h4, if_pos (by omega)]
     ·rw [if_neg h4, if_neg (by omega)]
   ·rw [AQ h0, AA (by omega), Dj (d := 0) (show i < a.length by omega), hbit.2, AT (by omega)]
    simp only [Option.bind_some, Int.toNat_natCast]
    cases hkb : k.testBit pl
    ·refine ⟨(a, pl + 1), rfl, by simp only; rw [hs, if_pos (by omega), a1], a2, fun q hq => ?_⟩
     simp only
     rw [a3 q hq]
     by_cases hqi : q = i
     ·subst hqi
      rw [if_neg (by omega), if_pos (by omega), Ll, ← a1, hkb]; simp
     ·by_cases h4 : q < i
      ·rw [if_pos h4, if_pos (by omega)]
      ·rw [if_neg h4, if_neg (by omega)]
    ·refine ⟨(a.set i (-1), pl + 1), rfl, by simp only; rw [hs, if_pos (by omega), a1], by simp [a2], fun q hq => ?_⟩
     simp only
     rw [Ic (by omega), a3 q hq]
     by_cases hqi : q = i
     ·subst hqi
      rw [if_pos rfl, if_pos (by omega), Ll, ← a1, if_pos ⟨by omega, hkb⟩]
     ·rw [if_neg hqi]
      by_cases h4 : q < i
      ·rw [if_pos h4, if_pos (by omega)]
      ·rw [if_neg h4, if_neg (by omega)])
  (fun n a _ => by
   rw [BS]
   simp only [Bl]
   rw [AQ (by omega)]) N 0 (m.fNext, 0) (Nat.zero_le _) (by omega) ⟨(Ij _).symm, rfl, fun q hq => by simp⟩
 have e' : BS N m (acc, (k : Int)) j N (m.fNext, 0, 0) = j x := e
 rw [e']
 congr 1
 simp only at h2 h3
 refine IL (by rw [KW, h2]) fun q hq => ?_
 rw [h2] at hq
 rw [h3 q hq, if_pos hq, Ok _ _ _ hq]
end Go.Lift

/- Aborts, the first mix that is to blame, and robustness: both implementations give one answer. -/
namespace Go.Lift
theorem So (N : Nat) (m : Ae) (hN : N ≤ 1000000) (h20 : 20 ≤ N) (hl : m.fNext.length ≤ 6) (j : List Int → Option (List Ae × Int)) :
  ∃ o, DH N m j N ([], 0) = j o ∧ Sg m.fNext o := by
 obtain ⟨o, e, h1, h2⟩ := ET (A := List Int) (DH N m j) (fun a k => (a, k)) m.fNext.length j
  (fun i o => o.length = HV m.fNext i ∧ ∀ b, b < o.length → ∃ q : Nat, o.getD b 0 = (q : Int) ∧ q < m.fNext.length ∧ 0 ≤ m.fNext.getD q 0 ∧ HV m.fNext q = b)
  (fun n i o hi ho => by
   have hple := JT m.fNext i (by omega)
   have hs := Hf m.fNext i hi
   rw [DH]
   simp only [Bl]
   rw [AU (by omega), Dj (d := 0) hi]
   simp only [Option.bind_some]
   rw [AT (by omega)]
   by_cases h0 : 0 ≤ m.fNext.getD i 0
   ·rw [AU h0, AA (by rw [ho.1]; unfold D3; simp; omega)]
    refine ⟨o ++ [(i : Int)], rfl, by rw [hs, if_pos h0, ← ho.1]; simp, ?_⟩
    rw [List.length_append]
    exact MA (P := fun b y => ∃ q : Nat, y = (q : Int) ∧ q < m.fNext.length ∧ 0 ≤ m.fNext.getD q 0 ∧ HV m.fNext q = b) rfl ho.2 ⟨i, rfl, hi, h0, ho.1.symm⟩
   ·rw [AQ h0]
    exact ⟨o, rfl, by rw [hs, if_neg h0, ho.1]; rfl, ho.2⟩)
  (fun n a _ => by
   rw [DH]
   simp only [Bl]
   rw [AQ (by omega)]) N 0 [] (Nat.zero_le _) (by omega) ⟨(Ij _).symm, fun b hb => by simp at hb⟩
 exact ⟨o, e, h1, h2⟩
theorem Kl {n : Nat} (h : n ≤ 6) : 2 ^ n ≤ 64 := Nat.pow_le_pow_right (n := 2) (by omega) h
theorem Mh {n : Nat} (h : n ≤ 6) : CJ .i64 1 (n : Int) = ((2 ^ n : Nat) : Int) := TI ⟨n, by omega⟩
theorem JQ {β : Type} (f : Nat → β) (n : Nat) : (List.range (n + 1)).map f = (List.range n).map f ++ [f n] := by
 rw [List.range_succ, List.map_append]; rfl
theorem Nv (N : Nat) (p : Ag) (m : Ae) (hN : N ≤ 1000000) (h20 : 100 ≤ N) (hw : NV KC m.fHeld) (hv : FZ p m = 0) : Fz N p m = some (FO m, 0) := by
 obtain ⟨hp, hm⟩ := K0 hw hv
 have hnv := hp.nv
 have hnt := hp.nt
 have hl : m.fNext.length ≤ 6 := by rw [hm.next]; omega
 unfold Fz
 rw [H0 N p m hN (by omega) hw, hv]
 simp only [Option.bind_some, bne_self_eq_false, Ay]
 obtain ⟨o, e, ho⟩ := So N m hN (by omega) hl (fun (v4 : (List Int)) =>
   (Ef (0 ≤ (v4.length : Int))).bind fun _ =>
   CY N m v4 (fun (v12 : (List Ae)) =>
    some (v12, 0)) N (([] : List Ae), 0))
 rw [e, AA (by omega)]
 have hoL := ho.len
 have hol := JT m.fNext m.fNext.length (Nat.le_refl _)
 have hpow := Kl (show HV m.fNext m.fNext.length ≤ 6 by omega)
 obtain ⟨a, e2, h1⟩ := ET (A := List Ae) (CY N m o fun v12 => some (v12, 0)) (fun a k => (a, k)) (2 ^ HV m.fNext m.fNext.length) (fun v12 => some (v12, 0))
  (fun i a => a = (List.range i).map (UF m))
  (fun n i a hi ha => by
   refine ⟨a ++ [UF m i], ?_, by rw [JQ, ha]⟩
   have hal : a.length = i := by rw [ha]; simp
   rw [CY]
   rw [hoL, Mh (n := HV m.fNext m.fNext.length) (by omega), AU (by omega), I1 N m.fBase (by have := hm.base; unfold D3; omega), I1 N m.fNext (by unfold D3; omega), NT N m.fHeld (by have := hm.held; unfold D3; omega)]
   simp only [Option.bind_some]
   rw [PO N m.fNext o i a hN (by omega) hl ho (by omega), AA (by rw [hal]; unfold D3; simp; omega), AT (by omega)]
   rfl)
  (fun n a _ => by
   rw [CY]
   rw [hoL, Mh (n := HV m.fNext m.fNext.length) (by omega), AQ (by simp)]) N 0 [] (Nat.zero_le _) (by omega) rfl
 have e2' : CY N m o (fun v12 => some (v12, 0)) N ([], 0) = some (a, 0) := e2
 rw [e2', h1]; rfl
theorem P6 (N : Nat) (m : Ae) (h1 : m.fBase.length ≤ D3) (h2 : m.fNext.length ≤ D3) (h3 : m.fHeld.length ≤ D3) : Ec N m = some m := by
 unfold Ec
 rw [AA (by simpa using h1), AA (by simpa using h2), AA (by simpa using h3)]; rfl
theorem P8 (N : Nat) (m : Ae) (hN : N ≤ 1000000) (h20 : 100 ≤ N) (h1 : m.fBase.length ≤ 100) (hl : m.fNext.length ≤ 6) (h3 : m.fHeld.length ≤ 100) : Ee N m = some (FO m) := by
 unfold Ee
 obtain ⟨c, e, hc⟩ := ET (A := Nat) (CA N m (fun (v2 : Int) =>
  Bz N m v2 (fun (v8 : (List Ae)) => some v8) N (([] : List Ae), 0))) (fun a k => ((a : Int), k)) m.fNext.length (fun a => Bz N m (a : Int) (fun (v8 : (List Ae)) => some v8) N (([] : List Ae), 0))
  (fun i a => a = HV m.fNext i)
  (fun n i a hi ha => by
   have hple := JT m.fNext i (by omega)
   have hs := Hf m.fNext i hi
   rw [CA]
   simp only [Bl]
   rw [AU (by omega), Dj (d := 0) hi]
   simp only [Option.bind_some]
   rw [AT (by omega), AT (by omega)]
   by_cases h0 : 0 ≤ m.fNext.getD i 0
   ·rw [AU h0]
    exact ⟨a + 1, rfl, by rw [hs, if_pos h0, ha]⟩
   ·rw [AQ h0]
    exact ⟨a, rfl, by rw [hs, if_neg h0, ha]; rfl⟩)
  (fun n a _ => by
   rw [CA]
   simp only [Bl]
   rw [AQ (by omega)]) N 0 0 (Nat.zero_le _) (by omega) (Ij _).symm
 have e' : CA N m (fun (v2 : Int) => Bz N m v2 (fun (v8 : (List Ae)) => some v8) N (([] : List Ae), 0)) N (0, 0) = _ := e
 rw [e', hc]
 have hol := JT m.fNext m.fNext.length (Nat.le_refl _)
 have hpow := Kl (show HV m.fNext m.fNext.length ≤ 6 by omega)
 obtain ⟨a, e2, h1⟩ := ET (A := List Ae) (Bz N m (HV m.fNext m.fNext.length : Int) fun v8 => some v8) (fun a k => (a, k)) (2 ^ HV m.fNext m.fNext.length) some
  (fun i a => a = (List.range i).map (UF m))
  (fun n i a hi ha => by
   refine ⟨a ++ [UF m i], ?_, by rw [JQ, ha]⟩
   have hal : a.length = i := by rw [ha]; simp
   rw [Bz]
   rw [AA (by omega), Mh (n := HV m.fNext m.fNext.length) (by omega), AU (by omega), P6 N m (by unfold D3; omega) (by unfold D3; omega) (by unfold D3; omega)]
   simp only [Option.bind_some]
   rw [Po N m i a hN (by omega) hl (by omega), AA (by rw [hal]; unfold D3; simp; omega), AT (by omega)]
   rfl)
  (fun n a _ => by
   rw [Bz]
   rw [AA (by omega), Mh (n := HV m.fNext m.fNext.length) (by omega), AQ (by simp)]) N 0 [] (Nat.zero_le _) (by omega) rfl
 have e2' : Bz N m (HV m.fNext m.fNext.length : Int) (fun v8 => some v8) N ([], 0) = some a := e2
 rw [e2', h1]; rfl
theorem P2 (N : Nat) (p : Ag) (m : Ae) (hN : N ≤ 1000000) (h20 : 100 ≤ N) (hp : Cc p) (hm : Dn p m) : Ee N m = some (FO m) := by
 have := hp.nv
 have := hp.nt
 exact P8 N m hN h20 (by rw [hm.base]; omega) (by rw [hm.next]; omega) (by rw [hm.held]; omega)
theorem Nc {p : Ag} {m : Ae} (hm : Dn p m) : NV KC m.fHeld := by
 intro x hx
 obtain ⟨q, hq⟩ := List.mem_iff_getElem?.1 hx
 have h1 := (List.getElem?_eq_some_iff.1 hq).1
 have := hm.range q (by rw [← hm.held]; exact h1)
 rw [List.getD_eq_getElem?_getD, hq] at this
 unfold KC
 simp only [Option.getD_some] at this
 simp [Lit.wf, IntKind.min, IntKind.max, IntKind.signed, IntKind.bits]
 omega
def Kj (p : Ag) (x : Ae) : Option (Ae × Av) := match GG p x with
 | [] => none
 | c :: _ => some (x, c)
def Mx (p : Ag) (m : Ae) : Option (Ae × Av) := DY (fun _ x => Kj p x) 0 (FO m)
def Ha : Ae := ⟨[], [], []⟩
def RF : Av := ⟨0, 0, 0⟩
def Qj (p : Ag) (m : Ae) : Ae × Av × Int := match Mx p m with
 | some (x, c) => (x, c, 0)
 | none => (Ha, RF, 15)
def Ei (p : Ag) (m : Ae) : Bool := (Mx p m).isNone
theorem MM {m : Ae} (hl : m.fNext.length ≤ 6) : (FO m).length ≤ 64 := by
 unfold FO
 have hol := JT m.fNext m.fNext.length (Nat.le_refl _)
 have hpow := Kl (show HV m.fNext m.fNext.length ≤ 6 by omega)
 simpa using hpow
theorem Mi {α R R' : Type} (f : Nat → α → Option R) (g : R → R') : ∀ (i : Nat) (xs : List α), DY (fun i x => (f i x).map g) i xs = (DY f i xs).map g
 | _, [] => rfl
 | i, x :: xs => by
  rw [GR, GR]
  cases f i x
  ·exact Mi f g (i + 1) xs
  ·rfl
theorem OL (N : Nat) (p : Ag) (m : Ae) (hN : N ≤ 1000000) (h20 : 100 ≤ N) (hw : NV KC m.fHeld) (hv : FZ p m = 0) : G1 N p m = some (Qj p m) := by
 obtain ⟨hp, hm⟩ := K0 hw hv
 have hnv := hp.nv
 unfold G1
 rw [Nv N p m hN h20 hw hv]
 simp only [Option.bind_some, bne_self_eq_false, Ay]
 have hal := MM (m := m) (by rw [hm.next]; omega)
 have := Dt (Ew N p (FO m, 0) fun _ => some (Ha, RF, 15)) (FO m) (some (Ha, RF, 15)) (fun _ x => (Kj p x).map fun y => (y.1, y.2, 0))
  (fun n i x hx => by
   have hi := (List.getElem?_eq_some_iff.1 hx).1
   have hx2 := T8 hp hm (M6.1 (List.mem_of_getElem? hx))
   rw [Ew, AU (by simp only; omega)]
   simp only [Bw, hx, Option.bind_some]
   rw [Lm N p x hN (by omega) hp hx2, AT (by omega)]
   simp only [Option.bind_some, Kj]
   cases GG p x with
   | nil => rfl
   | cons c cs => rw [AU (by simp only [List.length_cons]; omega)]; rfl)
  (fun n => by rw [Ew, AQ (by simp)]) N 0 (Nat.zero_le _) (by omega)
 rw [List.drop_zero, Mi] at this
 exact this.trans (by
  unfold Qj Mx
  cases DY (fun _ x => Kj p x) 0 (FO m) <;> rfl)
theorem II (N : Nat) (p : Ag) (m : Ae) (hN : N ≤ 1000000) (h20 : 100 ≤ N) (hw : NV KC m.fHeld) (hv : FZ p m = 0) : Fa N p m = some (Ei p m, 0) := by
 unfold Fa
 rw [OL N p m hN h20 hw hv]
 unfold Ei Qj
 cases Mx p m <;> rfl
theorem PU (N : Nat) (p : Ag) (m : Ae) (hN : N ≤ 1000000) (h20 : 100 ≤ N) (hp : Cc p) (hm : Dn p m) : D6 N p m = some (GG p m).isEmpty := by
 unfold D6
 rw [Ly N p m hN (by omega) hp hm]
 simp only [Option.bind_some]
 cases GG p m with
 | nil => rfl
 | cons c cs =>
  rw [beq_eq_false_iff_ne.2 (by simp only [List.length_cons]; omega)]; rfl
theorem ID (N : Nat) (p : Ag) (m : Ae) (hN : N ≤ 1000000) (h20 : 100 ≤ N) (hp : Cc p) (hm : Dn p m) : CG N p m = some (Ei p m) := by
 have hnv := hp.nv
 unfold CG
 rw [P2 N p m hN h20 hp hm]
 simp only [Option.bind_some]
 have hal := MM (m := m) (by rw [hm.next]; omega)
 have := Dt (B5 N p (FO m) fun _ => some true) (FO m) (some true) (fun _ x => (Kj p x).map fun _ => false)
  (fun n i x hx => by
   have hi := (List.getElem?_eq_some_iff.1 hx).1
   have hx2 := T8 hp hm (M6.1 (List.mem_of_getElem? hx))
   rw [B5, AU (by omega)]
   simp only [Bw, hx, Option.bind_some]
   rw [PU N p x hN h20 hp hx2, AT (by omega)]
   simp only [Option.bind_some, Kj]
   cases GG p x with
   | nil => rfl
   | cons c cs => rfl)
  (fun n => by rw [B5, AQ (by simp)]) N 0 (Nat.zero_le _) (by omega)
 rw [List.drop_zero, Mi] at this
 refine Eq.trans this ?_
 unfold Ei Mx
 cases DY (fun _ x => Kj p x) 0 (FO m) <;> rfl
end Go.Lift

/- The laws of the mixes in plain words: MixConflicts, MixAborts, MixAborted, MixGoal, MixValid. -/
namespace Go.Lift
end Go.Lift

/- The laws of the mixes in plain words: MixGoal, MixValid. -/
namespace Go.Lift
end Go.Lift

/- The first mix in plain words, and the law MixStart. -/
namespace Go.Lift
open Go
def Fm (p : Ag) (t : AF) : Int := if Cd t = true then CJ .u8 1 (p.fNow.getD t.fFrom.toNat 0) else 0
def Dy (p : Ag) : Ae := ⟨p.fNow, List.replicate p.fNow.length (-1), p.fTables.map (Fm p)⟩
theorem Rc (N : Nat) (h : 100 ≤ N) (n : Nat) (hn : n ≤ 6) : Ej N [(-1)] (n : Int) = some (List.replicate n (-1)) := by
 obtain ⟨k, rfl⟩ : ∃ k, N = k + 100 := ⟨N - 100, by omega⟩
 have : n = 0 ∨ n = 1 ∨ n = 2 ∨ n = 3 ∨ n = 4 ∨ n = 5 ∨ n = 6 := by omega
 rcases this with rfl | rfl | rfl | rfl | rfl | rfl | rfl
 all_goals (show _ = _; kernel_rfl)
theorem Pv (T : List Int) (i : Nat) (hi : i < T.length) : (T.take i ++ List.replicate (T.length - i) 0).set i (T.getD i 0) = T.take (i + 1) ++ List.replicate (T.length - (i + 1)) 0 := by
 have hl : (T.take i).length = i := by simp; omega
 rw [List.set_append_right _ _ (by omega), hl, Nat.sub_self, show T.length - i = (T.length - (i + 1)) + 1 from by omega, List.replicate_succ, List.set_cons_zero, List.take_add_one, List.append_assoc]
 have : T[i]? = some (T.getD i 0) := by rw [List.getD_eq_getElem?_getD]; simp [hi]
 rw [this]; rfl
theorem Q8 (T : List Int) (i : Nat) (hi : i < T.length) (h0 : T.getD i 0 = 0) : T.take i ++ List.replicate (T.length - i) 0 = T.take (i + 1) ++ List.replicate (T.length - (i + 1)) 0 := by
 rw [← Pv T i hi, h0, List.set_append_right _ _ (by rw [List.length_take]; omega)]
 congr 1
 have hl : (T.take i).length = i := by simp; omega
 rw [hl, Nat.sub_self, show T.length - i = (T.length - (i + 1)) + 1 from by omega, List.replicate_succ, List.set_cons_zero]
theorem Ql {p : Ag} (hv : Cx p = 0) {t : AF} (ht : t ∈ p.fTables) : 0 ≤ t.fFrom ∧ t.fFrom.toNat < p.fNow.length ∧ 0 ≤ p.fNow.getD t.fFrom.toNat 0 ∧ p.fNow.getD t.fFrom.toNat 0 < 6 ∧ p.fNow.getD t.fFrom.toNat 0 < p.fVersions.getD t.fFrom.toNat 0 ∧ t.fFrom.toNat < p.fVersions.length := by
 obtain ⟨hp, hr⟩ := CV hv
 have h1 := In (hp.tab t ht)
 have h2 := hr t.fFrom.toNat (by omega)
 have h3 := IF hp (i := t.fFrom.toNat) (by omega)
 have := hp.now
 refine ⟨h1.1, by omega, h2.1, by omega, h2.2.1, by omega⟩
theorem IW {p : Ag} {i : Nat} {t : AF} (ht : p.fTables[i]? = some t) : (p.fTables.map (Fm p)).getD i 0 = Fm p t := by
 rw [List.getD_eq_getElem?_getD, List.getElem?_map, ht]; rfl
theorem Lh (N : Nat) (p : Ag) (hN : N ≤ 1000000) (h20 : 100 ≤ N) : F6 N p = some (if Cx p = 0 then Dy p else ⟨[], [], []⟩, Cx p) := by
 unfold F6
 rw [KJ N p hN (by omega)]
 simp only [Option.bind_some]
 by_cases hv : Cx p = 0
 ·rw [if_pos hv, hv]
  obtain ⟨hp, _⟩ := CV hv
  have hnv := hp.nv
  have hnt := hp.nt
  have hnow := hp.now
  rw [bne_self_eq_false, Ay, I1 N _ (by simp only [D3]; omega)]
  simp only [Option.bind_some]
  rw [Rc N h20 _ (by omega)]
  simp only [Option.bind_some]
  rw [AA (by simp only [D3]; omega)]
  obtain ⟨a', e, ha⟩ := ET (D1 N p fun v7 => some (Ae.mk p.fNow (List.replicate p.fNow.length (-1)) v7, 0)) (fun a i => (a, i)) p.fTables.length (fun v7 => some (Ae.mk p.fNow (List.replicate p.fNow.length (-1)) v7, 0))
   (fun i a => a = (p.fTables.map (Fm p)).take i ++ List.replicate ((p.fTables.map (Fm p)).length - i) 0)
   (fun n i a hi ha => by
    have hx : p.fTables[i]? = some p.fTables[i] := by simp [hi]
    have hm : p.fTables[i] ∈ p.fTables := List.getElem_mem hi
    obtain ⟨n1, n2, n3, n4, _⟩ := Ql hv hm
    rw [D1, AU (by simp only; omega)]
    simp only [Bl, Bw, hx, Option.bind_some, IN, AT (show i < 1000000 by omega)]
    have hal : i < (p.fTables.map (Fm p)).length := by simpa using hi
    cases hs : Cd p.fTables[i]
    ·rw [Ay]
     refine ⟨a, rfl, ?_⟩
     rw [ha]
     exact Q8 _ _ hal (by rw [IW hx]; unfold Fm; rw [hs]; rfl)
    ·rw [AV]
     have e1 : A9 p.fNow p.fTables[i].fFrom = some (p.fNow.getD p.fTables[i].fFrom.toNat 0) := by
      obtain ⟨q, hq⟩ := Int.eq_ofNat_of_zero_le n1
      rw [hq]; exact Dj (by rw [hq] at n2; simpa using n2)
     rw [e1]
     simp only [Option.bind_some]
     rw [AA n3]
     have hl : i < a.length := by rw [ha]; simp; omega
     have e2 : a[i]? = some a[i] := by simp [hl]
     rw [e2]
     simp only [Option.bind_some]
     refine ⟨_, rfl, ?_⟩
     rw [← Pv _ _ hal, IW hx, ha]
     unfold Fm; rw [hs]; rfl)
   (fun n a ha => by rw [D1, AQ (by simp)]) N 0 (List.replicate p.fTables.length 0) (Nat.zero_le _) (by omega) (by simp)
  have e' : D1 N p (fun v7 => some (Ae.mk p.fNow (List.replicate p.fNow.length (-1)) v7, 0)) N (List.replicate ((p.fTables.length : Int)).toNat (0 : Int), 0) = _ := e
  rw [e', ha]
  have e5 : (p.fTables.map (Fm p)).take p.fTables.length = p.fTables.map (Fm p) := List.take_of_length_le (by simp)
  simp [Dy, e5]
 ·rw [if_neg hv, bne_iff_ne.2 hv, AV]
theorem K4 (N : Nat) (p : Ag) (hN : N ≤ 1000000) (h20 : 100 ≤ N) : DI N p = some (if Cx p = 0 then Dy p else ⟨[], [], []⟩, Cx p) := by
 unfold DI
 rw [MN N p hN (by omega)]
 simp only [Option.bind_some]
 by_cases hv : Cx p = 0
 ·rw [if_pos hv, hv]
  obtain ⟨hp, _⟩ := CV hv
  have hnv := hp.nv
  have hnt := hp.nt
  have hnow := hp.now
  rw [bne_self_eq_false, Ay]
  obtain ⟨a', e, ha⟩ := ET (Ca N p fun v4 => Bh N p (fun v10 => some (Ae.mk v4.1 v4.2 v10, 0)) N (([] : List Int), 0)) (fun a i => (a.1, a.2, i)) p.fVersions.length (fun v4 => Bh N p (fun v10 => some (Ae.mk v4.1 v4.2 v10, 0)) N (([] : List Int), 0))
   (fun i a => a = (p.fNow.take i, List.replicate i (-1)))
   (fun n i a hi ha => by
    subst ha
    rw [Ca, AU (by simp only; omega)]
    have hx : p.fNow[i]? = some p.fNow[i] := by simp [show i < p.fNow.length from by omega]
    simp only [Bw, hx, Option.bind_some, AT (show i < 1000000 by omega)]
    rw [AA (by simp [D3]; omega), AA (by simp [D3]; omega)]
    refine ⟨(p.fNow.take i ++ [p.fNow[i]], List.replicate i (-1) ++ [-1]), rfl, ?_⟩
    rw [List.take_add_one, hx, List.replicate_succ']; rfl)
   (fun n a ha => by rw [Ca, AQ (by simp)]) N 0 ([], []) (Nat.zero_le _) (by omega) rfl
  have e' : Ca N p (fun v4 => Bh N p (fun v10 => some (Ae.mk v4.1 v4.2 v10, 0)) N (([] : List Int), 0)) N (([] : List Int), ([] : List Int), 0) = _ := e
  rw [e', ha]
  simp only
  obtain ⟨b', e2, hb⟩ := ET (Bh N p fun v10 => some (Ae.mk (p.fNow.take p.fVersions.length) (List.replicate p.fVersions.length (-1)) v10, 0)) (fun a i => (a, i)) p.fTables.length (fun v10 => some (Ae.mk (p.fNow.take p.fVersions.length) (List.replicate p.fVersions.length (-1)) v10, 0))
   (fun i a => a = (p.fTables.map (Fm p)).take i)
   (fun n i a hi ha => by
    subst ha
    have hx : p.fTables[i]? = some p.fTables[i] := by simp [hi]
    have hm : p.fTables[i] ∈ p.fTables := List.getElem_mem hi
    obtain ⟨n1, n2, n3, n4, _⟩ := Ql hv hm
    rw [Bh, AU (by simp only; omega)]
    simp only [Bl, Bw, hx, Option.bind_some, Gt, AT (show i < 1000000 by omega)]
    have hT : (p.fTables.map (Fm p))[i]? = some (Fm p p.fTables[i]) := by rw [List.getElem?_map, hx]; rfl
    have hlen : ((p.fTables.map (Fm p)).take i).length + 1 ≤ D3 := by simp [D3]; omega
    cases hs : Cd p.fTables[i]
    ·rw [Ay, AA (by simpa using hlen)]
     refine ⟨_, rfl, ?_⟩
     rw [List.take_add_one, hT]
     unfold Fm; rw [hs]; rfl
    ·rw [AV]
     have e1 : A9 p.fNow p.fTables[i].fFrom = some (p.fNow.getD p.fTables[i].fFrom.toNat 0) := by
      obtain ⟨q, hq⟩ := Int.eq_ofNat_of_zero_le n1
      rw [hq]; exact Dj (by rw [hq] at n2; simpa using n2)
     rw [e1]
     simp only [Option.bind_some]
     rw [AA n3, AA (by simpa using hlen)]
     refine ⟨_, rfl, ?_⟩
     rw [List.take_add_one, hT]
     unfold Fm; rw [hs]; rfl)
   (fun n a ha => by rw [Bh, AQ (by simp)]) N 0 [] (Nat.zero_le _) (by omega) rfl
  have e3 : Bh N p (fun v10 => some (Ae.mk (p.fNow.take p.fVersions.length) (List.replicate p.fVersions.length (-1)) v10, 0)) N (([] : List Int), 0) = _ := e2
  rw [e3, hb]
  simp only [Dy, ← hnow, List.take_length]
  rw [show p.fTables.length = (p.fTables.map (Fm p)).length from by simp, List.take_length]
 ·rw [if_neg hv, bne_iff_ne.2 hv, AV]
theorem Li {p : Ag} (hv : Cx p = 0) : Dn p (Dy p) := by
 obtain ⟨hp, hr⟩ := CV hv
 have hnow := hp.now
 have hnx : ∀ i, i < p.fVersions.length → (List.replicate p.fNow.length (-1 : Int)).getD i 0 = -1 := fun i hi => by
  rw [List.getD_eq_getElem?_getD, List.getElem?_replicate, if_pos (by omega)]; rfl
 have hone : ∀ (i : Nat) (t : AF), p.fTables[i]? = some t → ∃ b : Nat, b < 6 ∧ p.fNow.getD t.fFrom.toNat 0 = (b : Int) ∧ (b : Int) < p.fVersions.getD t.fFrom.toNat 0 ∧ t.fFrom.toNat < p.fVersions.length := fun i t ht => by
  obtain ⟨n1, n2, n3, n4, n5, n6⟩ := Ql hv (List.mem_of_getElem? ht)
  obtain ⟨b, hb⟩ := Int.eq_ofNat_of_zero_le n3
  exact ⟨b, by omega, hb, by omega, n6⟩
 have hbit : ∀ b : Nat, b < 8 → ∀ v, DK (CJ .u8 1 (b : Int)) v = decide (b = v) := fun b hb v => by
  by_cases h : v < 8
  ·exact (Jb ⟨b, hb⟩ ⟨v, h⟩).1
  ·rw [Jl (Jb ⟨b, hb⟩ ⟨0, by omega⟩).2.2 (by omega)]
   symm; apply decide_eq_false; omega
 refine { base := hnow, next := by simp [Dy, hnow], held := by simp [Dy], b0 := fun i hi => ⟨(hr i hi).1, (hr i hi).2.1⟩, n0 := fun i hi => ?_, ne := fun i hi => ?_, range := fun i hi => ?_, low := fun i t ht hs v hv' => ?_, high := fun i t ht hs v hb => ?_, none := fun i t ht hs => ?_ }
 ·show -1 ≤ (List.replicate p.fNow.length (-1 : Int)).getD i 0 ∧ (List.replicate p.fNow.length (-1 : Int)).getD i 0 < _
  rw [hnx i hi]
  have := IF hp hi
  omega
 ·show p.fNow.getD i 0 ≠ (List.replicate p.fNow.length (-1 : Int)).getD i 0
  rw [hnx i hi]
  have := hr i hi
  omega
 ·have hx : p.fTables[i]? = some p.fTables[i] := by simp [hi]
  show 0 ≤ (p.fTables.map (Fm p)).getD i 0 ∧ (p.fTables.map (Fm p)).getD i 0 ≤ 255
  rw [IW hx]
  unfold Fm
  split
  ·obtain ⟨b, h1, h2, _⟩ := hone i _ hx
   rw [h2]
   exact (Jb ⟨b, by omega⟩ ⟨0, by omega⟩).2
  ·omega
 ·show DK ((p.fTables.map (Fm p)).getD i 0) v = true
  obtain ⟨b, h1, h2, h3, h4⟩ := hone i t ht
  rw [IW ht]
  unfold Fm
  rw [if_pos hs, h2, hbit b (by omega)]
  unfold HW at hv'
  have h5 : (Dy p).fBase.getD t.fFrom.toNat 0 = (b : Int) := h2
  have h6 : (Dy p).fNext.getD t.fFrom.toNat 0 = -1 := hnx _ h4
  rw [h5, h6, Bool.or_eq_true, decide_eq_true_iff, decide_eq_true_iff] at hv'
  apply decide_eq_true; omega
 ·have hb : DK ((p.fTables.map (Fm p)).getD i 0) v = true := hb
  obtain ⟨b, h1, h2, h3, h4⟩ := hone i t ht
  rw [IW ht] at hb
  unfold Fm at hb
  rw [if_pos hs, h2, hbit b (by omega), decide_eq_true_iff] at hb
  omega
 ·show (p.fTables.map (Fm p)).getD i 0 = 0
  rw [IW ht]; unfold Fm; rw [hs]; rfl
end Go.Lift

/- Bits of sets of versions: or, and-not, the lowest bit. -/
namespace Go.Lift
open Go
theorem LG (x : BitVec 8) : IntKind.wrap .u8 (x.toNat : Int) = (x.toNat : Int) := by
 have := x.isLt
 simp [IntKind.wrap, IntKind.signed, IntKind.bits]
 omega
theorem Px (x : BitVec 8) : 0 ≤ (x.toNat : Int) ∧ (x.toNat : Int) ≤ 255 := by
 have := x.isLt
 omega
theorem RC (x : BitVec 8) (v : Nat) : DK (x.toNat : Int) v = x.getLsbD v := by
 unfold DK; rw [Int.toNat_natCast]; rfl
theorem OF {a : Int} (ha : 0 ≤ a ∧ a ≤ 255) (v : Nat) : (BitVec.ofInt 8 a).getLsbD v = DK a v := by
 obtain ⟨a, rfl⟩ := Int.eq_ofNat_of_zero_le ha.1
 unfold BitVec.getLsbD DK
 rw [SA (by omega), Int.toNat_natCast]
theorem PX {a b : Int} (ha : 0 ≤ a ∧ a ≤ 255) (hb : 0 ≤ b ∧ b ≤ 255) : (∀ v, DK (Df .u8 a b) v = (DK a v && !DK b v)) ∧ 0 ≤ Df .u8 a b ∧ Df .u8 a b ≤ 255 := by
 have e : Df .u8 a b = ((BitVec.ofInt 8 a &&& ~~~BitVec.ofInt 8 b).toNat : Int) := LG (BitVec.ofInt 8 a &&& ~~~BitVec.ofInt 8 b)
 rw [e]
 refine ⟨fun v => ?_, Px _⟩
 rw [RC, BitVec.getLsbD_and, BitVec.getLsbD_not, OF ha, OF hb]
 by_cases h : v < 8
 ·simp [h]
 ·rw [Jl ha.2 (by omega)]; simp
theorem Qb {a b : Int} (ha : 0 ≤ a ∧ a ≤ 255) (hb : 0 ≤ b ∧ b ≤ 255) : (∀ v, DK (Nf .u8 a b) v = (DK a v || DK b v)) ∧ 0 ≤ Nf .u8 a b ∧ Nf .u8 a b ≤ 255 := by
 have e : Nf .u8 a b = ((BitVec.ofInt 8 a ||| BitVec.ofInt 8 b).toNat : Int) := LG (BitVec.ofInt 8 a ||| BitVec.ofInt 8 b)
 rw [e]
 refine ⟨fun v => ?_, Px _⟩
 rw [RC, BitVec.getLsbD_or, OF ha, OF hb]
theorem Tm {b : Nat} (hb : b < 8) : (∀ v, DK (CJ .u8 1 (b : Int)) v = decide (b = v)) ∧ 0 ≤ CJ .u8 1 (b : Int) ∧ CJ .u8 1 (b : Int) ≤ 255 := by
 refine ⟨fun v => ?_, (Jb ⟨b, hb⟩ ⟨0, by omega⟩).2⟩
 by_cases h : v < 8
 ·exact (Jb ⟨b, hb⟩ ⟨v, h⟩).1
 ·rw [Jl (Jb ⟨b, hb⟩ ⟨0, by omega⟩).2.2 (by omega)]
  symm; apply decide_eq_false; omega
theorem Sa (N : Nat) {s : Int} {v : Nat} (hs : 0 ≤ s ∧ s ≤ 255) (hv : v < 8) : Cs N s (v : Int) = some (DK s v) := by
 unfold Cs
 rw [AA (by omega), OV hs.1 hs.2 hv]
 cases DK s v <;> rfl
def T4 (v : Nat) : Nat := ((List.range 8).find? fun u => v.testBit u).getD 8
def VJ (v : Nat) : Nat := ((List.range 8).filter fun u => v.testBit u).length
theorem UB : ∀ v : Fin 256, C0 0 (v.val : Int) = some (T4 v.val : Int) := by decide +kernel
theorem V9 (N : Nat) {v : Nat} (h : v < 256) : C0 N (v : Int) = some (T4 v : Int) := UB ⟨v, h⟩
theorem S3 : ∀ v : Fin 256, v.val ≠ 0 → T4 v.val < 8 ∧ DK (v.val : Int) (T4 v.val) = true ∧ 0 ≤ FI .u8 (v.val : Int) (IntKind.wrap .u8 ((v.val : Int) - 1)) ∧ FI .u8 (v.val : Int) (IntKind.wrap .u8 ((v.val : Int) - 1)) ≤ 255 ∧
  VJ (FI .u8 (v.val : Int) (IntKind.wrap .u8 ((v.val : Int) - 1))).toNat + 1 = VJ v.val ∧
  ∀ u : Fin 8, DK (FI .u8 (v.val : Int) (IntKind.wrap .u8 ((v.val : Int) - 1))) u.val = (DK (v.val : Int) u.val && decide (u.val ≠ T4 v.val)) := by decide +kernel
theorem U3 (v : Nat) : VJ v ≤ 8 := by
 have := List.length_filter_le (fun u => v.testBit u) (List.range 8)
 simpa [VJ] using this
theorem Py (N : Nat) (t : AF) (b : Int) (rw_ : Nat → Bool) : ∀ (k n v : Nat), VJ v ≤ k → k < n → v < 256 →
  (∀ u, u < 8 → DK (v : Int) u = true → ∃ row, A9 t.fRewrite (u : Int) = some row ∧ A9 row b = some (rw_ u)) →
  Dv N t b (fun _ => some true) n (v : Int) = some ((List.range 8).all fun u => !DK (v : Int) u || rw_ u)
 | k, 0, v, _, h, _, _ => by omega
 | k, n + 1, v, hk, hn, hv, hr => by
  rw [Dv]
  by_cases h0 : v = 0
  ·subst h0
   have : (((0 : Nat) : Int) != 0) = false := rfl
   rw [this, Ay]
   congr 1
  ·have h1 : ((v : Int) != 0) = true := bne_iff_ne.2 (by omega)
   obtain ⟨l1, l2, l3, l4, l5, l6⟩ := S3 ⟨v, hv⟩ h0
   simp only at l1 l2 l3 l4 l5 l6
   obtain ⟨row, e1, e2⟩ := hr _ l1 l2
   rw [h1, AV, V9 N hv]
   simp only [Option.bind_some, e1, e2]
   obtain ⟨w, hw⟩ := Int.eq_ofNat_of_zero_le l3
   rw [hw] at l4 l5 l6 ⊢
   rw [Int.toNat_natCast] at l5
   cases hq : rw_ (T4 v)
   ·rw [Bool.not_false, AV]
    congr 1
    symm
    rw [List.all_eq_false]
    exact ⟨T4 v, by simpa using l1, by rw [l2, hq]; simp⟩
   ·rw [Bool.not_true, Ay]
    match k, hk with
    | 0, hk => exfalso; omega
    | k + 1, hk =>
    rw [Py N t b rw_ k n w (by omega) (by omega) (by omega) (fun u hu hb => hr u hu (by have := l6 ⟨u, hu⟩; simp only at this; rw [hb] at this; simpa using (Bool.and_eq_true_iff.1 this.symm).1))]
    congr 1
    rw [Bool.eq_iff_iff, List.all_eq_true, List.all_eq_true]
    refine ⟨fun h u hu => ?_, fun h u hu => ?_⟩
    ·have hu8 : u < 8 := by simpa using hu
     have h3 := h u hu
     have h4 := l6 ⟨u, hu8⟩
     simp only at h4
     rw [h4] at h3
     by_cases e : u = T4 v
     ·rw [e, hq]; simp
     ·simpa [e] using h3
    ·have hu8 : u < 8 := by simpa using hu
     have h3 := h u hu
     have h4 := l6 ⟨u, hu8⟩
     simp only at h4
     rw [h4]
     cases hb : DK (v : Int) u
     ·simp
     ·rw [hb] at h3; simp at h3; simp [h3]
end Go.Lift

/- Steps: both implementations give one answer. -/
namespace Go.Lift
open Go
theorem Pc (N : Nat) (m : Ae) (s : Int) (h0 : 0 ≤ s) (h1 : s < (m.fBase.length : Int)) (h2 : s < (m.fNext.length : Int)) (hb : 0 ≤ m.fBase.getD s.toNat 0) : Fx N m s = some (Gu m s.toNat) := by
 unfold Fx Gu
 rw [EG (d := 0) h0 h1, EG (d := 0) h0 h2]
 simp only [Option.bind_some, Ba]
 rw [show Ef (0 ≤ m.fBase.getD s.toNat 0) = some () from by unfold Ef; rw [if_pos hb]]
 simp only [Option.bind_some]
 by_cases h : 0 ≤ m.fNext.getD s.toNat 0
 ·rw [AU h, if_pos h, show Ef (0 ≤ m.fNext.getD s.toNat 0) = some () from by unfold Ef; rw [if_pos h]]; rfl
 ·rw [AQ h, if_neg h]
theorem JH (N : Nat) (t : AF) : Fe N t = some (Cd t) := by
 unfold Fe Cd
 simp only [Ba]
 cases h : t.fKind == 3 <;> simp
def GQ (s : Ak) : Bool := decide (1 ≤ s.fKind ∧ s.fKind ≤ 4 ∧ 0 ≤ s.fIndex ∧ 0 ≤ s.fVersion) && (s.fKind == 1 || s.fVersion == 0)
def FP (p : Ag) (s : Ak) : Bool :=
 if s.fKind = 3 then decide (s.fIndex < (p.fTables.length : Int)) else decide (s.fIndex < (p.fVersions.length : Int)) && (s.fKind != 1 || decide (s.fVersion < p.fVersions.getD s.fIndex.toNat 0))
theorem Nn (N : Nat) (s : Ak) : Gq N s = some (GQ s) := by
 unfold Gq GQ Rw
 simp only [Ba]
 by_cases h1 : (if s.fVersion < s.fIndex then s.fVersion else s.fIndex) < 0
 ·rw [AU h1, AV, decide_eq_false (by split at h1 <;> omega)]; rfl
 ·rw [AQ h1]
  by_cases h2 : s.fKind < 1
  ·rw [AU h2, AV, decide_eq_false (by omega)]; rfl
  ·rw [AQ h2]
   by_cases h3 : 4 < s.fKind
   ·rw [decide_eq_true h3, AV, decide_eq_false (by omega)]; rfl
   ·rw [decide_eq_false h3, Ay, decide_eq_true (by split at h1 <;> omega), Bool.true_and]
    cases h4 : s.fKind == 1 <;> simp
theorem OA (N : Nat) (s : Ak) : Er N s = some (GQ s) := by
 unfold Er GQ
 simp only [Ba]
 by_cases h1 : 1 ≤ s.fKind
 ·rw [AU h1]
  by_cases h2 : s.fKind ≤ 4
  ·rw [AU h2]
   by_cases h3 : 0 ≤ s.fIndex
   ·rw [AU h3]
    by_cases h4 : 0 ≤ s.fVersion
    ·rw [AU h4, decide_eq_true (by omega), Bool.true_and]
     cases h5 : s.fKind == 1 <;> simp
    ·rw [AQ h4, decide_eq_false (by omega)]; rfl
   ·rw [AQ h3, decide_eq_false (by omega)]; rfl
  ·rw [AQ h2, decide_eq_false (by omega)]; rfl
 ·rw [AQ h1, decide_eq_false (by omega)]; rfl
theorem Mn (N : Nat) (p : Ag) (s : Ak) (hv : GQ s = true) : F1 N p s = some (FP p s) := by
 have h0 : 0 ≤ s.fIndex := by
  unfold GQ at hv
  rw [Bool.and_eq_true, decide_eq_true_iff] at hv
  exact hv.1.2.2.1
 unfold F1 FP
 simp only [Ba]
 by_cases h1 : s.fKind = 3
 ·rw [if_pos h1, beq_iff_eq.2 h1, AV]
 ·rw [if_neg h1, beq_eq_false_iff_ne.2 h1, Ay]
  by_cases h2 : s.fIndex < (p.fVersions.length : Int)
  ·rw [AU h2, decide_eq_true h2, Bool.true_and]
   cases h3 : s.fKind != 1
   ·rw [Ay, EG (d := 0) h0 h2, Bool.false_or]; rfl
   ·rw [AV]; rfl
  ·rw [AQ h2, decide_eq_false h2]; rfl
def QJ (s : Ak) (t : AF) : Bool := t.fFrom == s.fIndex && Cd t
def Rh (s : Ak) (i : Nat) (t : AF) (a : List Int) : List Int := if QJ s t = true then a.set i (Nf .u8 (a.getD i 0) (CJ .u8 1 s.fVersion)) else a
def Ig (p : Ag) (s : Ak) (held : List Int) : List Int := HR (Rh s) 0 p.fTables held
theorem L8 {R : Type} (N : Nat) (p : Ag) (s : Ak) (held : List Int) (hv : 0 ≤ s.fVersion) (hl : held.length = p.fTables.length) (h12 : p.fTables.length < N) (hN : N ≤ 1000000) (j : List Int → Option (Bool × List Int × List Int)) :
  DL N p s j N (held, 0) = j (Ig p s held) ∧ (Ig p s held).length = p.fTables.length := by
 have := H4 (DL N p s j) (fun a i => (a, i)) p.fTables j (Rh s) (fun i a => a.length = p.fTables.length)
  (fun n i x a hx ha => by
   have hi := (List.getElem?_eq_some_iff.1 hx).1
   rw [DL, AU (by simp only; omega)]
   simp only [Bl, Bw, hx, Option.bind_some, JH, AT (show i < 1000000 by omega)]
   have e2 : a[i]? = some (a.getD i 0) := by rw [List.getD_eq_getElem?_getD]; simp [show i < a.length from by omega]
   unfold Rh QJ
   cases h1 : x.fFrom == s.fIndex
   ·rw [Ay, Ay, Bool.false_and, if_neg (by simp)]; exact ⟨rfl, ha⟩
   ·rw [AV, Bool.true_and]
    cases h2 : Cd x
    ·rw [Ay, if_neg (by simp)]; exact ⟨rfl, ha⟩
    ·rw [AV, e2, if_pos rfl]
     simp only [Option.bind_some]
     rw [AA hv]
     exact ⟨rfl, by simpa using ha⟩)
  (fun n a ha => by rw [DL, AQ (by simp)]) N 0 held (Nat.zero_le _) (by omega) hl
 rw [List.drop_zero] at this
 exact this
theorem MK (N : Nat) (p : Ag) (s : Ak) (held : List Int) (hv : 0 ≤ s.fVersion) (hl : held.length = p.fTables.length) (h12 : p.fTables.length < N) (hN : N ≤ 1000000) (j : List Int → Option (Ae × Bool)) :
  BX N p s j N (held, 0) = j (Ig p s held) := by
 have := H4 (BX N p s j) (fun a i => (a, i)) p.fTables j (Rh s) (fun i a => a.length = p.fTables.length)
  (fun n i x a hx ha => by
   have hi := (List.getElem?_eq_some_iff.1 hx).1
   rw [BX, AU (by simp only; omega)]
   simp only [Bl, Bw, hx, Option.bind_some, Gt, AT (show i < 1000000 by omega)]
   have e2 : a[i]? = some (a.getD i 0) := by rw [List.getD_eq_getElem?_getD]; simp [show i < a.length from by omega]
   unfold Rh QJ
   cases h1 : x.fFrom == s.fIndex
   ·rw [Ay, Ay, Bool.false_and, if_neg (by simp)]; exact ⟨rfl, ha⟩
   ·rw [AV, Bool.true_and]
    cases h2 : Cd x
    ·rw [Ay, if_neg (by simp)]; exact ⟨rfl, ha⟩
    ·rw [AV, e2, if_pos rfl]
     simp only [Option.bind_some]
     rw [AA hv]
     exact ⟨rfl, by simpa using ha⟩)
  (fun n a ha => by rw [BX, AQ (by simp)]) N 0 held (Nat.zero_le _) (by omega) hl
 rw [List.drop_zero] at this
 exact this.1
def Kc (m : Ae) (t : AF) (u : Nat) : Bool := (t.fRewrite.getD u []).getD (m.fBase.getD t.fFrom.toNat 0).toNat false
def MD (m : Ae) (i : Nat) (t : AF) (u : Nat) : Bool := DK (m.fHeld.getD i 0) u && !HW m t.fFrom.toNat u
def HJ (p : Ag) (m : Ae) (i : Nat) (t : AF) : Bool := t.fKind == 4 && (List.range 8).any fun u => MD m i t u && !Kc m t u
def FJ (p : Ag) (m : Ae) (s : Ak) : Option Ae :=
 let i := s.fIndex.toNat
 if s.fKind = 1 then (if 0 ≤ m.fNext.getD i 0 ∨ m.fBase.getD i 0 = s.fVersion then none else some ⟨m.fBase, m.fNext.set i s.fVersion, Ig p s m.fHeld⟩)
 else if s.fKind = 3 then match p.fTables[i]? with
  | none => none
  | some t => if Cd t = false ∨ m.fHeld.getD i 0 = Gu m t.fFrom.toNat ∨ HJ p m i t = true then none else some ⟨m.fBase, m.fNext, m.fHeld.set i (Gu m t.fFrom.toNat)⟩
 else if m.fNext.getD i 0 < 0 then none
 else some ⟨if s.fKind = 2 then m.fBase.set i (m.fNext.getD i 0) else m.fBase, m.fNext.set i (-1), m.fHeld⟩
def CF (p : Ag) (m : Ae) (s : Ak) : Ae × Int :=
 if GQ s = false then (Ha, 1) else if FP p s = false then (Ha, 4) else match FJ p m s with
  | none => (Ha, 11)
  | some x => (x, 0)
end Go.Lift

/- Steps: clearing, and the whole of Apply. -/
namespace Go.Lift
open Go
section clear
variable {p : Ag} {m : Ae} {i : Nat} {t : AF}
theorem R3 (hp : Cc p) (hm : Dn p m) (ht : p.fTables[i]? = some t) (hs : Cd t = true) {u : Nat} (h : DK (m.fHeld.getD i 0) u = true) : (u : Int) < p.fVersions.getD t.fFrom.toNat 0 ∧ u < 6 ∧ t.fFrom.toNat < p.fVersions.length := by
 have h1 := hm.high i t ht hs u h
 have hin := In (hp.tab t (List.mem_of_getElem? ht))
 have h2 := IF hp (i := t.fFrom.toNat) (by omega)
 exact ⟨h1, by omega, by omega⟩
theorem Rv (hp : Cc p) (hm : Dn p m) (ht : p.fTables[i]? = some t) (hs : Cd t = true) (h4 : t.fKind = 4) {u : Nat} (h : DK (m.fHeld.getD i 0) u = true) :
  A9 t.fRewrite (u : Int) = some (t.fRewrite.getD u []) ∧ A9 (t.fRewrite.getD u []) (m.fBase.getD t.fFrom.toNat 0) = some (Kc m t u) := by
 have hT := Lj (hp.tab t (List.mem_of_getElem? ht))
 obtain ⟨h1, h2, h3⟩ := R3 hp hm ht hs h
 have hl := hT.reL h4
 have e : t.fRewrite[u]? = some (t.fRewrite.getD u []) := by rw [List.getD_eq_getElem?_getD]; simp [show u < t.fRewrite.length from by omega]
 have hr := hT.reR _ (List.mem_of_getElem? e)
 have hb := hm.b0 t.fFrom.toNat h3
 refine ⟨by rw [Bw, e], ?_⟩
 unfold Kc
 obtain ⟨b, hb'⟩ := Int.eq_ofNat_of_zero_le hb.1
 rw [hb'] at hb ⊢
 rw [Int.toNat_natCast]
 exact Dj (by omega)
theorem Nq (N : Nat) (hN : N ≤ 1000000) (h20 : 100 ≤ N) (hp : Cc p) (hm : Dn p m) (ht : p.fTables[i]? = some t) :
  Gn N p m (i : Int) = some (if Cd t = false ∨ m.fHeld.getD i 0 = Gu m t.fFrom.toNat ∨ HJ p m i t = true then (false, m.fHeld) else (true, m.fHeld.set i (Gu m t.fFrom.toNat))) := by
 have hi := (List.getElem?_eq_some_iff.1 ht).1
 have hin := In (hp.tab t (List.mem_of_getElem? ht))
 have hb := hm.base
 have hnx := hm.next
 have hh := hm.held
 have hr := HH hp hm.toMixServ (s := t.fFrom.toNat) (by omega)
 have hrg := hm.range i hi
 have eh : A9 m.fHeld (i : Int) = some (m.fHeld.getD i 0) := Dj (by omega)
 unfold Gn
 simp only [Bl, Bw, ht, Option.bind_some, JH]
 have eh' : m.fHeld[i]? = some (m.fHeld.getD i 0) := by rw [← Bw, eh]
 cases hs : Cd t
 ·rw [Bool.not_false, AV, if_pos (.inl rfl)]
 ·rw [Bool.not_true, Ay, Pc N m _ hin.1 (by omega) (by omega) (hm.b0 _ (by omega)).1]
  simp only [Option.bind_some, eh']
  by_cases h1 : m.fHeld.getD i 0 = Gu m t.fFrom.toNat
  ·rw [beq_iff_eq.2 h1, AV, AV, if_pos (.inr (.inl h1))]
  ·rw [beq_eq_false_iff_ne.2 h1, Ay]
   by_cases h4 : t.fKind = 4
   ·rw [beq_iff_eq.2 h4, AV, EG (d := 0) hin.1 (by omega)]
    simp only [Option.bind_some]
    obtain ⟨a1, a2, a3⟩ := PX hrg hr.2
    obtain ⟨w, hw⟩ := Int.eq_ofNat_of_zero_le a2
    unfold Fq
    rw [hw] at a1 a3 ⊢
    rw [Py N t _ (Kc m t) 8 N w (U3 _) (by omega) (by omega) (fun u hu hbu => by
     have := a1 u; rw [hbu] at this
     exact ⟨_, Rv hp hm ht hs h4 (Bool.and_eq_true_iff.1 this.symm).1⟩)]
    simp only [Option.bind_some]
    have e : (!(List.range 8).all fun u => !DK (w : Int) u || Kc m t u) = HJ p m i t := by
     unfold HJ
     rw [beq_iff_eq.2 h4, Bool.true_and, List.not_all_eq_any_not]
     congr 1
     funext u
     rw [a1 u, hr.1 u]
     unfold MD
     cases DK (m.fHeld.getD i 0) u <;> cases HW m t.fFrom.toNat u <;> cases Kc m t u <;> rfl
    rw [e]
    cases hst : HJ p m i t
    ·rw [Ay, if_neg (by rintro (h | h | h); cases h; exact h1 h; cases h)]; rfl
    ·rw [AV, if_pos (.inr (.inr rfl))]
   ·have e : HJ p m i t = false := by unfold HJ; rw [beq_eq_false_iff_ne.2 h4]; rfl
    rw [beq_eq_false_iff_ne.2 h4, Ay, Ay, e, if_neg (by rintro (h | h | h); cases h; exact h1 h; cases h)]; rfl
theorem Mu (N : Nat) (hN : N ≤ 1000000) (h20 : 100 ≤ N) (hp : Cc p) (hm : Dn p m) (ht : p.fTables[i]? = some t) (hs : Cd t = true) (s : Ak) (hsi : s.fIndex = (i : Int)) (j : Option (Ae × Bool)) :
  BD N p m s t (Gu m t.fFrom.toNat) (fun _ => j) N 0 = if HJ p m i t = true then some (Ha, false) else j := by
 have hi := (List.getElem?_eq_some_iff.1 ht).1
 have hin := In (hp.tab t (List.mem_of_getElem? ht))
 have hb := hm.base
 have hh := hm.held
 have hr := HH hp hm.toMixServ (s := t.fFrom.toNat) (by omega)
 have hrg := hm.range i hi
 have hver := IF hp (i := t.fFrom.toNat) (by omega)
 obtain ⟨nv, hnv⟩ := Int.eq_ofNat_of_zero_le (show 0 ≤ p.fVersions.getD t.fFrom.toNat 0 by omega)
 have eh' : m.fHeld[i]? = some (m.fHeld.getD i 0) := by rw [List.getD_eq_getElem?_getD]; simp [show i < m.fHeld.length from by omega]
 have := Dt (BD N p m s t (Gu m t.fFrom.toNat) fun _ => j) (List.range nv) j (fun u _ => if (MD m i t u && (t.fKind == 4 && !Kc m t u)) = true then some (Ha, false) else none)
  (fun n u x hx => by
   have hu : u < nv := by
    have := (List.getElem?_eq_some_iff.1 hx).1
    simpa using this
   rw [BD, EG (d := 0) hin.1 (by omega), hnv]
   simp only [Option.bind_some]
   rw [AU (by omega)]
   simp only [Bl, hsi, Bw, eh', Option.bind_some]
   rw [Sa N hrg (by omega), AT (by omega)]
   simp only [Option.bind_some]
   cases h1 : DK (m.fHeld.getD i 0) u
   ·have e : MD m i t u = false := by unfold MD; rw [h1]; rfl
    rw [Ay, Ay, Ay, e]; rfl
   ·rw [AV, Sa N hr.2 (by omega), hr.1 u]
    simp only [Option.bind_some]
    have e : MD m i t u = !HW m t.fFrom.toNat u := by unfold MD; rw [h1]; rfl
    rw [← e]
    cases h2 : MD m i t u
    ·rw [Ay, Ay]; rfl
    ·rw [AV]
     by_cases h4 : t.fKind = 4
     ·obtain ⟨e1, e2⟩ := Rv hp hm ht hs h4 h1
      rw [Bw] at e1
      rw [beq_iff_eq.2 h4, AV, e1, EG (d := 0) hin.1 (by omega)]
      simp only [Option.bind_some]
      rw [e2]
      simp only [Option.bind_some]
      cases Kc m t u <;> rfl
     ·rw [beq_eq_false_iff_ne.2 h4, Ay, Ay]; rfl)
  (fun n => by
   rw [BD, EG (d := 0) hin.1 (by omega), hnv]
   simp only [Option.bind_some, List.length_range]
   rw [AQ (by omega)]) N 0 (Nat.zero_le _) (by simp; omega)
 have e0 : BD N p m s t (Gu m t.fFrom.toNat) (fun _ => j) N 0 = _ := this
 rw [e0, List.drop_zero]
 by_cases hst : HJ p m i t = true
 ·rw [if_pos hst]
  unfold HJ at hst
  rw [Bool.and_eq_true, List.any_eq_true] at hst
  obtain ⟨h4, u, hu, h5⟩ := hst
  rw [Bool.and_eq_true] at h5
  have h6 : DK (m.fHeld.getD i 0) u = true := by have := h5.1; unfold MD at this; exact (Bool.and_eq_true_iff.1 this).1
  have h7 := R3 hp hm ht hs h6
  cases hsc : DY (fun u (_ : Nat) => if (MD m i t u && (t.fKind == 4 && !Kc m t u)) = true then some (Ha, false) else none) 0 (List.range nv) with
  | some r =>
   obtain ⟨q, x, hx, hf⟩ := FC hsc
   split at hf
   ·cases hf; rfl
   ·cases hf
  | none =>
   exfalso
   have hx : (List.range nv)[u]? = some u := List.getElem?_range (by omega)
   have := GS hsc u u hx
   rw [Nat.zero_add, h5.1, h4, h5.2] at this
   cases this
 ·rw [if_neg hst]
  have : DY (fun u (_ : Nat) => if (MD m i t u && (t.fKind == 4 && !Kc m t u)) = true then some (Ha, false) else none) 0 (List.range nv) = none := E1 fun q x hx => by
   rw [Nat.zero_add]
   split
   ·rename_i h5
    exfalso; apply hst
    rw [Bool.and_eq_true, Bool.and_eq_true] at h5
    unfold HJ
    rw [h5.2.1, Bool.true_and, List.any_eq_true]
    have hq : q < nv := by
     have := (List.getElem?_eq_some_iff.1 hx).1
     simpa using this
    exact ⟨q, List.mem_range.2 (by omega), by rw [h5.1, h5.2.2]; rfl⟩
   ·rfl
  rw [this]; rfl
end clear
end Go.Lift

/- Apply: both implementations give applyP; a step leads from a valid mix to a valid mix. -/
namespace Go.Lift
open Go
theorem IR {s : Ak} (h : GQ s = true) : 1 ≤ s.fKind ∧ s.fKind ≤ 4 ∧ 0 ≤ s.fIndex ∧ 0 ≤ s.fVersion ∧ (s.fKind ≠ 1 → s.fVersion = 0) := by
 unfold GQ at h
 rw [Bool.and_eq_true, decide_eq_true_iff, Bool.or_eq_true, beq_iff_eq, beq_iff_eq] at h
 exact ⟨h.1.1, h.1.2.1, h.1.2.2.1, h.1.2.2.2, fun hk => h.2.elim (fun e => (hk e).elim) id⟩
theorem J1 {p : Ag} {s : Ak} (h : FP p s = true) : (s.fKind = 3 → s.fIndex < (p.fTables.length : Int)) ∧ (s.fKind ≠ 3 → s.fIndex < (p.fVersions.length : Int)) ∧ (s.fKind = 1 → s.fVersion < p.fVersions.getD s.fIndex.toNat 0) := by
 unfold FP at h
 split at h
 ·rename_i hk
  rw [decide_eq_true_iff] at h
  exact ⟨fun _ => h, fun hn => (hn hk).elim, fun h1 => by omega⟩
 ·rename_i hk
  rw [Bool.and_eq_true, decide_eq_true_iff, Bool.or_eq_true, decide_eq_true_iff, bne_iff_ne] at h
  exact ⟨fun h3 => (hk h3).elim, fun _ => h.1, fun h1 => h.2.elim (fun hn => (hn h1).elim) id⟩
theorem NQ (N : Nat) {p : Ag} {m : Ae} (hp : Cc p) (hm : Dn p m) : Fd N m = some m := by
 have hnv := hp.nv
 have hnt := hp.nt
 have h1 := hm.base
 have h2 := hm.next
 have h3 := hm.held
 unfold Fd
 rw [I1 N _ (by simp only [D3]; omega), I1 N _ (by simp only [D3]; omega), NT N _ (by simp only [D3]; omega)]
 rfl
theorem Kd (N : Nat) (hN : N ≤ 1000000) (h20 : 100 ≤ N) {p : Ag} {m : Ae} (hp : Cc p) (hm : Dn p m) {s : Ak} (hv : GQ s = true) (hx : FP p s = true) :
  ∃ o, E4 N p m s = some (o, (FJ p m s).isSome) ∧ ∀ x, FJ p m s = some x → o = x := by
 obtain ⟨k1, k4, i0, v0, vk⟩ := IR hv
 obtain ⟨x3, xn, x1⟩ := J1 hx
 have hnv := hp.nv
 have hnt := hp.nt
 have hb := hm.base
 have hn := hm.next
 have hh := hm.held
 obtain ⟨i, hi⟩ := Int.eq_ofNat_of_zero_le i0
 unfold E4 FJ
 rw [NQ N hp hm]
 simp only [Option.bind_some, Bl]
 by_cases hk1 : s.fKind = 1
 ·have hi1 : (i : Int) < p.fVersions.length := by have := xn (by omega); omega
  rw [beq_iff_eq.2 hk1, AV, if_pos hk1]
  unfold Hv
  simp only [Bl, hi, Int.toNat_natCast]
  rw [Dj (d := 0) (show i < m.fNext.length by omega)]
  simp only [Option.bind_some]
  by_cases c1 : 0 ≤ m.fNext.getD i 0
  ·rw [AU c1, AV, if_pos (.inl c1)]
   exact ⟨_, rfl, fun x hx => by cases hx⟩
  ·rw [AQ c1, Dj (d := 0) (show i < m.fBase.length by omega)]
   simp only [Option.bind_some]
   by_cases c2 : m.fBase.getD i 0 = s.fVersion
   ·rw [beq_iff_eq.2 c2, AV, if_pos (.inr c2)]
    exact ⟨_, rfl, fun x hx => by cases hx⟩
   ·rw [beq_eq_false_iff_ne.2 c2, Ay, (L8 (R := Unit) N p s m.fHeld v0 hh (by omega) hN _).1, if_neg (by rintro (h | h); exact c1 h; exact c2 h)]
    exact ⟨_, rfl, fun x hx => by cases hx; rfl⟩
 ·rw [beq_eq_false_iff_ne.2 hk1, Ay, if_neg hk1]
  by_cases hk3 : s.fKind = 3
  ·have hi3 : i < p.fTables.length := by have := x3 hk3; omega
   have ht : p.fTables[i]? = some p.fTables[i] := by simp [hi3]
   rw [beq_iff_eq.2 hk3, AV, if_pos hk3, hi, Nq N hN h20 hp hm ht]
   simp only [Option.bind_some, Int.toNat_natCast, ht]
   split
   ·exact ⟨_, rfl, fun x hx => by cases hx⟩
   ·exact ⟨_, rfl, fun x hx => by cases hx; rfl⟩
  ·have hi1 : (i : Int) < p.fVersions.length := by have := xn hk3; omega
   rw [beq_eq_false_iff_ne.2 hk3, Ay, if_neg hk3, hi, Dj (d := 0) (show i < m.fNext.length by omega)]
   simp only [Option.bind_some, Int.toNat_natCast]
   by_cases c1 : m.fNext.getD i 0 < 0
   ·rw [AU c1, if_pos c1]
    exact ⟨_, rfl, fun x hx => by cases hx⟩
   ·rw [AQ c1, if_neg c1]
    by_cases hk2 : s.fKind = 2
    ·rw [beq_iff_eq.2 hk2, AV, Dj (d := 0) (show i < m.fBase.length by omega), if_pos hk2]
     exact ⟨_, rfl, fun x hx => by cases hx; rfl⟩
    ·rw [beq_eq_false_iff_ne.2 hk2, Ay, if_neg hk2]
     exact ⟨_, rfl, fun x hx => by cases hx; rfl⟩
theorem Kb (N : Nat) (hN : N ≤ 1000000) (h20 : 100 ≤ N) {p : Ag} {m : Ae} (hp : Cc p) (hm : Dn p m) (s : Ak) : FD N p m s = some (CF p m s) := by
 unfold FD CF
 rw [Nn]
 simp only [Option.bind_some]
 cases hv : GQ s
 ·rw [Bool.not_false, AV, if_pos rfl]; rfl
 ·rw [Bool.not_true, Ay, if_neg (by simp), Mn N p s hv]
  simp only [Option.bind_some]
  cases hx : FP p s
  ·rw [Bool.not_false, AV, if_pos rfl]; rfl
  ·rw [Bool.not_true, Ay, if_neg (by simp)]
   obtain ⟨o, e, ho⟩ := Kd N hN h20 hp hm hv hx
   rw [e]
   simp only [Option.bind_some]
   cases ha : FJ p m s with
   | none => rfl
   | some x => rw [ho x ha]; rfl
theorem Lg (N : Nat) (hN : N ≤ 1000000) (h20 : 100 ≤ N) {p : Ag} {m : Ae} (hp : Cc p) (hm : Dn p m) {s : Ak} (hv : GQ s = true) (hx : FP p s = true) :
  Ci N p m s = some (match FJ p m s with | none => (Ha, false) | some x => (x, true)) := by
 obtain ⟨k1, k4, i0, v0, vk⟩ := IR hv
 obtain ⟨x3, xn, x1⟩ := J1 hx
 have hnv := hp.nv
 have hnt := hp.nt
 have hb := hm.base
 have hn := hm.next
 have hh := hm.held
 obtain ⟨i, hi⟩ := Int.eq_ofNat_of_zero_le i0
 unfold Ci FJ
 rw [AA (by simp [D3]; omega), AA (by simp [D3]; omega), AA (by simp [D3]; omega)]
 simp only [Option.bind_some, Bl, List.nil_append]
 by_cases hk1 : s.fKind = 1
 ·have hi1 : (i : Int) < p.fVersions.length := by have := xn (by omega); omega
  rw [beq_iff_eq.2 hk1, AV, if_pos hk1]
  simp only [hi, Int.toNat_natCast]
  rw [Dj (d := 0) (show i < m.fNext.length by omega)]
  simp only [Option.bind_some]
  by_cases c1 : 0 ≤ m.fNext.getD i 0
  ·rw [AU c1, AV, if_pos (.inl c1)]; rfl
  ·rw [AQ c1, Dj (d := 0) (show i < m.fBase.length by omega)]
   simp only [Option.bind_some]
   by_cases c2 : m.fBase.getD i 0 = s.fVersion
   ·rw [beq_iff_eq.2 c2.symm, AV, if_pos (.inr c2)]; rfl
   ·rw [beq_eq_false_iff_ne.2 (fun h => c2 h.symm), Ay, MK N p s m.fHeld v0 hh (by omega) hN _, if_neg (by rintro (h | h); exact c1 h; exact c2 h)]
 ·rw [beq_eq_false_iff_ne.2 hk1, Ay, if_neg hk1]
  by_cases hk3 : s.fKind = 3
  ·have hi3 : i < p.fTables.length := by have := x3 hk3; omega
   have ht : p.fTables[i]? = some p.fTables[i] := by simp [hi3]
   have hin := In (hp.tab _ (List.mem_of_getElem? ht))
   have eh' : A9 m.fHeld (i : Int) = some (m.fHeld.getD i 0) := Dj (by omega)
   rw [beq_eq_false_iff_ne.2 (show s.fKind ≠ 2 by omega), Ay, beq_iff_eq.2 hk3, AV, if_pos hk3, hi, Bw, ht]
   simp only [Option.bind_some, Gt, Int.toNat_natCast, ht]
   cases hs : Cd p.fTables[i]
   ·rw [Bool.not_false, AV, if_pos (.inl rfl)]; rfl
   ·rw [Bool.not_true, Ay, Jh N m _ hin.1 (by omega) (by omega) (hm.b0 _ (by omega)).1, eh']
    simp only [Option.bind_some]
    by_cases h1 : m.fHeld.getD i 0 = Gu m (p.fTables[i]).fFrom.toNat
    ·rw [beq_iff_eq.2 h1, AV, if_pos (.inr (.inl h1))]; rfl
    ·rw [beq_eq_false_iff_ne.2 h1, Ay]
     rw [Mu N hN h20 hp hm ht hs s hi]
     cases hst : HJ p m i p.fTables[i]
     ·rw [if_neg (by simp), if_neg (by rintro (h | h | h); cases h; exact h1 h; cases h)]
     ·rw [if_pos rfl, if_pos (.inr (.inr rfl))]
  ·have hi1 : (i : Int) < p.fVersions.length := by have := xn hk3; omega
   rw [if_neg hk3, hi, Dj (d := 0) (show i < m.fNext.length by omega)]
   simp only [Option.bind_some, Int.toNat_natCast]
   by_cases hk2 : s.fKind = 2
   ·rw [beq_iff_eq.2 hk2, AV, if_pos hk2]
    by_cases c1 : m.fNext.getD i 0 < 0
    ·rw [AU c1, if_pos c1]; rfl
    ·rw [AQ c1, if_neg c1, Dj (d := 0) (show i < m.fBase.length by omega)]; rfl
   ·rw [beq_eq_false_iff_ne.2 hk2, Ay, beq_eq_false_iff_ne.2 hk3, Ay, if_neg hk2]
    by_cases c1 : m.fNext.getD i 0 < 0
    ·rw [AU c1, if_pos c1]; rfl
    ·rw [AQ c1, if_neg c1]
end Go.Lift

/- A step leads from a valid mix to a valid mix; Apply of both implementations. -/
namespace Go.Lift
open Go
theorem O7 (s : Ak) : ∀ (xs : List AF) (i : Nat) (a : List Int), i + xs.length ≤ a.length → (HR (Rh s) i xs a).length = a.length ∧ ∀ q, (HR (Rh s) i xs a).getD q 0 = match (if i ≤ q then xs[q - i]? else none) with
  | some t => if QJ s t = true then Nf .u8 (a.getD q 0) (CJ .u8 1 s.fVersion) else a.getD q 0
  | none => a.getD q 0
 | [], i, a, _ => by
  refine ⟨rfl, fun q => ?_⟩
  split
  ·rename_i h; split at h
   ·simp at h
   ·cases h
  ·rfl
 | x :: xs, i, a, hl => by
  have hl' : i + (xs.length + 1) ≤ a.length := by simpa using hl
  have ha : (Rh s i x a).length = a.length := by unfold Rh; split <;> simp
  obtain ⟨ih1, ih2⟩ := O7 s xs (i + 1) (Rh s i x a) (by omega)
  refine ⟨by rw [HR, ih1, ha], fun q => ?_⟩
  rw [HR, ih2 q]
  have hu : (Rh s i x a).getD q 0 = if q = i ∧ QJ s x = true then Nf .u8 (a.getD q 0) (CJ .u8 1 s.fVersion) else a.getD q 0 := by
   unfold Rh
   by_cases hc : QJ s x = true
   ·rw [if_pos hc, Ic (by omega)]
    by_cases hq : q = i
    ·subst hq; rw [if_pos rfl, if_pos ⟨rfl, hc⟩]
    ·rw [if_neg hq, if_neg (fun h => hq h.1)]
   ·rw [if_neg hc, if_neg (fun h => hc h.2)]
  by_cases h1 : i + 1 ≤ q
  ·rw [if_pos h1, if_pos (show i ≤ q by omega), hu, if_neg (by omega)]
   rw [show (x :: xs)[q - i]? = xs[q - (i + 1)]? from by rw [show q - i = (q - (i + 1)) + 1 from by omega, List.getElem?_cons_succ]]
  ·rw [if_neg h1]
   by_cases h2 : q = i
   ·subst h2
    rw [if_pos (Nat.le_refl _), Nat.sub_self, hu]
    simp
   ·rw [if_neg (show ¬ i ≤ q by omega), hu, if_neg (by omega)]
theorem Re {p : Ag} {s : Ak} {held : List Int} (hl : held.length = p.fTables.length) : (Ig p s held).length = p.fTables.length ∧ ∀ q t, p.fTables[q]? = some t → (Ig p s held).getD q 0 = if QJ s t = true then Nf .u8 (held.getD q 0) (CJ .u8 1 s.fVersion) else held.getD q 0 := by
 obtain ⟨h1, h2⟩ := O7 s p.fTables 0 held (by omega)
 refine ⟨h1.trans hl, fun q t ht => ?_⟩
 have := h2 q
 rw [if_pos (Nat.zero_le _), Nat.sub_zero, ht] at this
 exact this
theorem MX {m : Ae} {s v : Nat} : HW m s v = true ↔ m.fBase.getD s 0 = (v : Int) ∨ m.fNext.getD s 0 = (v : Int) := by
 unfold HW; rw [Bool.or_eq_true, decide_eq_true_iff, decide_eq_true_iff]
theorem RL {p : Ag} {m x : Ae} (hp : Cc p) (hm : Dn p m) {s : Ak} (hv : GQ s = true) (hx : FP p s = true) (h : FJ p m s = some x) : Dn p x := by
 obtain ⟨k1, k4, i0, v0, vk⟩ := IR hv
 obtain ⟨x3, xn, x1⟩ := J1 hx
 obtain ⟨i, hi⟩ := Int.eq_ofNat_of_zero_le i0
 have hb := hm.base
 have hn := hm.next
 have hh := hm.held
 unfold FJ at h
 simp only [hi, Int.toNat_natCast] at h
 rw [hi, Int.toNat_natCast] at x1
 split at h
 ·rename_i hk1
  have hi1 : i < p.fVersions.length := by have := xn (by omega); omega
  have hx1 := x1 hk1
  have hvi := IF hp hi1
  split at h
  ·cases h
  rename_i hc
  cases h
  obtain ⟨u1, u2⟩ := Re (s := s) hh
  obtain ⟨b, hbv⟩ := Int.eq_ofNat_of_zero_le v0
  have hob := Tm (b := b) (by omega)
  have hN : ∀ q, (m.fNext.set i s.fVersion).getD q 0 = if q = i then s.fVersion else m.fNext.getD q 0 := fun q => Ic (by omega)
  refine { base := hb, next := by simpa using hn, held := u1, b0 := hm.b0, n0 := fun q hq => ?_, ne := fun q hq => ?_, range := fun q hq => ?_, low := fun q t ht hs v hr => ?_, high := fun q t ht hs v hbit => ?_, none := fun q t ht hs => ?_ }
  ·show -1 ≤ (m.fNext.set i s.fVersion).getD q 0 ∧ (m.fNext.set i s.fVersion).getD q 0 < _
   rw [hN q]
   split
   ·rename_i e; subst e; omega
   ·exact hm.n0 q hq
  ·show m.fBase.getD q 0 ≠ (m.fNext.set i s.fVersion).getD q 0
   rw [hN q]
   split
   ·rename_i e; subst e; exact fun h => hc (.inr h)
   ·exact hm.ne q hq
  ·have ht : p.fTables[q]? = some p.fTables[q] := by simp [hq]
   show 0 ≤ (Ig p s m.fHeld).getD q 0 ∧ (Ig p s m.fHeld).getD q 0 ≤ 255
   rw [u2 q _ ht, hbv]
   split
   ·exact (Qb (hm.range q hq) hob.2).2
   ·exact hm.range q hq
  ·have hq := (List.getElem?_eq_some_iff.1 ht).1
   show DK ((Ig p s m.fHeld).getD q 0) v = true
   have hin := In (hp.tab t (List.mem_of_getElem? ht))
   rw [MX] at hr
   have hr : m.fBase.getD t.fFrom.toNat 0 = (v : Int) ∨ (m.fNext.set i s.fVersion).getD t.fFrom.toNat 0 = (v : Int) := hr
   rw [hN] at hr
   rw [u2 q t ht, hbv]
   have hlow := hm.low q t ht hs v
   rw [MX] at hlow
   by_cases hf : t.fFrom.toNat = i
   ·have hup : QJ s t = true := by unfold QJ; rw [hs, Bool.and_true, beq_iff_eq, hi]; omega
    rw [if_pos hup, (Qb (hm.range q hq) hob.2).1, hob.1 v, Bool.or_eq_true, decide_eq_true_iff]
    rw [if_pos hf] at hr
    rcases hr with h | h
    ·exact .inl (hlow (.inl h))
    ·right; omega
   ·rw [if_neg hf] at hr
    have hup : QJ s t = false := by unfold QJ; rw [hs, Bool.and_true, beq_eq_false_iff_ne, hi]; omega
    rw [hup, if_neg (by simp)]
    exact hlow hr
  ·have hq := (List.getElem?_eq_some_iff.1 ht).1
   have hbit : DK ((Ig p s m.fHeld).getD q 0) v = true := hbit
   have hin := In (hp.tab t (List.mem_of_getElem? ht))
   rw [u2 q t ht, hbv] at hbit
   split at hbit
   ·rename_i hup
    rw [(Qb (hm.range q hq) hob.2).1, hob.1 v, Bool.or_eq_true, decide_eq_true_iff] at hbit
    rcases hbit with h | h
    ·exact hm.high q t ht hs v h
    ·unfold QJ at hup
     rw [hs, Bool.and_true, beq_iff_eq, hi] at hup
     rw [hup, Int.toNat_natCast]; omega
   ·exact hm.high q t ht hs v hbit
  ·show (Ig p s m.fHeld).getD q 0 = 0
   have hup : QJ s t = false := by unfold QJ; rw [hs, Bool.and_false]
   rw [u2 q t ht, hup, if_neg (by simp)]
   exact hm.none q t ht hs
 ·rename_i hk1
  split at h
  ·rename_i hk3
   have hi3 : i < p.fTables.length := by have := x3 hk3; omega
   have ht0 : p.fTables[i]? = some p.fTables[i] := by simp [hi3]
   rw [ht0] at h
   simp only at h
   split at h
   ·cases h
   rename_i hc
   cases h
   have hin0 := In (hp.tab _ (List.mem_of_getElem? ht0))
   have hr0 := HH hp hm.toMixServ (s := (p.fTables[i]).fFrom.toNat) (by omega)
   have hs0 : Cd p.fTables[i] = true := by
    cases hs : Cd p.fTables[i]
    ·exact (hc (.inl hs)).elim
    ·rfl
   have hH : ∀ q, (m.fHeld.set i (Gu m (p.fTables[i]).fFrom.toNat)).getD q 0 = if q = i then Gu m (p.fTables[i]).fFrom.toNat else m.fHeld.getD q 0 := fun q => Ic (by omega)
   refine { base := hb, next := hn, held := by simpa using hh, b0 := hm.b0, n0 := hm.n0, ne := hm.ne, range := fun q hq => ?_, low := fun q t ht hs v hr => ?_, high := fun q t ht hs v hbit => ?_, none := fun q t ht hs => ?_ }
   ·show 0 ≤ (m.fHeld.set i (Gu m (p.fTables[i]).fFrom.toNat)).getD q 0 ∧ (m.fHeld.set i (Gu m (p.fTables[i]).fFrom.toNat)).getD q 0 ≤ 255
    rw [hH q]
    split
    ·exact hr0.2
    ·exact hm.range q hq
   ·show DK ((m.fHeld.set i (Gu m (p.fTables[i]).fFrom.toNat)).getD q 0) v = true
    have hr : HW m t.fFrom.toNat v = true := hr
    rw [hH q]
    split
    ·rename_i e; subst e
     rw [ht0] at ht; cases ht
     rw [hr0.1]; exact hr
    ·exact hm.low q t ht hs v hr
   ·have hbit : DK ((m.fHeld.set i (Gu m (p.fTables[i]).fFrom.toNat)).getD q 0) v = true := hbit
    rw [hH q] at hbit
    split at hbit
    ·rename_i e; subst e
     rw [ht0] at ht; cases ht
     rw [hr0.1] at hbit
     exact hm.high q _ ht0 hs0 v (hm.low q _ ht0 hs0 v hbit)
    ·exact hm.high q t ht hs v hbit
   ·show (m.fHeld.set i (Gu m (p.fTables[i]).fFrom.toNat)).getD q 0 = 0
    rw [hH q, if_neg (fun e => by subst e; rw [ht0] at ht; cases ht; rw [hs0] at hs; cases hs)]
    exact hm.none q t ht hs
  ·rename_i hk3
   have hi1 : i < p.fVersions.length := by have := xn hk3; omega
   have hvi := IF hp hi1
   split at h
   ·cases h
   rename_i hc
   cases h
   have hN : ∀ q, (m.fNext.set i (-1)).getD q 0 = if q = i then -1 else m.fNext.getD q 0 := fun q => Ic (by omega)
   have hB : ∀ q, (if s.fKind = 2 then m.fBase.set i (m.fNext.getD i 0) else m.fBase).getD q 0 = if s.fKind = 2 ∧ q = i then m.fNext.getD i 0 else m.fBase.getD q 0 := fun q => by
    by_cases hk2 : s.fKind = 2
    ·rw [if_pos hk2, Ic (by omega)]
     by_cases e : q = i
     ·rw [if_pos e, if_pos ⟨hk2, e⟩]
     ·rw [if_neg e, if_neg (fun h => e h.2)]
    ·rw [if_neg hk2, if_neg (fun h => hk2 h.1)]
   have hrun : ∀ q v, HW ⟨if s.fKind = 2 then m.fBase.set i (m.fNext.getD i 0) else m.fBase, m.fNext.set i (-1), m.fHeld⟩ q v = true → HW m q v = true := fun q v hr => by
    rw [MX] at hr ⊢
    simp only [hN q, hB q] at hr
    by_cases e : q = i
    ·subst e
     rw [if_pos rfl] at hr
     by_cases hk2 : s.fKind = 2
     ·rw [if_pos ⟨hk2, rfl⟩] at hr; omega
     ·rw [if_neg (fun h => hk2 h.1)] at hr; omega
    ·rw [if_neg e, if_neg (fun h => e h.2)] at hr; exact hr
   refine { base := by simp only; split <;> simp [hb], next := by simpa using hn, held := hh, b0 := fun q hq => ?_, n0 := fun q hq => ?_, ne := fun q hq => ?_, range := hm.range, low := fun q t ht hs v hr => hm.low q t ht hs v (hrun _ _ hr), high := hm.high, none := hm.none }
   ·simp only [hB q]
    split
    ·rename_i e; obtain ⟨_, e⟩ := e; subst e
     have := hm.n0 q hq
     omega
    ·exact hm.b0 q hq
   ·simp only [hN q]
    split
    ·rename_i e; subst e; omega
    ·exact hm.n0 q hq
   ·simp only [hB q, hN q]
    have h1 := hm.b0 q hq
    by_cases e : q = i
    ·rw [if_pos e]
     split
     ·rename_i e2; obtain ⟨_, e2⟩ := e2; subst e2; omega
     ·omega
    ·rw [if_neg e, if_neg (fun h => e h.2)]; exact hm.ne q hq
theorem Ot (N : Nat) (hN : N ≤ 1000000) (h20 : 100 ≤ N) {p : Ag} {m : Ae} (hw : NV KC m.fHeld) (s : Ak) : Ek N p m s = some (if FZ p m = 0 then CF p m s else (Ha, FZ p m)) := by
 unfold Ek CF
 rw [Od N p m hN (by omega)]
 simp only [Option.bind_some, Bl]
 by_cases hval : FZ p m = 0
 ·obtain ⟨hp, hm⟩ := K0 hw hval
  rw [if_pos hval, hval, bne_self_eq_false, Ay, OA]
  simp only [Option.bind_some]
  cases hv : GQ s
  ·rw [Bool.not_false, AV, if_pos rfl]; rfl
  ·rw [Bool.not_true, Ay, if_neg (by simp)]
   obtain ⟨k1, k4, i0, v0, vk⟩ := IR hv
   have key : ∀ b : Bool, FP p s = b → (if b = false then (Ha, (4 : Int)) else match FJ p m s with | none => (Ha, 11) | some x => (x, 0)) = (if b = false then (Ha, (4 : Int)) else match FJ p m s with | none => (Ha, 11) | some x => (x, 0)) := fun _ _ => rfl
   have tail : FP p s = true → ((Ci N p m s).bind fun v15 => AW (!v15.2) (some (Ae.mk [] [] [], (11 : Int))) (some (v15.1, 0))) = some (match FJ p m s with | none => (Ha, 11) | some x => (x, 0)) := fun hx => by
    rw [Lg N hN h20 hp hm hv hx]
    cases FJ p m s <;> rfl
   have zz : (Ae.mk [] [] [], (4 : Int)) = (Ha, 4) := rfl
   by_cases hk3 : s.fKind = 3
   ·rw [beq_iff_eq.2 hk3, AV, show (s.fKind != 3) = false from by rw [hk3]; rfl]
    have hX : FP p s = decide (s.fIndex < (p.fTables.length : Int)) := by unfold FP; rw [if_pos hk3]
    by_cases c : (p.fTables.length : Int) ≤ s.fIndex
    ·rw [AU c, AV, hX, decide_eq_false (by omega), if_pos rfl]; rfl
    ·have hx : FP p s = true := by rw [hX, decide_eq_true (by omega)]
     rw [AQ c, Ay, Ay, beq_eq_false_iff_ne.2 (show s.fKind ≠ 1 by omega), Ay, Ay, hx, if_neg (by simp)]
     exact tail hx
   ·rw [beq_eq_false_iff_ne.2 hk3, Ay, bne_iff_ne.2 hk3, AV]
    have hX : FP p s = (decide (s.fIndex < (p.fVersions.length : Int)) && (s.fKind != 1 || decide (s.fVersion < p.fVersions.getD s.fIndex.toNat 0))) := by unfold FP; rw [if_neg hk3]
    by_cases c : (p.fVersions.length : Int) ≤ s.fIndex
    ·rw [decide_eq_true c, AV, hX, decide_eq_false (show ¬ s.fIndex < (p.fVersions.length : Int) by omega), Bool.false_and, if_pos rfl]; rfl
    ·rw [decide_eq_false c, Ay]
     by_cases hk1 : s.fKind = 1
     ·rw [beq_iff_eq.2 hk1, AV, EG (d := 0) i0 (by omega)]
      simp only [Option.bind_some]
      by_cases c2 : p.fVersions.getD s.fIndex.toNat 0 ≤ s.fVersion
      ·rw [decide_eq_true c2, AV, hX, decide_eq_false (show ¬ s.fVersion < p.fVersions.getD s.fIndex.toNat 0 by omega), show (s.fKind != 1) = false from by rw [hk1]; rfl, Bool.false_or, Bool.and_false, if_pos rfl]; rfl
      ·have hx : FP p s = true := by rw [hX, decide_eq_true (by omega), decide_eq_true (by omega), Bool.or_true]; rfl
       rw [decide_eq_false c2, Ay, hx, if_neg (by simp)]
       exact tail hx
     ·have hx : FP p s = true := by rw [hX, decide_eq_true (by omega), bne_iff_ne.2 hk1]; rfl
      rw [beq_eq_false_iff_ne.2 hk1, Ay, Ay, hx, if_neg (by simp)]
      exact tail hx
 ·rw [if_neg hval, bne_iff_ne.2 hval, AV]; rfl
theorem Nt (N : Nat) (hN : N ≤ 1000000) (h20 : 100 ≤ N) {p : Ag} {m : Ae} (hw : NV KC m.fHeld) (s : Ak) : Gl N p m s = some (if FZ p m = 0 then CF p m s else (Ha, FZ p m)) := by
 unfold Gl
 rw [H0 N p m hN (by omega) hw]
 simp only [Option.bind_some]
 by_cases hval : FZ p m = 0
 ·obtain ⟨hp, hm⟩ := K0 hw hval
  rw [if_pos hval, hval, bne_self_eq_false, Ay, Kb N hN h20 hp hm s]; rfl
 ·rw [if_neg hval, bne_iff_ne.2 hval, AV]; rfl
theorem IS {p : Ag} {m : Ae} (hp : Cc p) (hm : Dn p m) {s : Ak} (h : (CF p m s).2 = 0) : Dn p (CF p m s).1 := by
 unfold CF at h ⊢
 split at h
 ·cases h
 rename_i h1
 rw [if_neg h1]
 split at h
 ·cases h
 rename_i h2
 rw [if_neg h2]
 cases ha : FJ p m s with
 | none => rw [ha] at h; cases h
 | some x => exact RL hp hm (by simpa using h1) (by simpa using h2) ha
end Go.Lift

/- Failure and Check: both implementations give one answer; the laws PlanCheck and PlanFailure. -/
namespace Go.Lift
open Go
section
variable {N : Nat} {p : Ag} {l : List Ak}
end
end Go.Lift

/- The law PlanErrors in plain words. -/
namespace Go.Lift
open Go
end Go.Lift

/- Trim: both implementations give one list. -/
namespace Go.Lift
open Go
end Go.Lift

/- A plan without a step: what can be left out. -/
namespace Go.Lift
open Go
structure UV (p : Ag) (m x : Ae) : Prop where
 base : m.fBase = x.fBase
 next : m.fNext = x.fNext
 held : ∀ i, i < p.fTables.length → ∀ v, DK (m.fHeld.getD i 0) v = true → DK (x.fHeld.getD i 0) v = true
theorem UV.refl (p : Ag) (m : Ae) : UV p m m := ⟨rfl, rfl, fun _ _ _ h => h⟩
theorem UV.trans {p : Ag} {a b c : Ae} (h : UV p a b) (g : UV p b c) : UV p a c := ⟨h.base.trans g.base, h.next.trans g.next, fun i hi v hv => g.held i hi v (h.held i hi v hv)⟩
end Go.Lift

/- A step between two mixes; openings and closings; the law PlanTrim. -/
namespace Go.Lift
open Go
end Go.Lift

/- The law PlanTrim in plain words. -/
namespace Go.Lift
open Go
theorem LM (N : Nat) (l : List Ak) (hN : N ≤ 1000000) (h : l.length < N) : EA N l l = some true := by
 unfold EA
 rw [bne_self_eq_false, Ay]
 have := Dt (CN N l l fun _ => some true) l (some true) (fun _ _ => none)
  (fun n i x hx => by
   have hi := (List.getElem?_eq_some_iff.1 hx).1
   rw [CN, AU (by omega), Bw, hx]
   simp only [Option.bind_some, beq_self_eq_true, Bool.and_true, Bool.not_true, Ay]
   rw [AT (by omega)]; rfl)
  (fun n => by rw [CN, AQ (by simp)]) N 0 (Nat.zero_le _) (by omega)
 refine this.trans ?_
 rw [E1 fun j x hx => rfl]; rfl
end Go.Lift

/- The keys of mixes. -/
namespace Go.Lift
open Go
end Go.Lift

/- Keys tell mixes. -/
namespace Go.Lift
open Go
end Go.Lift

/- The possible steps of a mix, in order: both implementations. -/
namespace Go.Lift
open Go
def Lp (i : Nat) (n : Int) : List Ak := (List.range n.toNat).map fun v => ⟨1, (i : Int), ((v : Nat) : Int), ⟩
def Gm (p : Ag) : List Ak := Eh Lp 0 p.fVersions ++ ((List.range p.fVersions.length).map fun i => (⟨2, ((i : Nat) : Int), 0⟩ : Ak)) ++ ((List.range p.fTables.length).map fun i => (⟨3, ((i : Nat) : Int), 0⟩ : Ak))
def FR (p : Ag) (m : Ae) : List Ak := (Gm p).filter fun s => (CF p m s).2 == 0
theorem Mc {p : Ag} (hp : Cc p) : (Gm p).length ≤ 54 := by
 have h1 : (Eh Lp 0 p.fVersions).length ≤ 6 * p.fVersions.length := Gb fun j x hx => by
  have := hp.ver x (List.mem_of_getElem? hx)
  simp [Lp]; omega
 have := hp.nv
 have := hp.nt
 unfold Gm
 simp only [List.length_append, List.length_map, List.length_range]
 omega
theorem PH (N : Nat) (hN : N ≤ 1000000) (h20 : 100 ≤ N) {p : Ag} (hp : Cc p) : HC N p = some (Gm p) := by
 have hnv := hp.nv
 have hnt := hp.nt
 unfold HC
 have l1 := Ho (C6 N p fun v2 => Ch N p (fun v10 => Bp N p (fun v14 => some v14) N (v10, 0)) N (v2, 0)) (fun a i => (a, i)) p.fVersions (fun v2 => Ch N p (fun v10 => Bp N p (fun v14 => some v14) N (v10, 0)) N (v2, 0)) Lp 6 100
  (fun i x hx => by have := hp.ver x (List.mem_of_getElem? hx); simp [Lp]; omega)
  (fun n i x a hx hl => by
   have hi := (List.getElem?_eq_some_iff.1 hx).1
   have hx6 := hp.ver x (List.mem_of_getElem? hx)
   obtain ⟨k, hk⟩ := Int.eq_ofNat_of_zero_le (show 0 ≤ x by omega)
   rw [C6, AU (by simp only; omega)]
   simp only [Bw, hx, Option.bind_some, AT (show i < 1000000 by omega)]
   subst hk
   obtain ⟨a', e, ha⟩ := ET (Es N (a, (i : Int)) (k : Int) fun v6 => C6 N p (fun v2 => Ch N p (fun v10 => Bp N p (fun v14 => some v14) N (v10, 0)) N (v2, 0)) n (v6, ((i + 1 : Nat) : Int))) (fun b v => (b, v)) k (fun v6 => C6 N p (fun v2 => Ch N p (fun v10 => Bp N p (fun v14 => some v14) N (v10, 0)) N (v2, 0)) n (v6, ((i + 1 : Nat) : Int)))
    (fun v b => b = a ++ (List.range v).map fun v => (⟨1, (i : Int), ((v : Nat) : Int)⟩ : Ak))
    (fun n v b hv hb => by
     subst hb
     rw [Es, AU (by simp only; omega), AA (by simp [D3]; simp [Lp] at hl; omega), AT (by omega)]
     exact ⟨_, rfl, by rw [List.range_succ, List.map_append, List.append_assoc]; rfl⟩)
    (fun n b hb => by rw [Es, AQ (by simp)]) N 0 a (Nat.zero_le _) (by omega) (by simp)
   have e' : Es N (a, (i : Int)) (k : Int) (fun v6 => C6 N p (fun v2 => Ch N p (fun v10 => Bp N p (fun v14 => some v14) N (v10, 0)) N (v2, 0)) n (v6, ((i + 1 : Nat) : Int))) N (a, 0) = _ := e
   rw [e', ha]; rfl)
  (fun n a => by rw [C6, AQ (by simp)]) N [] (by omega) (by simp; omega)
 have l1' : C6 N p (fun v2 => Ch N p (fun v10 => Bp N p (fun v14 => some v14) N (v10, 0)) N (v2, 0)) N (([] : List Ak), 0) = _ := l1
 rw [l1', List.nil_append]
 have hA : (Eh Lp 0 p.fVersions).length ≤ 6 * p.fVersions.length := Gb fun j x hx => by
  have := hp.ver x (List.mem_of_getElem? hx)
  simp [Lp]; omega
 generalize hAe : Eh Lp 0 p.fVersions = A at hA
 obtain ⟨b', e2, hb⟩ := ET (Ch N p fun v10 => Bp N p (fun v14 => some v14) N (v10, 0)) (fun b v => (b, v)) p.fVersions.length (fun v10 => Bp N p (fun v14 => some v14) N (v10, 0))
  (fun v b => b = A ++ (List.range v).map fun i => (⟨2, ((i : Nat) : Int), 0⟩ : Ak))
  (fun n v b hv hb => by
   subst hb
   rw [Ch, AU (by simp only; omega), AA (by simp [D3]; omega), AT (by omega)]
   exact ⟨_, rfl, by rw [List.range_succ, List.map_append, List.append_assoc]; rfl⟩)
  (fun n b hb => by rw [Ch, AQ (by simp)]) N 0 A (Nat.zero_le _) (by omega) (by simp)
 have e2' : Ch N p (fun v10 => Bp N p (fun v14 => some v14) N (v10, 0)) N (A, 0) = _ := e2
 rw [e2', hb]
 generalize hBe : A ++ (List.range p.fVersions.length).map (fun i => (⟨2, ((i : Nat) : Int), 0⟩ : Ak)) = B
 have hB : B.length ≤ 50 := by rw [← hBe]; simp; omega
 obtain ⟨c', e3, hc⟩ := ET (Bp N p fun v14 => some v14) (fun b v => (b, v)) p.fTables.length (fun v14 => some v14)
  (fun v b => b = B ++ (List.range v).map fun i => (⟨3, ((i : Nat) : Int), 0⟩ : Ak))
  (fun n v b hv hb => by
   subst hb
   rw [Bp, AU (by simp only; omega), AA (by simp [D3]; omega), AT (by omega)]
   exact ⟨_, rfl, by rw [List.range_succ, List.map_append, List.append_assoc]; rfl⟩)
  (fun n b hb => by rw [Bp, AQ (by simp)]) N 0 B (Nat.zero_le _) (by omega) (by simp)
 have e3' : Bp N p (fun v14 => some v14) N (B, 0) = _ := e3
 rw [e3', hc, ← hBe, ← hAe]; rfl
end Go.Lift

/- Enabled: the possible steps. -/
namespace Go.Lift
open Go
theorem NP {p : Ag} (hp : Cc p) {s : Ak} (h : s ∈ Gm p) : GQ s = true ∧ FP p s = true := by
 have hnv := hp.nv
 unfold Gm at h
 rcases List.mem_append.1 h with h | h
 ·rcases List.mem_append.1 h with h | h
  ·obtain ⟨j, x, hx, hk⟩ := N6.1 h
   rw [Nat.zero_add] at hk
   unfold Lp at hk
   obtain ⟨v, hv, rfl⟩ := List.mem_map.1 hk
   have hx6 := hp.ver x (List.mem_of_getElem? hx)
   have hv := List.mem_range.1 hv
   have hj := (List.getElem?_eq_some_iff.1 hx).1
   refine ⟨by unfold GQ; simp, ?_⟩
   unfold FP
   have e : p.fVersions.getD j 0 = x := by rw [List.getD_eq_getElem?_getD, hx]; rfl
   simp only
   rw [if_neg (by omega), decide_eq_true (by omega), Int.toNat_natCast, e, decide_eq_true (by omega), Bool.or_true]; rfl
  ·obtain ⟨v, hv, rfl⟩ := List.mem_map.1 h
   have hv := List.mem_range.1 hv
   refine ⟨by unfold GQ; simp, ?_⟩
   unfold FP
   simp only
   rw [if_neg (by omega), decide_eq_true (by omega)]; rfl
 ·obtain ⟨v, hv, rfl⟩ := List.mem_map.1 h
  have hv := List.mem_range.1 hv
  refine ⟨by unfold GQ; simp, ?_⟩
  unfold FP
  simp only
  rw [if_pos trivial, decide_eq_true (by omega)]
theorem RO {p : Ag} {m : Ae} {s : Ak} (hv : GQ s = true) (hx : FP p s = true) : ((CF p m s).2 == 0) = (FJ p m s).isSome := by
 unfold CF
 rw [hv, hx, if_neg (by simp), if_neg (by simp)]
 cases FJ p m s <;> rfl
theorem Pk (N : Nat) (hN : N ≤ 1000000) (h20 : 100 ≤ N) {p : Ag} {m : Ae} (hp : Cc p) (hm : Dn p m) {s : Ak} (h : s ∈ Gm p) :
  Dq N s p.fVersions p.fNow p.fTarget p.fTables m.fBase m.fNext m.fHeld = some (!((CF p m s).2 == 0)) := by
 obtain ⟨hv, hx⟩ := NP hp h
 unfold Dq
 obtain ⟨o, e, _⟩ := Kd N hN h20 hp hm hv hx
 have e' : E4 N ⟨p.fVersions, p.fNow, p.fTarget, p.fTables⟩ ⟨m.fBase, m.fNext, m.fHeld⟩ s = some (o, (FJ p m s).isSome) := e
 rw [e', RO hv hx]; rfl
theorem P7 (N : Nat) (hN : N ≤ 1000000) (a : List Ak) (f : Ak → Option Bool) (g : Ak → Bool) (h : a.length < N) (hf : ∀ x, x ∈ a → f x = some (g x)) :
  BH N a f = some ((DY (fun i x => if g x = true then some (i : Int) else none) 0 a).getD (-1)) := by
 unfold BH
 have := Dt (A4 N a f fun _ => some (-1)) a (some (-1)) (fun i x => if g x = true then some (i : Int) else none)
  (fun n i x hx => by
   have hi := (List.getElem?_eq_some_iff.1 hx).1
   rw [A4, AU (by omega), Bw, hx]
   simp only [Option.bind_some]
   rw [hf x (List.mem_of_getElem? hx), AT (by omega)]
   simp only [Option.bind_some]
   cases g x <;> rfl)
  (fun n => by rw [A4, AQ (by simp)]) N 0 (Nat.zero_le _) (by omega)
 refine this.trans ?_
 rw [List.drop_zero]
 cases DY (fun i x => if g x = true then some (i : Int) else none) 0 a <;> rfl
end Go.Lift

/- Enabled gives the possible steps. -/
namespace Go.Lift
open Go
theorem Ni {α : Type} {l : List α} {i : Nat} {v : α} (h : i < l.length) : (l.set i v).take (i + 1) = l.take i ++ [v] := by
 rw [List.take_add_one, List.take_set_of_le (Nat.le_refl i)]
 congr 1
 simp [h]
theorem PB (N : Nat) (hN : N ≤ 1000000) (a : List Ak) (f : Ak → Option Bool) (g : Ak → Bool) (h : a.length < N) (h9 : a.length ≤ 1000) (hf : ∀ x, x ∈ a → f x = some (g x)) :
  ∃ X n, BE N a f = some (n, X) ∧ n ≤ X.length ∧ X.take n = a.filter fun x => !g x := by
 unfold BE
 rw [P7 N hN a f g h hf]
 simp only [Option.bind_some]
 cases hs : DY (fun i x => if g x = true then some (i : Int) else none) 0 a with
 | none =>
  refine ⟨a, a.length, rfl, Nat.le_refl _, ?_⟩
  rw [List.take_length]
  symm
  rw [List.filter_eq_self]
  intro x hx
  obtain ⟨j, hj⟩ := List.mem_iff_getElem?.1 hx
  have := GS hs j x hj
  cases hg : g x
  ·rfl
  ·rw [hg] at this; cases this
 | some r =>
  obtain ⟨j, x, hx, hr⟩ := FC hs
  rw [Nat.zero_add] at hr
  split at hr
  ·rename_i hg
   cases hr
   have hj := (List.getElem?_eq_some_iff.1 hx).1
   have e0 : ((some (j : Int)).getD (-1) == (-1 : Int)) = false := beq_eq_false_iff_ne.2 (by simp only [Option.getD_some]; omega)
   rw [e0, Ay]
   simp only [Option.getD_some]
   rw [AT (by omega)]
   -- what lies before the first that goes is kept
   have hpre : (a.take (j + 1)).filter (fun x => !g x) = a.take j := by
    rw [List.take_add_one, hx, List.filter_append]
    have h1 : (a.take j).filter (fun x => !g x) = a.take j := by
     rw [List.filter_eq_self]
     intro y hy
     obtain ⟨q, hq⟩ := List.mem_iff_getElem?.1 hy
     have hql := (List.getElem?_eq_some_iff.1 hq).1
     simp at hql
     rw [List.getElem?_take_of_lt (by omega)] at hq
     cases hgy : g y
     ·rfl
     ·exfalso
      have : ∀ (xs : List Ak) (i j q : Nat) (y : Ak), DY (fun i x => if g x = true then some (i : Int) else none) i xs = some ((i + j : Nat) : Int) → q < j → xs[q]? = some y → g y = true → False := by
       intro xs
       induction xs with
       | nil => intro i j q y _ _ hq; simp at hq
       | cons z zs ih =>
        intro i j q y hs hqj hq hgy
        rw [GR] at hs
        cases hz : g z
        ·rw [hz] at hs
         cases q with
         | zero => simp at hq; subst hq; rw [hz] at hgy; cases hgy
         | succ q =>
          cases j with
          | zero => omega
          | succ j => exact ih (i + 1) j q y (by rw [show i + 1 + j = i + (j + 1) from by omega]; exact hs) (by omega) (by simpa using hq) hgy
        ·rw [hz] at hs
         have hs : (some (i : Int)) = some ((i + j : Nat) : Int) := hs
         have := Option.some.inj hs
         omega
      exact this a 0 j q y (by rw [Nat.zero_add]; exact hs) (by omega) hq hgy
    rw [h1]
    simp [hg]
   obtain ⟨b, e, hb⟩ := ET (A0 N f fun v4 => (Ef ((0 : Int) ≤ v4.2 ∧ (v4.2).toNat ≤ v4.1.length ∧ v4.1.length ≤ v4.1.length)).bind fun _ =>
     (Ef ((0 : Int) ≤ v4.2 ∧ 0 ≤ (v4.2).toNat ∧ (v4.2).toNat ≤ (HU v4.1 ((v4.2).toNat) (List.replicate ((v4.1.length - (v4.2).toNat)) ((Ak.mk 0 0 0)))).length)).bind fun _ =>
     some ((v4.2).toNat, HU v4.1 ((v4.2).toNat) (List.replicate ((v4.1.length - (v4.2).toNat)) ((Ak.mk 0 0 0)))))
    (fun (b : List Ak × Nat) i => (b.1, ((b.2 : Nat) : Int), i)) a.length (fun b => (Ef ((0 : Int) ≤ ((b.2 : Nat) : Int) ∧ (((b.2 : Nat) : Int)).toNat ≤ b.1.length ∧ b.1.length ≤ b.1.length)).bind fun _ =>
     (Ef ((0 : Int) ≤ ((b.2 : Nat) : Int) ∧ 0 ≤ (((b.2 : Nat) : Int)).toNat ∧ (((b.2 : Nat) : Int)).toNat ≤ (HU b.1 ((((b.2 : Nat) : Int)).toNat) (List.replicate ((b.1.length - (((b.2 : Nat) : Int)).toNat)) ((Ak.mk 0 0 0)))).length)).bind fun _ =>
     some ((((b.2 : Nat) : Int)).toNat, HU b.1 ((((b.2 : Nat) : Int)).toNat) (List.replicate ((b.1.length - (((b.2 : Nat) : Int)).toNat)) ((Ak.mk 0 0 0)))))
    (fun i b => b.1.length = a.length ∧ b.2 ≤ i ∧ b.1.drop i = a.drop i ∧ b.1.take b.2 = (a.take i).filter fun x => !g x)
    (fun n i b hi hb => by
     obtain ⟨b1, b2, b3, b4⟩ := hb
     rw [A0, AU (by simp only; omega)]
     have hai : a[i]? = some a[i] := by simp [hi]
     have hbi : b.1[i]? = some a[i] := by
      have := congrArg (fun l => l[0]?) b3
      simp only [List.getElem?_drop, Nat.add_zero] at this
      rw [this, hai]
     simp only [Bl, Bw, hbi, Option.bind_some]
     rw [hf a[i] (List.getElem_mem hi), AT (i := i) (by omega)]
     simp only [Option.bind_some]
     have hnext : b.1.drop (i + 1) = a.drop (i + 1) := by
      have := congrArg (List.drop 1) b3
      rwa [List.drop_drop, List.drop_drop] at this
     cases hgi : g a[i]
     ·rw [Bool.not_false, AV]
      have hbj : b.1[b.2]? = some b.1[b.2] := by simp [show b.2 < b.1.length from by omega]
      rw [hbj, AT (i := b.2) (by omega)]
      refine ⟨(b.1.set b.2 a[i], b.2 + 1), rfl, by simpa using b1, by simp only; omega, ?_, ?_⟩
      ·simp only
       rw [List.drop_set_of_lt (by omega), hnext]
      ·simp only
       rw [Ni (by omega), b4, List.take_add_one, hai, List.filter_append]
       simp [hgi]
     ·rw [Bool.not_true, Ay]
      refine ⟨b, rfl, b1, by omega, hnext, ?_⟩
      rw [b4, List.take_add_one, hai, List.filter_append]
      simp [hgi])
    (fun n b hb => by rw [A0, AQ (by simp [hb.1])]) N (j + 1) (a, j) (by omega) (by omega) ⟨rfl, by simp only; omega, rfl, hpre.symm⟩
   obtain ⟨b1, b2, b3, b4⟩ := hb
   have e' : A0 N f (fun v4 => (Ef ((0 : Int) ≤ v4.2 ∧ (v4.2).toNat ≤ v4.1.length ∧ v4.1.length ≤ v4.1.length)).bind fun _ =>
     (Ef ((0 : Int) ≤ v4.2 ∧ 0 ≤ (v4.2).toNat ∧ (v4.2).toNat ≤ (HU v4.1 ((v4.2).toNat) (List.replicate ((v4.1.length - (v4.2).toNat)) ((Ak.mk 0 0 0)))).length)).bind fun _ =>
     some ((v4.2).toNat, HU v4.1 ((v4.2).toNat) (List.replicate ((v4.1.length - (v4.2).toNat)) ((Ak.mk 0 0 0))))) N (a, (j : Int), ((j + 1 : Nat) : Int)) = _ := e
   rw [e']
   have hsl : (HU b.1 b.2 (List.replicate (b.1.length - b.2) (Ak.mk 0 0 0))).length = b.1.length := Ib (by rw [List.length_replicate]; omega)
   simp only [Int.toNat_natCast]
   rw [AA ⟨by omega, by omega, Nat.le_refl _⟩, AA ⟨by omega, by omega, by rw [hsl]; omega⟩]
   refine ⟨_, _, rfl, by rw [hsl]; omega, ?_⟩
   unfold HU
   rw [List.append_assoc, List.take_append_of_le_length (by simp; omega), List.take_take, Nat.min_self, b4, List.take_length]
  ·cases hr
theorem Qh (N : Nat) (hN : N ≤ 1000000) (h20 : 100 ≤ N) {p : Ag} {m : Ae} (hv : Cx p = 0) (hm : Dn p m) : Fv N p m = some (FR p m, 0) := by
 obtain ⟨hp, _⟩ := CV hv
 unfold Fv
 rw [H0 N p m hN (by omega) (Nc hm), Ih hv hm]
 simp only [Option.bind_some, bne_self_eq_false, Ay]
 rw [PH N hN h20 hp]
 simp only [Option.bind_some]
 have hl := Mc hp
 obtain ⟨X, n, e, h1, h2⟩ := PB N hN (Gm p) (fun x => Dq N x p.fVersions p.fNow p.fTarget p.fTables m.fBase m.fNext m.fHeld) (fun s => !((CF p m s).2 == 0)) (by omega) (by omega) (fun x hx => Pk N hN h20 hp hm hx)
 rw [e]
 simp only [Option.bind_some]
 rw [AA h1, h2]
 unfold FR
 simp
end Go.Lift

/- The reference's list of possible steps is the same. -/
namespace Go.Lift
open Go
theorem HI {β : Type} (g : Nat → List β) : ∀ n : Nat, Eh (fun i (_ : Nat) => g i) 0 (List.range n) = (List.range n).flatMap g
 | 0 => rfl
 | n + 1 => by rw [List.range_succ, Le, HI g n, List.flatMap_append]; simp [Eh]
def SK (p : Ag) (m : Ae) (s : Ak) : Bool := (CF p m s).2 == 0
def gS (p : Ag) (m : Ae) (k : Int) (i v : Nat) : List Ak := if SK p m ⟨k, (i : Int), (v : Int)⟩ = true then [⟨k, (i : Int), (v : Int)⟩] else []
def bS (p : Ag) (m : Ae) (k : Int) (i : Nat) : List Ak := (List.range 6).flatMap (gS p m k i)
def Qp (p : Ag) : Nat := max p.fVersions.length p.fTables.length
def kS (p : Ag) (m : Ae) (k : Int) : List Ak := (List.range (Qp p)).flatMap (bS p m k)
theorem JK {β : Type} (f : Nat → β) (q : β → Bool) : ∀ n : Nat, ((List.range n).flatMap fun v => if q (f v) = true then [f v] else []) = ((List.range n).map f).filter q
 | 0 => rfl
 | n + 1 => by
  rw [List.range_succ, List.flatMap_append, JK f q n, List.map_append, List.filter_append]
  cases h : q (f n) <;> simp [h]
theorem JO {β : Type} (g : Nat → List β) (a : Nat) (h : ∀ v, a ≤ v → g v = []) : ∀ n, a ≤ n → (List.range n).flatMap g = (List.range a).flatMap g
 | 0, hn => by rw [Nat.le_zero.1 hn]
 | n + 1, hn => by
  by_cases h1 : a = n + 1
  ·rw [h1]
  ·rw [List.range_succ, List.flatMap_append, JO g a h n (by omega)]
   simp [h n (by omega)]
theorem Sw (p : Ag) (m : Ae) (k : Int) (i v : Nat) : (gS p m k i v).length ≤ 1 := by unfold gS; split <;> simp
theorem RJ (p : Ag) (m : Ae) (k : Int) (i : Nat) : (bS p m k i).length ≤ 6 := by
 unfold bS
 rw [← HI]
 have := Gb (g := fun i' (_ : Nat) => gS p m k i i') (c := 1) (i := 0) (xs := List.range 6) fun j x _ => Sw p m k i _
 simpa using this
theorem Uq {p : Ag} (hp : Cc p) (m : Ae) (k : Int) : (kS p m k).length ≤ 72 := by
 have h1 := hp.nv
 have h2 := hp.nt
 unfold kS
 rw [← HI]
 have := Gb (g := fun i' (_ : Nat) => bS p m k i') (c := 6) (i := 0) (xs := List.range (Qp p)) fun j x _ => RJ p m k _
 simp only [List.length_range] at this
 have h3 : Qp p ≤ 12 := by unfold Qp; omega
 omega
theorem Uy {p : Ag} {m : Ae} {s : Ak} (h : SK p m s = true) : GQ s = true ∧ FP p s = true := by
 unfold SK CF at h
 split at h
 ·cases h
 ·rename_i h1
  split at h
  ·cases h
  ·rename_i h2
   exact ⟨by simpa using h1, by simpa using h2⟩
theorem KX {p : Ag} {m : Ae} {k : Int} {i v : Nat} (h : SK p m ⟨k, (i : Int), (v : Int)⟩ = true) : (k = 3 → i < p.fTables.length) ∧ (k ≠ 3 → i < p.fVersions.length) ∧ (k = 1 → (v : Int) < p.fVersions.getD i 0) ∧ (k ≠ 1 → v = 0) := by
 obtain ⟨h1, h2⟩ := Uy h
 obtain ⟨a1, a2, a3, a4, a5⟩ := IR h1
 obtain ⟨b1, b2, b3⟩ := J1 h2
 simp only [Int.toNat_natCast] at *
 exact ⟨fun e => by have := b1 e; omega, fun e => by have := b2 e; omega, b3, fun e => by have := a5 e; omega⟩
theorem SG {p : Ag} (hp : Cc p) (m : Ae) : kS p m 1 ++ kS p m 2 ++ kS p m 3 = FR p m := by
 have hnv := hp.nv
 have hnt := hp.nt
 unfold FR Gm
 rw [List.filter_append, List.filter_append]
 have e1 : kS p m 1 = (Eh Lp 0 p.fVersions).filter fun s => (CF p m s).2 == 0 := by
  unfold kS
  rw [JO (bS p m 1) p.fVersions.length (fun i hi => by
   unfold bS
   rw [List.flatMap_eq_nil_iff]
   intro v _
   unfold gS
   rw [if_neg]
   intro h
   have := (KX h).2.1 (by decide)
   omega) (Qp p) (by unfold Qp; omega)]
  have e : ∀ (xs : List Int) (i : Nat), (∀ j x, xs[j]? = some x → 1 ≤ x ∧ x ≤ 6 ∧ p.fVersions.getD (i + j) 0 = x) → ((List.range xs.length).flatMap fun j => bS p m 1 (i + j)) = (Eh Lp i xs).filter fun s => (CF p m s).2 == 0 := by
   intro xs
   induction xs with
   | nil => intro i _; rfl
   | cons x xs ih =>
    intro i hx
    rw [List.length_cons, List.range_succ_eq_map, List.flatMap_cons, List.flatMap_map, Eh, List.filter_append]
    have ih' := ih (i + 1) (fun j y hy => by
     have := hx (j + 1) y (by simpa using hy)
     rw [show i + 1 + j = i + (j + 1) from by omega]; exact this)
    have hx0 := hx 0 x rfl
    rw [Nat.add_zero] at hx0
    congr 1
    ·rw [Nat.add_zero]
     unfold bS Lp
     rw [JO (gS p m 1 i) x.toNat (fun v hv => by
      unfold gS
      rw [if_neg]
      intro h
      have := (KX h).2.2.1 rfl
      rw [hx0.2.2] at this
      omega) 6 (by omega)]
     exact JK (fun v => (⟨1, (i : Int), ((v : Nat) : Int)⟩ : Ak)) (SK p m) x.toNat
    ·rw [← ih']
     congr 1
     funext j
     rw [show i + (j + 1) = i + 1 + j from by omega]
  have := e p.fVersions 0 (fun j x hx => by
   have h1 := hp.ver x (List.mem_of_getElem? hx)
   refine ⟨h1.1, h1.2, ?_⟩
   rw [Nat.zero_add, List.getD_eq_getElem?_getD, hx]; rfl)
  simp only [Nat.zero_add] at this
  exact this
 have e23 : ∀ (k : Int) (n : Nat), k ≠ 1 → n ≤ Qp p → (∀ i v, SK p m ⟨k, ((i : Nat) : Int), ((v : Nat) : Int)⟩ = true → i < n) → kS p m k = (((List.range n).map fun i => (⟨k, ((i : Nat) : Int), 0⟩ : Ak)).filter fun s => (CF p m s).2 == 0) := by
  intro k n hk hn hi
  unfold kS
  rw [JO (bS p m k) n (fun i hi' => by
   unfold bS
   rw [List.flatMap_eq_nil_iff]
   intro v _
   unfold gS
   rw [if_neg]
   intro h
   have := hi i v h
   omega) (Qp p) hn]
  show _ = List.filter (SK p m) _
  rw [← JK (fun i => (⟨k, ((i : Nat) : Int), 0⟩ : Ak)) (SK p m) n]
  congr 1
  funext i
  unfold bS
  rw [JO (gS p m k i) 1 (fun v hv => by
   unfold gS
   rw [if_neg]
   intro h
   have := (KX h).2.2.2 hk
   omega) 6 (by omega)]
  simp [gS]
 rw [e1, e23 2 p.fVersions.length (by decide) (by unfold Qp; omega) (fun i v h => (KX h).2.1 (by decide)), e23 3 p.fTables.length (by decide) (by unfold Qp; omega) (fun i v h => (KX h).1 rfl)]
theorem Pl (a b : Nat) : Q9 (a : Int) (b : Int) = ((max a b : Nat) : Int) := by
 unfold Q9
 omega
theorem OW (N : Nat) (hN : N ≤ 1000000) (h20 : 100 ≤ N) {p : Ag} {m : Ae} (hv : Cx p = 0) (hm : Dn p m) : Eu N p m = some (FR p m) := by
 obtain ⟨hp, _⟩ := CV hv
 have hnv := hp.nv
 have hnt := hp.nt
 have hmx : Qp p ≤ 12 := by unfold Qp; omega
 unfold Eu
 have hmix := Ih hv hm
 -- one number
 have inn : ∀ (k : Int) (c0 a : List Ak) (i : Nat) (d0 : List Ak) (j : List Ak → Option (List Ak)), a.length ≤ 1000 →
   B9 N p m (c0, k) (d0, (i : Int)) j N (a, 0) = j (a ++ bS p m k i) := by
  intro k c0 a i d0 j ha
  have := Ho (B9 N p m (c0, k) (d0, (i : Int)) j) (fun a i => (a, i)) (List.range 6) j (fun v _ => gS p m k i v) 1 2000
   (fun v x _ => Sw _ _ _ _ _)
   (fun n v x a hx hl => by
    have hi := (List.getElem?_eq_some_iff.1 hx).1
    simp only [List.length_range] at hi
    rw [B9, AU (by simp only; omega)]
    simp only [Bl]
    rw [Ot N hN h20 (Nc hm), if_pos hmix]
    simp only [Option.bind_some, AT (show v < 1000000 by omega)]
    unfold gS SK
    cases hq : (CF p m ⟨k, (i : Int), (v : Int)⟩).2 == 0
    ·rw [Ay, if_neg (by simp), List.append_nil]
    ·rw [AV, if_pos rfl, AA (by simp [D3]; unfold gS SK at hl; rw [hq] at hl; simp at hl; omega)])
   (fun n a => by rw [B9, AQ (by simp)]) N a (by simp; omega) (by simp; omega)
  rw [HI] at this
  exact this
 have mid : ∀ (k : Int) (c0 a : List Ak) (j : List Ak → Option (List Ak)), a.length ≤ 500 →
   Cb N p m (c0, k) j N (a, 0) = j (a ++ kS p m k) := by
  intro k c0 a j ha
  have := Ho (Cb N p m (c0, k) j) (fun a i => (a, i)) (List.range (Qp p)) j (fun i _ => bS p m k i) 6 900
   (fun v x _ => RJ _ _ _ _)
   (fun n i x a hx hl => by
    have hi := (List.getElem?_eq_some_iff.1 hx).1
    simp only [List.length_range] at hi
    rw [Cb, AU (by simp only; rw [Pl]; unfold Qp at hi; omega)]
    rw [inn k c0 a i a _ (by omega)]
    simp only [AT (show i < 1000000 by omega)])
   (fun n a => by rw [Cb, AQ (by simp [Pl, Qp])]) N a (by simp; omega) (by simp; omega)
  rw [HI] at this
  exact this
 have hk := Uq hp m
 have go : ∀ (k : Int) (n : Nat) (a : List Ak), k ≤ 3 → 1 ≤ k → a.length ≤ 300 → Bs N p m (fun v2 => some v2) (n + 1) (a, k) = Bs N p m (fun v2 => some v2) n (a ++ kS p m k, k + 1) := by
  intro k n a h1 h2 ha
  rw [Bs, AU h1]
  rw [mid k a a _ (by omega), Ey (by omega) (by omega)]
 obtain ⟨N', hN'⟩ : ∃ q, N = q + 4 := ⟨N - 4, by omega⟩
 have e0 : Bs N p m (fun v2 => some v2) N ([], 1) = Bs N p m (fun v2 => some v2) (N' + 4) ([], 1) := by rw [hN']
 rw [e0, go 1 (N' + 3) [] (by decide) (by decide) (by simp), List.nil_append]
 rw [show (1 : Int) + 1 = 2 from rfl, go 2 (N' + 2) _ (by decide) (by decide) (by have := hk 1; omega)]
 rw [show (2 : Int) + 1 = 3 from rfl, go 3 (N' + 1) _ (by decide) (by decide) (by have h1 := hk 1; have h2 := hk 2; rw [List.length_append]; omega)]
 rw [Bs, AQ (by simp), SG hp]
end Go.Lift

/- Breadth-first search in plain Lean: the ways that it finds are the least ones, by length and then by the ranks of their steps. No condition. -/
namespace Go.Lift
namespace Bfs
section
variable {α σ : Type}
def code (rk : σ → Nat) (K : Nat) (w : List σ) : Nat := w.foldl (fun c s => c * K + rk s) 0
def WC (rk : σ → Nat) (K : Nat) (w : List σ) : Prop := ∀ s, s ∈ w → 1 ≤ rk s ∧ rk s ≤ K
theorem WC.snoc {rk : σ → Nat} {K : Nat} {w : List σ} {s : σ} (h : WC rk K w) (hs : 1 ≤ rk s ∧ rk s ≤ K) : WC rk K (w ++ [s]) := by
 intro x hx; rcases List.mem_append.1 hx with h1 | h1
 ·exact h x h1
 ·rw [List.mem_singleton.1 h1]; exact hs
abbrev Nd (α σ : Type) := α × Int × σ
def put [DecidableEq α] (i : Nat) (l : List (Nd α σ)) (q : σ × α) : List (Nd α σ) := if (l.any fun n => decide (n.1 = q.2)) = true then l else l ++ [(q.2, (i : Int), q.1)]
def RP [DecidableEq α] (most i : Nat) : List (σ × α) → List (Nd α σ) → Option (List (Nd α σ))
 | [], l => some l
 | q :: qs, l => if most < (put i l q).length then none else RP most i qs (put i l q)
def go [DecidableEq α] (nxt : α → List (σ × α)) (most : Nat) : Nat → Nat → List (Nd α σ) → Option (List (Nd α σ))
 | 0, _, _ => none
 | n + 1, i, l => match l[i]? with
  | none => some l
  | some nd => (RP most i (nxt nd.1) l).bind fun l' => go nxt most n (i + 1) l'
def run (nxt : α → List (σ × α)) (x : α) : List σ → α → Prop
 | [], y => y = x
 | s :: w, y => ∃ z, (s, z) ∈ nxt x ∧ run nxt z w y
theorem H9 {nxt : α → List (σ × α)} : ∀ {u w : List σ} {x y : α}, run nxt x (u ++ w) y ↔ ∃ z, run nxt x u z ∧ run nxt z w y
 | [], w, x, y => by simp [run]
 | s :: u, w, x, y => by
  simp only [List.cons_append, run]
  constructor
  ·rintro ⟨z, h1, h2⟩
   obtain ⟨z', h3, h4⟩ := H9.1 h2
   exact ⟨z', ⟨z, h1, h3⟩, h4⟩
  ·rintro ⟨z', ⟨z, h1, h3⟩, h4⟩
   exact ⟨z, h1, H9.2 ⟨z', h3, h4⟩⟩
end
end Bfs
end Go.Lift

/- The region of a mix: the reference's list of nodes is the breadth-first search. -/
namespace Go.Lift
open Go
theorem PI : ∀ {l : List Int}, VC l = 0 → ∀ x, x ∈ l → x = 0
 | [], _, x, hx => by cases hx
 | y :: ys, h, x, hx => by
  unfold VC at h
  split at h
  ·rename_i hy
   rcases List.mem_cons.1 hx with rfl | hx
   ·exact hy
   ·exact PI h x hx
  ·rename_i hy; exact absurd h hy
theorem Q2 {a b : Ae} (h : SQ a b = 0) : a = b := by
 have := PI h
 have h1 := Mg _ _ (this (Lk a.fBase b.fBase) (by simp))
 have h2 := Mg _ _ (this (Lk a.fNext b.fNext) (by simp))
 have h3 := Mg _ _ (this (Lk a.fHeld b.fHeld) (by simp))
 cases a; cases b; simp only at h1 h2 h3; subst h1; subst h2; subst h3; rfl
instance WF : DecidableEq Ae := fun a b => if h : SQ a b = 0 then isTrue (Q2 h) else isFalse (fun e => h (by rw [e]; exact Rb b))
def QY (p : Ag) (m : Ae) (ss : List Ak) : List (Ak × Ae) := ss.filterMap fun s => if Ei p (CF p m s).1 = true then some (s, (CF p m s).1) else none
def Ld (p : Ag) (m : Ae) : List (Ak × Ae) := QY p m (FR p m)
theorem JM {p : Ag} {m : Ae} {s : Ak} (h : s ∈ FR p m) : s ∈ Gm p ∧ (CF p m s).2 = 0 := by
 unfold FR at h
 have := List.mem_filter.1 h
 exact ⟨this.1, by simpa using this.2⟩
theorem TL {p : Ag} {m : Ae} {ss : List Ak} {q : Ak × Ae} : q ∈ QY p m ss ↔ q.1 ∈ ss ∧ q.2 = (CF p m q.1).1 ∧ Ei p q.2 = true := by
 unfold QY
 rw [List.mem_filterMap]
 constructor
 ·rintro ⟨s, h1, h2⟩
  split at h2
  ·rename_i h3; cases h2; exact ⟨h1, rfl, h3⟩
  ·cases h2
 ·rintro ⟨h1, h2, h3⟩
  refine ⟨q.1, h1, ?_⟩
  rw [← h2, if_pos h3]
theorem Mb {p : Ag} {m : Ae} {q : Ak × Ae} : q ∈ Ld p m ↔ q.1 ∈ FR p m ∧ q.2 = (CF p m q.1).1 ∧ Ei p q.2 = true := TL
theorem R0 {p : Ag} {m : Ae} (hp : Cc p) (hm : Dn p m) {q : Ak × Ae} (h : q ∈ Ld p m) : Dn p q.2 ∧ Ei p q.2 = true := by
 obtain ⟨h1, h2, h3⟩ := Mb.1 h
 exact ⟨by rw [h2]; exact IS hp hm (JM h1).2, h3⟩
theorem Pp {p : Ag} {m : Ae} {s : Ak} {ss : List Ak} : QY p m (s :: ss) = if Ei p (CF p m s).1 = true then (s, (CF p m s).1) :: QY p m ss else QY p m ss := by
 unfold QY
 rw [List.filterMap_cons]
 split <;> rename_i h
 ·split at h
  ·cases h
  ·rename_i h2; rw [if_neg h2]
 ·split at h
  ·rename_i h2; cases h; rw [if_pos h2]
  ·cases h
theorem KU (N : Nat) (hN : N ≤ 1000000) (h20 : 100 ≤ N) {p : Ag} {m : Ae} (hp : Cc p) (hm : Dn p m) {s : Ak} (hs : s ∈ FR p m) : ∃ b, Ci N p m s = some ((CF p m s).1, b) := by
 obtain ⟨h1, h2⟩ := JM hs
 obtain ⟨h3, h4⟩ := NP hp h1
 rw [Lg N hN h20 hp hm h3 h4]
 unfold CF at h2 ⊢
 rw [h3, h4, if_neg (by simp), if_neg (by simp)] at h2 ⊢
 cases h : FJ p m s with
 | none => rw [h] at h2; cases h2
 | some x => exact ⟨true, rfl⟩
end Go.Lift

/- The region of a mix: the reference's whole list. -/
namespace Go.Lift
open Go
end Go.Lift

/- The region of a mix: the program's list of nodes is the same. -/
namespace Go.Lift
open Go
end Go.Lift

/- Ways to goals: From and Find, both implementations. -/
namespace Go.Lift
open Go
end Go.Lift

/- The laws PlanFind, PlanFrom, PlanShortest. -/
namespace Go.Lift
open Go
end Go.Lift

/- The law PlanRest. -/
namespace Go.Lift
open Go
end Go.Lift

/- The blocks of mixes, both implementations. -/
namespace Go.Lift
open Go
end Go.Lift

/- The nearest mix, both implementations. -/
namespace Go.Lift
open Go
end Go.Lift

/- Runs, plays and walks, both implementations. -/
namespace Go.Lift
open Go
theorem Oz : Ev 1000 = some true := by kernel_rfl
def IC (p : Ag) : Nat → Ae → List Ae → List Ak → List Ae × Int × Int
 | i, _, acc, [] => (acc, (i : Int), 0)
 | i, m, acc, s :: ss => if (CF p m s).2 ≠ 0 then ([], (i : Int), (CF p m s).2) else IC p (i + 1) (CF p m s).1 (acc ++ [(CF p m s).1]) ss
theorem Pn (N : Nat) (hN : N ≤ 1000000) (h20 : 100 ≤ N) {p : Ag} (hv : Cx p = 0) (l : List Ak) (hl : l.length ≤ 1000) : ∀ (n i : Nat) (m : Ae) (acc : List Ae), i ≤ l.length → l.length - i < n → Dn p m → acc.length = i + 1 → acc[i]? = some m →
  Fj N p l (fun v5 => some (v5, (l.length : Int), 0)) n (acc, (i : Int)) = some (IC p i m acc (l.drop i))
 | 0, i, _, _, _, h, _, _, _ => by omega
 | n + 1, i, m, acc, hi, h, hm, ha, hg => by
  obtain ⟨hp, _⟩ := CV hv
  rw [Fj]
  by_cases h1 : i < l.length
  ·have hx : l[i]? = some l[i] := by simp [h1]
   rw [AU (by first | omega | (simp only; omega)), Hu hx, IC]
   simp only [Bw, hx, hg, Option.bind_some]
   rw [Kb N hN h20 hp hm]
   simp only [Option.bind_some]
   by_cases h2 : (CF p m l[i]).2 = 0
   ·rw [h2, if_neg (by simp), bne_self_eq_false, Ay, AA (by simp [D3]; omega), AT (by omega)]
    exact Pn N hN h20 hv l hl n (i + 1) (CF p m l[i]).1 (acc ++ [(CF p m l[i]).1]) (by omega) (by omega) (IS hp hm h2) (by simp [ha]) (by rw [← ha]; simp)
   ·rw [if_pos h2, bne_iff_ne.2 h2, AV]
  ·rw [AQ (by first | omega | (simp only; omega)), List.drop_eq_nil_of_le (by omega), IC, show i = l.length by omega]
theorem Oc (N : Nat) (hN : N ≤ 1000000) (h20 : 100 ≤ N) {p : Ag} {m : Ae} (hv : Cx p = 0) (hm : Dn p m) (l : List Ak) (hl : l.length ≤ 60) :
  HG N p m l = some (IC p 0 m [m] l) := by
 obtain ⟨hp, _⟩ := CV hv
 unfold HG
 rw [H0 N p m hN (by omega) (Nc hm), Ih hv hm]
 simp only [Option.bind_some, bne_self_eq_false, Ay]
 rw [NQ N hp hm]
 exact Pn N hN h20 hv l (by omega) N 0 m [m] (Nat.zero_le _) (by omega) hm rfl rfl
theorem Qs {p : Ag} (hp : Cc p) : ∀ (ss : List Ak) (i : Nat) (m : Ae) (acc : List Ae), Dn p m → (∀ x, x ∈ acc → Dn p x) → acc.length = i + 1 →
  (IC p i m acc ss).2.2 ≠ 0 ∨ ((IC p i m acc ss).2.2 = 0 ∧ (IC p i m acc ss).2.1 = ((i + ss.length : Nat) : Int) ∧ (IC p i m acc ss).1.length = i + ss.length + 1 ∧ ∀ x, x ∈ (IC p i m acc ss).1 → Dn p x)
 | [], i, m, acc, hm, ha, hl => .inr ⟨rfl, rfl, by simpa [IC] using hl, ha⟩
 | s :: ss, i, m, acc, hm, ha, hl => by
  rw [IC]
  by_cases h : (CF p m s).2 = 0
  ·rw [if_neg (by simp [h])]
   have hk := IS hp hm h
   have := Qs hp ss (i + 1) _ (acc ++ [(CF p m s).1]) hk (fun x hx => by
    rcases List.mem_append.1 hx with hx | hx
    ·exact ha x hx
    ·rw [List.mem_singleton.1 hx]; exact hk) (by simp [hl])
   rw [show i + (s :: ss).length = i + 1 + ss.length from by simp; omega]
   exact this
  ·rw [if_pos h]; exact .inl h
theorem Oh (N : Nat) (hN : N ≤ 1000000) (h20 : 100 ≤ N) {p : Ag} (hv : Cx p = 0) (l : List Ak) (hl : l.length ≤ 60) : Ge N p l = some (IC p 0 (Dy p) [Dy p] l) := by
 unfold Ge
 rw [Lh N p hN h20, if_pos hv, hv]
 simp only [Option.bind_some, bne_self_eq_false, Ay]
 rw [Oc N hN h20 hv (Li hv) l hl]; rfl
theorem Lw (N : Nat) (hN : N ≤ 1000000) (h20 : 100 ≤ N) {p : Ag} (hv : Cx p = 0) {m : Ae} (hm : Dn p m) (l : List Ak) (hl : l.length ≤ 54) (hs : ∀ s, s ∈ l → s ∈ FR p m) (e : Int) : ∀ (n i : Nat) (a : List Ak) (b : List Ae), i ≤ l.length → l.length - i < n → a.length ≤ i → b.length ≤ i →
  EK N p m (l, e) (fun v3 => some (v3.1, v3.2)) n (a, b, (i : Int)) = some (a ++ (QY p m (l.drop i)).map (·.1), b ++ (QY p m (l.drop i)).map (·.2))
 | 0, i, _, _, _, h, _, _ => by omega
 | n + 1, i, a, b, hi, h, ha, hb => by
  obtain ⟨hp, _⟩ := CV hv
  rw [EK]
  by_cases h1 : i < l.length
  ·have hx : l[i]? = some l[i] := by simp [h1]
   have hmem := hs _ (List.mem_of_getElem? hx)
   have h0 := (JM hmem).2
   have hk := IS hp hm h0
   rw [AU (by first | omega | (simp only; omega)), Hu hx, Pp]
   simp only [Bl, Bw, hx, Option.bind_some]
   rw [Nt N hN h20 (Nc hm), Ih hv hm, if_pos rfl]
   simp only [Option.bind_some]
   rw [h0, bne_self_eq_false, Ay, II N p _ hN h20 (Nc hk) (Ih hv hk)]
   simp only [Option.bind_some]
   cases hr : Ei p (CF p m l[i]).1
   ·rw [Ay, if_neg (by simp), AT (by omega)]
    exact Lw N hN h20 hv hm l hl hs e n (i + 1) a b (by omega) (by omega) (by omega) (by omega)
   ·rw [AV, if_pos rfl, AA (by simp [D3]; omega), AA (by simp [D3]; omega), AT (by omega)]
    rw [Lw N hN h20 hv hm l hl hs e n (i + 1) _ _ (by omega) (by omega) (by simp; omega) (by simp; omega)]
    simp
  ·rw [AQ (by first | omega | (simp only; omega)), List.drop_eq_nil_of_le (by omega)]
   simp [QY]
theorem Tw (N : Nat) (hN : N ≤ 1000000) (h20 : 100 ≤ N) {p : Ag} (hv : Cx p = 0) {m : Ae} (hm : Dn p m) : FE N p m = some ((Ld p m).map (·.1), (Ld p m).map (·.2)) := by
 obtain ⟨hp, _⟩ := CV hv
 unfold FE
 rw [Qh N hN h20 hv hm]
 simp only [Option.bind_some]
 have hl : (FR p m).length ≤ 54 := Nat.le_trans (List.length_filter_le _ _) (Mc hp)
 have := Lw N hN h20 hv hm (FR p m) hl (fun _ h => h) 0 N 0 [] [] (Nat.zero_le _) (by omega) (Nat.le_refl _) (Nat.le_refl _)
 simpa [Ld] using this
theorem Kp (N : Nat) (hN : N ≤ 1000000) (h20 : 100 ≤ N) {p : Ag} (hv : Cx p = 0) {m : Ae} (hm : Dn p m) (l : List Ak) (hl : l.length ≤ 54) (hs : ∀ s, s ∈ l → s ∈ FR p m) : ∀ (n i : Nat) (a : List Ak), i ≤ l.length → l.length - i < n → a.length ≤ i →
  Da N p m l (fun v3 => some v3) n (a, (i : Int)) = some (a ++ (QY p m (l.drop i)).map (·.1))
 | 0, i, _, _, h, _ => by omega
 | n + 1, i, a, hi, h, ha => by
  obtain ⟨hp, _⟩ := CV hv
  rw [Da]
  by_cases h1 : i < l.length
  ·have hx : l[i]? = some l[i] := by simp [h1]
   have hmem := hs _ (List.mem_of_getElem? hx)
   have h0 := (JM hmem).2
   have hk := IS hp hm h0
   rw [AU (by first | omega | (simp only; omega)), Hu hx, Pp]
   simp only [Bl, Bw, hx, Option.bind_some]
   obtain ⟨b, e⟩ := KU N hN h20 hp hm hmem
   rw [e]
   simp only [Option.bind_some]
   rw [ID N p _ hN h20 hp hk]
   simp only [Option.bind_some]
   cases hr : Ei p (CF p m l[i]).1
   ·rw [Ay, if_neg (by simp), AT (by omega)]
    exact Kp N hN h20 hv hm l hl hs n (i + 1) a (by omega) (by omega) (by omega)
   ·rw [AV, if_pos rfl, AA (by simp [D3]; omega), AT (by omega)]
    rw [Kp N hN h20 hv hm l hl hs n (i + 1) _ (by omega) (by omega) (by simp; omega)]
    simp
  ·rw [AQ (by first | omega | (simp only; omega)), List.drop_eq_nil_of_le (by omega)]
   simp [QY]
theorem R4 (N : Nat) (hN : N ≤ 1000000) (h20 : 100 ≤ N) {p : Ag} (hv : Cx p = 0) {m : Ae} (hm : Dn p m) : EC N p m = some ((Ld p m).map (·.1)) := by
 obtain ⟨hp, _⟩ := CV hv
 unfold EC
 rw [OW N hN h20 hv hm]
 simp only [Option.bind_some]
 have hl : (FR p m).length ≤ 54 := Nat.le_trans (List.length_filter_le _ _) (Mc hp)
 have := Kp N hN h20 hv hm (FR p m) hl (fun _ h => h) N 0 [] (Nat.zero_le _) (by omega) (Nat.le_refl _)
 simpa [Ld] using this
def IP (p : Ag) : Ae → List Int → List Ak
 | _, [] => []
 | m, c :: cs => match (Ld p m)[c.toNat % (Ld p m).length]? with
  | none => []
  | some q => q.1 :: IP p q.2 cs
theorem TE {p : Ag} (hp : Cc p) (m : Ae) : (Ld p m).length ≤ 54 := by
 unfold Ld QY
 exact Nat.le_trans (List.length_filterMap_le _ _) (Nat.le_trans (List.length_filter_le _ _) (Mc hp))
theorem PV {p : Ag} : ∀ (cs : List Int) (m : Ae), (IP p m cs).length ≤ cs.length
 | [], _ => Nat.le_refl _
 | c :: cs, m => by
  rw [IP]
  split
  ·simp
  ·simpa using PV cs _
theorem Sk {c : Int} {k : Nat} (h0 : 0 ≤ c) (h1 : c ≤ 255) (hk : k ≤ 54) : Int.tmod (IntKind.wrap .i64 c) (k : Int) = ((c.toNat % k : Nat) : Int) := by
 obtain ⟨q, rfl⟩ : ∃ q : Nat, c = (q : Int) := ⟨c.toNat, by omega⟩
 rw [Ey (by omega) (by omega)]
 rfl
theorem N8 (N : Nat) (hN : N ≤ 1000000) (h20 : 100 ≤ N) {p : Ag} (hv : Cx p = 0) (l : List Int) (hl : l.length ≤ 50) (hb : ∀ c, c ∈ l → 0 ≤ c ∧ c ≤ 255) : ∀ (n i : Nat) (m : Ae) (a : List Ak), i ≤ l.length → l.length - i < n → a.length ≤ i → Dn p m →
  EH N p l (fun v6 => some (v6, 0)) n (m.fBase, m.fNext, m.fHeld, a, (i : Int)) = some (a ++ IP p m (l.drop i), 0) ∧
  Dc N p l (fun v6 => some (v6, 0)) n (m.fBase, m.fNext, m.fHeld, a, (i : Int)) = some (a ++ IP p m (l.drop i), 0)
 | 0, i, _, _, _, h, _, _ => by omega
 | n + 1, i, m, a, hi, h, ha, hm => by
  obtain ⟨hp, _⟩ := CV hv
  rw [EH, Dc]
  by_cases h1 : i < l.length
  ·have hx : l[i]? = some l[i] := by simp [h1]
   rw [AU (by first | omega | (simp only; omega)), AU (by first | omega | (simp only; omega)), Hu hx, IP]
   have e1 : (Ae.mk m.fBase m.fNext m.fHeld) = m := rfl
   simp only [Bw, hx, Option.bind_some, e1]
   rw [Tw N hN h20 hv hm, R4 N hN h20 hv hm]
   simp only [Option.bind_some, List.length_map]
   have hnl := TE hp m
   have hq : ∀ q, q ∈ Ld p m → Dn p q.2 := fun q hq => (R0 hp hm hq).1
   have hs : ∀ q, q ∈ Ld p m → q.1 ∈ FR p m ∧ q.2 = (CF p m q.1).1 := fun q hq => ⟨(Mb.1 hq).1, (Mb.1 hq).2.1⟩
   generalize Ld p m = ns at hnl hq hs ⊢
   by_cases h0 : ns.length = 0
   ·have : ns = [] := List.eq_nil_of_length_eq_zero h0
    subst this
    exact ⟨by simp [AW], by simp [AW]⟩
   ·rw [show ((ns.length : Int) == 0) = false from beq_eq_false_iff_ne.2 (by omega), Ay, Ay]
    obtain ⟨b0, b1⟩ := hb l[i] (List.getElem_mem h1)
    rw [AA (by omega), AA (by omega), Sk b0 b1 hnl]
    have hj : l[i].toNat % ns.length < ns.length := Nat.mod_lt _ (by omega)
    generalize l[i].toNat % ns.length = j at hj
    have hy : ns[j]? = some ns[j] := by simp [hj]
    have hys := List.mem_of_getElem? hy
    simp only [Bw, List.getElem?_map, hy, Option.map_some, Option.bind_some]
    obtain ⟨b, e⟩ := KU N hN h20 hp hm (hs _ hys).1
    rw [e]
    simp only [Option.bind_some]
    rw [AA (by simp [D3]; omega), AA (by simp [D3]; omega), AT (by omega), ← (hs _ hys).2]
    have := N8 N hN h20 hv l hl hb n (i + 1) ns[j].2 (a ++ [ns[j].1]) (by omega) (by omega) (by simp; omega) (hq _ hys)
    rw [List.append_assoc] at this
    exact this
  ·rw [AQ (by first | omega | (simp only; omega)), AQ (by first | omega | (simp only; omega)), List.drop_eq_nil_of_le (by omega)]
   simp [IP]
theorem OY {p : Ag} (hp : Cc p) : ∀ (cs : List Int) (i : Nat) (m : Ae) (acc : List Ae), Dn p m → (∀ x, x ∈ acc → Dn p x ∧ Ei p x = true) →
  (IC p i m acc (IP p m cs)).2.2 = 0 ∧ ∀ x, x ∈ (IC p i m acc (IP p m cs)).1 → Dn p x ∧ Ei p x = true
 | [], i, m, acc, hm, ha => ⟨rfl, ha⟩
 | c :: cs, i, m, acc, hm, ha => by
  rw [IP]
  split
  ·exact ⟨rfl, ha⟩
  ·rename_i q hq
   have hmem := List.mem_of_getElem? hq
   obtain ⟨h1, h2, h3⟩ := Mb.1 hmem
   rw [IC, if_neg (by simp [(JM h1).2]), ← h2]
   have hk := (R0 hp hm hmem).1
   exact OY hp cs (i + 1) q.2 _ hk fun x hx => by
    rcases List.mem_append.1 hx with hx | hx
    ·exact ha x hx
    ·rw [List.mem_singleton.1 hx]; exact ⟨hk, h3⟩
theorem NA (N : Nat) (hN : N ≤ 1000000) (h20 : 100 ≤ N) {p : Ag} (hv : Cx p = 0) (l : List Ae) (hl : l.length ≤ 100) (hm : ∀ x, x ∈ l → Dn p x) (e : Int × Int) : ∀ (n i : Nat), i ≤ l.length → l.length - i < n →
  EI N p (l, e) (fun _ => some (true, 0)) n (i : Int) = some ((l.drop i).all (Ei p), 0)
 | 0, i, _, h => by omega
 | n + 1, i, hi, h => by
  obtain ⟨hp, _⟩ := CV hv
  rw [EI]
  by_cases h1 : i < l.length
  ·have hx : l[i]? = some l[i] := by simp [h1]
   have hk := hm _ (List.mem_of_getElem? hx)
   rw [AU (by first | omega | (simp only; omega)), Hu hx]
   simp only [Bl, Bw, hx, Option.bind_some]
   rw [II N p _ hN h20 (Nc hk) (Ih hv hk)]
   simp only [Option.bind_some, bne_self_eq_false, Ay, List.all_cons]
   cases hr : Ei p l[i]
   ·rfl
   ·rw [Bool.not_true, Ay, AT (by omega), NA N hN h20 hv l hl hm e n (i + 1) (by omega) (by omega)]; rfl
  ·rw [AQ (by first | omega | (simp only; omega)), List.drop_eq_nil_of_le (by omega)]; rfl
theorem Qv (N : Nat) (hN : N ≤ 1000000) (h20 : 100 ≤ N) {p : Ag} (hv : Cx p = 0) (l : List Ak) (hl : l.length ≤ 60) (h0 : (IC p 0 (Dy p) [Dy p] l).2.2 = 0) : FF N p l = some ((IC p 0 (Dy p) [Dy p] l).1.all (Ei p), 0) := by
 obtain ⟨hp, _⟩ := CV hv
 unfold FF
 rw [Oh N hN h20 hv l hl]
 have hs := Li hv
 have hR := Qs hp l 0 (Dy p) [Dy p] hs (fun x hx => by rw [List.mem_singleton.1 hx]; exact hs) rfl
 obtain ⟨_, _, h2, h3⟩ := hR.resolve_left (by simp [h0])
 simp only [Option.bind_some]
 rw [h0, bne_self_eq_false, Ay]
 generalize IC p 0 (Dy p) [Dy p] l = r at h2 h3
 have := NA N hN h20 hv r.1 (by omega) h3 r.2 N 0 (Nat.zero_le _) (by omega)
 simpa using this
theorem Te (N : Nat) (hN : N ≤ 1000000) (h20 : 100 ≤ N) {p : Ag} (hv : Cx p = 0) (l : List Int) (hl : l.length ≤ 50) (hb : ∀ c, c ∈ l → 0 ≤ c ∧ c ≤ 255) :
  FB N p l = some (if Ei p (Dy p) = true then IP p (Dy p) l else [], 0) ∧ Ez N p l = some (if Ei p (Dy p) = true then IP p (Dy p) l else [], 0) := by
 obtain ⟨hp, _⟩ := CV hv
 have hs := Li hv
 unfold FB Ez zFS
 rw [Lh N p hN h20, K4 N p hN h20, if_pos hv, hv]
 simp only [Option.bind_some, bne_self_eq_false, Ay, Bl]
 rw [II N p _ hN h20 (Nc hs) (Ih hv hs), ID N p _ hN h20 hp hs]
 simp only [Option.bind_some, bne_self_eq_false, Ay]
 cases hr : Ei p (Dy p)
 ·exact ⟨rfl, rfl⟩
 ·simp only [Bool.not_true, Ay, if_true]
  have := N8 N hN h20 hv l hl hb N 0 (Dy p) [] (Nat.zero_le _) (by omega) (Nat.le_refl _) hs
  simpa using this
theorem L3 (d : CI) (l : List Int) (wd : FL d) (wl : NV KC l) : Dz 1000 d l = some true := by
 obtain ⟨p, ok, e, hok⟩ := W0 1000 d (by omega) (by omega) wd
 unfold Dz
 rw [e]
 simp only [Option.bind_some, Bl, Oz, Bool.not_true, Ay]
 cases ok
 ·rfl
 simp only [Bool.not_true, Ay]
 by_cases h6 : (10 : Int) < (l.length : Int)
 ·rw [decide_eq_true h6, AV]
 rw [decide_eq_false h6, Ay]
 have hv := (hok rfl).valid
 obtain ⟨hp, _⟩ := CV hv
 have hs := Li hv
 have hc : Dh 1000 l = some l := by
  unfold Dh
  rw [AA (by simp [D3]; omega)]; rfl
 rw [hc]
 obtain ⟨a1, a2⟩ := Te 1000 (by omega) (by omega) hv l (by omega) (fun c hc => by
  have := wl c hc
  simp [KC, Lit.wf, IntKind.min, IntKind.max, IntKind.signed, IntKind.bits] at this
  omega)
 simp only [Option.bind_some, a1, a2]
 rw [K4 1000 p (by omega) (by omega), if_pos hv]
 simp only [Option.bind_some, bne_self_eq_false, Ay]
 rw [ID 1000 p _ (by omega) (by omega) hp hs]
 have hwl := PV (p := p) l (Dy p)
 cases hr : Ei p (Dy p)
 ·simp only [Bool.false_eq_true, if_false]
  rw [LM 1000 [] (by omega) (by simp), Qv 1000 (by omega) (by omega) hv [] (by simp) rfl]
  simp [IC, hr, AW]
 ·simp only [if_true]
  obtain ⟨w1, w2⟩ := OY hp l 0 (Dy p) [Dy p] hs (fun x hx => by rw [List.mem_singleton.1 hx]; exact ⟨hs, hr⟩)
  rw [LM 1000 _ (by omega) (by omega), Qv 1000 (by omega) (by omega) hv _ (by omega) w1]
  have : (IC p 0 (Dy p) [Dy p] (IP p (Dy p) l)).1.all (Ei p) = true := List.all_eq_true.2 fun x hx => (w2 x hx).2
  rw [this]; rfl
end Go.Lift

/- The errors of an invalid problem. -/
namespace Go.Lift
open Go
end Go.Lift

/- The versions that run, both implementations. -/
namespace Go.Lift
open Go
end Go.Lift

