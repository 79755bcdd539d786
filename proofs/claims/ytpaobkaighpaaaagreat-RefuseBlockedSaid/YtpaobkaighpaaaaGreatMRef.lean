/- Lemmas for RefuseBlockedSaid, which YtpaobkaighpaaaaGreatFinR4 proves. -/
import Derived.Test.YtpaobkaighpaaaaGreatDec
import Derived.KernelRfl
/- Plain words of the shallow programs. -/
namespace Go.Lift
theorem BU {α : Type} (xs : List α) (i : Nat) : Ba xs (i : Int) = xs[i]? := by
 unfold Ba; simp
theorem EV {n : Int} (h0 : -9223372036854775808 ≤ n) (h1 : n ≤ 9223372036854775807) : IntKind.wrap .i64 n = n := by
 simp [IntKind.wrap, IntKind.signed, IntKind.bits]; omega
theorem A8 {i : Nat} (h : i < 1000000) : IntKind.wrap .i64 ((i : Int) + 1) = ((i + 1 : Nat) : Int) := by
 rw [EV (by omega) (by omega)]; simp
@[simp] theorem A6 {α : Type} {a b : Option α} : AR true a b = a := rfl
@[simp] theorem AE {α : Type} {a b : Option α} : AR false a b = b := rfl
theorem A1 {α : Type} {p : Prop} [Decidable p] {a b : Option α} (h : p) : AR (decide p) a b = a := by simp [h]
theorem AY {α : Type} {p : Prop} [Decidable p] {a b : Option α} (h : ¬ p) : AR (decide p) a b = b := by simp [h]
def Jv : List Int → List Int → Int
 | [], [] => 0
 | [], _ :: _ => -1
 | _ :: _, [] => 1
 | a :: as1, b :: bs => if a < b then -1 else if b < a then 1 else Jv as1 bs
theorem KF {α : Type} {xs : List α} {i : Nat} {x : α} (h : xs[i]? = some x) : xs.drop i = x :: xs.drop (i + 1) := by
 obtain ⟨hi, rfl⟩ := List.getElem?_eq_some_iff.1 h
 exact List.drop_eq_getElem_cons hi
theorem Ss (N : Nat) (a b : List Int) (hb : a.length < 1000000) : ∀ (n i : Nat), i ≤ a.length → i ≤ b.length → a.length - i < n →
  Ej N a b (fun _ => AR (decide ((a.length : Int) < (b.length : Int))) (some (-1)) (AR (decide ((b.length : Int) < (a.length : Int))) (some 1) (some 0))) n (i : Int) = some (Jv (a.drop i) (b.drop i))
 | 0, i, _, _, h => by omega
 | n + 1, i, hi, hj, h => by
  unfold Ej
  simp only [Bf]
  by_cases h1 : i < a.length
  ·rw [A1 (p := (i : Int) < (a.length : Int)) (by omega)]
   have ha : a[i]? = some a[i] := by simp [h1]
   rw [KF ha]
   by_cases h2 : i < b.length
   ·have hbb : b[i]? = some b[i] := by simp [h2]
    rw [show decide ((i : Int) < (b.length : Int)) = true from decide_eq_true (by omega), A6, BU, BU, ha, hbb, KF hbb]
    simp only [Option.bind_some, Jv]
    rw [A8 (by omega), Ss N a b hb n (i + 1) (by omega) (by omega) (by omega)]
    by_cases h3 : a[i] < b[i]
    ·simp [h3]
    ·by_cases h4 : b[i] < a[i]
     ·simp [h3, h4]
     ·simp [h3, h4]
   ·rw [show decide ((i : Int) < (b.length : Int)) = false from decide_eq_false (by omega), AE, AY (by omega), A1 (by omega), List.drop_eq_nil_of_le (by omega : b.length ≤ i)]
    simp [Jv]
  ·rw [AY (p := (i : Int) < (a.length : Int)) (by omega), AE, List.drop_eq_nil_of_le (by omega : a.length ≤ i)]
   by_cases h2 : a.length < b.length
   ·rw [A1 (by omega)]
    have hbb : b[i]? = some b[i] := by simp [show i < b.length from by omega]
    rw [KF hbb]; simp [Jv]
   ·rw [AY (by omega), AY (by omega), List.drop_eq_nil_of_le (by omega : b.length ≤ i)]
    simp [Jv]
theorem OZ {N : Nat} {a b : List Int} (h : a.length < N) (hN : N ≤ 1000000) : En N a b = some (Jv a b) := by
 have := Ss N a b (by omega) N 0 (by omega) (by omega) (by omega)
 simpa [En] using this
end Go.Lift

/- MixCompare: the order on mixes. -/
namespace Go.Lift
theorem PM : ∀ a : List Int, Jv a a = 0
 | [] => rfl
 | a :: as1 => by simp [Jv, PM as1]
theorem Oa : ∀ a b : List Int, Jv a b = 0 → a = b
 | [], [], _ => rfl
 | [], _ :: _, h => by simp [Jv] at h
 | _ :: _, [], h => by simp [Jv] at h
 | a :: as1, b :: bs, h => by
  unfold Jv at h
  split at h
  ·omega
  ·split at h
   ·omega
   ·rw [Oa as1 bs h, show a = b from by omega]
def W8 : List Int → Int
 | [] => 0
 | x :: xs => if x = 0 then W8 xs else x
theorem Xs (N : Nat) (a : List Int) (hb : a.length < 1000000) (hw : Ml KO a) : ∀ (n i : Nat), i ≤ a.length → a.length - i < n →
  DJ N a (fun v => some v) n (a.take i, (i : Int)) = some a
 | 0, i, _, h => by omega
 | n + 1, i, hi, h => by
  unfold DJ
  by_cases h1 : i < a.length
  ·have ha : a[i]? = some a[i] := by simp [h1]
   rw [A1 (by simpa using h1)]
   simp only
   rw [BU, ha]
   have hr : IntKind.wrap .i64 a[i] = a[i] := by
    have := hw a[i] (List.getElem_mem h1)
    unfold KO at this
    have h2 : 0 ≤ a[i] ∧ a[i] ≤ 255 := by simpa [Lit.wf, IntKind.min, IntKind.max, IntKind.signed, IntKind.bits] using this
    exact EV (by omega) (by omega)
   simp only [Option.bind_some, hr]
   have hlen : (a.take i).length + ([a[i]] : List Int).length ≤ E8 := by
    simp [E8]; omega
   rw [show E7 ((a.take i).length + ([a[i]] : List Int).length ≤ E8) = some () from by unfold E7; rw [if_pos hlen]]
   simp only [Option.bind_some]
   rw [A8 (by omega), show a.take i ++ [a[i]] = a.take (i + 1) from by rw [List.take_add_one, ha]; rfl]
   exact Xs N a hb hw n (i + 1) (by omega) (by omega)
  ·rw [AY (by simpa using h1)]
   simp only
   rw [List.take_of_length_le (by omega)]
theorem NV {N : Nat} {a : List Int} (h : a.length < N) (hN : N ≤ 1000000) (hw : Ml KO a) : Ed N a = some a := by
 have := Xs N a (by omega) hw N 0 (by omega) (by omega)
 simpa [Ed] using this
def ZN (a : Ag) : Prop := a.fBase.length ≤ 8 ∧ a.fNext.length ≤ 8 ∧ a.fHeld.length ≤ 14
def Tr (a b : Ag) : Int := W8 [Jv a.fBase b.fBase, Jv a.fNext b.fNext, Jv a.fHeld b.fHeld]
theorem PI (a : Ag) : Tr a a = 0 := by unfold Tr; simp [PM, W8]
end Go.Lift

/- The law MixCompare in plain words. -/
namespace Go.Lift
end Go.Lift

/- Search loops in plain words; the two tests of a problem give the same answer. -/
namespace Go.Lift
def ES {α R : Type} (f : Nat → α → Option R) : Nat → List α → Option R
 | _, [] => none
 | i, x :: xs => match f i x with
  | some r => some r
  | none => ES f (i + 1) xs
theorem Im {α R : Type} (f : Nat → α → Option R) (i : Nat) (x : α) (xs : List α) : ES f i (x :: xs) = match f i x with
  | some r => some r
  | none => ES f (i + 1) xs := rfl
def Cq {R : Type} (a : Option R) (b : Option R) : Option R := match a with
 | some r => some r
 | none => b
theorem Ee {α R : Type} (L : Nat → Int → Option R) (xs : List α) (j : Option R) (f : Nat → α → Option R)
  (hs : ∀ (n i : Nat) (x : α), xs[i]? = some x → L (n + 1) (i : Int) = Cq (f i x) (L n ((i + 1 : Nat) : Int))) (he : ∀ n : Nat, L (n + 1) (xs.length : Int) = j) :
  ∀ n i : Nat, i ≤ xs.length → xs.length - i < n → L n (i : Int) = Cq (ES f i (xs.drop i)) j
 | 0, i, _, h => by omega
 | n + 1, i, hi, h => by
  by_cases h1 : i < xs.length
  ·have hx : xs[i]? = some xs[i] := by simp [h1]
   rw [hs n i _ hx, KF hx, Ee L xs j f hs he n (i + 1) (by omega) (by omega)]
   rw [Im]
   cases f i xs[i] <;> rfl
  ·have : i = xs.length := by omega
   subst this
   rw [he n, List.drop_eq_nil_of_le (Nat.le_refl _)]
   rfl
theorem PK (N : Nat) (k n : Int) : E3 N k n = some (decide (0 ≤ k) && decide (k < n)) := by
 unfold E3
 simp only [Bf]
 by_cases h : 0 ≤ k
 ·rw [A1 h]; simp [h]
 ·rw [AY h]; simp [h]
theorem Nu (N : Nat) (t : AO) : Bn N t = some (t.fKind == 3 || t.fKind == 4) := by
 unfold Bn
 simp only [Bf]
 cases h : t.fKind == 3 <;> simp
def sq (l : List (List Bool)) (n m : Int) : Bool := decide ((l.length : Int) = n) && l.all fun r => decide ((r.length : Int) = m)
theorem Oy {α : Type} (p : α → Bool) {R : Type} (r : Nat → R) : ∀ (i : Nat) (xs : List α), (ES (fun i x => if p x then none else some (r i)) i xs).isNone = xs.all p
 | i, [] => rfl
 | i, x :: xs => by
  unfold ES
  cases h : p x <;> simp [h, Oy p r (i + 1) xs]
theorem Pt (N : Nat) (l : List (List Bool)) (n m : Int) (h : n < (N : Int)) (hN : N ≤ 1000000) : Ey N l n m = some (sq l n m) := by
 unfold Ey sq
 by_cases h1 : (l.length : Int) = n
 ·subst h1
  simp only [bne_self_eq_false, AE, decide_true, Bool.true_and]
  have := Ee (Df N l (l.length : Int) m (fun _ => some true)) l (some true) (fun _ r => if decide ((r.length : Int) = m) then none else some false)
   (fun n i x hx => by
    have hi := (List.getElem?_eq_some_iff.1 hx).1
    rw [Df, A1 (by omega), BU, hx]
    simp only [Option.bind_some]
    rw [A8 (by omega)]
    by_cases h2 : (x.length : Int) = m
    ·simp [h2, Cq]
    ·have : ((x.length : Int) != m) = true := by simpa using h2
     simp [h2, this, Cq])
   (fun n => by rw [Df, AY (by omega)]) N 0 (by omega) (by omega)
  simp only [Int.ofNat_zero, List.drop_zero] at this
  rw [this]
  have h3 := Oy (fun r : List Bool => decide ((r.length : Int) = m)) (fun _ => false) 0 l
  cases hsc : ES (fun (_ : Nat) (r : List Bool) => if decide ((r.length : Int) = m) = true then none else some false) 0 l with
  | none => rw [hsc] at h3; rw [← h3]; rfl
  | some b =>
   rw [hsc] at h3
   rw [← h3]
   have : ∀ (i : Nat) (xs : List (List Bool)) b, ES (fun (_ : Nat) (r : List Bool) => if decide ((r.length : Int) = m) = true then none else some false) i xs = some b → b = false := by
    intro i xs
    induction xs generalizing i with
    | nil => intro b hb; cases hb
    | cons x xs ih =>
     intro b hb
     unfold ES at hb
     split at hb
     ·rename_i r hr; cases hb; split at hr <;> simp at hr; exact hr
     ·exact ih _ b hb
   rw [this 0 l b hsc]; rfl
 ·have : ((l.length : Int) != n) = true := by simpa using h1
  simp [this, h1]
end Go.Lift

/- The tests of a table and of a problem: both implementations give one answer. -/
namespace Go.Lift
theorem Pu (N : Nat) (l : List (List Bool)) (n m : Int) (h : n < (N : Int)) (hN : N ≤ 1000000) : Ga N l n m = some (sq l n m) := by
 unfold Ga sq
 simp only [Bf]
 by_cases h1 : (l.length : Int) = n
 ·subst h1
  simp only [beq_self_eq_true, A6, decide_true, Bool.true_and]
  have := Ee (BG N l (fun x => E0 N x m) (fun _ => some (-1))) l (some (-1)) (fun i r => if decide ((r.length : Int) = m) then none else some (i : Int))
   (fun n i x hx => by
    have hi := (List.getElem?_eq_some_iff.1 hx).1
    rw [BG, A1 (by omega), BU, hx]
    simp only [Option.bind_some, E0]
    rw [A8 (by omega)]
    by_cases h2 : (x.length : Int) = m
    ·simp [h2, Cq]
    ·have : ((x.length : Int) != m) = true := by simpa using h2
     simp [h2, this, Cq])
   (fun n => by rw [BG, AY (by omega)]) N 0 (by omega) (by omega)
  simp only [Int.ofNat_zero, List.drop_zero] at this
  unfold DT Es
  rw [this]
  have h3 := Oy (fun r : List Bool => decide ((r.length : Int) = m)) (fun i : Nat => (i : Int)) 0 l
  cases hsc : ES (fun (i : Nat) (r : List Bool) => if decide ((r.length : Int) = m) = true then none else some (i : Int)) 0 l with
  | none => rw [hsc] at h3; rw [← h3]; rfl
  | some b =>
   rw [hsc] at h3
   rw [← h3]
   have : ∀ (i : Nat) (xs : List (List Bool)) b, ES (fun (i : Nat) (r : List Bool) => if decide ((r.length : Int) = m) = true then none else some (i : Int)) i xs = some b → 0 ≤ b := by
    intro i xs
    induction xs generalizing i with
    | nil => intro b hb; cases hb
    | cons x xs ih =>
     intro b hb
     rw [Im] at hb
     split at hb
     ·rename_i r hr
      cases hb
      split at hr
      ·cases hr
      ·cases hr; omega
     ·exact ih _ b hb
   have := this 0 l b hsc
   simp [Cq, this]
 ·have : ((l.length : Int) == n) = false := by simpa using h1
  simp [this, h1]
end Go.Lift

/- The test of a table: both implementations give one answer. -/
namespace Go.Lift
def JU (l : List (List Bool)) : Option Int := ES (fun i row => if row.getD i false then none else some 1) 0 l
theorem Rj {row : List Bool} {i : Nat} (h : i < row.length) : Ba row (i : Int) = some (row.getD i false) := by
 rw [BU, List.getD_eq_getElem?_getD]; simp [h]
theorem U7 (N : Nat) (t : AO) (h : t.fRewrite.length < N) (hN : N ≤ 1000000) (hsq : ∀ row, row ∈ t.fRewrite → row.length = t.fRewrite.length) (j : Option Int) :
  Cu N t (fun _ => j) N 0 = Cq (JU t.fRewrite) j := by
 have := Ee (Cu N t (fun _ => j)) t.fRewrite j (fun i row => if row.getD i false then none else some 1)
  (fun n i x hx => by
   have hi := (List.getElem?_eq_some_iff.1 hx).1
   have hl := hsq x (List.mem_of_getElem? hx)
   rw [Cu, A1 (by omega), BU, hx]
   simp only [Option.bind_some]
   rw [Rj (by omega), A8 (by omega)]
   simp only [Option.bind_some]
   cases x.getD i false <;> rfl)
  (fun n => by rw [Cu, AY (by omega)]) N 0 (by omega) (by omega)
 simpa [JU] using this
theorem Ps (N : Nat) (t : AO) (h : t.fRewrite.length < N) (hN : N ≤ 1000000) (hsq : ∀ row, row ∈ t.fRewrite → row.length = t.fRewrite.length) (j : Option Int) :
  D5 N t (fun _ => j) N 0 = Cq (JU t.fRewrite) j := by
 have := Ee (D5 N t (fun _ => j)) t.fRewrite j (fun i row => if row.getD i false then none else some 1)
  (fun n i x hx => by
   have hi := (List.getElem?_eq_some_iff.1 hx).1
   have hl := hsq x (List.mem_of_getElem? hx)
   rw [D5, A1 (by omega), BU, hx]
   simp only [Option.bind_some]
   rw [Rj (by omega), A8 (by omega)]
   simp only [Option.bind_some]
   cases x.getD i false <;> rfl)
  (fun n => by rw [D5, AY (by omega)]) N 0 (by omega) (by omega)
 simpa [JU] using this
theorem Oc {l : List (List Bool)} {n m : Int} (h : sq l n m = true) : (l.length : Int) = n ∧ ∀ row, row ∈ l → (row.length : Int) = m := by
 unfold sq at h
 simp only [Bool.and_eq_true, decide_eq_true_eq, List.all_eq_true] at h
 exact h
def E5 (p : Ak) (t : AO) : Int :=
 if t.fKind < 1 ∨ 4 < t.fKind ∨ (t.fAware = true ∧ (t.fKind = 3 ∨ t.fKind = 4)) then 1
 else if t.fFrom < 0 ∨ (p.fVersions.length : Int) ≤ t.fFrom ∨ t.fTo < 0 ∨ (p.fVersions.length : Int) ≤ t.fTo then 4
 else
  let f := p.fVersions.getD t.fFrom.toNat 0
  let g := p.fVersions.getD t.fTo.toNat 0
  if sq t.fOK f g = false then 6
  else if t.fKind = 4 then (if sq t.fRewrite f f = false then 6 else (JU t.fRewrite).getD 0)
  else if t.fRewrite.length = 0 then 0 else 6
theorem FG {α : Type} {xs : List α} {i : Int} {d : α} (h0 : 0 ≤ i) (h1 : i < (xs.length : Int)) : Ba xs i = some (xs.getD i.toNat d) := by
 obtain ⟨k, rfl⟩ := Int.eq_ofNat_of_zero_le h0
 rw [BU, List.getD_eq_getElem?_getD, Int.toNat_natCast]
 simp [show k < xs.length from by omega]
theorem UX {t : AO} (A B : Option Int) (hk : ¬ (t.fAware = true ∧ (t.fKind = 3 ∨ t.fKind = 4))) : AR t.fAware (AR (t.fKind == 3 || t.fKind == 4) A B) B = B := by
 cases ha : t.fAware
 ·rfl
 ·have : (t.fKind == 3 || t.fKind == 4) = false := by
   rw [Bool.or_eq_false_iff]
   constructor
   ·simp only [beq_eq_false_iff_ne]; intro h; exact hk ⟨ha, .inl h⟩
   ·simp only [beq_eq_false_iff_ne]; intro h; exact hk ⟨ha, .inr h⟩
  rw [this]; rfl
theorem Lg {p : Ak} {i : Int} (hv : ∀ v, v ∈ p.fVersions → 1 ≤ v ∧ v ≤ 6) (h0 : 0 ≤ i) (h1 : i < (p.fVersions.length : Int)) : 1 ≤ p.fVersions.getD i.toNat 0 ∧ p.fVersions.getD i.toNat 0 ≤ 6 := by
 refine hv _ ?_
 rw [List.getD_eq_getElem?_getD, List.getElem?_eq_getElem (by omega)]
 exact List.getElem_mem _
theorem Tn (N : Nat) (p : Ak) (t : AO) (hN : N ≤ 1000000) (h6 : 7 ≤ N) (hv : ∀ v, v ∈ p.fVersions → 1 ≤ v ∧ v ≤ 6) : Fn N p t = some (E5 p t) := by
 unfold Fn E5
 simp only [Bf, Nu, Option.bind_some]
 by_cases k1 : t.fKind < 1
 ·simp [k1]
 by_cases k2 : 4 < t.fKind
 ·simp [k1, k2]
 rw [AY k1, AY k2]
 by_cases hk : t.fAware = true ∧ (t.fKind = 3 ∨ t.fKind = 4)
 ·obtain ⟨ha, k | k⟩ := hk <;> simp [ha, k]
 rw [AE, UX _ _ hk, if_neg (fun h => h.elim k1 fun h => h.elim k2 hk)]
 by_cases f1 : t.fFrom < 0
 ·simp [f1]
 by_cases f2 : (p.fVersions.length : Int) ≤ t.fFrom
 ·simp [f1, f2]
 by_cases f3 : t.fTo < 0
 ·simp [f1, f2, f3]
 by_cases f4 : (p.fVersions.length : Int) ≤ t.fTo
 ·simp [f1, f2, f3, f4]
 rw [AY f1, AY f2, AY f3, if_neg (fun h => h.elim f1 fun h => h.elim f2 fun h => h.elim f3 f4)]
 have hf := Lg hv (i := t.fFrom) (by omega) (by omega)
 rw [decide_eq_false f4, AE, FG (d := 0) (by omega : 0 ≤ t.fFrom) (by omega), FG (d := 0) (by omega : 0 ≤ t.fTo) (by omega)]
 simp only [Option.bind_some]
 generalize p.fVersions.getD t.fFrom.toNat 0 = f at *
 generalize p.fVersions.getD t.fTo.toNat 0 = g at *
 rw [Pt N t.fOK f g (by omega) hN, Pt N t.fRewrite f f (by omega) hN]
 simp only [Option.bind_some]
 cases hq : sq t.fOK f g
 ·rfl
 simp only [Bool.not_true, AE]
 by_cases k4 : t.fKind = 4
 ·have : (t.fKind != 4) = false := by simp [k4]
  rw [this, AE]
  simp only [k4, if_true]
  cases hr : sq t.fRewrite f f
  ·rfl
  ·have h7 := Oc hr
   simp only [Bool.not_true, AE]
   rw [U7 N t (by omega) hN (fun row hm => by have := h7.2 row hm; omega)]
   cases JU t.fRewrite <;> simp [Cq]
 ·have : (t.fKind != 4) = true := by simpa using k4
  rw [this, A6]
  simp only [k4, if_false]
  by_cases hr : t.fRewrite.length = 0
  ·simp [hr]
  ·have : ((t.fRewrite.length : Int) != 0) = true := bne_iff_ne.2 (by omega)
   rw [this]; simp [hr]
theorem VP (N : Nat) (k : Int) (a : Bool) : HX N k a = some (k == 1 || (k == 2 || ((k == 3 || k == 4) && !a))) := by
 unfold HX
 simp only [Bf]
 cases h1 : k == 1 <;> cases h2 : k == 2 <;> cases h3 : k == 3 <;> cases h4 : k == 4 <;> cases a <;> rfl
theorem O0 (N : Nat) (p : Ak) (t : AO) (hN : N ≤ 1000000) (h6 : 7 ≤ N) (hv : ∀ v, v ∈ p.fVersions → 1 ≤ v ∧ v ≤ 6) : Hv N p t = some (E5 p t) := by
 unfold Hv E5
 simp only [Bf, VP, PK, Option.bind_some]
 by_cases hb : t.fKind < 1 ∨ 4 < t.fKind ∨ (t.fAware = true ∧ (t.fKind = 3 ∨ t.fKind = 4))
 ·have : (t.fKind == 1 || (t.fKind == 2 || ((t.fKind == 3 || t.fKind == 4) && !t.fAware))) = false := by
   rcases hb with h | h | ⟨ha, h | h⟩
   ·rw [beq_eq_false_iff_ne.2 (by omega : t.fKind ≠ 1), beq_eq_false_iff_ne.2 (by omega : t.fKind ≠ 2), beq_eq_false_iff_ne.2 (by omega : t.fKind ≠ 3), beq_eq_false_iff_ne.2 (by omega : t.fKind ≠ 4)]; rfl
   ·rw [beq_eq_false_iff_ne.2 (by omega : t.fKind ≠ 1), beq_eq_false_iff_ne.2 (by omega : t.fKind ≠ 2), beq_eq_false_iff_ne.2 (by omega : t.fKind ≠ 3), beq_eq_false_iff_ne.2 (by omega : t.fKind ≠ 4)]; rfl
   ·simp [ha, h]
   ·simp [ha, h]
  rw [this, if_pos hb]; rfl
 ·have : (t.fKind == 1 || (t.fKind == 2 || ((t.fKind == 3 || t.fKind == 4) && !t.fAware))) = true := by
   have hk : t.fKind = 1 ∨ t.fKind = 2 ∨ t.fKind = 3 ∨ t.fKind = 4 := by
    have h1 : ¬ t.fKind < 1 := fun h => hb (.inl h)
    have h2 : ¬ 4 < t.fKind := fun h => hb (.inr (.inl h))
    omega
   rcases hk with h | h | h | h
   ·simp [h]
   ·simp [h]
   ·cases ha : t.fAware
    ·simp [h]
    ·exact (hb (.inr (.inr ⟨ha, .inl h⟩))).elim
   ·cases ha : t.fAware
    ·simp [h]
    ·exact (hb (.inr (.inr ⟨ha, .inr h⟩))).elim
  rw [this, if_neg hb]
  simp only [Bool.not_true, AE]
  by_cases f1 : t.fFrom < 0
  ·simp [f1, show ¬ (0 ≤ t.fFrom) from by omega]
  by_cases f2 : (p.fVersions.length : Int) ≤ t.fFrom
  ·simp [f2, show ¬ (t.fFrom < (p.fVersions.length : Int)) from by omega]
  by_cases f3 : t.fTo < 0
  ·simp [f3, show 0 ≤ t.fFrom from by omega, show t.fFrom < (p.fVersions.length : Int) from by omega, show ¬ (0 ≤ t.fTo) from by omega]
  by_cases f4 : (p.fVersions.length : Int) ≤ t.fTo
  ·simp [f4, show 0 ≤ t.fFrom from by omega, show t.fFrom < (p.fVersions.length : Int) from by omega, show ¬ (t.fTo < (p.fVersions.length : Int)) from by omega]
  rw [if_neg (fun h => h.elim f1 fun h => h.elim f2 fun h => h.elim f3 f4)]
  have hf := Lg hv (i := t.fFrom) (by omega) (by omega)
  have hg := Lg hv (i := t.fTo) (by omega) (by omega)
  rw [decide_eq_true (by omega : 0 ≤ t.fFrom), decide_eq_true (by omega : t.fFrom < (p.fVersions.length : Int)), decide_eq_true (by omega : 0 ≤ t.fTo), decide_eq_true (by omega : t.fTo < (p.fVersions.length : Int)), FG (d := 0) (by omega : 0 ≤ t.fFrom) (by omega), FG (d := 0) (by omega : 0 ≤ t.fTo) (by omega)]
  simp only [Bool.and_self, Bool.not_true, AE, Option.bind_some]
  generalize p.fVersions.getD t.fFrom.toNat 0 = f at *
  generalize p.fVersions.getD t.fTo.toNat 0 = g at *
  rw [Pu N t.fOK f g (by omega) hN, Pu N t.fRewrite f f (by omega) hN]
  simp only [Option.bind_some]
  cases hq : sq t.fOK f g
  ·rfl
  simp only [Bool.not_true, AE]
  by_cases k4 : t.fKind = 4
  ·simp only [k4, beq_self_eq_true, A6, if_true]
   cases hr : sq t.fRewrite f f
   ·rfl
   ·have h7 := Oc hr
    simp only [Bool.not_true, AE]
    rw [Ps N t (by omega) hN (fun row hm => by have := h7.2 row hm; omega)]
    cases JU t.fRewrite <;> simp [Cq]
  ·have : (t.fKind == 4) = false := beq_eq_false_iff_ne.2 k4
   rw [this, AE]
   simp only [k4, if_false, Bool.not_false, A6]
   by_cases hr : t.fRewrite.length = 0
   ·rw [Ps N t (by omega) hN (fun row hm => by rw [List.eq_nil_of_length_eq_zero hr] at hm; cases hm), List.eq_nil_of_length_eq_zero hr]
    simp [JU, ES, Cq]
   ·rw [decide_eq_true (by omega : 0 < (t.fRewrite.length : Int))]
    simp [hr]
end Go.Lift

/- The test of a problem: both implementations give one answer. -/
namespace Go.Lift
def Hb (p : Ak) (i : Nat) (v : Int) : Option Int :=
 if v < 1 ∨ 6 < v ∨ p.fNow.getD i 0 < 0 ∨ v ≤ p.fNow.getD i 0 ∨ p.fTarget.getD i 0 < 0 ∨ v ≤ p.fTarget.getD i 0 then some 7 else none
def MV (p : Ak) (_ : Nat) (t : AO) : Option Int := if E5 p t = 0 then none else some (E5 p t)
def Ez (p : Ak) : Int :=
 if 6 < p.fVersions.length ∨ 12 < p.fTables.length then 3
 else if p.fNow.length ≠ p.fVersions.length ∨ p.fTarget.length ≠ p.fVersions.length then 6
 else ((Cq (ES (Hb p) 0 p.fVersions) (ES (MV p) 0 p.fTables)).getD 0)
theorem HF {α R : Type} {f : Nat → α → Option R} : ∀ {i : Nat} {xs : List α}, ES f i xs = none → ∀ j x, xs[j]? = some x → f (i + j) x = none
 | _, [], _, j, x, hx => by simp at hx
 | i, y :: ys, h, j, x, hx => by
  rw [Im] at h
  split at h
  ·cases h
  ·rename_i h0
   cases j with
   | zero => simp at hx; subst hx; exact h0
   | succ j =>
    have := HF h j x (by simpa using hx)
    rwa [show i + 1 + j = i + (j + 1) from by omega] at this
theorem OT {p : Ak} (h : ES (Hb p) 0 p.fVersions = none) : ∀ v, v ∈ p.fVersions → 1 ≤ v ∧ v ≤ 6 := by
 intro v hv
 obtain ⟨i, hi⟩ := List.mem_iff_getElem?.1 hv
 have := HF h i v hi
 unfold Hb at this
 split at this
 ·cases this
 ·rename_i hn
  constructor
  ·exact Int.not_lt.1 fun h => hn (.inl h)
  ·exact Int.not_lt.1 fun h => hn (.inr (.inl h))
theorem Em {α : Type} {xs : List α} {i : Nat} {d : α} (h : i < xs.length) : Ba xs (i : Int) = some (xs.getD i d) := by
 rw [BU, List.getD_eq_getElem?_getD]; simp [h]
theorem R4 (N : Nat) (p : Ak) (hN : N ≤ 1000000) (h1 : p.fVersions.length < N) (h2 : p.fNow.length = p.fVersions.length) (h3 : p.fTarget.length = p.fVersions.length) (j : Option Int) :
  Bz N p (fun _ => j) N 0 = Cq (ES (Hb p) 0 p.fVersions) j := by
 have := Ee (Bz N p (fun _ => j)) p.fVersions j (Hb p)
  (fun n i x hx => by
   have hi := (List.getElem?_eq_some_iff.1 hx).1
   rw [Bz, A1 (by omega), BU, hx]
   simp only [Option.bind_some, Bf]
   rw [Em (d := 0) (by omega), Em (d := 0) (by omega), A8 (by omega)]
   simp only [Option.bind_some]
   unfold Hb
   generalize p.fNow.getD i 0 = a
   generalize p.fTarget.getD i 0 = b
   by_cases k1 : x < 1 <;> by_cases k2 : 6 < x <;> by_cases k3 : a < 0 <;> by_cases k4 : x ≤ a <;> by_cases k5 : b < 0 <;> by_cases k6 : x ≤ b <;> simp [k1, k2, k3, k4, k5, k6, Cq])
  (fun n => by rw [Bz, AY (by omega)]) N 0 (by omega) (by omega)
 simpa using this
theorem QH (N : Nat) (p : Ak) (hN : N ≤ 1000000) (h1 : p.fVersions.length < N) (h2 : p.fNow.length = p.fVersions.length) (h3 : p.fTarget.length = p.fVersions.length) (j : Option Int) :
  Cz N p (fun _ => j) N 0 = Cq (ES (Hb p) 0 p.fVersions) j := by
 have := Ee (Cz N p (fun _ => j)) p.fVersions j (Hb p)
  (fun n i x hx => by
   have hi := (List.getElem?_eq_some_iff.1 hx).1
   rw [Cz, A1 (by omega), BU, hx]
   simp only [Option.bind_some, Bf, PK]
   rw [Em (d := 0) (by omega), Em (d := 0) (by omega), A8 (by omega)]
   simp only [Option.bind_some]
   unfold Hb
   generalize p.fNow.getD i 0 = a
   generalize p.fTarget.getD i 0 = b
   have e1 : decide (0 ≤ a) = !decide (a < 0) := by rw [← decide_not]; congr 1; simp
   have e2 : decide (a < x) = !decide (x ≤ a) := by rw [← decide_not]; congr 1; simp
   have e3 : decide (0 ≤ b) = !decide (b < 0) := by rw [← decide_not]; congr 1; simp
   have e4 : decide (b < x) = !decide (x ≤ b) := by rw [← decide_not]; congr 1; simp
   rw [e1, e2, e3, e4]
   by_cases k1 : x < 1 <;> by_cases k2 : 6 < x <;> by_cases k3 : a < 0 <;> by_cases k4 : x ≤ a <;> by_cases k5 : b < 0 <;> by_cases k6 : x ≤ b <;> simp [k1, k2, k3, k4, k5, k6, Cq])
  (fun n => by rw [Cz, AY (by omega)]) N 0 (by omega) (by omega)
 simpa using this
theorem Ud (N : Nat) (p : Ak) (hN : N ≤ 1000000) (h6 : 7 ≤ N) (h1 : p.fTables.length < N) (hv : ∀ v, v ∈ p.fVersions → 1 ≤ v ∧ v ≤ 6) (j : Option Int) :
  Bs N p (fun _ => j) N 0 = Cq (ES (MV p) 0 p.fTables) j := by
 have := Ee (Bs N p (fun _ => j)) p.fTables j (MV p)
  (fun n i x hx => by
   have hi := (List.getElem?_eq_some_iff.1 hx).1
   rw [Bs, A1 (by omega), BU, hx]
   simp only [Option.bind_some]
   rw [Tn N p x hN h6 hv, A8 (by omega)]
   simp only [Option.bind_some]
   unfold MV
   by_cases k : E5 p x = 0
   ·simp [k, Cq]
   ·rw [bne_iff_ne.2 k, if_neg k]; rfl)
  (fun n => by rw [Bs, AY (by omega)]) N 0 (by omega) (by omega)
 simpa using this
theorem Si (N : Nat) (p : Ak) (hN : N ≤ 1000000) (h6 : 7 ≤ N) (h1 : p.fTables.length < N) (hv : ∀ v, v ∈ p.fVersions → 1 ≤ v ∧ v ≤ 6) (j : Option Int) :
  Cf N p (fun _ => j) N 0 = Cq (ES (MV p) 0 p.fTables) j := by
 have := Ee (Cf N p (fun _ => j)) p.fTables j (MV p)
  (fun n i x hx => by
   have hi := (List.getElem?_eq_some_iff.1 hx).1
   rw [Cf, A1 (by omega), BU, hx]
   simp only [Option.bind_some]
   rw [O0 N p x hN h6 hv, A8 (by omega)]
   simp only [Option.bind_some]
   unfold MV
   by_cases k : E5 p x = 0
   ·simp [k, Cq]
   ·rw [bne_iff_ne.2 k, if_neg k]; rfl)
  (fun n => by rw [Cf, AY (by omega)]) N 0 (by omega) (by omega)
 simpa using this
theorem Ou (N : Nat) (p : Ak) (hN : N ≤ 1000000) (h : 20 ≤ N) : Dg N p = some (Ez p) := by
 unfold Dg Ez
 simp only [Bf]
 by_cases k1 : 6 < p.fVersions.length
 ·rw [A1 (by omega)]; simp [k1]
 rw [AY (by omega)]
 by_cases k2 : 12 < p.fTables.length
 ·rw [decide_eq_true (by omega : (12 : Int) < (p.fTables.length : Int))]; simp [k2]
 rw [decide_eq_false (by omega : ¬ (12 : Int) < (p.fTables.length : Int)), AE, if_neg (by omega)]
 by_cases k3 : p.fNow.length = p.fVersions.length
 ·by_cases k4 : p.fTarget.length = p.fVersions.length
  ·rw [k3, k4]
   simp only [bne_self_eq_false, AE, ne_eq, not_true_eq_false, or_self, if_false]
   rw [R4 N p hN (by omega) k3 k4]
   cases hs : ES (Hb p) 0 p.fVersions with
   | some r => rfl
   | none =>
    simp only [Cq]
    rw [Ud N p hN (by omega) (by omega) (OT hs)]
    cases ES (MV p) 0 p.fTables <;> rfl
  ·have : ((p.fTarget.length : Int) != (p.fVersions.length : Int)) = true := bne_iff_ne.2 (by omega)
   rw [this, k3]; simp [k4]
 ·have : ((p.fNow.length : Int) != (p.fVersions.length : Int)) = true := bne_iff_ne.2 (by omega)
  rw [this]; simp [k3]
theorem Qg (N : Nat) (p : Ak) (hN : N ≤ 1000000) (h : 20 ≤ N) : Dl N p = some (Ez p) := by
 unfold Dl Ez
 simp only [Bf]
 by_cases k1 : 6 < p.fVersions.length
 ·rw [A1 (by omega)]; simp [k1]
 rw [AY (by omega)]
 by_cases k2 : 12 < p.fTables.length
 ·rw [decide_eq_true (by omega : (12 : Int) < (p.fTables.length : Int))]; simp [k2]
 rw [decide_eq_false (by omega : ¬ (12 : Int) < (p.fTables.length : Int)), AE, if_neg (by omega)]
 by_cases k3 : p.fNow.length = p.fVersions.length
 ·by_cases k4 : p.fTarget.length = p.fVersions.length
  ·rw [k3, k4]
   simp only [bne_self_eq_false, AE, ne_eq, not_true_eq_false, or_self, if_false]
   rw [QH N p hN (by omega) k3 k4]
   cases hs : ES (Hb p) 0 p.fVersions with
   | some r => rfl
   | none =>
    simp only [Cq]
    rw [Si N p hN (by omega) (by omega) (OT hs)]
    cases ES (MV p) 0 p.fTables <;> rfl
  ·have : ((p.fTarget.length : Int) != (p.fVersions.length : Int)) = true := bne_iff_ne.2 (by omega)
   rw [this, k3]; simp [k4]
 ·have : ((p.fNow.length : Int) != (p.fVersions.length : Int)) = true := bne_iff_ne.2 (by omega)
  rw [this]; simp [k3]
end Go.Lift

/- The test of a mix: both implementations give one answer. -/
namespace Go.Lift
theorem JQ {n : Int} (h : KO n) : 0 ≤ n ∧ n ≤ 255 := by
 unfold KO at h
 simpa [Lit.wf, IntKind.min, IntKind.max, IntKind.signed, IntKind.bits] using h
theorem Pf : ∀ k : Fin 256, Eh .u8 0 (k.val : Int) = 0 := by decide +kernel
theorem O9 : ∀ k : Fin 256, Eh .u8 (k.val : Int) 0 = (k.val : Int) := by decide +kernel
theorem T2 {n : Int} (h : KO n) : Eh .u8 0 n = 0 := by
 have := JQ h
 obtain ⟨k, rfl⟩ := Int.eq_ofNat_of_zero_le this.1
 exact Pf ⟨k, by omega⟩
theorem Uc {n : Int} (h : KO n) : Eh .u8 n 0 = n := by
 have := JQ h
 obtain ⟨k, rfl⟩ := Int.eq_ofNat_of_zero_le this.1
 exact O9 ⟨k, by omega⟩
theorem Gb {α R : Type} {f : Nat → α → Option R} : ∀ {i : Nat} {xs : List α} {r : R}, ES f i xs = some r → ∃ j x, xs[j]? = some x ∧ f (i + j) x = some r
 | _, [], _, h => by cases h
 | i, y :: ys, r, h => by
  rw [Im] at h
  split at h
  ·rename_i r' h0
   cases h
   exact ⟨0, y, rfl, h0⟩
  ·obtain ⟨j, x, h1, h2⟩ := Gb h
   exact ⟨j + 1, x, by simpa using h1, by rwa [show i + (j + 1) = i + 1 + j from by omega]⟩
structure CB (p : Ak) : Prop where
 nv : p.fVersions.length ≤ 6
 nt : p.fTables.length ≤ 12
 now : p.fNow.length = p.fVersions.length
 tgt : p.fTarget.length = p.fVersions.length
 ver : ∀ v, v ∈ p.fVersions → 1 ≤ v ∧ v ≤ 6
 tab : ∀ t, t ∈ p.fTables → E5 p t = 0
theorem R3 (l : List (List Bool)) : (JU l).getD 0 = 0 ∨ (JU l).getD 0 = 1 := by
 cases h : JU l with
 | none => exact .inl rfl
 | some r =>
  obtain ⟨j, x, _, h⟩ := Gb h
  split at h
  ·cases h
  ·cases h; exact .inr rfl
theorem PX (p : Ak) (t : AO) : E5 p t = 0 ∨ E5 p t = 1 ∨ E5 p t = 4 ∨ E5 p t = 6 := by
 unfold E5
 split
 ·exact .inr (.inl rfl)
 split
 ·exact .inr (.inr (.inl rfl))
 simp only
 split
 ·exact .inr (.inr (.inr rfl))
 split
 ·split
  ·exact .inr (.inr (.inr rfl))
  ·rcases R3 t.fRewrite with h | h
   ·exact .inl h
   ·exact .inr (.inl h)
 ·split
  ·exact .inl rfl
  ·exact .inr (.inr (.inr rfl))
theorem JE (p : Ak) : (Ez p = 0 ∧ CB p) ∨ (Ez p = 1 ∨ Ez p = 3 ∨ Ez p = 4 ∨ Ez p = 6 ∨ Ez p = 7) := by
 unfold Ez
 split
 ·simp
 rename_i k1
 split
 ·simp
 rename_i k2
 cases hs : ES (Hb p) 0 p.fVersions with
 | some r =>
  obtain ⟨j, x, _, h⟩ := Gb hs
  unfold Hb at h
  split at h
  ·cases h; simp [Cq]
  ·cases h
 | none =>
  cases ht : ES (MV p) 0 p.fTables with
  | some r =>
   obtain ⟨j, t, _, h⟩ := Gb ht
   unfold MV at h
   split at h
   ·cases h
   ·rename_i hne
    cases h
    simp only [Cq, Option.getD_some]
    right
    rcases PX p t with h | h | h | h
    ·exact (hne h).elim
    ·exact .inl h
    ·exact .inr (.inr (.inl h))
    ·exact .inr (.inr (.inr (.inl h)))
  | none =>
   left
   refine ⟨rfl, by omega, by omega, by omega, by omega, OT hs, fun t hm => ?_⟩
   obtain ⟨j, hj⟩ := List.mem_iff_getElem?.1 hm
   have := HF ht j t hj
   unfold MV at this
   split at this
   ·assumption
   ·cases this
end Go.Lift

/- The test of a mix: both implementations give one answer. -/
namespace Go.Lift
def HQ (m : Ag) (s : Nat) : Int :=
 if 0 ≤ m.fNext.getD s 0 then M5 .u8 (Dy .u8 1 (m.fBase.getD s 0)) (Dy .u8 1 (m.fNext.getD s 0)) else Dy .u8 1 (m.fBase.getD s 0)
def Mm (m : Ag) (i : Nat) (v : Int) : Option Int :=
 if m.fBase.getD i 0 < 0 ∨ v ≤ m.fBase.getD i 0 ∨ m.fNext.getD i 0 < -1 ∨ v ≤ m.fNext.getD i 0 then some 7
 else if m.fBase.getD i 0 = m.fNext.getD i 0 then some 1 else none
def CI (t : AO) : Bool := t.fKind == 3 || t.fKind == 4
def VS (p : Ak) (t : AO) : Int := IntKind.wrap .u8 (Dy .u8 1 (p.fVersions.getD t.fFrom.toNat 0) - 1)
def Km (p : Ak) (m : Ag) (i : Nat) (t : AO) : Option Int :=
 if CI t = true then (if Eh .u8 (HQ m t.fFrom.toNat) (m.fHeld.getD i 0) ≠ 0 ∨ Eh .u8 (m.fHeld.getD i 0) (VS p t) ≠ 0 then some 1 else none)
 else if m.fHeld.getD i 0 ≠ 0 then some 1 else none
def EA (p : Ak) (m : Ag) : Int :=
 if Ez p ≠ 0 then Ez p
 else if m.fBase.length ≠ p.fVersions.length ∨ m.fNext.length ≠ p.fVersions.length ∨ m.fHeld.length ≠ p.fTables.length then 6
 else (Cq (ES (Mm m) 0 p.fVersions) (ES (Km p m) 0 p.fTables)).getD 0
theorem Kw {p : Ak} {t : AO} (h : E5 p t = 0) : 0 ≤ t.fFrom ∧ t.fFrom < (p.fVersions.length : Int) ∧ 0 ≤ t.fTo ∧ t.fTo < (p.fVersions.length : Int) := by
 unfold E5 at h
 split at h
 ·cases h
 ·split at h
  ·cases h
  ·omega
theorem Mg (N : Nat) (m : Ag) (s : Int) (h0 : 0 ≤ s) (h1 : s < (m.fBase.length : Int)) (h2 : s < (m.fNext.length : Int)) (hb : 0 ≤ m.fBase.getD s.toNat 0) : FW N m s = some (HQ m s.toNat) := by
 unfold FW HQ
 rw [FG (d := 0) h0 h1, FG (d := 0) h0 h2]
 simp only [Option.bind_some, Bf]
 rw [show E7 (0 ≤ m.fBase.getD s.toNat 0) = some () from by unfold E7; rw [if_pos hb]]
 simp only [Option.bind_some]
 by_cases h : 0 ≤ m.fNext.getD s.toNat 0
 ·rw [A1 h, if_pos h, show E7 (0 ≤ m.fNext.getD s.toNat 0) = some () from by unfold E7; rw [if_pos h]]; rfl
 ·rw [AY h, if_neg h]
theorem J5 (N : Nat) (m : Ag) (s : Int) (h0 : 0 ≤ s) (h1 : s < (m.fBase.length : Int)) (h2 : s < (m.fNext.length : Int)) (hb : 0 ≤ m.fBase.getD s.toNat 0) : B4 N m s = some (HQ m s.toNat) := by
 unfold B4 HQ
 rw [FG (d := 0) h0 h1, FG (d := 0) h0 h2]
 simp only [Option.bind_some, Bf]
 rw [show E7 (0 ≤ m.fBase.getD s.toNat 0) = some () from by unfold E7; rw [if_pos hb]]
 simp only [Option.bind_some]
 by_cases h : 0 ≤ m.fNext.getD s.toNat 0
 ·rw [A1 h, if_pos h, show E7 (0 ≤ m.fNext.getD s.toNat 0) = some () from by unfold E7; rw [if_pos h]]; rfl
 ·rw [AY h, if_neg h]
theorem P9 (N : Nat) (p : Ak) (m : Ag) (hN : N ≤ 1000000) (h1 : p.fVersions.length < N) (h2 : m.fBase.length = p.fVersions.length) (h3 : m.fNext.length = p.fVersions.length) (j : Option Int) :
  E4 N p m (fun _ => j) N 0 = Cq (ES (Mm m) 0 p.fVersions) j := by
 have := Ee (E4 N p m (fun _ => j)) p.fVersions j (Mm m)
  (fun n i x hx => by
   have hi := (List.getElem?_eq_some_iff.1 hx).1
   rw [E4, A1 (by omega), BU, hx]
   simp only [Option.bind_some, Bf]
   rw [Em (d := 0) (by omega), Em (d := 0) (by omega), A8 (by omega)]
   simp only [Option.bind_some]
   unfold Mm
   generalize m.fBase.getD i 0 = a
   generalize m.fNext.getD i 0 = b
   by_cases k7 : a = b
   ·subst k7
    by_cases k3 : a < 0 <;> by_cases k4 : x ≤ a <;> by_cases k5 : a < -1 <;> simp [k3, k4, k5, Cq]
   ·have k8 : (a == b) = false := beq_eq_false_iff_ne.2 k7
    by_cases k3 : a < 0 <;> by_cases k4 : x ≤ a <;> by_cases k5 : b < -1 <;> by_cases k6 : x ≤ b <;> simp [k3, k4, k5, k6, k7, k8, Cq])
  (fun n => by rw [E4, AY (by omega)]) N 0 (by omega) (by omega)
 simpa using this
theorem Qu (N : Nat) (p : Ak) (m : Ag) (hN : N ≤ 1000000) (h1 : p.fVersions.length < N) (h2 : m.fBase.length = p.fVersions.length) (h3 : m.fNext.length = p.fVersions.length) (j : Option Int) :
  CS N p m (fun _ => j) N 0 = Cq (ES (Mm m) 0 p.fVersions) j := by
 have := Ee (CS N p m (fun _ => j)) p.fVersions j (Mm m)
  (fun n i x hx => by
   have hi := (List.getElem?_eq_some_iff.1 hx).1
   rw [CS, A1 (by omega), show Ba p.fVersions (i : Int) = some x from by rw [BU, hx]]
   simp only [Option.bind_some, Bf]
   rw [Em (d := 0) (by omega), Em (d := 0) (by omega), A8 (by omega)]
   simp only [Option.bind_some]
   unfold Mm
   generalize m.fBase.getD i 0 = a
   generalize m.fNext.getD i 0 = b
   by_cases k7 : a = b
   ·subst k7
    by_cases k3 : a < 0 <;> by_cases k4 : x ≤ a <;> by_cases k5 : a < -1 <;> simp [k3, k4, k5, Cq]
   ·have k8 : (a == b) = false := beq_eq_false_iff_ne.2 k7
    by_cases k3 : a < 0 <;> by_cases k4 : x ≤ a <;> by_cases k5 : b < -1 <;> by_cases k6 : x ≤ b <;> simp [k3, k4, k5, k6, k7, k8, Cq])
  (fun n => by rw [CS, AY (by omega)]) N 0 (by omega) (by omega)
 simpa using this
end Go.Lift

/- The test of a mix, the whole: both implementations give one answer. -/
namespace Go.Lift
structure MixServ (p : Ak) (m : Ag) : Prop where
 base : m.fBase.length = p.fVersions.length
 next : m.fNext.length = p.fVersions.length
 held : m.fHeld.length = p.fTables.length
 b0 : ∀ i, i < p.fVersions.length → 0 ≤ m.fBase.getD i 0 ∧ m.fBase.getD i 0 < p.fVersions.getD i 0
 n0 : ∀ i, i < p.fVersions.length → -1 ≤ m.fNext.getD i 0 ∧ m.fNext.getD i 0 < p.fVersions.getD i 0
 ne : ∀ i, i < p.fVersions.length → m.fBase.getD i 0 ≠ m.fNext.getD i 0
theorem P1 {p : Ak} {m : Ag} (h2 : m.fBase.length = p.fVersions.length) (h3 : m.fNext.length = p.fVersions.length) (h4 : m.fHeld.length = p.fTables.length) (h : ES (Mm m) 0 p.fVersions = none) : MixServ p m := by
 have key : ∀ i, i < p.fVersions.length → ¬ (m.fBase.getD i 0 < 0 ∨ p.fVersions.getD i 0 ≤ m.fBase.getD i 0 ∨ m.fNext.getD i 0 < -1 ∨ p.fVersions.getD i 0 ≤ m.fNext.getD i 0) ∧ ¬ m.fBase.getD i 0 = m.fNext.getD i 0 := by
  intro i hi
  have hx : p.fVersions[i]? = some (p.fVersions.getD i 0) := by rw [List.getD_eq_getElem?_getD]; simp [hi]
  have := HF h i _ hx
  rw [Nat.zero_add] at this
  unfold Mm at this
  split at this
  ·cases this
  ·split at this
   ·cases this
   ·rename_i k1 k2; exact ⟨k1, k2⟩
 exact ⟨h2, h3, h4, fun i hi => by have := (key i hi).1; omega, fun i hi => by have := (key i hi).1; omega, fun i hi => (key i hi).2⟩
theorem RL {m : Ag} (hw : Ml KO m.fHeld) {i : Nat} (h : i < m.fHeld.length) : KO (m.fHeld.getD i 0) := by
 refine hw _ ?_
 rw [List.getD_eq_getElem?_getD, List.getElem?_eq_getElem h]
 exact List.getElem_mem _
theorem L6 (N : Nat) (t : AO) : Gr N t = some (CI t) := by
 unfold Gr CI
 simp only [Bf]
 cases h : t.fKind == 3 <;> simp
theorem G1 (N : Nat) (t : AO) : Bn N t = some (CI t) := Nu N t
theorem RU (N : Nat) (p : Ak) (m : Ag) (hN : N ≤ 1000000) (h1 : p.fTables.length < N) (hp : CB p) (hm : MixServ p m) (hw : Ml KO m.fHeld) (j : Option Int) :
  EM N p m (fun _ => j) N 0 = Cq (ES (Km p m) 0 p.fTables) j := by
 have := Ee (EM N p m (fun _ => j)) p.fTables j (Km p m)
  (fun n i x hx => by
   have hi := (List.getElem?_eq_some_iff.1 hx).1
   have hin := Kw (hp.tab x (List.mem_of_getElem? hx))
   have hheld := RL hw (show i < m.fHeld.length from by rw [hm.held]; exact hi)
   have hv := Lg hp.ver hin.1 hin.2.1
   rw [EM, A1 (by omega), BU, hx]
   simp only [Option.bind_some, Bf, L6]
   rw [Mg N m x.fFrom hin.1 (by rw [hm.base]; exact hin.2.1) (by rw [hm.next]; exact hin.2.1) (hm.b0 _ (by omega)).1, FG (d := 0) hin.1 hin.2.1, Em (d := 0) (show i < m.fHeld.length from by rw [hm.held]; exact hi), A8 (by omega)]
   simp only [Option.bind_some]
   rw [show E7 (0 ≤ p.fVersions.getD x.fFrom.toNat 0) = some () from by unfold E7; rw [if_pos (by omega)]]
   simp only [Option.bind_some]
   unfold Km VS
   rw [T2 hheld, Uc hheld]
   generalize Eh .u8 (HQ m x.fFrom.toNat) (m.fHeld.getD i 0) = A
   generalize Eh .u8 (m.fHeld.getD i 0) (IntKind.wrap .u8 (Dy .u8 1 (p.fVersions.getD x.fFrom.toNat 0) - 1)) = B
   generalize m.fHeld.getD i 0 = H
   cases CI x
   ·simp only [AE, bne_self_eq_false]
    by_cases k : H = 0
    ·simp [k, Cq]
    ·have : (H != 0) = true := bne_iff_ne.2 k
     simp [k, this, Cq]
   ·simp only [A6]
    by_cases k : A = 0
    ·by_cases k2 : B = 0
     ·simp [k, k2, Cq]
     ·have : (B != 0) = true := bne_iff_ne.2 k2
      simp [k, k2, this, Cq]
    ·have : (A != 0) = true := bne_iff_ne.2 k
     simp [k, this, Cq])
  (fun n => by rw [EM, AY (by omega)]) N 0 (by omega) (by omega)
 simpa using this
theorem R9 (N : Nat) (p : Ak) (m : Ag) (hN : N ≤ 1000000) (h1 : p.fTables.length < N) (hp : CB p) (hm : MixServ p m) (j : Option Int) :
  Cx N p m (fun _ => j) N 0 = Cq (ES (Km p m) 0 p.fTables) j := by
 have := Ee (Cx N p m (fun _ => j)) p.fTables j (Km p m)
  (fun n i x hx => by
   have hi := (List.getElem?_eq_some_iff.1 hx).1
   have hin := Kw (hp.tab x (List.mem_of_getElem? hx))
   have hv := Lg hp.ver hin.1 hin.2.1
   rw [Cx, A1 (by omega), BU, hx]
   simp only [Option.bind_some, Bf, G1]
   rw [J5 N m x.fFrom hin.1 (by rw [hm.base]; exact hin.2.1) (by rw [hm.next]; exact hin.2.1) (hm.b0 _ (by omega)).1, FG (d := 0) hin.1 hin.2.1, Em (d := 0) (show i < m.fHeld.length from by rw [hm.held]; exact hi), A8 (by omega)]
   simp only [Option.bind_some]
   rw [show E7 (0 ≤ p.fVersions.getD x.fFrom.toNat 0) = some () from by unfold E7; rw [if_pos (by omega)]]
   simp only [Option.bind_some]
   unfold Km VS
   generalize Eh .u8 (HQ m x.fFrom.toNat) (m.fHeld.getD i 0) = A
   generalize Eh .u8 (m.fHeld.getD i 0) (IntKind.wrap .u8 (Dy .u8 1 (p.fVersions.getD x.fFrom.toNat 0) - 1)) = B
   generalize m.fHeld.getD i 0 = H
   cases CI x
   ·simp only [Bool.not_false, A6, AE]
    by_cases k : H = 0
    ·simp [k, Cq]
    ·have : (H != 0) = true := bne_iff_ne.2 k
     simp [k, this, Cq]
   ·simp only [Bool.not_true, AE, A6]
    by_cases k : A = 0
    ·by_cases k2 : B = 0
     ·simp [k, k2, Cq]
     ·have : (B != 0) = true := bne_iff_ne.2 k2
      simp [k, k2, this, Cq]
    ·have : (A != 0) = true := bne_iff_ne.2 k
     by_cases k2 : B = 0
     ·simp [k, k2, this, Cq]
     ·have h5 : (B != 0) = true := bne_iff_ne.2 k2
      simp [k, h5, Cq])
  (fun n => by rw [Cx, AY (by omega)]) N 0 (by omega) (by omega)
 simpa using this
theorem JB (N : Nat) (p : Ak) (m : Ag) (hN : N ≤ 1000000) (h : 20 ≤ N) (hw : Ml KO m.fHeld) : FQ N p m = some (EA p m) := by
 unfold FQ EA
 rw [Qg N p hN h]
 simp only [Option.bind_some, Bf]
 by_cases k0 : Ez p = 0
 ·have hp : CB p := by
   rcases JE p with h | h
   ·exact h.2
   ·omega
  have hnv := hp.nv
  have hnt := hp.nt
  rw [k0]
  simp only [bne_self_eq_false, AE, ne_eq, not_true_eq_false, if_false]
  by_cases k1 : m.fBase.length = p.fVersions.length
  ·by_cases k2 : m.fNext.length = p.fVersions.length
   ·by_cases k3 : m.fHeld.length = p.fTables.length
    ·rw [k1, k2, k3]
     simp only [bne_self_eq_false, AE, not_true_eq_false, or_self, if_false]
     rw [P9 N p m hN (by omega) k1 k2]
     cases hs : ES (Mm m) 0 p.fVersions with
     | some r => rfl
     | none =>
      simp only [Cq]
      rw [RU N p m hN (by omega) hp (P1 k1 k2 k3 hs) hw]
      cases ES (Km p m) 0 p.fTables <;> rfl
    ·have : ((m.fHeld.length : Int) != (p.fTables.length : Int)) = true := bne_iff_ne.2 (by omega)
     rw [this, k1, k2]; simp [k3]
   ·have : ((m.fNext.length : Int) != (p.fVersions.length : Int)) = true := bne_iff_ne.2 (by omega)
    rw [this, k1]; simp [k2]
  ·have : ((m.fBase.length : Int) != (p.fVersions.length : Int)) = true := bne_iff_ne.2 (by omega)
   rw [this]; simp [k1]
 ·rw [bne_iff_ne.2 k0]; simp [k0]
theorem KP (N : Nat) (p : Ak) (m : Ag) (hN : N ≤ 1000000) (h : 20 ≤ N) : D7 N p m = some (EA p m) := by
 unfold D7 EA
 rw [Ou N p hN h]
 simp only [Option.bind_some, Bf]
 by_cases k0 : Ez p = 0
 ·have hp : CB p := by
   rcases JE p with h | h
   ·exact h.2
   ·omega
  have hnv := hp.nv
  have hnt := hp.nt
  rw [k0]
  simp only [bne_self_eq_false, AE, ne_eq, not_true_eq_false, if_false]
  by_cases k1 : m.fBase.length = p.fVersions.length
  ·by_cases k2 : m.fNext.length = p.fVersions.length
   ·by_cases k3 : m.fHeld.length = p.fTables.length
    ·rw [k1, k2, k3]
     simp only [bne_self_eq_false, AE, not_true_eq_false, or_self, if_false]
     rw [Qu N p m hN (by omega) k1 k2]
     cases hs : ES (Mm m) 0 p.fVersions with
     | some r => rfl
     | none =>
      simp only [Cq]
      rw [R9 N p m hN (by omega) hp (P1 k1 k2 k3 hs)]
      cases ES (Km p m) 0 p.fTables <;> rfl
    ·have : ((m.fHeld.length : Int) != (p.fTables.length : Int)) = true := bne_iff_ne.2 (by omega)
     rw [this, k1, k2]; simp [k3]
   ·have : ((m.fNext.length : Int) != (p.fVersions.length : Int)) = true := bne_iff_ne.2 (by omega)
    rw [this, k1]; simp [k2]
  ·have : ((m.fBase.length : Int) != (p.fVersions.length : Int)) = true := bne_iff_ne.2 (by omega)
   rw [this]; simp [k1]
 ·rw [bne_iff_ne.2 k0]; simp [k0]
end Go.Lift

/- Loops of the shallow programs as folds along lists. -/
namespace Go.Lift
@[simp] theorem BB {α β : Type} (k : α) (f : α → β) : Bf k f = f k := rfl
@[simp] theorem Ua {p : Prop} [Decidable p] (h : p) : E7 p = some () := by unfold E7; rw [if_pos h]
theorem AK {β : Type} {p : Prop} [Decidable p] (h : p) (f : Unit → Option β) : (E7 p).bind f = f () := by rw [Ua h]; rfl
def EX {α β : Type} (g : Nat → α → List β) : Nat → List α → List β
 | _, [] => []
 | i, x :: xs => g i x ++ EX g (i + 1) xs
def Jt {α A : Type} (f : Nat → α → A → A) : Nat → List α → A → A
 | _, [], a => a
 | i, x :: xs, a => Jt f (i + 1) xs (f i x a)
theorem MY {α β : Type} (g : Nat → α → List β) : ∀ (i : Nat) (xs ys : List α), EX g i (xs ++ ys) = EX g i xs ++ EX g (i + xs.length) ys
 | i, [], ys => by simp [EX]
 | i, x :: xs, ys => by
  rw [List.cons_append, EX, EX, MY g (i + 1) xs ys, List.append_assoc, List.length_cons, Nat.add_assoc, Nat.add_comm 1]
theorem Nt {α β : Type} {g : Nat → α → List β} {y : β} : ∀ {i : Nat} {xs : List α}, y ∈ EX g i xs ↔ ∃ j x, xs[j]? = some x ∧ y ∈ g (i + j) x
 | _, [] => by simp [EX]
 | i, x :: xs => by
  rw [EX, List.mem_append, Nt]
  constructor
  ·rintro (h | ⟨j, z, hz, h⟩)
   ·exact ⟨0, x, rfl, h⟩
   ·exact ⟨j + 1, z, by simpa using hz, by rwa [show i + (j + 1) = i + 1 + j from by omega]⟩
  ·rintro ⟨j, z, hz, h⟩
   cases j with
   | zero => simp at hz; subst hz; exact .inl h
   | succ j => exact .inr ⟨j, z, by simpa using hz, by rwa [show i + 1 + j = i + (j + 1) from by omega]⟩
theorem G4 {α β : Type} {g : Nat → α → List β} {c : Nat} : ∀ {i : Nat} {xs : List α}, (∀ j x, xs[j]? = some x → (g (i + j) x).length ≤ c) → (EX g i xs).length ≤ c * xs.length
 | _, [], _ => by simp [EX]
 | i, x :: xs, h => by
  have h1 := h 0 x rfl
  have h2 := G4 (g := g) (c := c) (i := i + 1) (xs := xs) fun j y hy => by
   have := h (j + 1) y (by simpa using hy)
   rwa [show i + (j + 1) = i + 1 + j from by omega] at this
  rw [EX, List.length_append, List.length_cons, Nat.mul_add]
  simp only [Nat.add_zero] at h1
  omega
theorem JK {α A S R : Type} (L : Nat → S → Option R) (mk : A → Int → S) (xs : List α) (j : A → Option R) (f : Nat → α → A → A) (I : Nat → A → Prop)
  (hs : ∀ (n i : Nat) (x : α) (a : A), xs[i]? = some x → I i a → L (n + 1) (mk a (i : Int)) = L n (mk (f i x a) ((i + 1 : Nat) : Int)) ∧ I (i + 1) (f i x a))
  (he : ∀ (n : Nat) (a : A), I xs.length a → L (n + 1) (mk a (xs.length : Int)) = j a) :
  ∀ (n i : Nat) (a : A), i ≤ xs.length → xs.length - i < n → I i a → L n (mk a (i : Int)) = j (Jt f i (xs.drop i) a) ∧ I xs.length (Jt f i (xs.drop i) a)
 | 0, i, _, _, h, _ => by omega
 | n + 1, i, a, hi, h, ha => by
  by_cases h1 : i < xs.length
  ·have hx : xs[i]? = some xs[i] := by simp [h1]
   obtain ⟨e1, e2⟩ := hs n i _ a hx ha
   rw [e1, KF hx, Jt]
   exact JK L mk xs j f I hs he n (i + 1) _ (by omega) (by omega) e2
  ·have : i = xs.length := by omega
   subst this
   rw [List.drop_eq_nil_of_le (Nat.le_refl _), Jt]
   exact ⟨he n a ha, ha⟩
theorem OF {α β : Type} (g : Nat → α → List β) : ∀ (i : Nat) (xs : List α) (acc : List β), Jt (fun i x a => a ++ g i x) i xs acc = acc ++ EX g i xs
 | _, [], acc => by simp [Jt, EX]
 | i, x :: xs, acc => by rw [Jt, OF g (i + 1) xs, EX, List.append_assoc]
theorem G5 {α β S R : Type} (L : Nat → S → Option R) (mk : List β → Int → S) (xs : List α) (j : List β → Option R) (g : Nat → α → List β) (c B : Nat)
  (hg : ∀ i x, xs[i]? = some x → (g i x).length ≤ c)
  (hs : ∀ (n i : Nat) (x : α) (a : List β), xs[i]? = some x → a.length + (g i x).length ≤ B → L (n + 1) (mk a (i : Int)) = L n (mk (a ++ g i x) ((i + 1 : Nat) : Int)))
  (he : ∀ (n : Nat) (a : List β), L (n + 1) (mk a (xs.length : Int)) = j a) (n : Nat) (a : List β) (hn : xs.length < n) (ha : a.length + c * xs.length ≤ B) :
  L n (mk a 0) = j (a ++ EX g 0 xs) := by
 have := JK L mk xs j (fun i x a => a ++ g i x) (fun i b => i ≤ xs.length ∧ b.length ≤ a.length + c * i)
  (fun n i x b hx hb => by
   have h1 := hg i x hx
   have hi := (List.getElem?_eq_some_iff.1 hx).1
   have h2 : c * (i + 1) ≤ c * xs.length := Nat.mul_le_mul_left c hi
   have h3 : c * (i + 1) = c * i + c := Nat.mul_succ c i
   refine ⟨hs n i x b hx (by have := hb.2; omega), hi, ?_⟩
   rw [List.length_append]
   have := hb.2
   omega)
  (fun n b _ => he n b) n 0 a (Nat.zero_le _) (by omega) ⟨Nat.zero_le _, by omega⟩
 have h2 := this.1
 rw [List.drop_zero, OF] at h2
 exact h2
end Go.Lift

/- Sets as bits, the mixes that are valid, and the conflicts of a mix: both implementations give one answer. -/
namespace Go.Lift
def D1 (s : Int) (v : Nat) : Bool := s.toNat.testBit v
def IY (m : Ag) (s v : Nat) : Bool := decide (m.fBase.getD s 0 = (v : Int)) || decide (m.fNext.getD s 0 = (v : Int))
theorem VG : ∀ (s : Fin 256) (v : Fin 8), F4 .u8 (Fa .u8 (s.val : Int) (v.val : Int)) 1 = if D1 (s.val : Int) v.val then 1 else 0 := by decide +kernel
theorem Qi {s : Int} {v : Nat} (h0 : 0 ≤ s) (h1 : s ≤ 255) (hv : v < 8) : F4 .u8 (Fa .u8 s (v : Int)) 1 = if D1 s v then 1 else 0 := by
 obtain ⟨k, rfl⟩ := Int.eq_ofNat_of_zero_le h0
 exact VG ⟨k, by omega⟩ ⟨v, hv⟩
theorem RI {s : Int} {v : Nat} (h0 : 0 ≤ s) (h1 : s ≤ 255) (hv : v < 8) : (F4 .u8 (Fa .u8 s (v : Int)) 1 == 0) = !D1 s v := by
 rw [Qi h0 h1 hv]; cases D1 s v <;> rfl
theorem QS {s : Int} {v : Nat} (h0 : 0 ≤ s) (h1 : s ≤ 255) (hv : v < 8) : (F4 .u8 (Fa .u8 s (v : Int)) 1 == 1) = D1 s v := by
 rw [Qi h0 h1 hv]; cases D1 s v <;> rfl
theorem LS {s : Int} {v : Nat} (h1 : s ≤ 255) (hv : 8 ≤ v) : D1 s v = false := by
 unfold D1
 apply Nat.testBit_lt_two_pow
 have : (2 : Nat) ^ 8 ≤ 2 ^ v := Nat.pow_le_pow_right (by omega) hv
 omega
theorem N5 : ∀ (b : Fin 8) (v : Fin 8), D1 (Dy .u8 1 (b.val : Int)) v.val = decide (b.val = v.val) ∧ 0 ≤ Dy .u8 1 (b.val : Int) ∧ Dy .u8 1 (b.val : Int) ≤ 255 := by decide +kernel
theorem U8 : ∀ (b n : Fin 8) (v : Fin 8), D1 (M5 .u8 (Dy .u8 1 (b.val : Int)) (Dy .u8 1 (n.val : Int))) v.val = (decide (b.val = v.val) || decide (n.val = v.val))
  ∧ 0 ≤ M5 .u8 (Dy .u8 1 (b.val : Int)) (Dy .u8 1 (n.val : Int)) ∧ M5 .u8 (Dy .u8 1 (b.val : Int)) (Dy .u8 1 (n.val : Int)) ≤ 255 := by decide +kernel
theorem RJ {m : Ag} {s : Nat} (hb0 : 0 ≤ m.fBase.getD s 0) (hb1 : m.fBase.getD s 0 < 8) (hn1 : m.fNext.getD s 0 < 8) :
  (∀ v, D1 (HQ m s) v = IY m s v) ∧ 0 ≤ HQ m s ∧ HQ m s ≤ 255 := by
 unfold HQ IY
 obtain ⟨b, hb⟩ := Int.eq_ofNat_of_zero_le hb0
 rw [hb] at hb1 ⊢
 by_cases h : 0 ≤ m.fNext.getD s 0
 ·obtain ⟨n, hn⟩ := Int.eq_ofNat_of_zero_le h
  rw [hn] at hn1 ⊢
  rw [if_pos (by omega)]
  have h1 := U8 ⟨b, by omega⟩ ⟨n, by omega⟩
  refine ⟨fun v => ?_, (h1 0).2⟩
  by_cases hv : v < 8
  ·rw [(h1 ⟨v, hv⟩).1]
   simp only [Int.ofNat_inj]
  ·rw [LS (h1 0).2.2 (by omega)]
   simp; omega
 ·rw [if_neg h]
  have h1 := N5 ⟨b, by omega⟩
  refine ⟨fun v => ?_, (h1 0).2⟩
  have h3 : decide (m.fNext.getD s 0 = (v : Int)) = false := decide_eq_false (by omega)
  rw [h3, Bool.or_false]
  by_cases hv : v < 8
  ·rw [(h1 ⟨v, hv⟩).1]
   simp only [Int.ofNat_inj]
  ·rw [LS (h1 0).2.2 (by omega)]
   simp; omega
theorem SY {a : Nat} (h : a < 256) : (BitVec.ofInt 8 (a : Int)).toNat = a := by
 simp; omega
theorem Ox {a b : Int} (ha : 0 ≤ a ∧ a ≤ 255) (hb : 0 ≤ b ∧ b ≤ 255) : Eh .u8 a b = 0 ↔ ∀ v, D1 a v = true → D1 b v = true := by
 obtain ⟨a, rfl⟩ := Int.eq_ofNat_of_zero_le ha.1
 obtain ⟨b, rfl⟩ := Int.eq_ofNat_of_zero_le hb.1
 have hA := SY (a := a) (by omega)
 have hB := SY (a := b) (by omega)
 unfold Eh D1
 simp only [IntKind.bits, Int.toNat_natCast]
 have hx : ∀ x : BitVec 8, IntKind.wrap .u8 (x.toNat : Int) = (x.toNat : Int) := by
  intro x
  have := x.isLt
  simp [IntKind.wrap, IntKind.signed, IntKind.bits]
  omega
 rw [hx]
 constructor
 ·intro h v hv
  have h0 : (BitVec.ofInt 8 (a : Int) &&& ~~~BitVec.ofInt 8 (b : Int)) = (BitVec.ofNat 8 0) := by
   apply BitVec.eq_of_toNat_eq
   simp only [BitVec.toNat_ofNat, Nat.zero_mod]
   exact Int.ofNat_inj.1 h
  by_cases hv8 : v < 8
  ·have h1 : (BitVec.ofInt 8 (a : Int) &&& ~~~BitVec.ofInt 8 (b : Int)).getLsbD v = false := by rw [h0]; simp
   rw [BitVec.getLsbD_and, BitVec.getLsbD_not] at h1
   have e1 : (BitVec.ofInt 8 (a : Int)).getLsbD v = a.testBit v := by unfold BitVec.getLsbD; rw [hA]
   have e2 : (BitVec.ofInt 8 (b : Int)).getLsbD v = b.testBit v := by unfold BitVec.getLsbD; rw [hB]
   rw [e1, e2, hv] at h1
   simpa [hv8] using h1
  ·have := LS (s := (a : Int)) (v := v) (by omega) (by omega)
   unfold D1 at this
   rw [Int.toNat_natCast, hv] at this
   cases this
 ·intro h
  have h0 : (BitVec.ofInt 8 (a : Int) &&& ~~~BitVec.ofInt 8 (b : Int)) = (BitVec.ofNat 8 0) := by
   apply BitVec.eq_of_getLsbD_eq
   intro i hi
   rw [BitVec.getLsbD_and, BitVec.getLsbD_not]
   have e1 : (BitVec.ofInt 8 (a : Int)).getLsbD i = a.testBit i := by unfold BitVec.getLsbD; rw [hA]
   have e2 : (BitVec.ofInt 8 (b : Int)).getLsbD i = b.testBit i := by unfold BitVec.getLsbD; rw [hB]
   rw [e1, e2]
   have := h i
   cases h3 : a.testBit i
   ·simp
   ·rw [this h3]; simp
  have h2 : ∀ x : BitVec 8, x = (BitVec.ofNat 8 0) → (x.toNat : Int) = 0 := fun x hx => by rw [hx]; rfl
  exact h2 _ h0
theorem VB : ∀ n : Fin 9, (∀ v : Fin 8, D1 (IntKind.wrap .u8 (Dy .u8 1 (n.val : Int) - 1)) v.val = decide (v.val < n.val)) ∧ 0 ≤ IntKind.wrap .u8 (Dy .u8 1 (n.val : Int) - 1) ∧ IntKind.wrap .u8 (Dy .u8 1 (n.val : Int) - 1) ≤ 255 := by decide +kernel
theorem SV {n : Int} (h0 : 0 ≤ n) (h1 : n ≤ 8) : (∀ v, D1 (IntKind.wrap .u8 (Dy .u8 1 n - 1)) v = decide ((v : Int) < n)) ∧ 0 ≤ IntKind.wrap .u8 (Dy .u8 1 n - 1) ∧ IntKind.wrap .u8 (Dy .u8 1 n - 1) ≤ 255 := by
 obtain ⟨n, rfl⟩ := Int.eq_ofNat_of_zero_le h0
 have h := VB ⟨n, by omega⟩
 refine ⟨fun v => ?_, h.2⟩
 by_cases hv : v < 8
 ·rw [h.1 ⟨v, hv⟩]; simp
 ·rw [LS h.2.2 (by omega)]
  symm; apply decide_eq_false; omega
structure FJ (p : Ak) (m : Ag) : Prop extends MixServ p m where
 range : ∀ i, i < p.fTables.length → 0 ≤ m.fHeld.getD i 0 ∧ m.fHeld.getD i 0 ≤ 255
 low : ∀ i t, p.fTables[i]? = some t → CI t = true → ∀ v, IY m t.fFrom.toNat v = true → D1 (m.fHeld.getD i 0) v = true
 high : ∀ i t, p.fTables[i]? = some t → CI t = true → ∀ v, D1 (m.fHeld.getD i 0) v = true → (v : Int) < p.fVersions.getD t.fFrom.toNat 0
 none : ∀ i t, p.fTables[i]? = some t → CI t = false → m.fHeld.getD i 0 = 0
theorem J0 {p : Ak} (hp : CB p) {i : Nat} (hi : i < p.fVersions.length) : 1 ≤ p.fVersions.getD i 0 ∧ p.fVersions.getD i 0 ≤ 6 := by
 have := Lg (i := (i : Int)) hp.ver (by omega) (by omega)
 simpa using this
theorem Jb {p : Ak} {m : Ag} (hp : CB p) (hm : MixServ p m) {s : Nat} (hs : s < p.fVersions.length) :
  (∀ v, D1 (HQ m s) v = IY m s v) ∧ 0 ≤ HQ m s ∧ HQ m s ≤ 255 := by
 have h1 := hm.b0 s hs
 have h2 := hm.n0 s hs
 have h3 := J0 hp hs
 exact RJ h1.1 (by omega) (by omega)
theorem Q2 {p : Ak} {m : Ag} (hp : CB p) (hm : MixServ p m) {i : Nat} {t : AO} (ht : p.fTables[i]? = some t) (hr : 0 ≤ m.fHeld.getD i 0 ∧ m.fHeld.getD i 0 ≤ 255) :
  Km p m i t = none ↔ ((CI t = true → (∀ v, IY m t.fFrom.toNat v = true → D1 (m.fHeld.getD i 0) v = true) ∧ (∀ v, D1 (m.fHeld.getD i 0) v = true → (v : Int) < p.fVersions.getD t.fFrom.toNat 0)) ∧ (CI t = false → m.fHeld.getD i 0 = 0)) := by
 have hin := Kw (hp.tab t (List.mem_of_getElem? ht))
 have hrun := Jb hp hm (s := t.fFrom.toNat) (by omega)
 have hver := J0 hp (i := t.fFrom.toNat) (by omega)
 have hall := SV (n := p.fVersions.getD t.fFrom.toNat 0) (by omega) (by omega)
 unfold Km VS
 have e1 := Ox hrun.2 hr
 have e2 := Ox hr hall.2
 cases hst : CI t
 ·simp
 ·simp only [if_true, true_implies, Bool.true_eq_false, false_implies, and_true, ite_eq_right_iff, reduceCtorEq, imp_false, not_or, Decidable.not_not]
  rw [e1, e2]
  simp only [hrun.1, hall.1, decide_eq_true_eq]
theorem Je {p : Ak} {m : Ag} (hw : Ml KO m.fHeld) (h : EA p m = 0) : CB p ∧ FJ p m := by
 unfold EA at h
 split at h
 ·rename_i k; exact (k h).elim
 ·rename_i k0
  have hp : CB p := by
   rcases JE p with h | h
   ·exact h.2
   ·omega
  split at h
  ·cases h
  ·rename_i k1
   have b1 : m.fBase.length = p.fVersions.length := Decidable.not_not.1 fun h => k1 (.inl h)
   have b2 : m.fNext.length = p.fVersions.length := Decidable.not_not.1 fun h => k1 (.inr (.inl h))
   have b3 : m.fHeld.length = p.fTables.length := Decidable.not_not.1 fun h => k1 (.inr (.inr h))
   cases hs : ES (Mm m) 0 p.fVersions with
   | some r =>
    obtain ⟨j, x, _, he⟩ := Gb hs
    rw [hs] at h
    unfold Mm at he
    simp only [Cq, Option.getD_some] at h
    split at he
    ·cases he; cases h
    ·split at he
     ·cases he; cases h
     ·cases he
   | none =>
    have hm := P1 b1 b2 b3 hs
    rw [hs] at h
    simp only [Cq] at h
    cases ht : ES (Km p m) 0 p.fTables with
    | some r =>
     obtain ⟨j, x, _, he⟩ := Gb ht
     rw [ht] at h
     simp only [Option.getD_some] at h
     subst h
     unfold Km at he
     split at he
     ·split at he <;> cases he
     ·split at he <;> cases he
    | none =>
     have hr : ∀ i, i < p.fTables.length → 0 ≤ m.fHeld.getD i 0 ∧ m.fHeld.getD i 0 ≤ 255 := fun i hi => JQ (RL hw (by omega))
     have key : ∀ i t, p.fTables[i]? = some t → _ := fun i t hi => (Q2 hp hm hi (hr i (List.getElem?_eq_some_iff.1 hi).1)).1 (by have := HF ht i t hi; rwa [Nat.zero_add] at this)
     exact ⟨hp, hm, hr, fun i t hi hst => ((key i t hi).1 hst).1, fun i t hi hst => ((key i t hi).1 hst).2, fun i t hi hst => (key i t hi).2 hst⟩
theorem FM {α R : Type} {f : Nat → α → Option R} : ∀ {i : Nat} {xs : List α}, (∀ j x, xs[j]? = some x → f (i + j) x = none) → ES f i xs = none
 | _, [], _ => rfl
 | i, y :: ys, h => by
  rw [Im, show f i y = none from h 0 y rfl]
  exact FM fun j x hx => by
   have := h (j + 1) x (by simpa using hx)
   rwa [show i + (j + 1) = i + 1 + j from by omega] at this
theorem QF {p : Ak} (hp : CB p) (hr : ∀ i, i < p.fVersions.length → 0 ≤ p.fNow.getD i 0 ∧ p.fNow.getD i 0 < p.fVersions.getD i 0 ∧ 0 ≤ p.fTarget.getD i 0 ∧ p.fTarget.getD i 0 < p.fVersions.getD i 0) : Ez p = 0 := by
 have := hp.nv
 have := hp.nt
 have := hp.now
 have := hp.tgt
 unfold Ez
 rw [if_neg (by omega), if_neg (by omega)]
 have h1 : ES (Hb p) 0 p.fVersions = none := FM fun j x hx => by
  have hj := (List.getElem?_eq_some_iff.1 hx).1
  have h1 := hr j hj
  have h2 := J0 hp hj
  have e : p.fVersions.getD j 0 = x := by rw [List.getD_eq_getElem?_getD, hx]; rfl
  rw [e] at h1 h2
  unfold Hb
  rw [Nat.zero_add, if_neg (by omega)]
 have h2 : ES (MV p) 0 p.fTables = none := FM fun j x hx => by
  unfold MV
  rw [if_pos (hp.tab x (List.mem_of_getElem? hx))]
 rw [h1, h2]; rfl
theorem I1 {p : Ak} (h : Ez p = 0) : CB p ∧ ∀ i, i < p.fVersions.length → 0 ≤ p.fNow.getD i 0 ∧ p.fNow.getD i 0 < p.fVersions.getD i 0 ∧ 0 ≤ p.fTarget.getD i 0 ∧ p.fTarget.getD i 0 < p.fVersions.getD i 0 := by
 have hp : CB p := by
  rcases JE p with h | h
  ·exact h.2
  ·omega
 refine ⟨hp, fun i hi => ?_⟩
 have h1 := hp.nv
 have h2 := hp.nt
 have h3 := hp.now
 have h4 := hp.tgt
 unfold Ez at h
 rw [if_neg (by omega), if_neg (by omega)] at h
 cases hs : ES (Hb p) 0 p.fVersions with
 | some r =>
  obtain ⟨j, x, _, he⟩ := Gb hs
  rw [hs] at h
  unfold Hb at he
  split at he
  ·cases he; cases h
  ·cases he
 | none =>
  have hx : p.fVersions[i]? = some (p.fVersions.getD i 0) := by rw [List.getD_eq_getElem?_getD]; simp [hi]
  have := HF hs i _ hx
  rw [Nat.zero_add] at this
  unfold Hb at this
  split at this
  ·cases this
  ·rename_i hn; omega
theorem LI {p : Ak} {m : Ag} (hv : Ez p = 0) (hm : FJ p m) : EA p m = 0 := by
 obtain ⟨hp, _⟩ := I1 hv
 unfold EA
 rw [hv, if_neg (by simp), if_neg (by have := hm.base; have := hm.next; have := hm.held; omega)]
 have h1 : ES (Mm m) 0 p.fVersions = none := FM fun j x hx => by
  have hj := (List.getElem?_eq_some_iff.1 hx).1
  have e : p.fVersions.getD j 0 = x := by rw [List.getD_eq_getElem?_getD, hx]; rfl
  have h1 := hm.b0 j hj
  have h2 := hm.n0 j hj
  have h3 := hm.ne j hj
  rw [e] at h1 h2
  unfold Mm
  rw [Nat.zero_add, if_neg (by omega), if_neg h3]
 have h2 : ES (Km p m) 0 p.fTables = none := FM fun j x hx => by
  have hj := (List.getElem?_eq_some_iff.1 hx).1
  rw [Nat.zero_add]
  exact (Q2 hp hm.toMixServ hx (hm.range j hj)).2 ⟨fun hst => ⟨hm.low j x hx hst, hm.high j x hx hst⟩, fun hst => hm.none j x hx hst⟩
 rw [h1, h2]; rfl
end Go.Lift

/- The conflicts of a mix: both implementations give one answer. -/
namespace Go.Lift
def Ov {α : Type} (g : Nat → α → Bool) : Nat → List α → Bool
 | _, [] => false
 | i, x :: xs => g i x || Ov g (i + 1) xs
theorem Mc {α β : Type} (g : Nat → α → List β) (h : Nat → α → Bool) : ∀ (i : Nat) (xs : List α) (a : List β) (b : Bool),
  Jt (fun i x (s : List β × Bool) => (s.1 ++ g i x, s.2 || h i x)) i xs (a, b) = (a ++ EX g i xs, b || Ov h i xs)
 | _, [], a, b => by simp [Jt, EX, Ov]
 | i, x :: xs, a, b => by rw [Jt, Mc g h, EX, Ov, List.append_assoc, Bool.or_assoc]
def gC (i u : Nat) (m : Ag) (t : AO) (v : Nat) (ok : Bool) : List Af :=
 if IY m t.fTo.toNat v && (!ok && !t.fAware) then [⟨(i : Int), (u : Int), (v : Int)⟩] else []
def hC (m : Ag) (t : AO) (v : Nat) (ok : Bool) : Bool := IY m t.fTo.toNat v && ok
def K3 (i : Nat) (m : Ag) (t : AO) (u : Nat) (row : List Bool) : List Af :=
 EX (gC i u m t) 0 row ++ if t.fAware && !Ov (hC m t) 0 row then [⟨(i : Int), (u : Int), -1⟩] else []
def Ti (m : Ag) (i : Nat) (t : AO) (u : Nat) : Bool := if CI t then D1 (m.fHeld.getD i 0) u else IY m t.fFrom.toNat u
def KR (m : Ag) (i : Nat) (t : AO) : List Af := EX (fun u row => if Ti m i t u then K3 i m t u row else []) 0 t.fOK
def JT (p : Ak) (m : Ag) : List Af := EX (KR m) 0 p.fTables
structure Ol (p : Ak) (t : AO) : Prop where
 kind : 1 ≤ t.fKind ∧ t.fKind ≤ 4
 aware : t.fAware = true → CI t = false
 from0 : 0 ≤ t.fFrom ∧ t.fFrom < (p.fVersions.length : Int)
 to0 : 0 ≤ t.fTo ∧ t.fTo < (p.fVersions.length : Int)
 okL : (t.fOK.length : Int) = p.fVersions.getD t.fFrom.toNat 0
 okR : ∀ row, row ∈ t.fOK → (row.length : Int) = p.fVersions.getD t.fTo.toNat 0
 reL : t.fKind = 4 → (t.fRewrite.length : Int) = p.fVersions.getD t.fFrom.toNat 0
 reR : ∀ row, row ∈ t.fRewrite → (row.length : Int) = p.fVersions.getD t.fFrom.toNat 0
 reD : t.fKind = 4 → JU t.fRewrite = none
 reN : t.fKind ≠ 4 → t.fRewrite = []
theorem LG {p : Ak} {t : AO} (h : E5 p t = 0) : Ol p t := by
 unfold E5 at h
 split at h
 ·cases h
 rename_i h1
 split at h
 ·cases h
 rename_i h2
 simp only at h
 split at h
 ·cases h
 rename_i h3
 have h3 : sq t.fOK (p.fVersions.getD t.fFrom.toNat 0) (p.fVersions.getD t.fTo.toNat 0) = true := by simpa using h3
 have h3 := Oc h3
 have ha : t.fAware = true → CI t = false := by
  intro ha
  unfold CI
  rw [Bool.or_eq_false_iff, beq_eq_false_iff_ne, beq_eq_false_iff_ne]
  exact ⟨fun hk => h1 (.inr (.inr ⟨ha, .inl hk⟩)), fun hk => h1 (.inr (.inr ⟨ha, .inr hk⟩))⟩
 split at h
 ·rename_i h4
  split at h
  ·cases h
  rename_i h5
  have h5 : sq t.fRewrite (p.fVersions.getD t.fFrom.toNat 0) (p.fVersions.getD t.fFrom.toNat 0) = true := by simpa using h5
  have h5 := Oc h5
  refine ⟨by omega, ha, by omega, by omega, h3.1, h3.2, fun _ => h5.1, h5.2, fun _ => ?_, fun h => (h h4).elim⟩
  cases hd : JU t.fRewrite with
  | none => rfl
  | some r =>
   obtain ⟨j, x, _, hx⟩ := Gb hd
   rw [hd] at h
   split at hx
   ·cases hx
   ·cases hx; cases h
 ·rename_i h4
  split at h
  ·rename_i h5
   have h5 := List.eq_nil_of_length_eq_zero h5
   refine ⟨by omega, ha, by omega, by omega, h3.1, h3.2, fun h => (h4 h).elim, fun row hr => ?_, fun h => (h4 h).elim, fun _ => h5⟩
   rw [h5] at hr; cases hr
  ·cases h
theorem LN {R : Type} (b : Bool) (acc : List Af) (x : Af) (j : List Af → Option R) (h : acc.length + 1 ≤ E8) :
  AR b ((E7 (acc.length + ([x] : List Af).length ≤ E8)).bind fun _ => j (acc ++ [x])) (j acc) = j (acc ++ if b then [x] else []) := by
 cases b
 ·simp
 ·rw [A6, AK (by simpa using h)]; rfl
theorem Rx (N : Nat) (m : Ag) (t : AO) (i u : Nat) (row : List Bool) (R : Int) (b1 b2 acc : List Af) (j : List Af × Bool → Option (List Af))
  (hN : N ≤ 1000000) (h8 : 8 ≤ N) (hrow : row.length ≤ 6) (hacc : acc.length + 6 ≤ E8) (hR0 : 0 ≤ R) (hR1 : R ≤ 255) (hRb : ∀ v, D1 R v = IY m t.fTo.toNat v) :
  Cv N (b1, (i : Int)) t R (b2, (u : Int)) row j N (acc, false, 0) = j (acc ++ EX (gC i u m t) 0 row, Ov (hC m t) 0 row) := by
 have := JK (A := List Af × Bool) (Cv N (b1, (i : Int)) t R (b2, (u : Int)) row j) (fun a k => (a.1, a.2, k)) row (fun a => j a) (fun v ok s => (s.1 ++ gC i u m t v ok, s.2 || hC m t v ok))
  (fun v a => v ≤ row.length ∧ a.1.length ≤ acc.length + v)
  (fun n v ok a hx ha => by
   have hv := (List.getElem?_eq_some_iff.1 hx).1
   obtain ⟨c, f⟩ := a
   simp only at ha
   refine ⟨?_, by omega, ?_⟩
   ·rw [Cv]
    simp only [BB]
    rw [A1 (by omega), BU, hx]
    simp only [Option.bind_some]
    rw [AK (by omega), RI hR0 hR1 (by omega), hRb, A8 (by omega), LN _ _ _ (fun l => Cv N (b1, (i : Int)) t R (b2, (u : Int)) row j n (l, true, ((v + 1 : Nat) : Int))) (by omega)]
    unfold gC hC
    rw [LN _ _ _ (fun l => Cv N (b1, (i : Int)) t R (b2, (u : Int)) row j n (l, ok, ((v + 1 : Nat) : Int))) (by omega)]
    cases IY m t.fTo.toNat v
    ·simp
    ·cases ok <;> cases f <;> cases t.fAware <;> simp
   ·simp only [gC, List.length_append]
    split <;> simp <;> omega)
  (fun n a _ => by
   rw [Cv]
   simp only [BB]
   rw [AY (by omega)]) N 0 (acc, false) (by omega) (by omega) ⟨by omega, by simp⟩
 have h2 := this.1
 rw [List.drop_zero, Mc, Bool.false_or] at h2
 exact h2
end Go.Lift

/- The conflicts of a mix: both implementations give one answer. -/
namespace Go.Lift
theorem N8 {p : Ak} {t : AO} (hp : CB p) (ht : Ol p t) : t.fOK.length ≤ 6 ∧ ∀ row, row ∈ t.fOK → row.length ≤ 6 := by
 have h1 := Lg hp.ver ht.from0.1 ht.from0.2
 have h2 := Lg hp.ver ht.to0.1 ht.to0.2
 have h3 := ht.okL
 exact ⟨by omega, fun row hr => by have := ht.okR row hr; omega⟩
theorem R2 (i u : Nat) (m : Ag) (t : AO) (v : Nat) (ok : Bool) : (gC i u m t v ok).length ≤ 1 := by
 unfold gC; split <;> simp
theorem Sa (i : Nat) (m : Ag) (t : AO) (u : Nat) (row : List Bool) (h : row.length ≤ 6) : (K3 i m t u row).length ≤ 7 := by
 unfold K3
 rw [List.length_append]
 have := G4 (g := gC i u m t) (c := 1) (i := 0) (xs := row) (fun j x _ => R2 _ _ _ _ _ _)
 split <;> simp <;> omega
theorem R6 (i : Nat) (m : Ag) (t : AO) (u : Nat) (row : List Bool) (h : row.length ≤ 6) : (if Ti m i t u = true then K3 i m t u row else []).length ≤ 7 := by
 have := Sa i m t u row h
 split <;> simp <;> omega
theorem NF {p : Ak} {t : AO} (hp : CB p) (ht : Ol p t) (i : Nat) (m : Ag) : (KR m i t).length ≤ 42 := by
 have h1 := N8 hp ht
 have := G4 (g := fun u row => if Ti m i t u = true then K3 i m t u row else []) (c := 7) (i := 0) (xs := t.fOK) (fun j x hx => R6 i m t _ x (h1.2 x (List.mem_of_getElem? hx)))
 unfold KR
 omega
theorem M2 (N : Nat) (p : Ak) (m : Ag) (t : AO) (i : Nat) (W R : Int) (b1 acc : List Af) (j : List Af → Option (List Af))
  (hN : N ≤ 1000000) (h8 : 8 ≤ N) (hp : CB p) (ht : Ol p t) (hacc : acc.length + 42 ≤ 10000) (hR0 : 0 ≤ R) (hR1 : R ≤ 255) (hRb : ∀ v, D1 R v = IY m t.fTo.toNat v) (hW0 : 0 ≤ W) (hW1 : W ≤ 255) (hWb : ∀ v, D1 W v = Ti m i t v) :
  C7 N (b1, (i : Int)) t R W j N (acc, 0) = j (acc ++ KR m i t) := by
 have hl := N8 hp ht
 exact G5 (C7 N (b1, (i : Int)) t R W j) (fun a k => (a, k)) t.fOK j (fun u row => if Ti m i t u then K3 i m t u row else []) 7 10000
  (fun u row hx => R6 i m t u row (hl.2 row (List.mem_of_getElem? hx)))
  (fun n u row a hx ha => by
   have hu := (List.getElem?_eq_some_iff.1 hx).1
   have hrow := hl.2 row (List.mem_of_getElem? hx)
   rw [C7]
   simp only [BB]
   rw [A1 (by omega), AK (by omega), RI hW0 hW1 (by omega), hWb, BU, hx]
   simp only [Option.bind_some]
   rw [Rx N m t i u row R b1 a a _ hN h8 hrow (by unfold E8; omega) hR0 hR1 hRb, A8 (by omega)]
   cases hw : Ti m i t u
   ·simp
   ·simp only [Bool.not_true, AE, if_true, K3]
    have h1 := G4 (g := gC i u m t) (c := 1) (i := 0) (xs := row) (fun j x _ => R2 _ _ _ _ _ _)
    have := LN (R := List Af) (t.fAware && !Ov (hC m t) 0 row) (a ++ EX (gC i u m t) 0 row) ⟨(i : Int), (u : Int), -1⟩ (fun l => C7 N (b1, (i : Int)) t R W j n (l, ((u + 1 : Nat) : Int))) (by rw [List.length_append]; unfold E8; rw [hw, if_pos rfl] at ha; omega)
    rw [← List.append_assoc, ← this]
    cases t.fAware <;> cases Ov (hC m t) 0 row <;> rfl)
  (fun n a => by
   rw [C7]
   simp only [BB]
   rw [AY (by omega)]) N acc (by omega) (by omega)
theorem QT (N : Nat) (p : Ak) (m : Ag) (t : AO) (i u : Nat) (row : List Bool) (b1 b2 acc : List Af) (j : List Af × Bool → Option (List Af))
  (hN : N ≤ 1000000) (h8 : 8 ≤ N) (hp : CB p) (hm : MixServ p m) (ht : Ol p t) (hu : t.fOK[u]? = some row) (hacc : acc.length + 6 ≤ E8) :
  BE N p m (b1, (i : Int)) t (b2, (u : Int)) j N (acc, false, 0) = j (acc ++ EX (gC i u m t) 0 row, Ov (hC m t) 0 row) := by
 have hrow := (N8 hp ht).2 row (List.mem_of_getElem? hu)
 have hR := Jb hp hm (s := t.fTo.toNat) (by have := ht.to0; omega)
 have hlen := ht.okR row (List.mem_of_getElem? hu)
 have hto := ht.to0
 have := JK (A := List Af × Bool) (BE N p m (b1, (i : Int)) t (b2, (u : Int)) j) (fun a k => (a.1, a.2, k)) row (fun a => j a) (fun v ok s => (s.1 ++ gC i u m t v ok, s.2 || hC m t v ok))
  (fun v a => v ≤ row.length ∧ a.1.length ≤ acc.length + v)
  (fun n v ok a hx ha => by
   have hv := (List.getElem?_eq_some_iff.1 hx).1
   obtain ⟨c, f⟩ := a
   simp only at ha
   refine ⟨?_, by omega, ?_⟩
   ·rw [BE]
    simp only [BB]
    rw [FG (d := 0) hto.1 hto.2, J5 N m t.fTo hto.1 (by rw [hm.base]; exact hto.2) (by rw [hm.next]; exact hto.2) (hm.b0 _ (by omega)).1, BU, hu]
    simp only [Option.bind_some]
    unfold De
    rw [A1 (by omega), BU, hx, AK (by omega), QS hR.2.1 hR.2.2 (by omega), hR.1]
    simp only [Option.bind_some]
    rw [A8 (by omega), LN _ _ _ (fun l => BE N p m (b1, (i : Int)) t (b2, (u : Int)) j n (l, true, ((v + 1 : Nat) : Int))) (by omega)]
    unfold gC hC
    rw [LN _ _ _ (fun l => BE N p m (b1, (i : Int)) t (b2, (u : Int)) j n (l, ok, ((v + 1 : Nat) : Int))) (by omega)]
    cases IY m t.fTo.toNat v
    ·simp
    ·cases ok <;> cases f <;> cases t.fAware <;> simp
   ·simp only [gC, List.length_append]
    split <;> simp <;> omega)
  (fun n a _ => by
   rw [BE]
   simp only [BB]
   rw [FG (d := 0) hto.1 hto.2]
   simp only [Option.bind_some]
   rw [AY (by omega)]) N 0 (acc, false) (by omega) (by omega) ⟨by omega, by simp⟩
 have h2 := this.1
 rw [List.drop_zero, Mc, Bool.false_or] at h2
 exact h2
theorem MG (N : Nat) (p : Ak) (m : Ag) (t : AO) (i : Nat) (W : Int) (b1 acc : List Af) (j : List Af → Option (List Af))
  (hN : N ≤ 1000000) (h8 : 8 ≤ N) (hp : CB p) (hm : MixServ p m) (ht : Ol p t) (hacc : acc.length + 42 ≤ 10000) (hW0 : 0 ≤ W) (hW1 : W ≤ 255) (hWb : ∀ v, D1 W v = Ti m i t v) :
  B3 N p m (b1, (i : Int)) t W j N (acc, 0) = j (acc ++ KR m i t) := by
 have hl := N8 hp ht
 have hfr := ht.from0
 have hok := ht.okL
 exact G5 (B3 N p m (b1, (i : Int)) t W j) (fun a k => (a, k)) t.fOK j (fun u row => if Ti m i t u then K3 i m t u row else []) 7 10000
  (fun u row hx => R6 i m t u row (hl.2 row (List.mem_of_getElem? hx)))
  (fun n u row a hx ha => by
   have hu := (List.getElem?_eq_some_iff.1 hx).1
   have hrow := hl.2 row (List.mem_of_getElem? hx)
   rw [B3]
   simp only [BB]
   rw [FG (d := 0) hfr.1 hfr.2]
   simp only [Option.bind_some]
   unfold De
   rw [A1 (by omega), AK (by omega), QS hW0 hW1 (by omega), hWb]
   simp only [Option.bind_some]
   rw [QT N p m t i u row b1 a a _ hN h8 hp hm ht hx (by unfold E8; omega), A8 (by omega)]
   cases hw : Ti m i t u
   ·simp
   ·simp only [Bool.not_true, AE, if_true, K3]
    have h1 := G4 (g := gC i u m t) (c := 1) (i := 0) (xs := row) (fun j x _ => R2 _ _ _ _ _ _)
    have := LN (R := List Af) (t.fAware && !Ov (hC m t) 0 row) (a ++ EX (gC i u m t) 0 row) ⟨(i : Int), (u : Int), -1⟩ (fun l => B3 N p m (b1, (i : Int)) t W j n (l, ((u + 1 : Nat) : Int))) (by rw [List.length_append]; unfold E8; rw [hw, if_pos rfl] at ha; omega)
    rw [← List.append_assoc, ← this]
    cases t.fAware <;> cases Ov (hC m t) 0 row <;> rfl)
  (fun n a => by
   rw [B3]
   simp only [BB]
   rw [FG (d := 0) hfr.1 hfr.2]
   simp only [Option.bind_some]
   rw [AY (by omega)]) N acc (by omega) (by omega)
theorem Na (N : Nat) (p : Ak) (m : Ag) (hN : N ≤ 1000000) (h20 : 20 ≤ N) (hp : CB p) (hm : FJ p m) : GC N p m = some (JT p m) := by
 unfold GC
 have hnt := hp.nt
 rw [G5 (Eo N p m _) (fun a k => (a, k)) p.fTables some (KR m) 42 9000
  (fun i t hx => NF hp (LG (hp.tab t (List.mem_of_getElem? hx))) i m)
  (fun n i t a hx ha => by
   have hi := (List.getElem?_eq_some_iff.1 hx).1
   have ht := LG (hp.tab t (List.mem_of_getElem? hx))
   have hto := ht.to0
   have hfr := ht.from0
   have hR := Jb hp hm.toMixServ (s := t.fTo.toNat) (by omega)
   have hF := Jb hp hm.toMixServ (s := t.fFrom.toNat) (by omega)
   have hH := hm.range i hi
   rw [Eo]
   simp only [BB]
   rw [A1 (by omega), BU, hx]
   simp only [Option.bind_some, L6]
   rw [Mg N m t.fFrom hfr.1 (by rw [hm.base]; exact hfr.2) (by rw [hm.next]; exact hfr.2) (hm.b0 _ (by omega)).1, Mg N m t.fTo hto.1 (by rw [hm.base]; exact hto.2) (by rw [hm.next]; exact hto.2) (hm.b0 _ (by omega)).1, Em (d := 0) (by rw [hm.held]; exact hi), A8 (by omega)]
   simp only [Option.bind_some]
   cases hs : CI t
   ·rw [AE, M2 N p m t i _ _ a a _ hN (by omega) hp ht (by omega) hR.2.1 hR.2.2 hR.1 hF.2.1 hF.2.2 (fun v => by unfold Ti; rw [hs, hF.1]; rfl)]
   ·rw [A6, M2 N p m t i _ _ a a _ hN (by omega) hp ht (by omega) hR.2.1 hR.2.2 hR.1 hH.1 hH.2 (fun v => by unfold Ti; rw [hs]; rfl)])
  (fun n a => by
   rw [Eo]
   simp only [BB]
   rw [AY (by omega)]) N [] (by omega) (by simp; omega)]
 rfl
theorem M6 (N : Nat) (p : Ak) (m : Ag) (hN : N ≤ 1000000) (h20 : 20 ≤ N) (hp : CB p) (hm : FJ p m) : Fy N p m = some (JT p m) := by
 unfold Fy
 have hnt := hp.nt
 rw [G5 (Du N p m _) (fun a k => (a, k)) p.fTables some (KR m) 42 9000
  (fun i t hx => NF hp (LG (hp.tab t (List.mem_of_getElem? hx))) i m)
  (fun n i t a hx ha => by
   have hi := (List.getElem?_eq_some_iff.1 hx).1
   have ht := LG (hp.tab t (List.mem_of_getElem? hx))
   have hto := ht.to0
   have hfr := ht.from0
   have hF := Jb hp hm.toMixServ (s := t.fFrom.toNat) (by omega)
   have hH := hm.range i hi
   rw [Du]
   simp only [BB]
   rw [A1 (by omega), BU, hx]
   simp only [Option.bind_some, G1]
   rw [J5 N m t.fFrom hfr.1 (by rw [hm.base]; exact hfr.2) (by rw [hm.next]; exact hfr.2) (hm.b0 _ (by omega)).1, Em (d := 0) (by rw [hm.held]; exact hi), A8 (by omega)]
   simp only [Option.bind_some]
   cases hs : CI t
   ·rw [AE, MG N p m t i _ a a _ hN (by omega) hp hm.toMixServ ht (by omega) hF.2.1 hF.2.2 (fun v => by unfold Ti; rw [hs, hF.1]; rfl)]
   ·rw [A6, MG N p m t i _ a a _ hN (by omega) hp hm.toMixServ ht (by omega) hH.1 hH.2 (fun v => by unfold Ti; rw [hs]; rfl)])
  (fun n a => by
   rw [Du]
   simp only [BB]
   rw [AY (by omega)]) N [] (by omega) (by simp; omega)]
 rfl
end Go.Lift

/- The drafts: what the recipes give is a valid problem and a valid mix. -/
namespace Go.Lift
theorem Gl {A S R : Type} (L : Nat → S → Option R) (mk : A → Int → S) (len : Nat) (j : A → Option R) (I : Nat → A → Prop)
  (hs : ∀ (n i : Nat) (a : A), i < len → I i a → ∃ a', L (n + 1) (mk a (i : Int)) = L n (mk a' ((i + 1 : Nat) : Int)) ∧ I (i + 1) a')
  (he : ∀ (n : Nat) (a : A), I len a → L (n + 1) (mk a (len : Int)) = j a) :
  ∀ (n i : Nat) (a : A), i ≤ len → len - i < n → I i a → ∃ a', L n (mk a (i : Int)) = j a' ∧ I len a'
 | 0, i, _, _, h, _ => by omega
 | n + 1, i, a, hi, h, ha => by
  by_cases h1 : i < len
  ·obtain ⟨a', e1, e2⟩ := hs n i a h1 ha
   rw [e1]
   exact Gl L mk len j I hs he n (i + 1) _ (by omega) (by omega) e2
  ·have : i = len := by omega
   subst this
   exact ⟨a, he n a ha, ha⟩
theorem Ke {α : Type} {xs ys : List α} {i : Nat} {d : α} (h : i < xs.length) : (xs ++ ys).getD i d = xs.getD i d := by
 rw [List.getD_eq_getElem?_getD, List.getD_eq_getElem?_getD, List.getElem?_append_left h]
theorem Ko {α : Type} {xs : List α} {y : α} {i : Nat} {d : α} (h : i = xs.length) : (xs ++ [y]).getD i d = y := by
 subst h; rw [List.getD_eq_getElem?_getD, List.getElem?_append_right (Nat.le_refl _)]; simp
theorem Hs {α : Type} {P : Nat → α → Prop} {xs : List α} {y : α} {d : α} {n : Nat} (hn : xs.length = n) (h : ∀ k, k < n → P k (xs.getD k d)) (hy : P n y) : ∀ k, k < n + 1 → P k ((xs ++ [y]).getD k d) := by
 intro k hk
 by_cases h1 : k < n
 ·rw [Ke (by omega)]; exact h k h1
 ·have : k = n := by omega
  subst this
  rw [Ko hn.symm]; exact hy
theorem Sy (x : BitVec 8) : IntKind.wrap .u8 (x.toNat : Int) = (x.toNat : Int) := by
 have := x.isLt
 simp [IntKind.wrap, IntKind.signed, IntKind.bits]
 omega
theorem Uu {a : Int} (h : 0 ≤ a ∧ a ≤ 255) : IntKind.wrap .u8 a = a := by
 simp [IntKind.wrap, IntKind.signed, IntKind.bits]
 omega
theorem K2 {a : Nat} (h : a < 256) (i : Nat) : (BitVec.ofInt 8 (a : Int)).toNat.testBit i = a.testBit i := by rw [SY h]
theorem VA {a b : Int} (ha : 0 ≤ a ∧ a ≤ 255) (hb : 0 ≤ b ∧ b ≤ 255) : (∀ v, D1 (M5 .u8 a b) v = (D1 a v || D1 b v)) ∧ 0 ≤ M5 .u8 a b ∧ M5 .u8 a b ≤ 255 := by
 obtain ⟨a, rfl⟩ := Int.eq_ofNat_of_zero_le ha.1
 obtain ⟨b, rfl⟩ := Int.eq_ofNat_of_zero_le hb.1
 have e : M5 .u8 (a : Int) (b : Int) = ((BitVec.ofInt 8 (a : Int) ||| BitVec.ofInt 8 (b : Int)).toNat : Int) := Sy _
 have hlt := (BitVec.ofInt 8 (a : Int) ||| BitVec.ofInt 8 (b : Int)).isLt
 rw [e]
 refine ⟨fun v => ?_, by omega, by omega⟩
 unfold D1
 simp only [Int.toNat_natCast, BitVec.toNat_or, Nat.testBit_or]
 rw [K2 (by omega), K2 (by omega)]
theorem UI {a b : Int} (ha : 0 ≤ a ∧ a ≤ 255) (hb : 0 ≤ b ∧ b ≤ 255) : (∀ v, D1 (F4 .u8 a b) v = (D1 a v && D1 b v)) ∧ 0 ≤ F4 .u8 a b ∧ F4 .u8 a b ≤ 255 := by
 obtain ⟨a, rfl⟩ := Int.eq_ofNat_of_zero_le ha.1
 obtain ⟨b, rfl⟩ := Int.eq_ofNat_of_zero_le hb.1
 have e : F4 .u8 (a : Int) (b : Int) = ((BitVec.ofInt 8 (a : Int) &&& BitVec.ofInt 8 (b : Int)).toNat : Int) := Sy _
 have hlt := (BitVec.ofInt 8 (a : Int) &&& BitVec.ofInt 8 (b : Int)).isLt
 rw [e]
 refine ⟨fun v => ?_, by omega, by omega⟩
 unfold D1
 simp only [Int.toNat_natCast, BitVec.toNat_and, Nat.testBit_and]
 rw [K2 (by omega), K2 (by omega)]
theorem L8 {l : List Int} (hw : Ml KO l) (i : Nat) : 0 ≤ l.getD i 0 ∧ l.getD i 0 ≤ 255 := by
 by_cases h : i < l.length
 ·have : l.getD i 0 ∈ l := by rw [List.getD_eq_getElem?_getD, List.getElem?_eq_getElem h]; exact List.getElem_mem _
  exact JQ (hw _ this)
 ·rw [List.getD_eq_getElem?_getD, List.getElem?_eq_none (by omega)]
  exact ⟨by decide, by decide⟩
theorem M9 (N : Nat) {l : List Int} (hw : Ml KO l) (i : Nat) : Er N l (i : Int) = some (l.getD i 0) := by
 unfold Er
 have h2 := L8 hw i
 by_cases h : i < l.length
 ·rw [A1 (by omega), Em (d := 0) h]
  simp only [Option.bind_some]
  rw [EV (by omega) (by omega)]
 ·rw [AY (by omega), List.getD_eq_getElem?_getD, List.getElem?_eq_none (by omega)]; rfl
theorem Pz (N : Nat) {l : List Int} (hw : Ml KO l) (i : Nat) : E2 N l (i : Int) = some (l.getD i 0) := by
 unfold E2
 have h2 := L8 hw i
 by_cases h : i < l.length
 ·rw [A1 (by omega), Em (d := 0) h]
  simp only [Option.bind_some]
  rw [EV (by omega) (by omega)]
 ·rw [AY (by omega), List.getD_eq_getElem?_getD, List.getElem?_eq_none (by omega)]; rfl
def Wb (n b : Int) : Int := Int.tmod b n
def Wo (n b k : Int) : Int := if 0 < Int.tmod k n then Int.tmod (Int.tmod b n + Int.tmod k n) n else -1
theorem FY {a n : Int} (ha : 0 ≤ a) (hn : 0 < n) : 0 ≤ Int.tmod a n ∧ Int.tmod a n < n := ⟨Int.tmod_nonneg n ha, Int.tmod_lt_of_pos a hn⟩
theorem TE {n b k : Int} (hn : 0 < n) (hb : 0 ≤ b) (hk : 0 ≤ k) : (0 ≤ Wb n b ∧ Wb n b < n) ∧ (-1 ≤ Wo n b k ∧ Wo n b k < n) ∧ Wb n b ≠ Wo n b k := by
 unfold Wb Wo
 have h1 := FY hb hn
 have h2 := FY hk hn
 split
 ·rename_i h
  have h3 := FY (a := Int.tmod b n + Int.tmod k n) (by omega) hn
  refine ⟨h1, by omega, fun he => ?_⟩
  generalize Int.tmod b n = x at *
  generalize Int.tmod k n = y at *
  rw [Int.tmod_eq_emod_of_nonneg (by omega)] at he
  by_cases hxy : x + y < n
  ·rw [Int.emod_eq_of_lt (by omega) hxy] at he; omega
  ·have : (x + y) % n = x + y - n := by
    rw [← Int.emod_eq_of_lt (show 0 ≤ x + y - n by omega) (show x + y - n < n by omega)]
    simp
   omega
 ·exact ⟨h1, by omega, by omega⟩
structure XX (p : Ak) (x : Ce) (m : Ag) : Prop where
 bl : m.fBase.length = p.fVersions.length
 nl : m.fNext.length = p.fVersions.length
 hl : m.fHeld.length = p.fTables.length
 b : ∀ k, k < p.fVersions.length → m.fBase.getD k 0 = Wb (p.fVersions.getD k 0) (x.fBase.getD k 0)
 n : ∀ k, k < p.fVersions.length → m.fNext.getD k 0 = Wo (p.fVersions.getD k 0) (x.fBase.getD k 0) (x.fNext.getD k 0)
 r : ∀ k, k < p.fTables.length → 0 ≤ m.fHeld.getD k 0 ∧ m.fHeld.getD k 0 ≤ 255
 s : ∀ k t, p.fTables[k]? = some t → CI t = true → ∀ v, D1 (m.fHeld.getD k 0) v = (IY m t.fFrom.toNat v || (D1 (x.fHeld.getD k 0) v && decide ((v : Int) < p.fVersions.getD t.fFrom.toNat 0)))
 z : ∀ k t, p.fTables[k]? = some t → CI t = false → m.fHeld.getD k 0 = 0
def Ug (p : Ak) (x : Ce) (bs ns : List Int) (k : Nat) (y : Int) : Prop :=
 ∀ t, p.fTables[k]? = some t → CI t = true → ∀ v, D1 y v = (IY ⟨bs, ns, []⟩ t.fFrom.toNat v || (D1 (x.fHeld.getD k 0) v && decide ((v : Int) < p.fVersions.getD t.fFrom.toNat 0)))
def TL (p : Ak) (k : Nat) (y : Int) : Prop := ∀ t, p.fTables[k]? = some t → CI t = false → y = 0
theorem ZH (N : Nat) (p : Ak) (x : Ce) (hN : N ≤ 1000000) (h20 : 20 ≤ N) (hp : CB p) (hw : Gi x) : ∃ m, FC N p x = some m ∧ XX p x m ∧ FJ p m := by
 obtain ⟨w1, w2, w3, _⟩ := hw
 have hnv := hp.nv
 have hnt := hp.nt
 unfold FC
 obtain ⟨⟨bs, ns⟩, e, h1, h2, h3, h4⟩ := Gl (A := List Int × List Int) (DF N p x fun v2 => BC N p x v2 (fun v15 => some (Ag.mk v2.1 v2.2 v15)) N ([], 0)) (fun a k => (a.1, a.2, k)) p.fVersions.length
  (fun v2 => BC N p x v2 (fun v15 => some (Ag.mk v2.1 v2.2 v15)) N ([], 0))
  (fun i a => a.1.length = i ∧ a.2.length = i ∧ (∀ k, k < i → a.1.getD k 0 = Wb (p.fVersions.getD k 0) (x.fBase.getD k 0)) ∧ (∀ k, k < i → a.2.getD k 0 = Wo (p.fVersions.getD k 0) (x.fBase.getD k 0) (x.fNext.getD k 0)))
  (fun n i a hi ha => by
   obtain ⟨bs, ns⟩ := a
   obtain ⟨h1, h2, h3, h4⟩ := ha
   simp only at h1 h2 h3 h4
   have hv := J0 hp hi
   have hb := L8 w1 i
   have hk := L8 w2 i
   have m1 := FY (n := p.fVersions.getD i 0) hb.1 (by omega)
   have m2 := FY (n := p.fVersions.getD i 0) hk.1 (by omega)
   refine ⟨(bs ++ [Wb (p.fVersions.getD i 0) (x.fBase.getD i 0)], ns ++ [Wo (p.fVersions.getD i 0) (x.fBase.getD i 0) (x.fNext.getD i 0)]), ?_, ?_⟩
   ·rw [DF]
    simp only [BB]
    rw [A1 (by omega), Em (d := 0) hi, M9 N w1, M9 N w2]
    simp only [Option.bind_some]
    rw [AK (by omega), A8 (by omega), EV (n := _ + _) (by omega) (by omega)]
    simp only [AK (show p.fVersions.getD i 0 ≠ 0 by omega)]
    have l1 : bs.length + ([Int.tmod (x.fBase.getD i 0) (p.fVersions.getD i 0)] : List Int).length ≤ E8 := by rw [h1]; unfold E8; simp; omega
    have l2 : ∀ y : Int, ns.length + ([y] : List Int).length ≤ E8 := by intro y; rw [h2]; unfold E8; simp; omega
    simp only [AK l1, AK (l2 _)]
    unfold Wb Wo
    by_cases h : 0 < Int.tmod (x.fNext.getD i 0) (p.fVersions.getD i 0)
    ·rw [A1 h, if_pos h]
    ·rw [AY h, if_neg h]
   ·refine ⟨by simp [h1], by simp [h2], Hs (P := fun k y => y = _) h1 h3 rfl, Hs (P := fun k y => y = _) h2 h4 rfl⟩)
  (fun n a _ => by
   rw [DF]
   simp only [BB]
   rw [AY (by omega)]) N 0 ([], []) (Nat.zero_le _) (by omega) ⟨rfl, rfl, fun k hk => by omega, fun k hk => by omega⟩
 simp only at h1 h2 h3 h4
 have e' : DF N p x (fun v2 => BC N p x v2 (fun v15 => some (Ag.mk v2.1 v2.2 v15)) N ([], 0)) N ([], [], 0) = _ := e
 rw [e']
 have hrng : ∀ k, k < p.fVersions.length → (0 ≤ bs.getD k 0 ∧ bs.getD k 0 < p.fVersions.getD k 0) ∧ (-1 ≤ ns.getD k 0 ∧ ns.getD k 0 < p.fVersions.getD k 0) ∧ bs.getD k 0 ≠ ns.getD k 0 := by
  intro k hk
  rw [h3 k hk, h4 k hk]
  exact TE (by have := J0 hp hk; omega) (L8 w1 k).1 (L8 w2 k).1
 obtain ⟨hs, e2, g1, g2, g3, g4⟩ := Gl (A := List Int) (BC N p x (bs, ns) (fun v15 => some (Ag.mk bs ns v15))) (fun a k => (a, k)) p.fTables.length (fun v15 => some (Ag.mk bs ns v15))
  (fun i a => a.length = i ∧ (∀ k, k < i → 0 ≤ a.getD k 0 ∧ a.getD k 0 ≤ 255) ∧
   (∀ k, k < i → Ug p x bs ns k (a.getD k 0)) ∧
   (∀ k, k < i → TL p k (a.getD k 0)))
  (fun n i a hi ha => by
   obtain ⟨k1, k2, k3, k4⟩ := ha
   have hx : p.fTables[i]? = some p.fTables[i] := by simp [hi]
   generalize p.fTables[i] = t at hx
   have ht := LG (hp.tab t (List.mem_of_getElem? hx))
   have hfr := ht.from0
   have hv := J0 hp (i := t.fFrom.toNat) (by omega)
   have hr := hrng t.fFrom.toNat (by omega)
   have hrun := RJ (m := ⟨bs, ns, a⟩) (s := t.fFrom.toNat) hr.1.1 (show bs.getD _ 0 < 8 by omega) (show ns.getD _ 0 < 8 by omega)
   have hall := SV (n := p.fVersions.getD t.fFrom.toNat 0) (by omega) (by omega)
   have hh := L8 w3 i
   have e1 := UI hh hall.2
   have e2 := VA hrun.2 e1.2
   cases hst : CI t
   ·refine ⟨a ++ [0], ?_, by simp [k1], Hs (P := fun _ y => 0 ≤ y ∧ y ≤ 255) k1 k2 (by omega), Hs (P := Ug p x bs ns) k1 k3 (fun t' ht' hs' => by rw [hx] at ht'; cases ht'; rw [hst] at hs'; cases hs'), Hs (P := TL p) k1 k4 (fun _ _ _ => rfl)⟩
    rw [BC]
    simp only [BB]
    rw [A1 (by omega), BU, hx]
    simp only [Option.bind_some, G1, hst, AE]
    rw [AK (by rw [k1]; unfold E8; simp; omega), A8 (by omega)]
   ·refine ⟨a ++ [M5 .u8 (HQ ⟨bs, ns, a⟩ t.fFrom.toNat) (F4 .u8 (x.fHeld.getD i 0) (IntKind.wrap .u8 (Dy .u8 1 (p.fVersions.getD t.fFrom.toNat 0) - 1)))], ?_, by simp [k1], Hs (P := fun _ y => 0 ≤ y ∧ y ≤ 255) k1 k2 e2.2, Hs (P := Ug p x bs ns) k1 k3 (fun t' ht' _ v => by
      rw [hx] at ht'; cases ht'
      rw [e2.1, e1.1, hall.1, hrun.1]; rfl), Hs (P := TL p) k1 k4 (fun t' ht' hs' => by rw [hx] at ht'; cases ht'; rw [hst] at hs'; cases hs')⟩
    rw [BC]
    simp only [BB]
    rw [A1 (by omega), BU, hx]
    simp only [Option.bind_some, G1, hst, A6]
    rw [FG (d := 0) hfr.1 hfr.2]
    simp only [Option.bind_some]
    rw [AK (by omega), J5 N ⟨bs, ns, a⟩ t.fFrom hfr.1 (show _ < (bs.length : Int) by omega) (show _ < (ns.length : Int) by omega) hr.1.1, M9 N w3]
    simp only [Option.bind_some]
    rw [AK (by rw [k1]; unfold E8; simp; omega), A8 (by omega), Uu hh])
  (fun n a _ => by
   rw [BC]
   simp only [BB]
   rw [AY (by omega)]) N 0 [] (Nat.zero_le _) (by omega) ⟨rfl, fun k hk => by omega, fun k hk => by omega, fun k hk => by omega⟩
 have e2' : BC N p x (bs, ns) (fun v15 => some (Ag.mk bs ns v15)) N ([], 0) = _ := e2
 refine ⟨⟨bs, ns, hs⟩, e2', ⟨h1, h2, g1, h3, h4, g2, fun k t ht hst => g3 k (List.getElem?_eq_some_iff.1 ht).1 t ht hst, fun k t ht hst => g4 k (List.getElem?_eq_some_iff.1 ht).1 t ht hst⟩, ?_⟩
 refine ⟨⟨h1, h2, g1, fun i hi => (hrng i hi).1, fun i hi => (hrng i hi).2.1, fun i hi => (hrng i hi).2.2⟩, g2, ?_, ?_, fun k t ht hst => g4 k (List.getElem?_eq_some_iff.1 ht).1 t ht hst⟩
 ·intro k t ht hst v hv
  rw [g3 k (List.getElem?_eq_some_iff.1 ht).1 t ht hst v]
  rw [show IY ⟨bs, ns, []⟩ t.fFrom.toNat v = true from hv]; rfl
 ·intro k t ht hst v hv
  have hin := (LG (hp.tab t (List.mem_of_getElem? ht))).from0
  have hr := hrng t.fFrom.toNat (by omega)
  have hv : D1 (hs.getD k 0) v = true := hv
  rw [g3 k (List.getElem?_eq_some_iff.1 ht).1 t ht hst v] at hv
  simp only [Bool.or_eq_true, Bool.and_eq_true, decide_eq_true_eq, IY] at hv
  rcases hv with (h | h) | h
  ·omega
  ·omega
  ·exact h.2
end Go.Lift

/- The drafts of problems: what the recipe gives is a valid problem. -/
namespace Go.Lift
theorem V5 {l : List (List Bool)} {n m : Int} (h1 : (l.length : Int) = n) (h2 : ∀ row, row ∈ l → (row.length : Int) = m) : sq l n m = true := by
 unfold sq
 simp only [Bool.and_eq_true, decide_eq_true_eq, List.all_eq_true]
 exact ⟨h1, h2⟩
theorem W2 {p : Ak} {t : AO} (h : Ol p t) : E5 p t = 0 := by
 have hk := h.kind
 have hf := h.from0
 have ht := h.to0
 unfold E5
 rw [if_neg, if_neg (by omega)]
 ·simp only [V5 h.okL h.okR]
  rw [if_neg (by simp)]
  by_cases h4 : t.fKind = 4
  ·rw [if_pos h4, V5 (h.reL h4) h.reR, if_neg (by simp), h.reD h4]; rfl
  ·rw [if_neg h4, h.reN h4]; rfl
 ·rintro (h1 | h1 | ⟨h1, h2⟩)
  ·omega
  ·omega
  ·have := h.aware h1
   unfold CI at this
   rw [Bool.or_eq_false_iff, beq_eq_false_iff_ne, beq_eq_false_iff_ne] at this
   omega
theorem Ur (N : Nat) (m bad : Int) (diag : Bool) (i : Nat) (acc : List (List Bool)) {R : Type} (j : List Bool → Option (List (List Bool))) (hN : N ≤ 1000000) (h20 : 20 ≤ N) (hm : 0 ≤ m ∧ m ≤ 6) (hi : i < 6) :
  ∃ row, CY N m bad diag (acc, (i : Int)) j N ([], 0) = j row ∧ (row.length : Int) = m ∧ (diag = true → (i : Int) < m → row.getD i false = true) := by
 obtain ⟨M, rfl⟩ := Int.eq_ofNat_of_zero_le hm.1
 obtain ⟨row, e, h1, h2⟩ := Gl (A := List Bool) (CY N (M : Int) bad diag (acc, (i : Int)) j) (fun a k => (a, k)) M j
  (fun k a => a.length = k ∧ ∀ q, q < k → diag = true → q = i → a.getD q false = true)
  (fun n k a hk ha => by
   refine ⟨a ++ [(diag && decide (i = k)) || (Int.tmod (Fa .u16 bad ((3 * i + k : Nat) : Int)) 2 == 0)], ?_, by simp [ha.1], Hs (P := fun q y => diag = true → q = i → y = true) ha.1 ha.2 (fun h1 h2 => by simp [h1, h2])⟩
   rw [CY]
   simp only [BB]
   rw [A1 (by omega), A8 (by omega), EV (n := 3 * (i : Int)) (by omega) (by omega), EV (n := 3 * (i : Int) + (k : Int)) (by omega) (by omega)]
   have l1 : ∀ y : Bool, a.length + ([y] : List Bool).length ≤ E8 := by intro y; rw [ha.1]; unfold E8; simp; omega
   simp only [AK (l1 _), AK (show (0 : Int) ≤ 3 * (i : Int) + (k : Int) by omega)]
   have e1 : ((3 * i + k : Nat) : Int) = 3 * (i : Int) + (k : Int) := by omega
   rw [e1]
   have e2 : (((i : Nat) : Int) == ((k : Nat) : Int)) = decide (i = k) := by
    by_cases h : i = k
    ·simp [h]
    ·rw [decide_eq_false h]; exact beq_eq_false_iff_ne.2 (by omega)
   rw [e2]
   cases diag <;> cases decide (i = k) <;> rfl)
  (fun n a _ => by
   rw [CY]
   simp only [BB]
   rw [AY (by omega)]) N 0 [] (Nat.zero_le _) (by omega) ⟨rfl, fun q hq => by omega⟩
 exact ⟨row, e, by omega, fun hd hlt => h2 i (by omega) hd rfl⟩
theorem Sv (N : Nat) (n m bad : Int) (diag : Bool) (hN : N ≤ 1000000) (h20 : 20 ≤ N) (hn : 0 ≤ n ∧ n ≤ 6) (hm : 0 ≤ m ∧ m ≤ 6) :
  ∃ l, E1 N n m bad diag = some l ∧ (l.length : Int) = n ∧ (∀ row, row ∈ l → (row.length : Int) = m) ∧ (diag = true → n = m → JU l = none) := by
 obtain ⟨M, rfl⟩ := Int.eq_ofNat_of_zero_le hn.1
 unfold E1
 obtain ⟨l, e, h1, h2⟩ := Gl (A := List (List Bool)) (CX N (M : Int) m bad diag (fun v => some v)) (fun a k => (a, k)) M some
  (fun k a => a.length = k ∧ ∀ q, q < k → (((a.getD q []).length : Nat) : Int) = m ∧ (diag = true → (q : Int) < m → (a.getD q []).getD q false = true))
  (fun n k a hk ha => by
   obtain ⟨row, e, h1, h2⟩ := Ur (R := Unit) N m bad diag k a (fun (v5 : List Bool) =>
    (E7 (a.length + (([v5] : List (List Bool))).length ≤ E8)).bind fun _ =>
    CX N (M : Int) m bad diag (fun v => some v) n (a ++ (([v5] : List (List Bool))), (IntKind.wrap .i64 ((k : Int) + 1)))) hN h20 hm (by omega)
   refine ⟨a ++ [row], ?_, by simp [ha.1], Hs (P := fun q y => ((y.length : Nat) : Int) = m ∧ (diag = true → (q : Int) < m → y.getD q false = true)) ha.1 ha.2 ⟨h1, h2⟩⟩
   rw [CX]
   simp only [BB]
   rw [A1 (by omega), e, AK (by rw [ha.1]; unfold E8; simp; omega), A8 (by omega)])
  (fun n a _ => by
   rw [CX]
   simp only [BB]
   rw [AY (by omega)]) N 0 [] (Nat.zero_le _) (by omega) ⟨rfl, fun q hq => by omega⟩
 have key : ∀ q row, l[q]? = some row → l.getD q [] = row := fun q row hq => by rw [List.getD_eq_getElem?_getD, hq]; rfl
 refine ⟨l, e, by omega, fun row hr => ?_, fun hd hnm => ?_⟩
 ·obtain ⟨q, hq⟩ := List.mem_iff_getElem?.1 hr
  have := (h2 q (by have := (List.getElem?_eq_some_iff.1 hq).1; omega)).1
  rwa [key q row hq] at this
 ·unfold JU
  refine FM fun q row hq => ?_
  have hlt := (List.getElem?_eq_some_iff.1 hq).1
  have := (h2 q (by omega)).2 hd (by omega)
  rw [key q row hq] at this
  rw [Nat.zero_add, this]; rfl
structure UP (p : Ak) : Prop where
 valid : Ez p = 0
 nv : p.fVersions.length ≤ 3
 nt : p.fTables.length ≤ 4
 v3 : ∀ v, v ∈ p.fVersions → v ≤ 3
theorem Tg {p q : Ak} (h : p.fVersions = q.fVersions) (t : AO) : E5 p t = E5 q t := by
 unfold E5; rw [h]
theorem Zq (N : Nat) (d : CV) (hN : N ≤ 1000000) (h20 : 20 ≤ N) (hw : Gj d) : ∃ p ok, FD N d = some (p, ok) ∧ (ok = true → UP p) := by
 obtain ⟨w1, w2, w3, w4, _⟩ := hw
 unfold FD
 simp only [BB]
 by_cases k1 : 3 < d.fVersions.length
 ·rw [A1 (by omega)]; exact ⟨_, false, rfl, fun h => by cases h⟩
 by_cases k2 : 4 < d.fLinks.length
 ·rw [AY (by omega), decide_eq_true (by omega : (4 : Int) < (d.fLinks.length : Int))]; exact ⟨_, false, rfl, fun h => by cases h⟩
 rw [AY (by omega), decide_eq_false (by omega : ¬ (4 : Int) < (d.fLinks.length : Int)), AE]
 obtain ⟨⟨vs, ns, ts⟩, e, h1, h2, h3, h4⟩ := Gl (A := List Int × List Int × List Int) (DH N d fun v5 => BV N d v5 (fun v16 => some (Ak.mk v5.1 v5.2.1 v5.2.2 v16, true)) N ([], 0)) (fun a k => (a.1, a.2.1, a.2.2, k)) d.fVersions.length
  (fun v5 => BV N d v5 (fun v16 => some (Ak.mk v5.1 v5.2.1 v5.2.2 v16, true)) N ([], 0))
  (fun i a => a.1.length = i ∧ a.2.1.length = i ∧ a.2.2.length = i ∧ (∀ k, k < i → (1 ≤ a.1.getD k 0 ∧ a.1.getD k 0 ≤ 3) ∧ (0 ≤ a.2.1.getD k 0 ∧ a.2.1.getD k 0 < a.1.getD k 0) ∧ (0 ≤ a.2.2.getD k 0 ∧ a.2.2.getD k 0 < a.1.getD k 0)))
  (fun n i a hi ha => by
   obtain ⟨vs, ns, ts⟩ := a
   obtain ⟨h1, h2, h3, h4⟩ := ha
   simp only at h1 h2 h3 h4
   have hv := L8 w1 i
   have hb := L8 w2 i
   have hk := L8 w3 i
   have hm := FY (n := 3) hv.1 (by omega)
   obtain ⟨v, hvd⟩ : ∃ v, v = 1 + Int.tmod (d.fVersions.getD i 0) 3 := ⟨_, rfl⟩
   have m1 := FY (n := v) hb.1 (by omega)
   have m2 := FY (n := v) hk.1 (by omega)
   refine ⟨(vs ++ [v], ns ++ [Int.tmod (d.fNow.getD i 0) v], ts ++ [Int.tmod (d.fTarget.getD i 0) v]), ?_, by simp [h1], by simp [h2], by simp [h3], ?_⟩
   ·rw [DH]
    simp only [BB]
    rw [A1 (by omega), Em (d := 0) hi, Pz N w2, Pz N w3]
    simp only [Option.bind_some]
    rw [EV (n := Int.tmod _ _) (by omega) (by omega), EV (n := 1 + _) (by omega) (by omega), ← hvd, A8 (by omega)]
    have l1 : ∀ y : Int, vs.length + ([y] : List Int).length ≤ E8 := by intro y; rw [h1]; unfold E8; simp; omega
    have l2 : ∀ y : Int, ns.length + ([y] : List Int).length ≤ E8 := by intro y; rw [h2]; unfold E8; simp; omega
    have l3 : ∀ y : Int, ts.length + ([y] : List Int).length ≤ E8 := by intro y; rw [h3]; unfold E8; simp; omega
    simp only [AK (l1 _), AK (l2 _), AK (l3 _), AK (show v ≠ 0 by omega)]
   ·intro k hk
    simp only
    by_cases hki : k < i
    ·rw [Ke (by omega), Ke (by omega), Ke (by omega)]; exact h4 k hki
    ·have : k = i := by omega
     subst this
     rw [Ko h1.symm, Ko h2.symm, Ko h3.symm]
     omega)
  (fun n a _ => by
   rw [DH]
   simp only [BB]
   rw [AY (by omega)]) N 0 ([], [], []) (Nat.zero_le _) (by omega) ⟨rfl, rfl, rfl, fun k hk => by omega⟩
 simp only at h1 h2 h3 h4
 have e' : DH N d (fun v5 => BV N d v5 (fun v16 => some (Ak.mk v5.1 v5.2.1 v5.2.2 v16, true)) N ([], 0)) N ([], [], [], 0) = _ := e
 rw [e']
 have hvs : ∀ v, v ∈ vs → 1 ≤ v ∧ v ≤ 3 := by
  intro v hv
  obtain ⟨q, hq⟩ := List.mem_iff_getElem?.1 hv
  have := (h4 q (by have := (List.getElem?_eq_some_iff.1 hq).1; omega)).1
  rwa [List.getD_eq_getElem?_getD, hq] at this
 have fin : ∀ tabs : List AO, tabs.length ≤ 4 → (∀ t, t ∈ tabs → E5 ⟨vs, ns, ts, []⟩ t = 0) → UP ⟨vs, ns, ts, tabs⟩ := by
  intro tabs ht h
  have hp : CB ⟨vs, ns, ts, tabs⟩ := ⟨show vs.length ≤ 6 by omega, show tabs.length ≤ 12 by omega, show ns.length = vs.length by omega, show ts.length = vs.length by omega, fun v hv => by have := hvs v hv; omega, fun t ht => by rw [← h t ht]; exact Tg rfl t⟩
  exact ⟨QF hp fun i hi => by have := h4 i (by have : i < vs.length := hi; omega); simp only; omega, show vs.length ≤ 3 by omega, ht, fun v hv => (hvs v hv).2⟩
 by_cases k3 : vs.length = 0
 ·refine ⟨_, true, ?_, fun _ => fin [] (by simp) (fun t ht => by cases ht)⟩
  obtain ⟨M, rfl⟩ : ∃ M, N = M + 1 := ⟨N - 1, by omega⟩
  rw [BV]
  simp only [BB]
  rw [k3]
  by_cases k4 : (0 : Int) < (d.fLinks.length : Int)
  ·rw [A1 k4]; rfl
  ·rw [AY k4]; rfl
 obtain ⟨tabs, e2, g1, g2⟩ := Gl (A := List AO) (BV N d (vs, ns, ts) (fun v16 => some (Ak.mk vs ns ts v16, true))) (fun a k => (a, k)) d.fLinks.length (fun v16 => some (Ak.mk vs ns ts v16, true))
  (fun i a => a.length = i ∧ ∀ t, t ∈ a → E5 ⟨vs, ns, ts, []⟩ t = 0)
  (fun n i a hi ha => by
   have hx : d.fLinks[i]? = some d.fLinks[i] := by simp [hi]
   generalize d.fLinks[i] = l at hx
   obtain ⟨u1, u2, u3, _, u5, u6, _⟩ := w4 l (List.mem_of_getElem? hx)
   have u1 := JQ u1
   have u2 := JQ u2
   have u3 := JQ u3
   have mk := FY (n := 4) u1.1 (by omega)
   have hL : (0 : Int) < (vs.length : Int) := by omega
   have mf := FY (n := (vs.length : Int)) u2.1 hL
   have mt := FY (n := (vs.length : Int)) u3.1 hL
   rw [BV]
   simp only [BB]
   rw [A1 (by omega), decide_eq_true hL, A6, BU, hx]
   simp only [Option.bind_some]
   rw [AK (by omega), AK (by omega), EV (n := l.fFrom) (by omega) (by omega), EV (n := l.fTo) (by omega) (by omega), EV (n := Int.tmod l.fKind 4) (by omega) (by omega), EV (n := 1 + _) (by omega) (by omega), A8 (by omega)]
   simp only [Nu, Option.bind_some]
   rw [FG (d := 0) mf.1 mf.2, FG (d := 0) mt.1 mt.2]
   simp only [Option.bind_some]
   have hA : ∀ q : Int, 0 ≤ q → q < (vs.length : Int) → 1 ≤ vs.getD q.toNat 0 ∧ vs.getD q.toNat 0 ≤ 3 := fun q h0 h1 => (h4 q.toNat (by omega)).1
   have hf := hA _ mf.1 mf.2
   have ht := hA _ mt.1 mt.2
   obtain ⟨A, eA, a1, a2, _⟩ := Sv N (vs.getD (Int.tmod l.fFrom (vs.length : Int)).toNat 0) (vs.getD (Int.tmod l.fTo (vs.length : Int)).toNat 0) l.fBad false hN h20 (by omega) (by omega)
   obtain ⟨B, eB, b1, b2, b3⟩ := Sv N (vs.getD (Int.tmod l.fFrom (vs.length : Int)).toNat 0) (vs.getD (Int.tmod l.fFrom (vs.length : Int)).toNat 0) l.fLost true hN h20 (by omega) (by omega)
   rw [eA, eB]
   simp only [Option.bind_some]
   have l1 : ∀ y : AO, a.length + ([y] : List AO).length ≤ E8 := by intro y; rw [ha.1]; unfold E8; simp; omega
   simp only [AK (l1 _)]
   obtain ⟨kd, hkd⟩ : ∃ kd, kd = 1 + Int.tmod l.fKind 4 := ⟨_, rfl⟩
   rw [← hkd]
   have fin2 : ∀ (aw : Bool) (re : List (List Bool)), (aw = true → (kd == 3 || kd == 4) = false) → ((kd = 4 → re = B) ∧ (kd ≠ 4 → re = [])) →
     E5 ⟨vs, ns, ts, []⟩ (AO.mk kd (Int.tmod l.fFrom (vs.length : Int)) (Int.tmod l.fTo (vs.length : Int)) aw A re) = 0 := by
    intro aw re haw hre
    refine W2 ⟨show 1 ≤ kd ∧ kd ≤ 4 by omega, haw, mf, mt, a1, a2, fun h => by rw [hre.1 h]; exact b1, fun row hr => ?_, fun h => by rw [hre.1 h]; exact b3 rfl rfl, fun h => hre.2 h⟩
    by_cases h4 : kd = 4
    ·simp only at hr; rw [hre.1 h4] at hr; exact b2 row hr
    ·simp only at hr; rw [hre.2 h4] at hr; cases hr
   have app : ∀ t, E5 ⟨vs, ns, ts, []⟩ t = 0 → (a ++ [t]).length = i + 1 ∧ ∀ t', t' ∈ a ++ [t] → E5 ⟨vs, ns, ts, []⟩ t' = 0 := by
    intro t ht
    refine ⟨by simp [ha.1], fun t' ht' => ?_⟩
    rcases List.mem_append.1 ht' with h | h
    ·exact ha.2 t' h
    ·rw [List.mem_singleton.1 h]; exact ht
   by_cases h4 : kd = 4
   ·have e4 : (kd == 4) = true := beq_iff_eq.2 h4
    have hre : (kd = 4 → B = B) ∧ (kd ≠ 4 → B = []) := ⟨fun _ => rfl, fun h => (h h4).elim⟩
    rw [e4]
    simp only [A6, Bool.or_true, Bool.not_true]
    cases l.fAware
    ·exact ⟨_, rfl, app _ (fin2 false B (fun h => by cases h) hre)⟩
    ·exact ⟨_, rfl, app _ (fin2 false B (fun h => by cases h) hre)⟩
   ·have e4 : (kd == 4) = false := beq_eq_false_iff_ne.2 h4
    have hre : (kd = 4 → ([] : List (List Bool)) = B) ∧ (kd ≠ 4 → ([] : List (List Bool)) = []) := ⟨fun h => (h4 h).elim, fun _ => rfl⟩
    rw [e4]
    simp only [AE, Bool.or_false]
    cases l.fAware
    ·exact ⟨_, rfl, app _ (fin2 false [] (fun h => by cases h) hre)⟩
    ·cases e3 : kd == 3
     ·exact ⟨_, rfl, app _ (fin2 true [] (fun _ => by rw [e3, e4]; rfl) hre)⟩
     ·exact ⟨_, rfl, app _ (fin2 false [] (fun h => by cases h) hre)⟩)
  (fun n a _ => by
   rw [BV]
   simp only [BB]
   rw [AY (by omega), AE]) N 0 [] (Nat.zero_le _) (by omega) ⟨rfl, fun t ht => by cases ht⟩
 exact ⟨_, true, e2, fun _ => fin tabs (by omega) g2⟩
end Go.Lift

/- The mixes that result from aborts: both implementations give one list. -/
namespace Go.Lift
def JG : List Int → Nat → Nat
 | [], _ => 0
 | _, 0 => 0
 | n :: ns, q + 1 => (if 0 ≤ n then 1 else 0) + JG ns q
theorem JN (l : List Int) : JG l 0 = 0 := by cases l <;> rfl
theorem IJ : ∀ (l : List Int) (q : Nat), q < l.length → JG l (q + 1) = JG l q + if 0 ≤ l.getD q 0 then 1 else 0
 | [], q, h => by simp at h
 | n :: ns, 0, _ => by simp [JG, JN]
 | n :: ns, q + 1, h => by
  rw [JG, IJ ns q (by simpa using h), JG, List.getD_cons_succ, Nat.add_assoc]
theorem OX (l : List Int) {a b : Nat} (h : a ≤ b) (hb : b ≤ l.length) : JG l a ≤ JG l b := by
 induction b with
 | zero => rw [Nat.le_zero.1 h]; exact Nat.le_refl _
 | succ b ih =>
  by_cases h1 : a = b + 1
  ·rw [h1]; exact Nat.le_refl _
  ·have := ih (by omega) (by omega)
   rw [IJ l b (by omega)]; omega
theorem Lv (l : List Int) : ∀ q, q ≤ l.length → JG l q ≤ q
 | 0, _ => by rw [JN]; exact Nat.le_refl _
 | q + 1, h => by
  have := Lv l q (by omega)
  rw [IJ l q h]
  split <;> omega
def Nq (l : List Int) (k q : Nat) : Int := if 0 ≤ l.getD q 0 ∧ k.testBit (JG l q) = true then -1 else l.getD q 0
def U3 (l : List Int) (k : Nat) : List Int := (List.range l.length).map (Nq l k)
def WZ (m : Ag) (k : Nat) : Ag := ⟨m.fBase, U3 m.fNext k, m.fHeld⟩
def Hg (m : Ag) : List Ag := (List.range (2 ^ JG m.fNext m.fNext.length)).map (WZ m)
theorem MH (l : List Int) (k : Nat) : (U3 l k).length = l.length := by simp [U3]
theorem P4 (l : List Int) (k q : Nat) (h : q < l.length) : (U3 l k).getD q 0 = Nq l k q := by
 unfold U3; rw [List.getD_eq_getElem?_getD, List.getElem?_map, List.getElem?_range h]; rfl
theorem Ky {l1 l2 : List Int} (h1 : l1.length = l2.length) (h : ∀ q, q < l1.length → l1.getD q 0 = l2.getD q 0) : l1 = l2 := by
 apply List.ext_getElem h1
 intro q h2 h3
 have := h q h2
 rw [List.getD_eq_getElem?_getD, List.getD_eq_getElem?_getD, List.getElem?_eq_getElem h2, List.getElem?_eq_getElem h3] at this
 exact this
theorem Sp : ∀ (k : Fin 64) (b : Fin 7), F4 .i64 (Fa .i64 (k.val : Int) (b.val : Int)) 1 = (if k.val.testBit b.val then 1 else 0) ∧ Int.tmod (Fa .i64 (k.val : Int) (b.val : Int)) 2 = (if k.val.testBit b.val then 1 else 0) := by decide +kernel
theorem VF : ∀ n : Fin 7, Dy .i64 1 (n.val : Int) = ((2 ^ n.val : Nat) : Int) := by decide +kernel
structure Of (m x : Ag) : Prop where
 base : x.fBase = m.fBase
 held : x.fHeld = m.fHeld
 len : x.fNext.length = m.fNext.length
 next : ∀ q, q < m.fNext.length → x.fNext.getD q 0 = m.fNext.getD q 0 ∨ (0 ≤ m.fNext.getD q 0 ∧ x.fNext.getD q 0 = -1)
theorem Of.refl (m : Ag) : Of m m := ⟨rfl, rfl, rfl, fun _ _ => .inl rfl⟩
theorem Of.trans {a b c : Ag} (h1 : Of a b) (h2 : Of b c) : Of a c :=
 ⟨h2.base.trans h1.base, h2.held.trans h1.held, h2.len.trans h1.len, fun q hq => by
  have e1 := h1.next q hq
  have e2 := h2.next q (by rw [h1.len]; exact hq)
  omega⟩
theorem TP (m : Ag) (k : Nat) : Of m (WZ m k) :=
 ⟨rfl, rfl, MH _ _, fun q hq => by
  show (U3 m.fNext k).getD q 0 = _ ∨ _ ∧ (U3 m.fNext k).getD q 0 = _
  rw [P4 _ _ _ hq]; unfold Nq
  split
  ·rename_i h; exact .inr ⟨h.1, rfl⟩
  ·exact .inl rfl⟩
theorem SD : ∀ (l x : List Int), x.length = l.length → (∀ q, q < l.length → x.getD q 0 = l.getD q 0 ∨ (0 ≤ l.getD q 0 ∧ x.getD q 0 = -1)) → ∃ k, k < 2 ^ JG l l.length ∧ ∀ q, q < l.length → x.getD q 0 = Nq l k q
 | [], x, h, _ => ⟨0, by simp [JG], fun q hq => by simp at hq⟩
 | n :: ns, [], h, _ => by simp at h
 | n :: ns, y :: ys, h, hq => by
  obtain ⟨k, hk, hk2⟩ := SD ns ys (by simpa using h) (fun q hq' => by have := hq (q + 1) (by simpa using hq'); simpa using this)
  have h0 := hq 0 (by simp)
  simp only [List.getD_cons_zero] at h0
  by_cases hn : 0 ≤ n
  ·refine ⟨2 * k + if y = n then 0 else 1, ?_, ?_⟩
   ·rw [List.length_cons, JG, if_pos hn, Nat.pow_add]
    split <;> omega
   ·intro q hq'
    cases q with
    | zero =>
     simp only [List.getD_cons_zero, Nq, JN]
     by_cases hy : y = n
     ·simp [hy]
     ·rw [if_neg hy, if_pos ⟨hn, by simp⟩]; omega
    | succ q =>
     have := hk2 q (by simpa using hq')
     simp only [List.getD_cons_succ, Nq, JG, if_pos hn] at this ⊢
     rw [this, Nat.add_comm 1, Nat.testBit_succ]
     have : (2 * k + if y = n then 0 else 1) / 2 = k := by split <;> omega
     rw [this]
  ·refine ⟨k, ?_, ?_⟩
   ·rw [List.length_cons, JG, if_neg hn, Nat.zero_add]; exact hk
   ·intro q hq'
    cases q with
    | zero =>
     simp only [List.getD_cons_zero, Nq, JN]
     rw [if_neg (fun h => hn h.1)]
     omega
    | succ q =>
     have := hk2 q (by simpa using hq')
     simp only [List.getD_cons_succ, Nq, JG, if_neg hn, Nat.zero_add] at this ⊢
     exact this
theorem Mr {m x : Ag} : x ∈ Hg m ↔ Of m x := by
 unfold Hg
 rw [List.mem_map]
 constructor
 ·rintro ⟨k, _, rfl⟩; exact TP m k
 ·intro h
  obtain ⟨k, hk, hq⟩ := SD m.fNext x.fNext h.len h.next
  refine ⟨k, List.mem_range.2 hk, ?_⟩
  have : U3 m.fNext k = x.fNext := Ky (by rw [MH, h.len]) fun q hq' => by
   rw [MH] at hq'
   rw [P4 _ _ _ hq', hq q hq']
  unfold WZ
  rw [this, ← h.base, ← h.held]
theorem Wx {m x : Ag} (h : Of m x) {s : Nat} (hs : s < m.fNext.length) {v : Nat} (hv : IY x s v = true) : IY m s v = true := by
 unfold IY at hv ⊢
 rw [h.base] at hv
 have := h.next s hs
 simp only [Bool.or_eq_true, decide_eq_true_eq] at hv ⊢
 omega
theorem UG {p : Ak} {m x : Ag} (hp : CB p) (hm : FJ p m) (h : Of m x) : FJ p x := by
 refine ⟨⟨by rw [h.base]; exact hm.base, by rw [h.len]; exact hm.next, by rw [h.held]; exact hm.held, fun i hi => by rw [h.base]; exact hm.b0 i hi, fun i hi => ?_, fun i hi => ?_⟩, fun i hi => by rw [h.held]; exact hm.range i hi, fun i t ht hs v hv => ?_, fun i t ht hs v hv => ?_, fun i t ht hs => by rw [h.held]; exact hm.none i t ht hs⟩
 ·have h1 := hm.n0 i hi
  have h2 := h.next i (by rw [hm.next]; exact hi)
  have h3 := J0 hp hi
  omega
 ·have h1 := hm.ne i hi
  have h2 := h.next i (by rw [hm.next]; exact hi)
  have h3 := hm.b0 i hi
  rw [h.base]
  omega
 ·have hin := (LG (hp.tab t (List.mem_of_getElem? ht))).from0
  rw [h.held]
  exact hm.low i t ht hs v (Wx h (by rw [hm.next]; omega) hv)
 ·rw [h.held] at hv
  exact hm.high i t ht hs v hv
theorem LU (N : Nat) (l : List Int) (h : l.length ≤ E8) : Bx N l = some l := by
 unfold Bx
 rw [AK (by simpa using h)]; rfl
theorem PT (N : Nat) (l : List Int) (h : l.length ≤ E8) : BO N l = some l := by
 unfold BO
 rw [AK (by simpa using h)]; rfl
theorem JX {l : List Int} {i q : Nat} {y : Int} (hi : i < l.length) : (l.set i y).getD q 0 = if q = i then y else l.getD q 0 := by
 rw [List.getD_eq_getElem?_getD, List.getD_eq_getElem?_getD, List.getElem?_set]
 by_cases h : i = q
 ·subst h; simp [hi]
 ·rw [if_neg h, if_neg (fun e => h e.symm)]
theorem Va {l : List Int} {a b : Nat} (ha : a < l.length) (hb : b < l.length) (h1 : 0 ≤ l.getD a 0) (h2 : 0 ≤ l.getD b 0) (h : JG l a = JG l b) : a = b := by
 rcases Nat.lt_trichotomy a b with h3 | h3 | h3
 ·have := OX l (a := a + 1) (b := b) h3 (by omega)
  rw [IJ l a ha, if_pos h1] at this; omega
 ·exact h3
 ·have := OX l (a := b + 1) (b := a) h3 (by omega)
  rw [IJ l b hb, if_pos h2] at this; omega
structure Tx (l : List Int) (o : List Int) : Prop where
 len : o.length = JG l l.length
 at_ : ∀ b, b < o.length → ∃ i : Nat, o.getD b 0 = (i : Int) ∧ i < l.length ∧ 0 ≤ l.getD i 0 ∧ JG l i = b
theorem Rt (N : Nat) (l o : List Int) (k : Nat) (acc : List Ag) (hN : N ≤ 1000000) (h20 : 20 ≤ N) (hl : l.length ≤ 6) (ho : Tx l o) (hk : k < 64) (j : List Int → Option (List Ag × Int)) :
  DW N o (acc, (k : Int)) j N (l, 0) = j (U3 l k) := by
 have hol := Lv l l.length (Nat.le_refl _)
 have hoL := ho.len
 obtain ⟨x, e, h1, h2⟩ := Gl (A := List Int) (DW N o (acc, (k : Int)) j) (fun a k => (a, k)) o.length j
  (fun b a => a.length = l.length ∧ ∀ q, q < l.length → a.getD q 0 = if 0 ≤ l.getD q 0 ∧ JG l q < b ∧ k.testBit (JG l q) = true then -1 else l.getD q 0)
  (fun n b a hb ha => by
   obtain ⟨i, hi1, hi2, hi3, hi4⟩ := ho.at_ b hb
   have hbit := Sp ⟨k, hk⟩ ⟨b, by omega⟩
   rw [DW]
   simp only [BB]
   rw [A1 (by omega), Em (d := 0) hb]
   simp only [Option.bind_some]
   rw [AK (by omega), hi1, hbit.1, Em (d := 0) (show i < a.length by rw [ha.1]; exact hi2), A8 (by omega)]
   simp only [Option.bind_some, Int.toNat_natCast]
   cases hkb : k.testBit b
   ·refine ⟨a, rfl, ha.1, fun q hq => ?_⟩
    rw [ha.2 q hq]
    by_cases hqb : JG l q = b
    ·rw [hqb, hkb]; simp
    ·by_cases h3 : JG l q < b
     ·have : JG l q < b + 1 := by omega
      simp [h3, this]
     ·have : ¬ JG l q < b + 1 := by omega
      simp [h3, this]
   ·refine ⟨a.set i (-1), rfl, by simp [ha.1], fun q hq => ?_⟩
    rw [JX (by rw [ha.1]; exact hi2), ha.2 q hq]
    by_cases hqi : q = i
    ·subst hqi
     rw [if_pos rfl, if_pos ⟨hi3, by omega, by rw [hi4]; exact hkb⟩]
    ·rw [if_neg hqi]
     by_cases h0 : 0 ≤ l.getD q 0
     ·have hne : JG l q ≠ b := fun h => hqi (Va hq hi2 h0 hi3 (by omega))
      by_cases h3 : JG l q < b
      ·have : JG l q < b + 1 := by omega
       simp [h3, this]
      ·have : ¬ JG l q < b + 1 := by omega
       simp [h3, this]
     ·rw [if_neg (fun h => h0 h.1), if_neg (fun h => h0 h.1)])
  (fun n a _ => by
   rw [DW]
   simp only [BB]
   rw [AY (by omega)]) N 0 l (Nat.zero_le _) (by omega) ⟨rfl, fun q hq => by simp⟩
 have e' : DW N o (acc, (k : Int)) j N (l, 0) = j x := e
 rw [e']
 congr 1
 refine Ky (by rw [MH, h1]) fun q hq => ?_
 rw [h1] at hq
 rw [h2 q hq, P4 _ _ _ hq, Nq]
 by_cases h0 : 0 ≤ l.getD q 0
 ·have h3 := OX l (a := q + 1) (b := l.length) hq (Nat.le_refl _)
  rw [IJ l q hq, if_pos h0] at h3
  have : JG l q < o.length := by omega
  simp [this]
 ·rw [if_neg (fun h => h0 h.1), if_neg (fun h => h0 h.1)]
theorem RF (N : Nat) (m : Ag) (k : Nat) (acc : List Ag) (hN : N ≤ 1000000) (h20 : 20 ≤ N) (hl : m.fNext.length ≤ 6) (hk : k < 64) (j : List Int → Option (List Ag)) :
  Co N m (acc, (k : Int)) j N (m.fNext, 0, 0) = j (U3 m.fNext k) := by
 obtain ⟨⟨x, pl⟩, e, h1, h2, h3⟩ := Gl (A := List Int × Nat) (Co N m (acc, (k : Int)) j) (fun a k => (a.1, (a.2 : Int), k)) m.fNext.length (fun a => j a.1)
  (fun i a => a.2 = JG m.fNext i ∧ a.1.length = m.fNext.length ∧ ∀ q, q < m.fNext.length → a.1.getD q 0 = if q < i then Nq m.fNext k q else m.fNext.getD q 0)
  (fun n i a hi ha => by
   obtain ⟨a, pl⟩ := a
   obtain ⟨a1, a2, a3⟩ := ha
   simp only at a1 a2 a3
   have hple := Lv m.fNext i (by omega)
   have hbit := Sp ⟨k, hk⟩ ⟨pl, by omega⟩
   have hs := IJ m.fNext i hi
   rw [Co]
   simp only [BB]
   rw [A1 (by omega), Em (d := 0) hi]
   simp only [Option.bind_some]
   rw [A8 (by omega)]
   by_cases h0 : m.fNext.getD i 0 < 0
   ·rw [A1 h0]
    refine ⟨(a, pl), rfl, by simp only; rw [hs, if_neg (by omega), a1]; rfl, a2, fun q hq => ?_⟩
    simp only
    rw [a3 q hq]
    by_cases hqi : q = i
    ·subst hqi
     rw [if_neg (by omega), if_pos (by omega), Nq, if_neg (by omega)]
    ·by_cases h4 : q < i
     ·rw [if_pos h4, if_pos (by omega)]
     ·rw [if_neg h4, if_neg (by omega)]
   ·rw [AY h0, AK (by omega), Em (d := 0) (show i < a.length by omega), hbit.2, A8 (by omega)]
    simp only [Option.bind_some, Int.toNat_natCast]
    cases hkb : k.testBit pl
    ·refine ⟨(a, pl + 1), rfl, by simp only; rw [hs, if_pos (by omega), a1], a2, fun q hq => ?_⟩
     simp only
     rw [a3 q hq]
     by_cases hqi : q = i
     ·subst hqi
      rw [if_neg (by omega), if_pos (by omega), Nq, ← a1, hkb]; simp
     ·by_cases h4 : q < i
      ·rw [if_pos h4, if_pos (by omega)]
      ·rw [if_neg h4, if_neg (by omega)]
    ·refine ⟨(a.set i (-1), pl + 1), rfl, by simp only; rw [hs, if_pos (by omega), a1], by simp [a2], fun q hq => ?_⟩
     simp only
     rw [JX (by omega), a3 q hq]
     by_cases hqi : q = i
     ·subst hqi
      rw [if_pos rfl, if_pos (by omega), Nq, ← a1, if_pos ⟨by omega, hkb⟩]
     ·rw [if_neg hqi]
      by_cases h4 : q < i
      ·rw [if_pos h4, if_pos (by omega)]
      ·rw [if_neg h4, if_neg (by omega)])
  (fun n a _ => by
   rw [Co]
   simp only [BB]
   rw [AY (by omega)]) N 0 (m.fNext, 0) (Nat.zero_le _) (by omega) ⟨(JN _).symm, rfl, fun q hq => by simp⟩
 have e' : Co N m (acc, (k : Int)) j N (m.fNext, 0, 0) = j x := e
 rw [e']
 congr 1
 simp only at h2 h3
 refine Ky (by rw [MH, h2]) fun q hq => ?_
 rw [h2] at hq
 rw [h3 q hq, if_pos hq, P4 _ _ _ hq]
end Go.Lift

/- Aborts, the first mix that is to blame, and robustness: both implementations give one answer. -/
namespace Go.Lift
theorem TF (N : Nat) (m : Ag) (hN : N ≤ 1000000) (h20 : 20 ≤ N) (hl : m.fNext.length ≤ 6) (j : List Int → Option (List Ag × Int)) :
  ∃ o, EN N m j N ([], 0) = j o ∧ Tx m.fNext o := by
 obtain ⟨o, e, h1, h2⟩ := Gl (A := List Int) (EN N m j) (fun a k => (a, k)) m.fNext.length j
  (fun i o => o.length = JG m.fNext i ∧ ∀ b, b < o.length → ∃ q : Nat, o.getD b 0 = (q : Int) ∧ q < m.fNext.length ∧ 0 ≤ m.fNext.getD q 0 ∧ JG m.fNext q = b)
  (fun n i o hi ho => by
   have hple := Lv m.fNext i (by omega)
   have hs := IJ m.fNext i hi
   rw [EN]
   simp only [BB]
   rw [A1 (by omega), Em (d := 0) hi]
   simp only [Option.bind_some]
   rw [A8 (by omega)]
   by_cases h0 : 0 ≤ m.fNext.getD i 0
   ·rw [A1 h0, AK (by rw [ho.1]; unfold E8; simp; omega)]
    refine ⟨o ++ [(i : Int)], rfl, by rw [hs, if_pos h0, ← ho.1]; simp, ?_⟩
    rw [List.length_append]
    exact Hs (P := fun b y => ∃ q : Nat, y = (q : Int) ∧ q < m.fNext.length ∧ 0 ≤ m.fNext.getD q 0 ∧ JG m.fNext q = b) rfl ho.2 ⟨i, rfl, hi, h0, ho.1.symm⟩
   ·rw [AY h0]
    exact ⟨o, rfl, by rw [hs, if_neg h0, ho.1]; rfl, ho.2⟩)
  (fun n a _ => by
   rw [EN]
   simp only [BB]
   rw [AY (by omega)]) N 0 [] (Nat.zero_le _) (by omega) ⟨(JN _).symm, fun b hb => by simp at hb⟩
 exact ⟨o, e, h1, h2⟩
theorem Mk {n : Nat} (h : n ≤ 6) : 2 ^ n ≤ 64 := Nat.pow_le_pow_right (n := 2) (by omega) h
theorem N9 {n : Nat} (h : n ≤ 6) : Dy .i64 1 (n : Int) = ((2 ^ n : Nat) : Int) := VF ⟨n, by omega⟩
theorem LA {β : Type} (f : Nat → β) (n : Nat) : (List.range (n + 1)).map f = (List.range n).map f ++ [f n] := by
 rw [List.range_succ, List.map_append]; rfl
theorem O8 (N : Nat) (p : Ak) (m : Ag) (hN : N ≤ 1000000) (h20 : 100 ≤ N) (hw : Ml KO m.fHeld) (hv : EA p m = 0) : H4 N p m = some (Hg m, 0) := by
 obtain ⟨hp, hm⟩ := Je hw hv
 have hnv := hp.nv
 have hnt := hp.nt
 have hl : m.fNext.length ≤ 6 := by rw [hm.next]; omega
 unfold H4
 rw [JB N p m hN (by omega) hw, hv]
 simp only [Option.bind_some, bne_self_eq_false, AE]
 obtain ⟨o, e, ho⟩ := TF N m hN (by omega) hl (fun (v4 : (List Int)) =>
   (E7 (0 ≤ (v4.length : Int))).bind fun _ =>
   DU N m v4 (fun (v12 : (List Ag)) =>
    some (v12, 0)) N (([] : List Ag), 0))
 rw [e, AK (by omega)]
 have hoL := ho.len
 have hol := Lv m.fNext m.fNext.length (Nat.le_refl _)
 have hpow := Mk (show JG m.fNext m.fNext.length ≤ 6 by omega)
 obtain ⟨a, e2, h1⟩ := Gl (A := List Ag) (DU N m o fun v12 => some (v12, 0)) (fun a k => (a, k)) (2 ^ JG m.fNext m.fNext.length) (fun v12 => some (v12, 0))
  (fun i a => a = (List.range i).map (WZ m))
  (fun n i a hi ha => by
   refine ⟨a ++ [WZ m i], ?_, by rw [LA, ha]⟩
   have hal : a.length = i := by rw [ha]; simp
   rw [DU]
   rw [hoL, N9 (n := JG m.fNext m.fNext.length) (by omega), A1 (by omega), LU N m.fBase (by have := hm.base; unfold E8; omega), LU N m.fNext (by unfold E8; omega), PT N m.fHeld (by have := hm.held; unfold E8; omega)]
   simp only [Option.bind_some]
   rw [Rt N m.fNext o i a hN (by omega) hl ho (by omega), AK (by rw [hal]; unfold E8; simp; omega), A8 (by omega)]
   rfl)
  (fun n a _ => by
   rw [DU]
   rw [hoL, N9 (n := JG m.fNext m.fNext.length) (by omega), AY (by simp)]) N 0 [] (Nat.zero_le _) (by omega) rfl
 have e2' : DU N m o (fun v12 => some (v12, 0)) N ([], 0) = some (a, 0) := e2
 rw [e2', h1]; rfl
theorem RO (N : Nat) (m : Ag) (h1 : m.fBase.length ≤ E8) (h2 : m.fNext.length ≤ E8) (h3 : m.fHeld.length ≤ E8) : Fc N m = some m := by
 unfold Fc
 rw [AK (by simpa using h1), AK (by simpa using h2), AK (by simpa using h3)]; rfl
theorem RP (N : Nat) (m : Ag) (hN : N ≤ 1000000) (h20 : 100 ≤ N) (h1 : m.fBase.length ≤ 100) (hl : m.fNext.length ≤ 6) (h3 : m.fHeld.length ≤ 100) : Fg N m = some (Hg m) := by
 unfold Fg
 obtain ⟨c, e, hc⟩ := Gl (A := Nat) (Dk N m (fun (v2 : Int) =>
  BW N m v2 (fun (v8 : (List Ag)) => some v8) N (([] : List Ag), 0))) (fun a k => ((a : Int), k)) m.fNext.length (fun a => BW N m (a : Int) (fun (v8 : (List Ag)) => some v8) N (([] : List Ag), 0))
  (fun i a => a = JG m.fNext i)
  (fun n i a hi ha => by
   have hple := Lv m.fNext i (by omega)
   have hs := IJ m.fNext i hi
   rw [Dk]
   simp only [BB]
   rw [A1 (by omega), Em (d := 0) hi]
   simp only [Option.bind_some]
   rw [A8 (by omega), A8 (by omega)]
   by_cases h0 : 0 ≤ m.fNext.getD i 0
   ·rw [A1 h0]
    exact ⟨a + 1, rfl, by rw [hs, if_pos h0, ha]⟩
   ·rw [AY h0]
    exact ⟨a, rfl, by rw [hs, if_neg h0, ha]; rfl⟩)
  (fun n a _ => by
   rw [Dk]
   simp only [BB]
   rw [AY (by omega)]) N 0 0 (Nat.zero_le _) (by omega) (JN _).symm
 have e' : Dk N m (fun (v2 : Int) => BW N m v2 (fun (v8 : (List Ag)) => some v8) N (([] : List Ag), 0)) N (0, 0) = _ := e
 rw [e', hc]
 have hol := Lv m.fNext m.fNext.length (Nat.le_refl _)
 have hpow := Mk (show JG m.fNext m.fNext.length ≤ 6 by omega)
 obtain ⟨a, e2, h1⟩ := Gl (A := List Ag) (BW N m (JG m.fNext m.fNext.length : Int) fun v8 => some v8) (fun a k => (a, k)) (2 ^ JG m.fNext m.fNext.length) some
  (fun i a => a = (List.range i).map (WZ m))
  (fun n i a hi ha => by
   refine ⟨a ++ [WZ m i], ?_, by rw [LA, ha]⟩
   have hal : a.length = i := by rw [ha]; simp
   rw [BW]
   rw [AK (by omega), N9 (n := JG m.fNext m.fNext.length) (by omega), A1 (by omega), RO N m (by unfold E8; omega) (by unfold E8; omega) (by unfold E8; omega)]
   simp only [Option.bind_some]
   rw [RF N m i a hN (by omega) hl (by omega), AK (by rw [hal]; unfold E8; simp; omega), A8 (by omega)]
   rfl)
  (fun n a _ => by
   rw [BW]
   rw [AK (by omega), N9 (n := JG m.fNext m.fNext.length) (by omega), AY (by simp)]) N 0 [] (Nat.zero_le _) (by omega) rfl
 have e2' : BW N m (JG m.fNext m.fNext.length : Int) (fun v8 => some v8) N ([], 0) = some a := e2
 rw [e2', h1]; rfl
theorem R7 (N : Nat) (p : Ak) (m : Ag) (hN : N ≤ 1000000) (h20 : 100 ≤ N) (hp : CB p) (hm : FJ p m) : Fg N m = some (Hg m) := by
 have := hp.nv
 have := hp.nt
 exact RP N m hN h20 (by rw [hm.base]; omega) (by rw [hm.next]; omega) (by rw [hm.held]; omega)
theorem PO {p : Ak} {m : Ag} (hm : FJ p m) : Ml KO m.fHeld := by
 intro x hx
 obtain ⟨q, hq⟩ := List.mem_iff_getElem?.1 hx
 have h1 := (List.getElem?_eq_some_iff.1 hq).1
 have := hm.range q (by rw [← hm.held]; exact h1)
 rw [List.getD_eq_getElem?_getD, hq] at this
 unfold KO
 simp only [Option.getD_some] at this
 simp [Lit.wf, IntKind.min, IntKind.max, IntKind.signed, IntKind.bits]
 omega
def LF (p : Ak) (x : Ag) : Option (Ag × Af) := match JT p x with
 | [] => none
 | c :: _ => some (x, c)
def Kr (p : Ak) (m : Ag) : Option (Ag × Af) := ES (fun _ x => LF p x) 0 (Hg m)
def HW : Ag := ⟨[], [], []⟩
def Ri : Af := ⟨0, 0, 0⟩
def Lm (p : Ak) (m : Ag) : Ag × Af × Int := match Kr p m with
 | some (x, c) => (x, c, 0)
 | none => (HW, Ri, 15)
theorem OB {m : Ag} (hl : m.fNext.length ≤ 6) : (Hg m).length ≤ 64 := by
 unfold Hg
 have hol := Lv m.fNext m.fNext.length (Nat.le_refl _)
 have hpow := Mk (show JG m.fNext m.fNext.length ≤ 6 by omega)
 simpa using hpow
theorem Od {α R R' : Type} (f : Nat → α → Option R) (g : R → R') : ∀ (i : Nat) (xs : List α), ES (fun i x => (f i x).map g) i xs = (ES f i xs).map g
 | _, [] => rfl
 | i, x :: xs => by
  rw [Im, Im]
  cases f i x
  ·exact Od f g (i + 1) xs
  ·rfl
theorem Qf (N : Nat) (p : Ak) (m : Ag) (hN : N ≤ 1000000) (h20 : 100 ≤ N) (hw : Ml KO m.fHeld) (hv : EA p m = 0) : HJ N p m = some (Lm p m) := by
 obtain ⟨hp, hm⟩ := Je hw hv
 have hnv := hp.nv
 unfold HJ
 rw [O8 N p m hN h20 hw hv]
 simp only [Option.bind_some, bne_self_eq_false, AE]
 have hal := OB (m := m) (by rw [hm.next]; omega)
 have := Ee (FI N p (Hg m, 0) fun _ => some (HW, Ri, 15)) (Hg m) (some (HW, Ri, 15)) (fun _ x => (LF p x).map fun y => (y.1, y.2, 0))
  (fun n i x hx => by
   have hi := (List.getElem?_eq_some_iff.1 hx).1
   have hx2 := UG hp hm (Mr.1 (List.mem_of_getElem? hx))
   rw [FI, A1 (by simp only; omega)]
   simp only [BU, hx, Option.bind_some]
   rw [Na N p x hN (by omega) hp hx2, A8 (by omega)]
   simp only [Option.bind_some, LF]
   cases JT p x with
   | nil => rfl
   | cons c cs => rw [A1 (by simp only [List.length_cons]; omega)]; rfl)
  (fun n => by rw [FI, AY (by simp)]) N 0 (Nat.zero_le _) (by omega)
 rw [List.drop_zero, Od] at this
 exact this.trans (by
  unfold Lm Kr
  cases ES (fun _ x => LF p x) 0 (Hg m) <;> rfl)
theorem QD (N : Nat) (p : Ak) (m : Ag) (hN : N ≤ 1000000) (h20 : 100 ≤ N) (hw : Ml KO m.fHeld) (hv : EA p m = 0) : Fr N p m = some (Lm p m) := by
 obtain ⟨hp, hm⟩ := Je hw hv
 have hnv := hp.nv
 unfold Fr F1
 rw [KP N p m hN (by omega), hv, R7 N p m hN h20 hp hm]
 simp only [Option.bind_some, bne_self_eq_false, AE]
 have hal := OB (m := m) (by rw [hm.next]; omega)
 have := Ee (Dw N p (Hg m, 0) fun _ => some (HW, Ri, 15)) (Hg m) (some (HW, Ri, 15)) (fun _ x => (LF p x).map fun y => (y.1, y.2, 0))
  (fun n i x hx => by
   have hi := (List.getElem?_eq_some_iff.1 hx).1
   have hx2 := UG hp hm (Mr.1 (List.mem_of_getElem? hx))
   rw [Dw, A1 (by simp only; omega)]
   simp only [BU, hx, Option.bind_some]
   rw [M6 N p x hN (by omega) hp hx2, A8 (by omega)]
   simp only [Option.bind_some, LF]
   cases JT p x with
   | nil => rfl
   | cons c cs => rw [A1 (by simp only [List.length_cons]; omega)]; rfl)
  (fun n => by rw [Dw, AY (by simp)]) N 0 (Nat.zero_le _) (by omega)
 rw [List.drop_zero, Od] at this
 exact this.trans (by
  unfold Lm Kr
  cases ES (fun _ x => LF p x) 0 (Hg m) <;> rfl)
end Go.Lift

/- The laws of the mixes in plain words: MixConflicts, MixAborts, MixAborted, MixGoal, MixValid. -/
namespace Go.Lift
theorem Ru {N : Nat} {a b : Ag} (hN : N ≤ 1000000) (h1 : a.fBase.length < N) (h2 : a.fNext.length < N) (h3 : a.fHeld.length < N) (h4 : b.fHeld.length < N) (wa : Ml KO a.fHeld) (wb : Ml KO b.fHeld) : EZ N a b = some (Tr a b) := by
 unfold EZ
 rw [OZ h1 hN, OZ h2 hN, NV h3 hN wa, NV h4 hN wb]
 simp only [Option.bind_some]
 rw [OZ h3 hN]
 unfold Tr W8
 by_cases h1 : Jv a.fBase b.fBase = 0
 ·simp only [h1, W8]
  by_cases h2 : Jv a.fNext b.fNext = 0
  ·simp only [h2]
   by_cases h3 : Jv a.fHeld b.fHeld = 0 <;> simp [h3]
  ·have : (Jv a.fNext b.fNext != 0) = true := by simpa using h2
   simp [h2, this]
 ·have : (Jv a.fBase b.fBase != 0) = true := by simpa using h1
  simp [h1, this]
theorem Rb {N : Nat} {a : Ag} (hN : N ≤ 1000000) (h1 : a.fBase.length < N) (h2 : a.fNext.length < N) (h3 : a.fHeld.length < N) (wa : Ml KO a.fHeld) : DE N a a = some true := by
 unfold DE
 rw [Ru hN h1 h2 h3 h3 wa wa, PI]; rfl
theorem Tk {N : Nat} {p : Ak} {a : Ag} (hN : N ≤ 1000000) (h20 : 100 ≤ N) (hp : CB p) (ha : FJ p a) : DE N a a = some true := by
 have := hp.nv
 have := hp.nt
 exact Rb hN (by rw [ha.base]; omega) (by rw [ha.next]; omega) (by rw [ha.held]; omega) (PO ha)
theorem Ue (d : CV) (x : Ce) (wd : Gj d) (wx : Gi x) :
  ∃ p ok, FD 1000 d = some (p, ok) ∧ (ok = true → UP p ∧ CB p ∧ ∃ m, FC 1000 p x = some m ∧ XX p x m ∧ FJ p m ∧ EA p m = 0 ∧ Ml KO m.fHeld) := by
 obtain ⟨p, ok, e, h⟩ := Zq 1000 d (by omega) (by omega) wd
 refine ⟨p, ok, e, fun hk => ?_⟩
 have hg := h hk
 have hp := (I1 hg.valid).1
 obtain ⟨m, e2, hi, ho⟩ := ZH 1000 p x (by omega) (by omega) hp wx
 exact ⟨hg, hp, m, e2, hi, ho, LI hg.valid ho, PO ho⟩
end Go.Lift

/- The laws of the mixes in plain words: MixGoal, MixValid. -/
namespace Go.Lift
end Go.Lift

/- The first mix in plain words, and the law MixStart. -/
namespace Go.Lift
open Go
end Go.Lift

/- Bits of sets of versions: or, and-not, the lowest bit. -/
namespace Go.Lift
open Go
theorem NW (x : BitVec 8) : IntKind.wrap .u8 (x.toNat : Int) = (x.toNat : Int) := by
 have := x.isLt
 simp [IntKind.wrap, IntKind.signed, IntKind.bits]
 omega
theorem Rz (x : BitVec 8) : 0 ≤ (x.toNat : Int) ∧ (x.toNat : Int) ≤ 255 := by
 have := x.isLt
 omega
theorem UK (x : BitVec 8) (v : Nat) : D1 (x.toNat : Int) v = x.getLsbD v := by
 unfold D1; rw [Int.toNat_natCast]; rfl
theorem QB {a : Int} (ha : 0 ≤ a ∧ a ≤ 255) (v : Nat) : (BitVec.ofInt 8 a).getLsbD v = D1 a v := by
 obtain ⟨a, rfl⟩ := Int.eq_ofNat_of_zero_le ha.1
 unfold BitVec.getLsbD D1
 rw [SY (by omega), Int.toNat_natCast]
theorem RY {a b : Int} (ha : 0 ≤ a ∧ a ≤ 255) (hb : 0 ≤ b ∧ b ≤ 255) : (∀ v, D1 (Eh .u8 a b) v = (D1 a v && !D1 b v)) ∧ 0 ≤ Eh .u8 a b ∧ Eh .u8 a b ≤ 255 := by
 have e : Eh .u8 a b = ((BitVec.ofInt 8 a &&& ~~~BitVec.ofInt 8 b).toNat : Int) := NW (BitVec.ofInt 8 a &&& ~~~BitVec.ofInt 8 b)
 rw [e]
 refine ⟨fun v => ?_, Rz _⟩
 rw [UK, BitVec.getLsbD_and, BitVec.getLsbD_not, QB ha, QB hb]
 by_cases h : v < 8
 ·simp [h]
 ·rw [LS ha.2 (by omega)]; simp
theorem RZ {a b : Int} (ha : 0 ≤ a ∧ a ≤ 255) (hb : 0 ≤ b ∧ b ≤ 255) : (∀ v, D1 (M5 .u8 a b) v = (D1 a v || D1 b v)) ∧ 0 ≤ M5 .u8 a b ∧ M5 .u8 a b ≤ 255 := by
 have e : M5 .u8 a b = ((BitVec.ofInt 8 a ||| BitVec.ofInt 8 b).toNat : Int) := NW (BitVec.ofInt 8 a ||| BitVec.ofInt 8 b)
 rw [e]
 refine ⟨fun v => ?_, Rz _⟩
 rw [UK, BitVec.getLsbD_or, QB ha, QB hb]
theorem Vz {b : Nat} (hb : b < 8) : (∀ v, D1 (Dy .u8 1 (b : Int)) v = decide (b = v)) ∧ 0 ≤ Dy .u8 1 (b : Int) ∧ Dy .u8 1 (b : Int) ≤ 255 := by
 refine ⟨fun v => ?_, (N5 ⟨b, hb⟩ ⟨0, by omega⟩).2⟩
 by_cases h : v < 8
 ·exact (N5 ⟨b, hb⟩ ⟨v, h⟩).1
 ·rw [LS (N5 ⟨b, hb⟩ ⟨0, by omega⟩).2.2 (by omega)]
  symm; apply decide_eq_false; omega
theorem U2 (N : Nat) {s : Int} {v : Nat} (hs : 0 ≤ s ∧ s ≤ 255) (hv : v < 8) : De N s (v : Int) = some (D1 s v) := by
 unfold De
 rw [AK (by omega), Qi hs.1 hs.2 hv]
 cases D1 s v <;> rfl
def Wa (v : Nat) : Nat := ((List.range 8).find? fun u => v.testBit u).getD 8
def Xy (v : Nat) : Nat := ((List.range 8).filter fun u => v.testBit u).length
theorem WU : ∀ v : Fin 256, DV 0 (v.val : Int) = some (Wa v.val : Int) := by decide +kernel
theorem XC (N : Nat) {v : Nat} (h : v < 256) : DV N (v : Int) = some (Wa v : Int) := WU ⟨v, h⟩
theorem VQ : ∀ v : Fin 256, v.val ≠ 0 → Wa v.val < 8 ∧ D1 (v.val : Int) (Wa v.val) = true ∧ 0 ≤ F4 .u8 (v.val : Int) (IntKind.wrap .u8 ((v.val : Int) - 1)) ∧ F4 .u8 (v.val : Int) (IntKind.wrap .u8 ((v.val : Int) - 1)) ≤ 255 ∧
  Xy (F4 .u8 (v.val : Int) (IntKind.wrap .u8 ((v.val : Int) - 1))).toNat + 1 = Xy v.val ∧
  ∀ u : Fin 8, D1 (F4 .u8 (v.val : Int) (IntKind.wrap .u8 ((v.val : Int) - 1))) u.val = (D1 (v.val : Int) u.val && decide (u.val ≠ Wa v.val)) := by decide +kernel
theorem Xr (v : Nat) : Xy v ≤ 8 := by
 have := List.length_filter_le (fun u => v.testBit u) (List.range 8)
 simpa [Xy] using this
theorem Ry (N : Nat) (t : AO) (b : Int) (rw_ : Nat → Bool) : ∀ (k n v : Nat), Xy v ≤ k → k < n → v < 256 →
  (∀ u, u < 8 → D1 (v : Int) u = true → ∃ row, Ba t.fRewrite (u : Int) = some row ∧ Ba row b = some (rw_ u)) →
  Ew N t b (fun _ => some true) n (v : Int) = some ((List.range 8).all fun u => !D1 (v : Int) u || rw_ u)
 | k, 0, v, _, h, _, _ => by omega
 | k, n + 1, v, hk, hn, hv, hr => by
  rw [Ew]
  by_cases h0 : v = 0
  ·subst h0
   have : (((0 : Nat) : Int) != 0) = false := rfl
   rw [this, AE]
   congr 1
  ·have h1 : ((v : Int) != 0) = true := bne_iff_ne.2 (by omega)
   obtain ⟨l1, l2, l3, l4, l5, l6⟩ := VQ ⟨v, hv⟩ h0
   simp only at l1 l2 l3 l4 l5 l6
   obtain ⟨row, e1, e2⟩ := hr _ l1 l2
   rw [h1, A6, XC N hv]
   simp only [Option.bind_some, e1, e2]
   obtain ⟨w, hw⟩ := Int.eq_ofNat_of_zero_le l3
   rw [hw] at l4 l5 l6 ⊢
   rw [Int.toNat_natCast] at l5
   cases hq : rw_ (Wa v)
   ·rw [Bool.not_false, A6]
    congr 1
    symm
    rw [List.all_eq_false]
    exact ⟨Wa v, by simpa using l1, by rw [l2, hq]; simp⟩
   ·rw [Bool.not_true, AE]
    match k, hk with
    | 0, hk => exfalso; omega
    | k + 1, hk =>
    rw [Ry N t b rw_ k n w (by omega) (by omega) (by omega) (fun u hu hb => hr u hu (by have := l6 ⟨u, hu⟩; simp only at this; rw [hb] at this; simpa using (Bool.and_eq_true_iff.1 this.symm).1))]
    congr 1
    rw [Bool.eq_iff_iff, List.all_eq_true, List.all_eq_true]
    refine ⟨fun h u hu => ?_, fun h u hu => ?_⟩
    ·have hu8 : u < 8 := by simpa using hu
     have h3 := h u hu
     have h4 := l6 ⟨u, hu8⟩
     simp only at h4
     rw [h4] at h3
     by_cases e : u = Wa v
     ·rw [e, hq]; simp
     ·simpa [e] using h3
    ·have hu8 : u < 8 := by simpa using hu
     have h3 := h u hu
     have h4 := l6 ⟨u, hu8⟩
     simp only at h4
     rw [h4]
     cases hb : D1 (v : Int) u
     ·simp
     ·rw [hb] at h3; simp at h3; simp [h3]
end Go.Lift

/- Steps: both implementations give one answer. -/
namespace Go.Lift
open Go
theorem RG (N : Nat) (m : Ag) (s : Int) (h0 : 0 ≤ s) (h1 : s < (m.fBase.length : Int)) (h2 : s < (m.fNext.length : Int)) (hb : 0 ≤ m.fBase.getD s.toNat 0) : GW N m s = some (HQ m s.toNat) := by
 unfold GW HQ
 rw [FG (d := 0) h0 h1, FG (d := 0) h0 h2]
 simp only [Option.bind_some, Bf]
 rw [show E7 (0 ≤ m.fBase.getD s.toNat 0) = some () from by unfold E7; rw [if_pos hb]]
 simp only [Option.bind_some]
 by_cases h : 0 ≤ m.fNext.getD s.toNat 0
 ·rw [A1 h, if_pos h, show E7 (0 ≤ m.fNext.getD s.toNat 0) = some () from by unfold E7; rw [if_pos h]]; rfl
 ·rw [AY h, if_neg h]
theorem Lu (N : Nat) (t : AO) : GB N t = some (CI t) := by
 unfold GB CI
 simp only [Bf]
 cases h : t.fKind == 3 <;> simp
def Ip (s : Av) : Bool := decide (1 ≤ s.fKind ∧ s.fKind ≤ 4 ∧ 0 ≤ s.fIndex ∧ 0 ≤ s.fVersion) && (s.fKind == 1 || s.fVersion == 0)
def He (p : Ak) (s : Av) : Bool :=
 if s.fKind = 3 then decide (s.fIndex < (p.fTables.length : Int)) else decide (s.fIndex < (p.fVersions.length : Int)) && (s.fKind != 1 || decide (s.fVersion < p.fVersions.getD s.fIndex.toNat 0))
theorem O7 (N : Nat) (s : Av) : H1 N s = some (Ip s) := by
 unfold H1 Ip UY
 simp only [Bf]
 by_cases h1 : (if s.fVersion < s.fIndex then s.fVersion else s.fIndex) < 0
 ·rw [A1 h1, A6, decide_eq_false (by split at h1 <;> omega)]; rfl
 ·rw [AY h1]
  by_cases h2 : s.fKind < 1
  ·rw [A1 h2, A6, decide_eq_false (by omega)]; rfl
  ·rw [AY h2]
   by_cases h3 : 4 < s.fKind
   ·rw [decide_eq_true h3, A6, decide_eq_false (by omega)]; rfl
   ·rw [decide_eq_false h3, AE, decide_eq_true (by split at h1 <;> omega), Bool.true_and]
    cases h4 : s.fKind == 1 <;> simp
theorem Qt (N : Nat) (s : Av) : Fo N s = some (Ip s) := by
 unfold Fo Ip
 simp only [Bf]
 by_cases h1 : 1 ≤ s.fKind
 ·rw [A1 h1]
  by_cases h2 : s.fKind ≤ 4
  ·rw [A1 h2]
   by_cases h3 : 0 ≤ s.fIndex
   ·rw [A1 h3]
    by_cases h4 : 0 ≤ s.fVersion
    ·rw [A1 h4, decide_eq_true (by omega), Bool.true_and]
     cases h5 : s.fKind == 1 <;> simp
    ·rw [AY h4, decide_eq_false (by omega)]; rfl
   ·rw [AY h3, decide_eq_false (by omega)]; rfl
  ·rw [AY h2, decide_eq_false (by omega)]; rfl
 ·rw [AY h1, decide_eq_false (by omega)]; rfl
theorem OE (N : Nat) (p : Ak) (s : Av) (hv : Ip s = true) : Hl N p s = some (He p s) := by
 have h0 : 0 ≤ s.fIndex := by
  unfold Ip at hv
  rw [Bool.and_eq_true, decide_eq_true_iff] at hv
  exact hv.1.2.2.1
 unfold Hl He
 simp only [Bf]
 by_cases h1 : s.fKind = 3
 ·rw [if_pos h1, beq_iff_eq.2 h1, A6]
 ·rw [if_neg h1, beq_eq_false_iff_ne.2 h1, AE]
  by_cases h2 : s.fIndex < (p.fVersions.length : Int)
  ·rw [A1 h2, decide_eq_true h2, Bool.true_and]
   cases h3 : s.fKind != 1
   ·rw [AE, FG (d := 0) h0 h2, Bool.false_or]; rfl
   ·rw [A6]; rfl
  ·rw [AY h2, decide_eq_false h2]; rfl
def SU (s : Av) (t : AO) : Bool := t.fFrom == s.fIndex && CI t
def Tu (s : Av) (i : Nat) (t : AO) (a : List Int) : List Int := if SU s t = true then a.set i (M5 .u8 (a.getD i 0) (Dy .u8 1 s.fVersion)) else a
def J3 (p : Ak) (s : Av) (held : List Int) : List Int := Jt (Tu s) 0 p.fTables held
theorem NZ {R : Type} (N : Nat) (p : Ak) (s : Av) (held : List Int) (hv : 0 ≤ s.fVersion) (hl : held.length = p.fTables.length) (h12 : p.fTables.length < N) (hN : N ≤ 1000000) (j : List Int → Option (Bool × List Int × List Int)) :
  EL N p s j N (held, 0) = j (J3 p s held) ∧ (J3 p s held).length = p.fTables.length := by
 have := JK (EL N p s j) (fun a i => (a, i)) p.fTables j (Tu s) (fun i a => a.length = p.fTables.length)
  (fun n i x a hx ha => by
   have hi := (List.getElem?_eq_some_iff.1 hx).1
   rw [EL, A1 (by simp only; omega)]
   simp only [BB, BU, hx, Option.bind_some, Lu, A8 (show i < 1000000 by omega)]
   have e2 : a[i]? = some (a.getD i 0) := by rw [List.getD_eq_getElem?_getD]; simp [show i < a.length from by omega]
   unfold Tu SU
   cases h1 : x.fFrom == s.fIndex
   ·rw [AE, AE, Bool.false_and, if_neg (by simp)]; exact ⟨rfl, ha⟩
   ·rw [A6, Bool.true_and]
    cases h2 : CI x
    ·rw [AE, if_neg (by simp)]; exact ⟨rfl, ha⟩
    ·rw [A6, e2, if_pos rfl]
     simp only [Option.bind_some]
     rw [AK hv]
     exact ⟨rfl, by simpa using ha⟩)
  (fun n a ha => by rw [EL, AY (by simp)]) N 0 held (Nat.zero_le _) (by omega) hl
 rw [List.drop_zero] at this
 exact this
theorem ON (N : Nat) (p : Ak) (s : Av) (held : List Int) (hv : 0 ≤ s.fVersion) (hl : held.length = p.fTables.length) (h12 : p.fTables.length < N) (hN : N ≤ 1000000) (j : List Int → Option (Ag × Bool)) :
  Cw N p s j N (held, 0) = j (J3 p s held) := by
 have := JK (Cw N p s j) (fun a i => (a, i)) p.fTables j (Tu s) (fun i a => a.length = p.fTables.length)
  (fun n i x a hx ha => by
   have hi := (List.getElem?_eq_some_iff.1 hx).1
   rw [Cw, A1 (by simp only; omega)]
   simp only [BB, BU, hx, Option.bind_some, G1, A8 (show i < 1000000 by omega)]
   have e2 : a[i]? = some (a.getD i 0) := by rw [List.getD_eq_getElem?_getD]; simp [show i < a.length from by omega]
   unfold Tu SU
   cases h1 : x.fFrom == s.fIndex
   ·rw [AE, AE, Bool.false_and, if_neg (by simp)]; exact ⟨rfl, ha⟩
   ·rw [A6, Bool.true_and]
    cases h2 : CI x
    ·rw [AE, if_neg (by simp)]; exact ⟨rfl, ha⟩
    ·rw [A6, e2, if_pos rfl]
     simp only [Option.bind_some]
     rw [AK hv]
     exact ⟨rfl, by simpa using ha⟩)
  (fun n a ha => by rw [Cw, AY (by simp)]) N 0 held (Nat.zero_le _) (by omega) hl
 rw [List.drop_zero] at this
 exact this.1
def L7 (m : Ag) (t : AO) (u : Nat) : Bool := (t.fRewrite.getD u []).getD (m.fBase.getD t.fFrom.toNat 0).toNat false
def Oq (m : Ag) (i : Nat) (t : AO) (u : Nat) : Bool := D1 (m.fHeld.getD i 0) u && !IY m t.fFrom.toNat u
def Jl (p : Ak) (m : Ag) (i : Nat) (t : AO) : Bool := t.fKind == 4 && (List.range 8).any fun u => Oq m i t u && !L7 m t u
def G8 (p : Ak) (m : Ag) (s : Av) : Option Ag :=
 let i := s.fIndex.toNat
 if s.fKind = 1 then (if 0 ≤ m.fNext.getD i 0 ∨ m.fBase.getD i 0 = s.fVersion then none else some ⟨m.fBase, m.fNext.set i s.fVersion, J3 p s m.fHeld⟩)
 else if s.fKind = 3 then match p.fTables[i]? with
  | none => none
  | some t => if CI t = false ∨ m.fHeld.getD i 0 = HQ m t.fFrom.toNat ∨ Jl p m i t = true then none else some ⟨m.fBase, m.fNext, m.fHeld.set i (HQ m t.fFrom.toNat)⟩
 else if m.fNext.getD i 0 < 0 then none
 else some ⟨if s.fKind = 2 then m.fBase.set i (m.fNext.getD i 0) else m.fBase, m.fNext.set i (-1), m.fHeld⟩
def Fs (p : Ak) (m : Ag) (s : Av) : Ag × Int :=
 if Ip s = false then (HW, 1) else if He p s = false then (HW, 4) else match G8 p m s with
  | none => (HW, 11)
  | some x => (x, 0)
end Go.Lift

/- Steps: clearing, and the whole of Apply. -/
namespace Go.Lift
open Go
section clear
variable {p : Ak} {m : Ag} {i : Nat} {t : AO}
theorem UM (hp : CB p) (hm : FJ p m) (ht : p.fTables[i]? = some t) (hs : CI t = true) {u : Nat} (h : D1 (m.fHeld.getD i 0) u = true) : (u : Int) < p.fVersions.getD t.fFrom.toNat 0 ∧ u < 6 ∧ t.fFrom.toNat < p.fVersions.length := by
 have h1 := hm.high i t ht hs u h
 have hin := Kw (hp.tab t (List.mem_of_getElem? ht))
 have h2 := J0 hp (i := t.fFrom.toNat) (by omega)
 exact ⟨h1, by omega, by omega⟩
theorem Ux (hp : CB p) (hm : FJ p m) (ht : p.fTables[i]? = some t) (hs : CI t = true) (h4 : t.fKind = 4) {u : Nat} (h : D1 (m.fHeld.getD i 0) u = true) :
  Ba t.fRewrite (u : Int) = some (t.fRewrite.getD u []) ∧ Ba (t.fRewrite.getD u []) (m.fBase.getD t.fFrom.toNat 0) = some (L7 m t u) := by
 have hT := LG (hp.tab t (List.mem_of_getElem? ht))
 obtain ⟨h1, h2, h3⟩ := UM hp hm ht hs h
 have hl := hT.reL h4
 have e : t.fRewrite[u]? = some (t.fRewrite.getD u []) := by rw [List.getD_eq_getElem?_getD]; simp [show u < t.fRewrite.length from by omega]
 have hr := hT.reR _ (List.mem_of_getElem? e)
 have hb := hm.b0 t.fFrom.toNat h3
 refine ⟨by rw [BU, e], ?_⟩
 unfold L7
 obtain ⟨b, hb'⟩ := Int.eq_ofNat_of_zero_le hb.1
 rw [hb'] at hb ⊢
 rw [Int.toNat_natCast]
 exact Em (by omega)
theorem Pd (N : Nat) (hN : N ≤ 1000000) (h20 : 100 ≤ N) (hp : CB p) (hm : FJ p m) (ht : p.fTables[i]? = some t) :
  H0 N p m (i : Int) = some (if CI t = false ∨ m.fHeld.getD i 0 = HQ m t.fFrom.toNat ∨ Jl p m i t = true then (false, m.fHeld) else (true, m.fHeld.set i (HQ m t.fFrom.toNat))) := by
 have hi := (List.getElem?_eq_some_iff.1 ht).1
 have hin := Kw (hp.tab t (List.mem_of_getElem? ht))
 have hb := hm.base
 have hnx := hm.next
 have hh := hm.held
 have hr := Jb hp hm.toMixServ (s := t.fFrom.toNat) (by omega)
 have hrg := hm.range i hi
 have eh : Ba m.fHeld (i : Int) = some (m.fHeld.getD i 0) := Em (by omega)
 unfold H0
 simp only [BB, BU, ht, Option.bind_some, Lu]
 have eh' : m.fHeld[i]? = some (m.fHeld.getD i 0) := by rw [← BU, eh]
 cases hs : CI t
 ·rw [Bool.not_false, A6, if_pos (.inl rfl)]
 ·rw [Bool.not_true, AE, RG N m _ hin.1 (by omega) (by omega) (hm.b0 _ (by omega)).1]
  simp only [Option.bind_some, eh']
  by_cases h1 : m.fHeld.getD i 0 = HQ m t.fFrom.toNat
  ·rw [beq_iff_eq.2 h1, A6, A6, if_pos (.inr (.inl h1))]
  ·rw [beq_eq_false_iff_ne.2 h1, AE]
   by_cases h4 : t.fKind = 4
   ·rw [beq_iff_eq.2 h4, A6, FG (d := 0) hin.1 (by omega)]
    simp only [Option.bind_some]
    obtain ⟨a1, a2, a3⟩ := RY hrg hr.2
    obtain ⟨w, hw⟩ := Int.eq_ofNat_of_zero_le a2
    unfold GO
    rw [hw] at a1 a3 ⊢
    rw [Ry N t _ (L7 m t) 8 N w (Xr _) (by omega) (by omega) (fun u hu hbu => by
     have := a1 u; rw [hbu] at this
     exact ⟨_, Ux hp hm ht hs h4 (Bool.and_eq_true_iff.1 this.symm).1⟩)]
    simp only [Option.bind_some]
    have e : (!(List.range 8).all fun u => !D1 (w : Int) u || L7 m t u) = Jl p m i t := by
     unfold Jl
     rw [beq_iff_eq.2 h4, Bool.true_and, List.not_all_eq_any_not]
     congr 1
     funext u
     rw [a1 u, hr.1 u]
     unfold Oq
     cases D1 (m.fHeld.getD i 0) u <;> cases IY m t.fFrom.toNat u <;> cases L7 m t u <;> rfl
    rw [e]
    cases hst : Jl p m i t
    ·rw [AE, if_neg (by rintro (h | h | h); cases h; exact h1 h; cases h)]; rfl
    ·rw [A6, if_pos (.inr (.inr rfl))]
   ·have e : Jl p m i t = false := by unfold Jl; rw [beq_eq_false_iff_ne.2 h4]; rfl
    rw [beq_eq_false_iff_ne.2 h4, AE, AE, e, if_neg (by rintro (h | h | h); cases h; exact h1 h; cases h)]; rfl
theorem Oi (N : Nat) (hN : N ≤ 1000000) (h20 : 100 ≤ N) (hp : CB p) (hm : FJ p m) (ht : p.fTables[i]? = some t) (hs : CI t = true) (s : Av) (hsi : s.fIndex = (i : Int)) (j : Option (Ag × Bool)) :
  B7 N p m s t (HQ m t.fFrom.toNat) (fun _ => j) N 0 = if Jl p m i t = true then some (HW, false) else j := by
 have hi := (List.getElem?_eq_some_iff.1 ht).1
 have hin := Kw (hp.tab t (List.mem_of_getElem? ht))
 have hb := hm.base
 have hh := hm.held
 have hr := Jb hp hm.toMixServ (s := t.fFrom.toNat) (by omega)
 have hrg := hm.range i hi
 have hver := J0 hp (i := t.fFrom.toNat) (by omega)
 obtain ⟨nv, hnv⟩ := Int.eq_ofNat_of_zero_le (show 0 ≤ p.fVersions.getD t.fFrom.toNat 0 by omega)
 have eh' : m.fHeld[i]? = some (m.fHeld.getD i 0) := by rw [List.getD_eq_getElem?_getD]; simp [show i < m.fHeld.length from by omega]
 have := Ee (B7 N p m s t (HQ m t.fFrom.toNat) fun _ => j) (List.range nv) j (fun u _ => if (Oq m i t u && (t.fKind == 4 && !L7 m t u)) = true then some (HW, false) else none)
  (fun n u x hx => by
   have hu : u < nv := by
    have := (List.getElem?_eq_some_iff.1 hx).1
    simpa using this
   rw [B7, FG (d := 0) hin.1 (by omega), hnv]
   simp only [Option.bind_some]
   rw [A1 (by omega)]
   simp only [BB, hsi, BU, eh', Option.bind_some]
   rw [U2 N hrg (by omega), A8 (by omega)]
   simp only [Option.bind_some]
   cases h1 : D1 (m.fHeld.getD i 0) u
   ·have e : Oq m i t u = false := by unfold Oq; rw [h1]; rfl
    rw [AE, AE, AE, e]; rfl
   ·rw [A6, U2 N hr.2 (by omega), hr.1 u]
    simp only [Option.bind_some]
    have e : Oq m i t u = !IY m t.fFrom.toNat u := by unfold Oq; rw [h1]; rfl
    rw [← e]
    cases h2 : Oq m i t u
    ·rw [AE, AE]; rfl
    ·rw [A6]
     by_cases h4 : t.fKind = 4
     ·obtain ⟨e1, e2⟩ := Ux hp hm ht hs h4 h1
      rw [BU] at e1
      rw [beq_iff_eq.2 h4, A6, e1, FG (d := 0) hin.1 (by omega)]
      simp only [Option.bind_some]
      rw [e2]
      simp only [Option.bind_some]
      cases L7 m t u <;> rfl
     ·rw [beq_eq_false_iff_ne.2 h4, AE, AE]; rfl)
  (fun n => by
   rw [B7, FG (d := 0) hin.1 (by omega), hnv]
   simp only [Option.bind_some, List.length_range]
   rw [AY (by omega)]) N 0 (Nat.zero_le _) (by simp; omega)
 have e0 : B7 N p m s t (HQ m t.fFrom.toNat) (fun _ => j) N 0 = _ := this
 rw [e0, List.drop_zero]
 by_cases hst : Jl p m i t = true
 ·rw [if_pos hst]
  unfold Jl at hst
  rw [Bool.and_eq_true, List.any_eq_true] at hst
  obtain ⟨h4, u, hu, h5⟩ := hst
  rw [Bool.and_eq_true] at h5
  have h6 : D1 (m.fHeld.getD i 0) u = true := by have := h5.1; unfold Oq at this; exact (Bool.and_eq_true_iff.1 this).1
  have h7 := UM hp hm ht hs h6
  cases hsc : ES (fun u (_ : Nat) => if (Oq m i t u && (t.fKind == 4 && !L7 m t u)) = true then some (HW, false) else none) 0 (List.range nv) with
  | some r =>
   obtain ⟨q, x, hx, hf⟩ := Gb hsc
   split at hf
   ·cases hf; rfl
   ·cases hf
  | none =>
   exfalso
   have hx : (List.range nv)[u]? = some u := List.getElem?_range (by omega)
   have := HF hsc u u hx
   rw [Nat.zero_add, h5.1, h4, h5.2] at this
   cases this
 ·rw [if_neg hst]
  have : ES (fun u (_ : Nat) => if (Oq m i t u && (t.fKind == 4 && !L7 m t u)) = true then some (HW, false) else none) 0 (List.range nv) = none := FM fun q x hx => by
   rw [Nat.zero_add]
   split
   ·rename_i h5
    exfalso; apply hst
    rw [Bool.and_eq_true, Bool.and_eq_true] at h5
    unfold Jl
    rw [h5.2.1, Bool.true_and, List.any_eq_true]
    have hq : q < nv := by
     have := (List.getElem?_eq_some_iff.1 hx).1
     simpa using this
    exact ⟨q, List.mem_range.2 (by omega), by rw [h5.1, h5.2.2]; rfl⟩
   ·rfl
  rw [this]; rfl
end clear
end Go.Lift

/- Apply: both implementations give applyP; a step leads from a valid mix to a valid mix. -/
namespace Go.Lift
open Go
theorem KM {s : Av} (h : Ip s = true) : 1 ≤ s.fKind ∧ s.fKind ≤ 4 ∧ 0 ≤ s.fIndex ∧ 0 ≤ s.fVersion ∧ (s.fKind ≠ 1 → s.fVersion = 0) := by
 unfold Ip at h
 rw [Bool.and_eq_true, decide_eq_true_iff, Bool.or_eq_true, beq_iff_eq, beq_iff_eq] at h
 exact ⟨h.1.1, h.1.2.1, h.1.2.2.1, h.1.2.2.2, fun hk => h.2.elim (fun e => (hk e).elim) id⟩
theorem LT {p : Ak} {s : Av} (h : He p s = true) : (s.fKind = 3 → s.fIndex < (p.fTables.length : Int)) ∧ (s.fKind ≠ 3 → s.fIndex < (p.fVersions.length : Int)) ∧ (s.fKind = 1 → s.fVersion < p.fVersions.getD s.fIndex.toNat 0) := by
 unfold He at h
 split at h
 ·rename_i hk
  rw [decide_eq_true_iff] at h
  exact ⟨fun _ => h, fun hn => (hn hk).elim, fun h1 => by omega⟩
 ·rename_i hk
  rw [Bool.and_eq_true, decide_eq_true_iff, Bool.or_eq_true, decide_eq_true_iff, bne_iff_ne] at h
  exact ⟨fun h3 => (hk h3).elim, fun _ => h.1, fun h1 => h.2.elim (fun hn => (hn h1).elim) id⟩
theorem S8 (N : Nat) {p : Ak} {m : Ag} (hp : CB p) (hm : FJ p m) : Hr N m = some m := by
 have hnv := hp.nv
 have hnt := hp.nt
 have h1 := hm.base
 have h2 := hm.next
 have h3 := hm.held
 unfold Hr
 rw [LU N _ (by simp only [E8]; omega), LU N _ (by simp only [E8]; omega), PT N _ (by simp only [E8]; omega)]
 rfl
theorem L9 (N : Nat) (hN : N ≤ 1000000) (h20 : 100 ≤ N) {p : Ak} {m : Ag} (hp : CB p) (hm : FJ p m) {s : Av} (hv : Ip s = true) (hx : He p s = true) :
  ∃ o, Gv N p m s = some (o, (G8 p m s).isSome) ∧ ∀ x, G8 p m s = some x → o = x := by
 obtain ⟨k1, k4, i0, v0, vk⟩ := KM hv
 obtain ⟨x3, xn, x1⟩ := LT hx
 have hnv := hp.nv
 have hnt := hp.nt
 have hb := hm.base
 have hn := hm.next
 have hh := hm.held
 obtain ⟨i, hi⟩ := Int.eq_ofNat_of_zero_le i0
 unfold Gv G8
 rw [S8 N hp hm]
 simp only [Option.bind_some, BB]
 by_cases hk1 : s.fKind = 1
 ·have hi1 : (i : Int) < p.fVersions.length := by have := xn (by omega); omega
  rw [beq_iff_eq.2 hk1, A6, if_pos hk1]
  unfold I7
  simp only [BB, hi, Int.toNat_natCast]
  rw [Em (d := 0) (show i < m.fNext.length by omega)]
  simp only [Option.bind_some]
  by_cases c1 : 0 ≤ m.fNext.getD i 0
  ·rw [A1 c1, A6, if_pos (.inl c1)]
   exact ⟨_, rfl, fun x hx => by cases hx⟩
  ·rw [AY c1, Em (d := 0) (show i < m.fBase.length by omega)]
   simp only [Option.bind_some]
   by_cases c2 : m.fBase.getD i 0 = s.fVersion
   ·rw [beq_iff_eq.2 c2, A6, if_pos (.inr c2)]
    exact ⟨_, rfl, fun x hx => by cases hx⟩
   ·rw [beq_eq_false_iff_ne.2 c2, AE, (NZ (R := Unit) N p s m.fHeld v0 hh (by omega) hN _).1, if_neg (by rintro (h | h); exact c1 h; exact c2 h)]
    exact ⟨_, rfl, fun x hx => by cases hx; rfl⟩
 ·rw [beq_eq_false_iff_ne.2 hk1, AE, if_neg hk1]
  by_cases hk3 : s.fKind = 3
  ·have hi3 : i < p.fTables.length := by have := x3 hk3; omega
   have ht : p.fTables[i]? = some p.fTables[i] := by simp [hi3]
   rw [beq_iff_eq.2 hk3, A6, if_pos hk3, hi, Pd N hN h20 hp hm ht]
   simp only [Option.bind_some, Int.toNat_natCast, ht]
   split
   ·exact ⟨_, rfl, fun x hx => by cases hx⟩
   ·exact ⟨_, rfl, fun x hx => by cases hx; rfl⟩
  ·have hi1 : (i : Int) < p.fVersions.length := by have := xn hk3; omega
   rw [beq_eq_false_iff_ne.2 hk3, AE, if_neg hk3, hi, Em (d := 0) (show i < m.fNext.length by omega)]
   simp only [Option.bind_some, Int.toNat_natCast]
   by_cases c1 : m.fNext.getD i 0 < 0
   ·rw [A1 c1, if_pos c1]
    exact ⟨_, rfl, fun x hx => by cases hx⟩
   ·rw [AY c1, if_neg c1]
    by_cases hk2 : s.fKind = 2
    ·rw [beq_iff_eq.2 hk2, A6, Em (d := 0) (show i < m.fBase.length by omega), if_pos hk2]
     exact ⟨_, rfl, fun x hx => by cases hx; rfl⟩
    ·rw [beq_eq_false_iff_ne.2 hk2, AE, if_neg hk2]
     exact ⟨_, rfl, fun x hx => by cases hx; rfl⟩
theorem Pa (N : Nat) (hN : N ≤ 1000000) (h20 : 100 ≤ N) {p : Ak} {m : Ag} (hp : CB p) (hm : FJ p m) (s : Av) : HT N p m s = some (Fs p m s) := by
 unfold HT Fs
 rw [O7]
 simp only [Option.bind_some]
 cases hv : Ip s
 ·rw [Bool.not_false, A6, if_pos rfl]; rfl
 ·rw [Bool.not_true, AE, if_neg (by simp), OE N p s hv]
  simp only [Option.bind_some]
  cases hx : He p s
  ·rw [Bool.not_false, A6, if_pos rfl]; rfl
  ·rw [Bool.not_true, AE, if_neg (by simp)]
   obtain ⟨o, e, ho⟩ := L9 N hN h20 hp hm hv hx
   rw [e]
   simp only [Option.bind_some]
   cases ha : G8 p m s with
   | none => rfl
   | some x => rw [ho x ha]; rfl
theorem MP (N : Nat) (hN : N ≤ 1000000) (h20 : 100 ≤ N) {p : Ak} {m : Ag} (hp : CB p) (hm : FJ p m) {s : Av} (hv : Ip s = true) (hx : He p s = true) :
  DI N p m s = some (match G8 p m s with | none => (HW, false) | some x => (x, true)) := by
 obtain ⟨k1, k4, i0, v0, vk⟩ := KM hv
 obtain ⟨x3, xn, x1⟩ := LT hx
 have hnv := hp.nv
 have hnt := hp.nt
 have hb := hm.base
 have hn := hm.next
 have hh := hm.held
 obtain ⟨i, hi⟩ := Int.eq_ofNat_of_zero_le i0
 unfold DI G8
 rw [AK (by simp [E8]; omega), AK (by simp [E8]; omega), AK (by simp [E8]; omega)]
 simp only [Option.bind_some, BB, List.nil_append]
 by_cases hk1 : s.fKind = 1
 ·have hi1 : (i : Int) < p.fVersions.length := by have := xn (by omega); omega
  rw [beq_iff_eq.2 hk1, A6, if_pos hk1]
  simp only [hi, Int.toNat_natCast]
  rw [Em (d := 0) (show i < m.fNext.length by omega)]
  simp only [Option.bind_some]
  by_cases c1 : 0 ≤ m.fNext.getD i 0
  ·rw [A1 c1, A6, if_pos (.inl c1)]; rfl
  ·rw [AY c1, Em (d := 0) (show i < m.fBase.length by omega)]
   simp only [Option.bind_some]
   by_cases c2 : m.fBase.getD i 0 = s.fVersion
   ·rw [beq_iff_eq.2 c2.symm, A6, if_pos (.inr c2)]; rfl
   ·rw [beq_eq_false_iff_ne.2 (fun h => c2 h.symm), AE, ON N p s m.fHeld v0 hh (by omega) hN _, if_neg (by rintro (h | h); exact c1 h; exact c2 h)]
 ·rw [beq_eq_false_iff_ne.2 hk1, AE, if_neg hk1]
  by_cases hk3 : s.fKind = 3
  ·have hi3 : i < p.fTables.length := by have := x3 hk3; omega
   have ht : p.fTables[i]? = some p.fTables[i] := by simp [hi3]
   have hin := Kw (hp.tab _ (List.mem_of_getElem? ht))
   have eh' : Ba m.fHeld (i : Int) = some (m.fHeld.getD i 0) := Em (by omega)
   rw [beq_eq_false_iff_ne.2 (show s.fKind ≠ 2 by omega), AE, beq_iff_eq.2 hk3, A6, if_pos hk3, hi, BU, ht]
   simp only [Option.bind_some, G1, Int.toNat_natCast, ht]
   cases hs : CI p.fTables[i]
   ·rw [Bool.not_false, A6, if_pos (.inl rfl)]; rfl
   ·rw [Bool.not_true, AE, J5 N m _ hin.1 (by omega) (by omega) (hm.b0 _ (by omega)).1, eh']
    simp only [Option.bind_some]
    by_cases h1 : m.fHeld.getD i 0 = HQ m (p.fTables[i]).fFrom.toNat
    ·rw [beq_iff_eq.2 h1, A6, if_pos (.inr (.inl h1))]; rfl
    ·rw [beq_eq_false_iff_ne.2 h1, AE]
     rw [Oi N hN h20 hp hm ht hs s hi]
     cases hst : Jl p m i p.fTables[i]
     ·rw [if_neg (by simp), if_neg (by rintro (h | h | h); cases h; exact h1 h; cases h)]
     ·rw [if_pos rfl, if_pos (.inr (.inr rfl))]
  ·have hi1 : (i : Int) < p.fVersions.length := by have := xn hk3; omega
   rw [if_neg hk3, hi, Em (d := 0) (show i < m.fNext.length by omega)]
   simp only [Option.bind_some, Int.toNat_natCast]
   by_cases hk2 : s.fKind = 2
   ·rw [beq_iff_eq.2 hk2, A6, if_pos hk2]
    by_cases c1 : m.fNext.getD i 0 < 0
    ·rw [A1 c1, if_pos c1]; rfl
    ·rw [AY c1, if_neg c1, Em (d := 0) (show i < m.fBase.length by omega)]; rfl
   ·rw [beq_eq_false_iff_ne.2 hk2, AE, beq_eq_false_iff_ne.2 hk3, AE, if_neg hk2]
    by_cases c1 : m.fNext.getD i 0 < 0
    ·rw [A1 c1, if_pos c1]; rfl
    ·rw [AY c1, if_neg c1]
end Go.Lift

/- A step leads from a valid mix to a valid mix; Apply of both implementations. -/
namespace Go.Lift
open Go
theorem Rc (s : Av) : ∀ (xs : List AO) (i : Nat) (a : List Int), i + xs.length ≤ a.length → (Jt (Tu s) i xs a).length = a.length ∧ ∀ q, (Jt (Tu s) i xs a).getD q 0 = match (if i ≤ q then xs[q - i]? else none) with
  | some t => if SU s t = true then M5 .u8 (a.getD q 0) (Dy .u8 1 s.fVersion) else a.getD q 0
  | none => a.getD q 0
 | [], i, a, _ => by
  refine ⟨rfl, fun q => ?_⟩
  split
  ·rename_i h; split at h
   ·simp at h
   ·cases h
  ·rfl
 | x :: xs, i, a, hl => by
  have hl' : i + (xs.length + 1) ≤ a.length := by simpa using hl
  have ha : (Tu s i x a).length = a.length := by unfold Tu; split <;> simp
  obtain ⟨ih1, ih2⟩ := Rc s xs (i + 1) (Tu s i x a) (by omega)
  refine ⟨by rw [Jt, ih1, ha], fun q => ?_⟩
  rw [Jt, ih2 q]
  have hu : (Tu s i x a).getD q 0 = if q = i ∧ SU s x = true then M5 .u8 (a.getD q 0) (Dy .u8 1 s.fVersion) else a.getD q 0 := by
   unfold Tu
   by_cases hc : SU s x = true
   ·rw [if_pos hc, JX (by omega)]
    by_cases hq : q = i
    ·subst hq; rw [if_pos rfl, if_pos ⟨rfl, hc⟩]
    ·rw [if_neg hq, if_neg (fun h => hq h.1)]
   ·rw [if_neg hc, if_neg (fun h => hc h.2)]
  by_cases h1 : i + 1 ≤ q
  ·rw [if_pos h1, if_pos (show i ≤ q by omega), hu, if_neg (by omega)]
   rw [show (x :: xs)[q - i]? = xs[q - (i + 1)]? from by rw [show q - i = (q - (i + 1)) + 1 from by omega, List.getElem?_cons_succ]]
  ·rw [if_neg h1]
   by_cases h2 : q = i
   ·subst h2
    rw [if_pos (Nat.le_refl _), Nat.sub_self, hu]
    simp
   ·rw [if_neg (show ¬ i ≤ q by omega), hu, if_neg (by omega)]
theorem Tb {p : Ak} {s : Av} {held : List Int} (hl : held.length = p.fTables.length) : (J3 p s held).length = p.fTables.length ∧ ∀ q t, p.fTables[q]? = some t → (J3 p s held).getD q 0 = if SU s t = true then M5 .u8 (held.getD q 0) (Dy .u8 1 s.fVersion) else held.getD q 0 := by
 obtain ⟨h1, h2⟩ := Rc s p.fTables 0 held (by omega)
 refine ⟨h1.trans hl, fun q t ht => ?_⟩
 have := h2 q
 rw [if_pos (Nat.zero_le _), Nat.sub_zero, ht] at this
 exact this
theorem Oz {m : Ag} {s v : Nat} : IY m s v = true ↔ m.fBase.getD s 0 = (v : Int) ∨ m.fNext.getD s 0 = (v : Int) := by
 unfold IY; rw [Bool.or_eq_true, decide_eq_true_iff, decide_eq_true_iff]
theorem Ub {p : Ak} {m x : Ag} (hp : CB p) (hm : FJ p m) {s : Av} (hv : Ip s = true) (hx : He p s = true) (h : G8 p m s = some x) : FJ p x := by
 obtain ⟨k1, k4, i0, v0, vk⟩ := KM hv
 obtain ⟨x3, xn, x1⟩ := LT hx
 obtain ⟨i, hi⟩ := Int.eq_ofNat_of_zero_le i0
 have hb := hm.base
 have hn := hm.next
 have hh := hm.held
 unfold G8 at h
 simp only [hi, Int.toNat_natCast] at h
 rw [hi, Int.toNat_natCast] at x1
 split at h
 ·rename_i hk1
  have hi1 : i < p.fVersions.length := by have := xn (by omega); omega
  have hx1 := x1 hk1
  have hvi := J0 hp hi1
  split at h
  ·cases h
  rename_i hc
  cases h
  obtain ⟨u1, u2⟩ := Tb (s := s) hh
  obtain ⟨b, hbv⟩ := Int.eq_ofNat_of_zero_le v0
  have hob := Vz (b := b) (by omega)
  have hN : ∀ q, (m.fNext.set i s.fVersion).getD q 0 = if q = i then s.fVersion else m.fNext.getD q 0 := fun q => JX (by omega)
  refine { base := hb, next := by simpa using hn, held := u1, b0 := hm.b0, n0 := fun q hq => ?_, ne := fun q hq => ?_, range := fun q hq => ?_, low := fun q t ht hs v hr => ?_, high := fun q t ht hs v hbit => ?_, none := fun q t ht hs => ?_ }
  ·show -1 ≤ (m.fNext.set i s.fVersion).getD q 0 ∧ (m.fNext.set i s.fVersion).getD q 0 < _
   rw [hN q]
   split
   ·rename_i e; subst e; omega
   ·exact hm.n0 q hq
  ·show m.fBase.getD q 0 ≠ (m.fNext.set i s.fVersion).getD q 0
   rw [hN q]
   split
   ·rename_i e; subst e; exact fun h => hc (.inr h)
   ·exact hm.ne q hq
  ·have ht : p.fTables[q]? = some p.fTables[q] := by simp [hq]
   show 0 ≤ (J3 p s m.fHeld).getD q 0 ∧ (J3 p s m.fHeld).getD q 0 ≤ 255
   rw [u2 q _ ht, hbv]
   split
   ·exact (RZ (hm.range q hq) hob.2).2
   ·exact hm.range q hq
  ·have hq := (List.getElem?_eq_some_iff.1 ht).1
   show D1 ((J3 p s m.fHeld).getD q 0) v = true
   have hin := Kw (hp.tab t (List.mem_of_getElem? ht))
   rw [Oz] at hr
   have hr : m.fBase.getD t.fFrom.toNat 0 = (v : Int) ∨ (m.fNext.set i s.fVersion).getD t.fFrom.toNat 0 = (v : Int) := hr
   rw [hN] at hr
   rw [u2 q t ht, hbv]
   have hlow := hm.low q t ht hs v
   rw [Oz] at hlow
   by_cases hf : t.fFrom.toNat = i
   ·have hup : SU s t = true := by unfold SU; rw [hs, Bool.and_true, beq_iff_eq, hi]; omega
    rw [if_pos hup, (RZ (hm.range q hq) hob.2).1, hob.1 v, Bool.or_eq_true, decide_eq_true_iff]
    rw [if_pos hf] at hr
    rcases hr with h | h
    ·exact .inl (hlow (.inl h))
    ·right; omega
   ·rw [if_neg hf] at hr
    have hup : SU s t = false := by unfold SU; rw [hs, Bool.and_true, beq_eq_false_iff_ne, hi]; omega
    rw [hup, if_neg (by simp)]
    exact hlow hr
  ·have hq := (List.getElem?_eq_some_iff.1 ht).1
   have hbit : D1 ((J3 p s m.fHeld).getD q 0) v = true := hbit
   have hin := Kw (hp.tab t (List.mem_of_getElem? ht))
   rw [u2 q t ht, hbv] at hbit
   split at hbit
   ·rename_i hup
    rw [(RZ (hm.range q hq) hob.2).1, hob.1 v, Bool.or_eq_true, decide_eq_true_iff] at hbit
    rcases hbit with h | h
    ·exact hm.high q t ht hs v h
    ·unfold SU at hup
     rw [hs, Bool.and_true, beq_iff_eq, hi] at hup
     rw [hup, Int.toNat_natCast]; omega
   ·exact hm.high q t ht hs v hbit
  ·show (J3 p s m.fHeld).getD q 0 = 0
   have hup : SU s t = false := by unfold SU; rw [hs, Bool.and_false]
   rw [u2 q t ht, hup, if_neg (by simp)]
   exact hm.none q t ht hs
 ·rename_i hk1
  split at h
  ·rename_i hk3
   have hi3 : i < p.fTables.length := by have := x3 hk3; omega
   have ht0 : p.fTables[i]? = some p.fTables[i] := by simp [hi3]
   rw [ht0] at h
   simp only at h
   split at h
   ·cases h
   rename_i hc
   cases h
   have hin0 := Kw (hp.tab _ (List.mem_of_getElem? ht0))
   have hr0 := Jb hp hm.toMixServ (s := (p.fTables[i]).fFrom.toNat) (by omega)
   have hs0 : CI p.fTables[i] = true := by
    cases hs : CI p.fTables[i]
    ·exact (hc (.inl hs)).elim
    ·rfl
   have hH : ∀ q, (m.fHeld.set i (HQ m (p.fTables[i]).fFrom.toNat)).getD q 0 = if q = i then HQ m (p.fTables[i]).fFrom.toNat else m.fHeld.getD q 0 := fun q => JX (by omega)
   refine { base := hb, next := hn, held := by simpa using hh, b0 := hm.b0, n0 := hm.n0, ne := hm.ne, range := fun q hq => ?_, low := fun q t ht hs v hr => ?_, high := fun q t ht hs v hbit => ?_, none := fun q t ht hs => ?_ }
   ·show 0 ≤ (m.fHeld.set i (HQ m (p.fTables[i]).fFrom.toNat)).getD q 0 ∧ (m.fHeld.set i (HQ m (p.fTables[i]).fFrom.toNat)).getD q 0 ≤ 255
    rw [hH q]
    split
    ·exact hr0.2
    ·exact hm.range q hq
   ·show D1 ((m.fHeld.set i (HQ m (p.fTables[i]).fFrom.toNat)).getD q 0) v = true
    have hr : IY m t.fFrom.toNat v = true := hr
    rw [hH q]
    split
    ·rename_i e; subst e
     rw [ht0] at ht; cases ht
     rw [hr0.1]; exact hr
    ·exact hm.low q t ht hs v hr
   ·have hbit : D1 ((m.fHeld.set i (HQ m (p.fTables[i]).fFrom.toNat)).getD q 0) v = true := hbit
    rw [hH q] at hbit
    split at hbit
    ·rename_i e; subst e
     rw [ht0] at ht; cases ht
     rw [hr0.1] at hbit
     exact hm.high q _ ht0 hs0 v (hm.low q _ ht0 hs0 v hbit)
    ·exact hm.high q t ht hs v hbit
   ·show (m.fHeld.set i (HQ m (p.fTables[i]).fFrom.toNat)).getD q 0 = 0
    rw [hH q, if_neg (fun e => by subst e; rw [ht0] at ht; cases ht; rw [hs0] at hs; cases hs)]
    exact hm.none q t ht hs
  ·rename_i hk3
   have hi1 : i < p.fVersions.length := by have := xn hk3; omega
   have hvi := J0 hp hi1
   split at h
   ·cases h
   rename_i hc
   cases h
   have hN : ∀ q, (m.fNext.set i (-1)).getD q 0 = if q = i then -1 else m.fNext.getD q 0 := fun q => JX (by omega)
   have hB : ∀ q, (if s.fKind = 2 then m.fBase.set i (m.fNext.getD i 0) else m.fBase).getD q 0 = if s.fKind = 2 ∧ q = i then m.fNext.getD i 0 else m.fBase.getD q 0 := fun q => by
    by_cases hk2 : s.fKind = 2
    ·rw [if_pos hk2, JX (by omega)]
     by_cases e : q = i
     ·rw [if_pos e, if_pos ⟨hk2, e⟩]
     ·rw [if_neg e, if_neg (fun h => e h.2)]
    ·rw [if_neg hk2, if_neg (fun h => hk2 h.1)]
   have hrun : ∀ q v, IY ⟨if s.fKind = 2 then m.fBase.set i (m.fNext.getD i 0) else m.fBase, m.fNext.set i (-1), m.fHeld⟩ q v = true → IY m q v = true := fun q v hr => by
    rw [Oz] at hr ⊢
    simp only [hN q, hB q] at hr
    by_cases e : q = i
    ·subst e
     rw [if_pos rfl] at hr
     by_cases hk2 : s.fKind = 2
     ·rw [if_pos ⟨hk2, rfl⟩] at hr; omega
     ·rw [if_neg (fun h => hk2 h.1)] at hr; omega
    ·rw [if_neg e, if_neg (fun h => e h.2)] at hr; exact hr
   refine { base := by simp only; split <;> simp [hb], next := by simpa using hn, held := hh, b0 := fun q hq => ?_, n0 := fun q hq => ?_, ne := fun q hq => ?_, range := hm.range, low := fun q t ht hs v hr => hm.low q t ht hs v (hrun _ _ hr), high := hm.high, none := hm.none }
   ·simp only [hB q]
    split
    ·rename_i e; obtain ⟨_, e⟩ := e; subst e
     have := hm.n0 q hq
     omega
    ·exact hm.b0 q hq
   ·simp only [hN q]
    split
    ·rename_i e; subst e; omega
    ·exact hm.n0 q hq
   ·simp only [hB q, hN q]
    have h1 := hm.b0 q hq
    by_cases e : q = i
    ·rw [if_pos e]
     split
     ·rename_i e2; obtain ⟨_, e2⟩ := e2; subst e2; omega
     ·omega
    ·rw [if_neg e, if_neg (fun h => e h.2)]; exact hm.ne q hq
theorem QG (N : Nat) (hN : N ≤ 1000000) (h20 : 100 ≤ N) {p : Ak} {m : Ag} (hw : Ml KO m.fHeld) (s : Av) : Fm N p m s = some (if EA p m = 0 then Fs p m s else (HW, EA p m)) := by
 unfold Fm Fs
 rw [KP N p m hN (by omega)]
 simp only [Option.bind_some, BB]
 by_cases hval : EA p m = 0
 ·obtain ⟨hp, hm⟩ := Je hw hval
  rw [if_pos hval, hval, bne_self_eq_false, AE, Qt]
  simp only [Option.bind_some]
  cases hv : Ip s
  ·rw [Bool.not_false, A6, if_pos rfl]; rfl
  ·rw [Bool.not_true, AE, if_neg (by simp)]
   obtain ⟨k1, k4, i0, v0, vk⟩ := KM hv
   have key : ∀ b : Bool, He p s = b → (if b = false then (HW, (4 : Int)) else match G8 p m s with | none => (HW, 11) | some x => (x, 0)) = (if b = false then (HW, (4 : Int)) else match G8 p m s with | none => (HW, 11) | some x => (x, 0)) := fun _ _ => rfl
   have tail : He p s = true → ((DI N p m s).bind fun v15 => AR (!v15.2) (some (Ag.mk [] [] [], (11 : Int))) (some (v15.1, 0))) = some (match G8 p m s with | none => (HW, 11) | some x => (x, 0)) := fun hx => by
    rw [MP N hN h20 hp hm hv hx]
    cases G8 p m s <;> rfl
   have zz : (Ag.mk [] [] [], (4 : Int)) = (HW, 4) := rfl
   by_cases hk3 : s.fKind = 3
   ·rw [beq_iff_eq.2 hk3, A6, show (s.fKind != 3) = false from by rw [hk3]; rfl]
    have hX : He p s = decide (s.fIndex < (p.fTables.length : Int)) := by unfold He; rw [if_pos hk3]
    by_cases c : (p.fTables.length : Int) ≤ s.fIndex
    ·rw [A1 c, A6, hX, decide_eq_false (by omega), if_pos rfl]; rfl
    ·have hx : He p s = true := by rw [hX, decide_eq_true (by omega)]
     rw [AY c, AE, AE, beq_eq_false_iff_ne.2 (show s.fKind ≠ 1 by omega), AE, AE, hx, if_neg (by simp)]
     exact tail hx
   ·rw [beq_eq_false_iff_ne.2 hk3, AE, bne_iff_ne.2 hk3, A6]
    have hX : He p s = (decide (s.fIndex < (p.fVersions.length : Int)) && (s.fKind != 1 || decide (s.fVersion < p.fVersions.getD s.fIndex.toNat 0))) := by unfold He; rw [if_neg hk3]
    by_cases c : (p.fVersions.length : Int) ≤ s.fIndex
    ·rw [decide_eq_true c, A6, hX, decide_eq_false (show ¬ s.fIndex < (p.fVersions.length : Int) by omega), Bool.false_and, if_pos rfl]; rfl
    ·rw [decide_eq_false c, AE]
     by_cases hk1 : s.fKind = 1
     ·rw [beq_iff_eq.2 hk1, A6, FG (d := 0) i0 (by omega)]
      simp only [Option.bind_some]
      by_cases c2 : p.fVersions.getD s.fIndex.toNat 0 ≤ s.fVersion
      ·rw [decide_eq_true c2, A6, hX, decide_eq_false (show ¬ s.fVersion < p.fVersions.getD s.fIndex.toNat 0 by omega), show (s.fKind != 1) = false from by rw [hk1]; rfl, Bool.false_or, Bool.and_false, if_pos rfl]; rfl
      ·have hx : He p s = true := by rw [hX, decide_eq_true (by omega), decide_eq_true (by omega), Bool.or_true]; rfl
       rw [decide_eq_false c2, AE, hx, if_neg (by simp)]
       exact tail hx
     ·have hx : He p s = true := by rw [hX, decide_eq_true (by omega), bne_iff_ne.2 hk1]; rfl
      rw [beq_eq_false_iff_ne.2 hk1, AE, AE, hx, if_neg (by simp)]
      exact tail hx
 ·rw [if_neg hval, bne_iff_ne.2 hval, A6]; rfl
theorem Pj (N : Nat) (hN : N ≤ 1000000) (h20 : 100 ≤ N) {p : Ak} {m : Ag} (hw : Ml KO m.fHeld) (s : Av) : Gt N p m s = some (if EA p m = 0 then Fs p m s else (HW, EA p m)) := by
 unfold Gt
 rw [JB N p m hN (by omega) hw]
 simp only [Option.bind_some]
 by_cases hval : EA p m = 0
 ·obtain ⟨hp, hm⟩ := Je hw hval
  rw [if_pos hval, hval, bne_self_eq_false, AE, Pa N hN h20 hp hm s]; rfl
 ·rw [if_neg hval, bne_iff_ne.2 hval, A6]; rfl
theorem Nl {p : Ak} {m : Ag} (hp : CB p) (hm : FJ p m) {s : Av} (h : (Fs p m s).2 = 0) : FJ p (Fs p m s).1 := by
 unfold Fs at h ⊢
 split at h
 ·cases h
 rename_i h1
 rw [if_neg h1]
 split at h
 ·cases h
 rename_i h2
 rw [if_neg h2]
 cases ha : G8 p m s with
 | none => rw [ha] at h; cases h
 | some x => exact Ub hp hm (by simpa using h1) (by simpa using h2) ha
end Go.Lift

/- Failure and Check: both implementations give one answer; the laws PlanCheck and PlanFailure. -/
namespace Go.Lift
open Go
section
variable {N : Nat} {p : Ak} {l : List Av}
end
end Go.Lift

/- The law PlanErrors in plain words. -/
namespace Go.Lift
open Go
end Go.Lift

/- Trim: both implementations give one list. -/
namespace Go.Lift
open Go
end Go.Lift

/- A plan without a step: what can be left out. -/
namespace Go.Lift
open Go
structure Xe (p : Ak) (m x : Ag) : Prop where
 base : m.fBase = x.fBase
 next : m.fNext = x.fNext
 held : ∀ i, i < p.fTables.length → ∀ v, D1 (m.fHeld.getD i 0) v = true → D1 (x.fHeld.getD i 0) v = true
theorem Xe.refl (p : Ak) (m : Ag) : Xe p m m := ⟨rfl, rfl, fun _ _ _ h => h⟩
theorem Xe.trans {p : Ak} {a b c : Ag} (h : Xe p a b) (g : Xe p b c) : Xe p a c := ⟨h.base.trans g.base, h.next.trans g.next, fun i hi v hv => g.held i hi v (h.held i hi v hv)⟩
end Go.Lift

/- A step between two mixes; openings and closings; the law PlanTrim. -/
namespace Go.Lift
open Go
end Go.Lift

/- The law PlanTrim in plain words. -/
namespace Go.Lift
open Go
end Go.Lift

/- The keys of mixes. -/
namespace Go.Lift
open Go
end Go.Lift

/- Keys tell mixes. -/
namespace Go.Lift
open Go
end Go.Lift

/- The possible steps of a mix, in order: both implementations. -/
namespace Go.Lift
open Go
def NA (i : Nat) (n : Int) : List Av := (List.range n.toNat).map fun v => ⟨1, (i : Int), ((v : Nat) : Int), ⟩
def HU (p : Ak) : List Av := EX NA 0 p.fVersions ++ ((List.range p.fVersions.length).map fun i => (⟨2, ((i : Nat) : Int), 0⟩ : Av)) ++ ((List.range p.fTables.length).map fun i => (⟨3, ((i : Nat) : Int), 0⟩ : Av))
def G9 (p : Ak) (m : Ag) : List Av := (HU p).filter fun s => (Fs p m s).2 == 0
theorem SB {p : Ak} (hp : CB p) : (HU p).length ≤ 54 := by
 have h1 : (EX NA 0 p.fVersions).length ≤ 6 * p.fVersions.length := G4 fun j x hx => by
  have := hp.ver x (List.mem_of_getElem? hx)
  simp [NA]; omega
 have := hp.nv
 have := hp.nt
 unfold HU
 simp only [List.length_append, List.length_map, List.length_range]
 omega
theorem QN (N : Nat) (hN : N ≤ 1000000) (h20 : 100 ≤ N) {p : Ak} (hp : CB p) : Jc N p = some (HU p) := by
 have hnv := hp.nv
 have hnt := hp.nt
 unfold Jc
 have l1 := G5 (D8 N p fun v2 => C3 N p (fun v10 => BN N p (fun v14 => some v14) N (v10, 0)) N (v2, 0)) (fun a i => (a, i)) p.fVersions (fun v2 => C3 N p (fun v10 => BN N p (fun v14 => some v14) N (v10, 0)) N (v2, 0)) NA 6 100
  (fun i x hx => by have := hp.ver x (List.mem_of_getElem? hx); simp [NA]; omega)
  (fun n i x a hx hl => by
   have hi := (List.getElem?_eq_some_iff.1 hx).1
   have hx6 := hp.ver x (List.mem_of_getElem? hx)
   obtain ⟨k, hk⟩ := Int.eq_ofNat_of_zero_le (show 0 ≤ x by omega)
   rw [D8, A1 (by simp only; omega)]
   simp only [BU, hx, Option.bind_some, A8 (show i < 1000000 by omega)]
   subst hk
   obtain ⟨a', e, ha⟩ := Gl (Fq N (a, (i : Int)) (k : Int) fun v6 => D8 N p (fun v2 => C3 N p (fun v10 => BN N p (fun v14 => some v14) N (v10, 0)) N (v2, 0)) n (v6, ((i + 1 : Nat) : Int))) (fun b v => (b, v)) k (fun v6 => D8 N p (fun v2 => C3 N p (fun v10 => BN N p (fun v14 => some v14) N (v10, 0)) N (v2, 0)) n (v6, ((i + 1 : Nat) : Int)))
    (fun v b => b = a ++ (List.range v).map fun v => (⟨1, (i : Int), ((v : Nat) : Int)⟩ : Av))
    (fun n v b hv hb => by
     subst hb
     rw [Fq, A1 (by simp only; omega), AK (by simp [E8]; simp [NA] at hl; omega), A8 (by omega)]
     exact ⟨_, rfl, by rw [List.range_succ, List.map_append, List.append_assoc]; rfl⟩)
    (fun n b hb => by rw [Fq, AY (by simp)]) N 0 a (Nat.zero_le _) (by omega) (by simp)
   have e' : Fq N (a, (i : Int)) (k : Int) (fun v6 => D8 N p (fun v2 => C3 N p (fun v10 => BN N p (fun v14 => some v14) N (v10, 0)) N (v2, 0)) n (v6, ((i + 1 : Nat) : Int))) N (a, 0) = _ := e
   rw [e', ha]; rfl)
  (fun n a => by rw [D8, AY (by simp)]) N [] (by omega) (by simp; omega)
 have l1' : D8 N p (fun v2 => C3 N p (fun v10 => BN N p (fun v14 => some v14) N (v10, 0)) N (v2, 0)) N (([] : List Av), 0) = _ := l1
 rw [l1', List.nil_append]
 have hA : (EX NA 0 p.fVersions).length ≤ 6 * p.fVersions.length := G4 fun j x hx => by
  have := hp.ver x (List.mem_of_getElem? hx)
  simp [NA]; omega
 generalize hAe : EX NA 0 p.fVersions = A at hA
 obtain ⟨b', e2, hb⟩ := Gl (C3 N p fun v10 => BN N p (fun v14 => some v14) N (v10, 0)) (fun b v => (b, v)) p.fVersions.length (fun v10 => BN N p (fun v14 => some v14) N (v10, 0))
  (fun v b => b = A ++ (List.range v).map fun i => (⟨2, ((i : Nat) : Int), 0⟩ : Av))
  (fun n v b hv hb => by
   subst hb
   rw [C3, A1 (by simp only; omega), AK (by simp [E8]; omega), A8 (by omega)]
   exact ⟨_, rfl, by rw [List.range_succ, List.map_append, List.append_assoc]; rfl⟩)
  (fun n b hb => by rw [C3, AY (by simp)]) N 0 A (Nat.zero_le _) (by omega) (by simp)
 have e2' : C3 N p (fun v10 => BN N p (fun v14 => some v14) N (v10, 0)) N (A, 0) = _ := e2
 rw [e2', hb]
 generalize hBe : A ++ (List.range p.fVersions.length).map (fun i => (⟨2, ((i : Nat) : Int), 0⟩ : Av)) = B
 have hB : B.length ≤ 50 := by rw [← hBe]; simp; omega
 obtain ⟨c', e3, hc⟩ := Gl (BN N p fun v14 => some v14) (fun b v => (b, v)) p.fTables.length (fun v14 => some v14)
  (fun v b => b = B ++ (List.range v).map fun i => (⟨3, ((i : Nat) : Int), 0⟩ : Av))
  (fun n v b hv hb => by
   subst hb
   rw [BN, A1 (by simp only; omega), AK (by simp [E8]; omega), A8 (by omega)]
   exact ⟨_, rfl, by rw [List.range_succ, List.map_append, List.append_assoc]; rfl⟩)
  (fun n b hb => by rw [BN, AY (by simp)]) N 0 B (Nat.zero_le _) (by omega) (by simp)
 have e3' : BN N p (fun v14 => some v14) N (B, 0) = _ := e3
 rw [e3', hc, ← hBe, ← hAe]; rfl
end Go.Lift

/- Enabled: the possible steps. -/
namespace Go.Lift
open Go
theorem Pr {p : Ak} (hp : CB p) {s : Av} (h : s ∈ HU p) : Ip s = true ∧ He p s = true := by
 have hnv := hp.nv
 unfold HU at h
 rcases List.mem_append.1 h with h | h
 ·rcases List.mem_append.1 h with h | h
  ·obtain ⟨j, x, hx, hk⟩ := Nt.1 h
   rw [Nat.zero_add] at hk
   unfold NA at hk
   obtain ⟨v, hv, rfl⟩ := List.mem_map.1 hk
   have hx6 := hp.ver x (List.mem_of_getElem? hx)
   have hv := List.mem_range.1 hv
   have hj := (List.getElem?_eq_some_iff.1 hx).1
   refine ⟨by unfold Ip; simp, ?_⟩
   unfold He
   have e : p.fVersions.getD j 0 = x := by rw [List.getD_eq_getElem?_getD, hx]; rfl
   simp only
   rw [if_neg (by omega), decide_eq_true (by omega), Int.toNat_natCast, e, decide_eq_true (by omega), Bool.or_true]; rfl
  ·obtain ⟨v, hv, rfl⟩ := List.mem_map.1 h
   have hv := List.mem_range.1 hv
   refine ⟨by unfold Ip; simp, ?_⟩
   unfold He
   simp only
   rw [if_neg (by omega), decide_eq_true (by omega)]; rfl
 ·obtain ⟨v, hv, rfl⟩ := List.mem_map.1 h
  have hv := List.mem_range.1 hv
  refine ⟨by unfold Ip; simp, ?_⟩
  unfold He
  simp only
  rw [if_pos trivial, decide_eq_true (by omega)]
theorem UC {p : Ak} {m : Ag} {s : Av} (hv : Ip s = true) (hx : He p s = true) : ((Fs p m s).2 == 0) = (G8 p m s).isSome := by
 unfold Fs
 rw [hv, hx, if_neg (by simp), if_neg (by simp)]
 cases G8 p m s <;> rfl
theorem Q5 (N : Nat) (hN : N ≤ 1000000) (h20 : 100 ≤ N) {p : Ak} {m : Ag} (hp : CB p) (hm : FJ p m) {s : Av} (h : s ∈ HU p) :
  Eu N s p.fVersions p.fNow p.fTarget p.fTables m.fBase m.fNext m.fHeld = some (!((Fs p m s).2 == 0)) := by
 obtain ⟨hv, hx⟩ := Pr hp h
 unfold Eu
 obtain ⟨o, e, _⟩ := L9 N hN h20 hp hm hv hx
 have e' : Gv N ⟨p.fVersions, p.fNow, p.fTarget, p.fTables⟩ ⟨m.fBase, m.fNext, m.fHeld⟩ s = some (o, (G8 p m s).isSome) := e
 rw [e', UC hv hx]; rfl
theorem Sf (N : Nat) (hN : N ≤ 1000000) (a : List Av) (f : Av → Option Bool) (g : Av → Bool) (h : a.length < N) (hf : ∀ x, x ∈ a → f x = some (g x)) :
  Cc N a f = some ((ES (fun i x => if g x = true then some (i : Int) else none) 0 a).getD (-1)) := by
 unfold Cc
 have := Ee (Bl N a f fun _ => some (-1)) a (some (-1)) (fun i x => if g x = true then some (i : Int) else none)
  (fun n i x hx => by
   have hi := (List.getElem?_eq_some_iff.1 hx).1
   rw [Bl, A1 (by omega), BU, hx]
   simp only [Option.bind_some]
   rw [hf x (List.mem_of_getElem? hx), A8 (by omega)]
   simp only [Option.bind_some]
   cases g x <;> rfl)
  (fun n => by rw [Bl, AY (by simp)]) N 0 (Nat.zero_le _) (by omega)
 refine this.trans ?_
 rw [List.drop_zero]
 cases ES (fun i x => if g x = true then some (i : Int) else none) 0 a <;> rfl
end Go.Lift

/- Enabled gives the possible steps. -/
namespace Go.Lift
open Go
theorem Pp {α : Type} {l : List α} {i : Nat} {v : α} (h : i < l.length) : (l.set i v).take (i + 1) = l.take i ++ [v] := by
 rw [List.take_add_one, List.take_set_of_le (Nat.le_refl i)]
 congr 1
 simp [h]
theorem RK (N : Nat) (hN : N ≤ 1000000) (a : List Av) (f : Av → Option Bool) (g : Av → Bool) (h : a.length < N) (h9 : a.length ≤ 1000) (hf : ∀ x, x ∈ a → f x = some (g x)) :
  ∃ X n, B9 N a f = some (n, X) ∧ n ≤ X.length ∧ X.take n = a.filter fun x => !g x := by
 unfold B9
 rw [Sf N hN a f g h hf]
 simp only [Option.bind_some]
 cases hs : ES (fun i x => if g x = true then some (i : Int) else none) 0 a with
 | none =>
  refine ⟨a, a.length, rfl, Nat.le_refl _, ?_⟩
  rw [List.take_length]
  symm
  rw [List.filter_eq_self]
  intro x hx
  obtain ⟨j, hj⟩ := List.mem_iff_getElem?.1 hx
  have := HF hs j x hj
  cases hg : g x
  ·rfl
  ·rw [hg] at this; cases this
 | some r =>
  obtain ⟨j, x, hx, hr⟩ := Gb hs
  rw [Nat.zero_add] at hr
  split at hr
  ·rename_i hg
   cases hr
   have hj := (List.getElem?_eq_some_iff.1 hx).1
   have e0 : ((some (j : Int)).getD (-1) == (-1 : Int)) = false := beq_eq_false_iff_ne.2 (by simp only [Option.getD_some]; omega)
   rw [e0, AE]
   simp only [Option.getD_some]
   rw [A8 (by omega)]
   -- what lies before the first that goes is kept
   have hpre : (a.take (j + 1)).filter (fun x => !g x) = a.take j := by
    rw [List.take_add_one, hx, List.filter_append]
    have h1 : (a.take j).filter (fun x => !g x) = a.take j := by
     rw [List.filter_eq_self]
     intro y hy
     obtain ⟨q, hq⟩ := List.mem_iff_getElem?.1 hy
     have hql := (List.getElem?_eq_some_iff.1 hq).1
     simp at hql
     rw [List.getElem?_take_of_lt (by omega)] at hq
     cases hgy : g y
     ·rfl
     ·exfalso
      have : ∀ (xs : List Av) (i j q : Nat) (y : Av), ES (fun i x => if g x = true then some (i : Int) else none) i xs = some ((i + j : Nat) : Int) → q < j → xs[q]? = some y → g y = true → False := by
       intro xs
       induction xs with
       | nil => intro i j q y _ _ hq; simp at hq
       | cons z zs ih =>
        intro i j q y hs hqj hq hgy
        rw [Im] at hs
        cases hz : g z
        ·rw [hz] at hs
         cases q with
         | zero => simp at hq; subst hq; rw [hz] at hgy; cases hgy
         | succ q =>
          cases j with
          | zero => omega
          | succ j => exact ih (i + 1) j q y (by rw [show i + 1 + j = i + (j + 1) from by omega]; exact hs) (by omega) (by simpa using hq) hgy
        ·rw [hz] at hs
         have hs : (some (i : Int)) = some ((i + j : Nat) : Int) := hs
         have := Option.some.inj hs
         omega
      exact this a 0 j q y (by rw [Nat.zero_add]; exact hs) (by omega) hq hgy
    rw [h1]
    simp [hg]
   obtain ⟨b, e, hb⟩ := Gl (Bd N f fun v4 => (E7 ((0 : Int) ≤ v4.2 ∧ (v4.2).toNat ≤ v4.1.length ∧ v4.1.length ≤ v4.1.length)).bind fun _ =>
     (E7 ((0 : Int) ≤ v4.2 ∧ 0 ≤ (v4.2).toNat ∧ (v4.2).toNat ≤ (JA v4.1 ((v4.2).toNat) (List.replicate ((v4.1.length - (v4.2).toNat)) ((Av.mk 0 0 0)))).length)).bind fun _ =>
     some ((v4.2).toNat, JA v4.1 ((v4.2).toNat) (List.replicate ((v4.1.length - (v4.2).toNat)) ((Av.mk 0 0 0)))))
    (fun (b : List Av × Nat) i => (b.1, ((b.2 : Nat) : Int), i)) a.length (fun b => (E7 ((0 : Int) ≤ ((b.2 : Nat) : Int) ∧ (((b.2 : Nat) : Int)).toNat ≤ b.1.length ∧ b.1.length ≤ b.1.length)).bind fun _ =>
     (E7 ((0 : Int) ≤ ((b.2 : Nat) : Int) ∧ 0 ≤ (((b.2 : Nat) : Int)).toNat ∧ (((b.2 : Nat) : Int)).toNat ≤ (JA b.1 ((((b.2 : Nat) : Int)).toNat) (List.replicate ((b.1.length - (((b.2 : Nat) : Int)).toNat)) ((Av.mk 0 0 0)))).length)).bind fun _ =>
     some ((((b.2 : Nat) : Int)).toNat, JA b.1 ((((b.2 : Nat) : Int)).toNat) (List.replicate ((b.1.length - (((b.2 : Nat) : Int)).toNat)) ((Av.mk 0 0 0)))))
    (fun i b => b.1.length = a.length ∧ b.2 ≤ i ∧ b.1.drop i = a.drop i ∧ b.1.take b.2 = (a.take i).filter fun x => !g x)
    (fun n i b hi hb => by
     obtain ⟨b1, b2, b3, b4⟩ := hb
     rw [Bd, A1 (by simp only; omega)]
     have hai : a[i]? = some a[i] := by simp [hi]
     have hbi : b.1[i]? = some a[i] := by
      have := congrArg (fun l => l[0]?) b3
      simp only [List.getElem?_drop, Nat.add_zero] at this
      rw [this, hai]
     simp only [BB, BU, hbi, Option.bind_some]
     rw [hf a[i] (List.getElem_mem hi), A8 (i := i) (by omega)]
     simp only [Option.bind_some]
     have hnext : b.1.drop (i + 1) = a.drop (i + 1) := by
      have := congrArg (List.drop 1) b3
      rwa [List.drop_drop, List.drop_drop] at this
     cases hgi : g a[i]
     ·rw [Bool.not_false, A6]
      have hbj : b.1[b.2]? = some b.1[b.2] := by simp [show b.2 < b.1.length from by omega]
      rw [hbj, A8 (i := b.2) (by omega)]
      refine ⟨(b.1.set b.2 a[i], b.2 + 1), rfl, by simpa using b1, by simp only; omega, ?_, ?_⟩
      ·simp only
       rw [List.drop_set_of_lt (by omega), hnext]
      ·simp only
       rw [Pp (by omega), b4, List.take_add_one, hai, List.filter_append]
       simp [hgi]
     ·rw [Bool.not_true, AE]
      refine ⟨b, rfl, b1, by omega, hnext, ?_⟩
      rw [b4, List.take_add_one, hai, List.filter_append]
      simp [hgi])
    (fun n b hb => by rw [Bd, AY (by simp [hb.1])]) N (j + 1) (a, j) (by omega) (by omega) ⟨rfl, by simp only; omega, rfl, hpre.symm⟩
   obtain ⟨b1, b2, b3, b4⟩ := hb
   have e' : Bd N f (fun v4 => (E7 ((0 : Int) ≤ v4.2 ∧ (v4.2).toNat ≤ v4.1.length ∧ v4.1.length ≤ v4.1.length)).bind fun _ =>
     (E7 ((0 : Int) ≤ v4.2 ∧ 0 ≤ (v4.2).toNat ∧ (v4.2).toNat ≤ (JA v4.1 ((v4.2).toNat) (List.replicate ((v4.1.length - (v4.2).toNat)) ((Av.mk 0 0 0)))).length)).bind fun _ =>
     some ((v4.2).toNat, JA v4.1 ((v4.2).toNat) (List.replicate ((v4.1.length - (v4.2).toNat)) ((Av.mk 0 0 0))))) N (a, (j : Int), ((j + 1 : Nat) : Int)) = _ := e
   rw [e']
   have hsl : (JA b.1 b.2 (List.replicate (b.1.length - b.2) (Av.mk 0 0 0))).length = b.1.length := JM (by rw [List.length_replicate]; omega)
   simp only [Int.toNat_natCast]
   rw [AK ⟨by omega, by omega, Nat.le_refl _⟩, AK ⟨by omega, by omega, by rw [hsl]; omega⟩]
   refine ⟨_, _, rfl, by rw [hsl]; omega, ?_⟩
   unfold JA
   rw [List.append_assoc, List.take_append_of_le_length (by simp; omega), List.take_take, Nat.min_self, b4, List.take_length]
  ·cases hr
theorem Se (N : Nat) (hN : N ≤ 1000000) (h20 : 100 ≤ N) {p : Ak} {m : Ag} (hv : Ez p = 0) (hm : FJ p m) : ED N p m = some (G9 p m, 0) := by
 obtain ⟨hp, _⟩ := I1 hv
 unfold ED
 rw [JB N p m hN (by omega) (PO hm), LI hv hm]
 simp only [Option.bind_some, bne_self_eq_false, AE]
 rw [QN N hN h20 hp]
 simp only [Option.bind_some]
 have hl := SB hp
 obtain ⟨X, n, e, h1, h2⟩ := RK N hN (HU p) (fun x => Eu N x p.fVersions p.fNow p.fTarget p.fTables m.fBase m.fNext m.fHeld) (fun s => !((Fs p m s).2 == 0)) (by omega) (by omega) (fun x hx => Q5 N hN h20 hp hm hx)
 rw [e]
 simp only [Option.bind_some]
 rw [AK h1, h2]
 unfold G9
 simp
end Go.Lift

/- The reference's list of possible steps is the same. -/
namespace Go.Lift
open Go
theorem Ji {β : Type} (g : Nat → List β) : ∀ n : Nat, EX (fun i (_ : Nat) => g i) 0 (List.range n) = (List.range n).flatMap g
 | 0 => rfl
 | n + 1 => by rw [List.range_succ, MY, Ji g n, List.flatMap_append]; simp [EX]
def U5 (p : Ak) (m : Ag) (s : Av) : Bool := (Fs p m s).2 == 0
def gS (p : Ak) (m : Ag) (k : Int) (i v : Nat) : List Av := if U5 p m ⟨k, (i : Int), (v : Int)⟩ = true then [⟨k, (i : Int), (v : Int)⟩] else []
def bS (p : Ak) (m : Ag) (k : Int) (i : Nat) : List Av := (List.range 6).flatMap (gS p m k i)
def Sl (p : Ak) : Nat := max p.fVersions.length p.fTables.length
def kS (p : Ak) (m : Ag) (k : Int) : List Av := (List.range (Sl p)).flatMap (bS p m k)
theorem Li {β : Type} (f : Nat → β) (q : β → Bool) : ∀ n : Nat, ((List.range n).flatMap fun v => if q (f v) = true then [f v] else []) = ((List.range n).map f).filter q
 | 0 => rfl
 | n + 1 => by
  rw [List.range_succ, List.flatMap_append, Li f q n, List.map_append, List.filter_append]
  cases h : q (f n) <;> simp [h]
theorem Lf {β : Type} (g : Nat → List β) (a : Nat) (h : ∀ v, a ≤ v → g v = []) : ∀ n, a ≤ n → (List.range n).flatMap g = (List.range a).flatMap g
 | 0, hn => by rw [Nat.le_zero.1 hn]
 | n + 1, hn => by
  by_cases h1 : a = n + 1
  ·rw [h1]
  ·rw [List.range_succ, List.flatMap_append, Lf g a h n (by omega)]
   simp [h n (by omega)]
theorem UO (p : Ak) (m : Ag) (k : Int) (i v : Nat) : (gS p m k i v).length ≤ 1 := by unfold gS; split <;> simp
theorem Uv (p : Ak) (m : Ag) (k : Int) (i : Nat) : (bS p m k i).length ≤ 6 := by
 unfold bS
 rw [← Ji]
 have := G4 (g := fun i' (_ : Nat) => gS p m k i i') (c := 1) (i := 0) (xs := List.range 6) fun j x _ => UO p m k i _
 simpa using this
theorem Wy {p : Ak} (hp : CB p) (m : Ag) (k : Int) : (kS p m k).length ≤ 72 := by
 have h1 := hp.nv
 have h2 := hp.nt
 unfold kS
 rw [← Ji]
 have := G4 (g := fun i' (_ : Nat) => bS p m k i') (c := 6) (i := 0) (xs := List.range (Sl p)) fun j x _ => Uv p m k _
 simp only [List.length_range] at this
 have h3 : Sl p ≤ 12 := by unfold Sl; omega
 omega
theorem WJ {p : Ak} {m : Ag} {s : Av} (h : U5 p m s = true) : Ip s = true ∧ He p s = true := by
 unfold U5 Fs at h
 split at h
 ·cases h
 ·rename_i h1
  split at h
  ·cases h
  ·rename_i h2
   exact ⟨by simpa using h1, by simpa using h2⟩
theorem MF {p : Ak} {m : Ag} {k : Int} {i v : Nat} (h : U5 p m ⟨k, (i : Int), (v : Int)⟩ = true) : (k = 3 → i < p.fTables.length) ∧ (k ≠ 3 → i < p.fVersions.length) ∧ (k = 1 → (v : Int) < p.fVersions.getD i 0) ∧ (k ≠ 1 → v = 0) := by
 obtain ⟨h1, h2⟩ := WJ h
 obtain ⟨a1, a2, a3, a4, a5⟩ := KM h1
 obtain ⟨b1, b2, b3⟩ := LT h2
 simp only [Int.toNat_natCast] at *
 exact ⟨fun e => by have := b1 e; omega, fun e => by have := b2 e; omega, b3, fun e => by have := a5 e; omega⟩
theorem TK {p : Ak} (hp : CB p) (m : Ag) : kS p m 1 ++ kS p m 2 ++ kS p m 3 = G9 p m := by
 have hnv := hp.nv
 have hnt := hp.nt
 unfold G9 HU
 rw [List.filter_append, List.filter_append]
 have e1 : kS p m 1 = (EX NA 0 p.fVersions).filter fun s => (Fs p m s).2 == 0 := by
  unfold kS
  rw [Lf (bS p m 1) p.fVersions.length (fun i hi => by
   unfold bS
   rw [List.flatMap_eq_nil_iff]
   intro v _
   unfold gS
   rw [if_neg]
   intro h
   have := (MF h).2.1 (by decide)
   omega) (Sl p) (by unfold Sl; omega)]
  have e : ∀ (xs : List Int) (i : Nat), (∀ j x, xs[j]? = some x → 1 ≤ x ∧ x ≤ 6 ∧ p.fVersions.getD (i + j) 0 = x) → ((List.range xs.length).flatMap fun j => bS p m 1 (i + j)) = (EX NA i xs).filter fun s => (Fs p m s).2 == 0 := by
   intro xs
   induction xs with
   | nil => intro i _; rfl
   | cons x xs ih =>
    intro i hx
    rw [List.length_cons, List.range_succ_eq_map, List.flatMap_cons, List.flatMap_map, EX, List.filter_append]
    have ih' := ih (i + 1) (fun j y hy => by
     have := hx (j + 1) y (by simpa using hy)
     rw [show i + 1 + j = i + (j + 1) from by omega]; exact this)
    have hx0 := hx 0 x rfl
    rw [Nat.add_zero] at hx0
    congr 1
    ·rw [Nat.add_zero]
     unfold bS NA
     rw [Lf (gS p m 1 i) x.toNat (fun v hv => by
      unfold gS
      rw [if_neg]
      intro h
      have := (MF h).2.2.1 rfl
      rw [hx0.2.2] at this
      omega) 6 (by omega)]
     exact Li (fun v => (⟨1, (i : Int), ((v : Nat) : Int)⟩ : Av)) (U5 p m) x.toNat
    ·rw [← ih']
     congr 1
     funext j
     rw [show i + (j + 1) = i + 1 + j from by omega]
  have := e p.fVersions 0 (fun j x hx => by
   have h1 := hp.ver x (List.mem_of_getElem? hx)
   refine ⟨h1.1, h1.2, ?_⟩
   rw [Nat.zero_add, List.getD_eq_getElem?_getD, hx]; rfl)
  simp only [Nat.zero_add] at this
  exact this
 have e23 : ∀ (k : Int) (n : Nat), k ≠ 1 → n ≤ Sl p → (∀ i v, U5 p m ⟨k, ((i : Nat) : Int), ((v : Nat) : Int)⟩ = true → i < n) → kS p m k = (((List.range n).map fun i => (⟨k, ((i : Nat) : Int), 0⟩ : Av)).filter fun s => (Fs p m s).2 == 0) := by
  intro k n hk hn hi
  unfold kS
  rw [Lf (bS p m k) n (fun i hi' => by
   unfold bS
   rw [List.flatMap_eq_nil_iff]
   intro v _
   unfold gS
   rw [if_neg]
   intro h
   have := hi i v h
   omega) (Sl p) hn]
  show _ = List.filter (U5 p m) _
  rw [← Li (fun i => (⟨k, ((i : Nat) : Int), 0⟩ : Av)) (U5 p m) n]
  congr 1
  funext i
  unfold bS
  rw [Lf (gS p m k i) 1 (fun v hv => by
   unfold gS
   rw [if_neg]
   intro h
   have := (MF h).2.2.2 hk
   omega) 6 (by omega)]
  simp [gS]
 rw [e1, e23 2 p.fVersions.length (by decide) (by unfold Sl; omega) (fun i v h => (MF h).2.1 (by decide)), e23 3 p.fTables.length (by decide) (by unfold Sl; omega) (fun i v h => (MF h).1 rfl)]
theorem Rh (a b : Nat) : Td (a : Int) (b : Int) = ((max a b : Nat) : Int) := by
 unfold Td
 omega
theorem Qa (N : Nat) (hN : N ≤ 1000000) (h20 : 100 ≤ N) {p : Ak} {m : Ag} (hv : Ez p = 0) (hm : FJ p m) : Fx N p m = some (G9 p m) := by
 obtain ⟨hp, _⟩ := I1 hv
 have hnv := hp.nv
 have hnt := hp.nt
 have hmx : Sl p ≤ 12 := by unfold Sl; omega
 unfold Fx
 have hmix := LI hv hm
 -- one number
 have inn : ∀ (k : Int) (c0 a : List Av) (i : Nat) (d0 : List Av) (j : List Av → Option (List Av)), a.length ≤ 1000 →
   CP N p m (c0, k) (d0, (i : Int)) j N (a, 0) = j (a ++ bS p m k i) := by
  intro k c0 a i d0 j ha
  have := G5 (CP N p m (c0, k) (d0, (i : Int)) j) (fun a i => (a, i)) (List.range 6) j (fun v _ => gS p m k i v) 1 2000
   (fun v x _ => UO _ _ _ _ _)
   (fun n v x a hx hl => by
    have hi := (List.getElem?_eq_some_iff.1 hx).1
    simp only [List.length_range] at hi
    rw [CP, A1 (by simp only; omega)]
    simp only [BB]
    rw [QG N hN h20 (PO hm), if_pos hmix]
    simp only [Option.bind_some, A8 (show v < 1000000 by omega)]
    unfold gS U5
    cases hq : (Fs p m ⟨k, (i : Int), (v : Int)⟩).2 == 0
    ·rw [AE, if_neg (by simp), List.append_nil]
    ·rw [A6, if_pos rfl, AK (by simp [E8]; unfold gS U5 at hl; rw [hq] at hl; simp at hl; omega)])
   (fun n a => by rw [CP, AY (by simp)]) N a (by simp; omega) (by simp; omega)
  rw [Ji] at this
  exact this
 have mid : ∀ (k : Int) (c0 a : List Av) (j : List Av → Option (List Av)), a.length ≤ 500 →
   CO N p m (c0, k) j N (a, 0) = j (a ++ kS p m k) := by
  intro k c0 a j ha
  have := G5 (CO N p m (c0, k) j) (fun a i => (a, i)) (List.range (Sl p)) j (fun i _ => bS p m k i) 6 900
   (fun v x _ => Uv _ _ _ _)
   (fun n i x a hx hl => by
    have hi := (List.getElem?_eq_some_iff.1 hx).1
    simp only [List.length_range] at hi
    rw [CO, A1 (by simp only; rw [Rh]; unfold Sl at hi; omega)]
    rw [inn k c0 a i a _ (by omega)]
    simp only [A8 (show i < 1000000 by omega)])
   (fun n a => by rw [CO, AY (by simp [Rh, Sl])]) N a (by simp; omega) (by simp; omega)
  rw [Ji] at this
  exact this
 have hk := Wy hp m
 have go : ∀ (k : Int) (n : Nat) (a : List Av), k ≤ 3 → 1 ≤ k → a.length ≤ 300 → BP N p m (fun v2 => some v2) (n + 1) (a, k) = BP N p m (fun v2 => some v2) n (a ++ kS p m k, k + 1) := by
  intro k n a h1 h2 ha
  rw [BP, A1 h1]
  rw [mid k a a _ (by omega), EV (by omega) (by omega)]
 obtain ⟨N', hN'⟩ : ∃ q, N = q + 4 := ⟨N - 4, by omega⟩
 have e0 : BP N p m (fun v2 => some v2) N ([], 1) = BP N p m (fun v2 => some v2) (N' + 4) ([], 1) := by rw [hN']
 rw [e0, go 1 (N' + 3) [] (by decide) (by decide) (by simp), List.nil_append]
 rw [show (1 : Int) + 1 = 2 from rfl, go 2 (N' + 2) _ (by decide) (by decide) (by have := hk 1; omega)]
 rw [show (2 : Int) + 1 = 3 from rfl, go 3 (N' + 1) _ (by decide) (by decide) (by have h1 := hk 1; have h2 := hk 2; rw [List.length_append]; omega)]
 rw [BP, AY (by simp), TK hp]
end Go.Lift

/- Breadth-first search in plain Lean: the ways that it finds are the least ones, by length and then by the ranks of their steps. No condition. -/
namespace Go.Lift
namespace Bfs
section
variable {α σ : Type}
def code (rk : σ → Nat) (K : Nat) (w : List σ) : Nat := w.foldl (fun c s => c * K + rk s) 0
def YV (rk : σ → Nat) (K : Nat) (w : List σ) : Prop := ∀ s, s ∈ w → 1 ≤ rk s ∧ rk s ≤ K
theorem YV.snoc {rk : σ → Nat} {K : Nat} {w : List σ} {s : σ} (h : YV rk K w) (hs : 1 ≤ rk s ∧ rk s ≤ K) : YV rk K (w ++ [s]) := by
 intro x hx; rcases List.mem_append.1 hx with h1 | h1
 ·exact h x h1
 ·rw [List.mem_singleton.1 h1]; exact hs
abbrev Nd (α σ : Type) := α × Int × σ
def put [DecidableEq α] (i : Nat) (l : List (Nd α σ)) (q : σ × α) : List (Nd α σ) := if (l.any fun n => decide (n.1 = q.2)) = true then l else l ++ [(q.2, (i : Int), q.1)]
def Tv [DecidableEq α] (most i : Nat) : List (σ × α) → List (Nd α σ) → Option (List (Nd α σ))
 | [], l => some l
 | q :: qs, l => if most < (put i l q).length then none else Tv most i qs (put i l q)
def go [DecidableEq α] (nxt : α → List (σ × α)) (most : Nat) : Nat → Nat → List (Nd α σ) → Option (List (Nd α σ))
 | 0, _, _ => none
 | n + 1, i, l => match l[i]? with
  | none => some l
  | some nd => (Tv most i (nxt nd.1) l).bind fun l' => go nxt most n (i + 1) l'
def run (nxt : α → List (σ × α)) (x : α) : List σ → α → Prop
 | [], y => y = x
 | s :: w, y => ∃ z, (s, z) ∈ nxt x ∧ run nxt z w y
theorem JY {nxt : α → List (σ × α)} : ∀ {u w : List σ} {x y : α}, run nxt x (u ++ w) y ↔ ∃ z, run nxt x u z ∧ run nxt z w y
 | [], w, x, y => by simp [run]
 | s :: u, w, x, y => by
  simp only [List.cons_append, run]
  constructor
  ·rintro ⟨z, h1, h2⟩
   obtain ⟨z', h3, h4⟩ := JY.1 h2
   exact ⟨z', ⟨z, h1, h3⟩, h4⟩
  ·rintro ⟨z', ⟨z, h1, h3⟩, h4⟩
   exact ⟨z, h1, JY.2 ⟨z', h3, h4⟩⟩
end
end Bfs
end Go.Lift

/- The region of a mix: the reference's list of nodes is the breadth-first search. -/
namespace Go.Lift
open Go
theorem Ra : ∀ {l : List Int}, W8 l = 0 → ∀ x, x ∈ l → x = 0
 | [], _, x, hx => by cases hx
 | y :: ys, h, x, hx => by
  unfold W8 at h
  split at h
  ·rename_i hy
   rcases List.mem_cons.1 hx with rfl | hx
   ·exact hy
   ·exact Ra h x hx
  ·rename_i hy; exact absurd h hy
theorem S9 {a b : Ag} (h : Tr a b = 0) : a = b := by
 have := Ra h
 have h1 := Oa _ _ (this (Jv a.fBase b.fBase) (by simp))
 have h2 := Oa _ _ (this (Jv a.fNext b.fNext) (by simp))
 have h3 := Oa _ _ (this (Jv a.fHeld b.fHeld) (by simp))
 cases a; cases b; simp only at h1 h2 h3; subst h1; subst h2; subst h3; rfl
instance Y8 : DecidableEq Ag := fun a b => if h : Tr a b = 0 then isTrue (S9 h) else isFalse (fun e => h (by rw [e]; exact PI b))
end Go.Lift

/- The region of a mix: the reference's whole list. -/
namespace Go.Lift
open Go
end Go.Lift

/- The region of a mix: the program's list of nodes is the same. -/
namespace Go.Lift
open Go
end Go.Lift

/- Ways to goals: From and Find, both implementations. -/
namespace Go.Lift
open Go
end Go.Lift

/- The laws PlanFind, PlanFrom, PlanShortest. -/
namespace Go.Lift
open Go
end Go.Lift

/- The law PlanRest. -/
namespace Go.Lift
open Go
end Go.Lift

/- The blocks of mixes, both implementations. -/
namespace Go.Lift
open Go
theorem QC : Fp 1000 = some true := by kernel_rfl
def JV (p : Ak) (m : Ag) (_ : Nat) (s : Av) : List A7 := match Kr p (Fs p m s).1 with
 | some (x, c) => [⟨s, x, c⟩]
 | none => []
def Ki (p : Ak) (m : Ag) : List A7 := EX (JV p m) 0 (G9 p m)
theorem Md (p : Ak) (m : Ag) (i : Nat) (s : Av) : (JV p m i s).length ≤ 1 := by
 unfold JV; split <;> simp
theorem Mt {p : Ak} (hp : CB p) (m : Ag) : (G9 p m).length ≤ 54 := Nat.le_trans (List.length_filter_le _ _) (SB hp)
theorem NB {p : Ak} (hp : CB p) (m : Ag) : (Ki p m).length ≤ 54 := by
 have := G4 (g := JV p m) (c := 1) (i := 0) (xs := G9 p m) fun j x _ => Md p m _ x
 have h2 := Mt hp m
 unfold Ki; omega
theorem LO {p : Ak} {m : Ag} {s : Av} (h : s ∈ G9 p m) : s ∈ HU p ∧ (Fs p m s).2 = 0 := by
 unfold G9 at h
 have := List.mem_filter.1 h
 exact ⟨this.1, by simpa using this.2⟩
theorem Tz {N : Nat} (hN : N ≤ 1000000) (h20 : 100 ≤ N) {p : Ak} {m : Ag} (hp : CB p) (hm : FJ p m) {s : Av} (hs : s ∈ G9 p m) : ∃ b, DI N p m s = some ((Fs p m s).1, b) := by
 obtain ⟨h1, h2⟩ := LO hs
 obtain ⟨h3, h4⟩ := Pr hp h1
 rw [MP N hN h20 hp hm h3 h4]
 unfold Fs at h2 ⊢
 rw [h3, h4, if_neg (by simp), if_neg (by simp)] at h2 ⊢
 cases h : G8 p m s with
 | none => rw [h] at h2; cases h2
 | some x => exact ⟨true, rfl⟩
theorem PP (p : Ak) (x : Ag) : ((Lm p x).2.2 == 0) = (Kr p x).isSome := by
 unfold Lm
 cases Kr p x with
 | none => rfl
 | some q => rfl
theorem QV (N : Nat) (hN : N ≤ 1000000) (h20 : 100 ≤ N) {p : Ak} {m : Ag} (hw : Ml KO m.fHeld) : ED N p m = some (if EA p m = 0 then (G9 p m, 0) else ([], EA p m)) := by
 by_cases h : EA p m = 0
 ·rw [if_pos h]
  have hv : Ez p = 0 := Decidable.byContradiction fun hc => by unfold EA at h; rw [if_pos hc] at h; exact hc h
  exact Se N hN h20 hv (Je hw h).2
 ·rw [if_neg h]
  unfold ED
  rw [JB N p m hN (by omega) hw]
  simp only [Option.bind_some]
  rw [bne_iff_ne.2 h, A6]
theorem Rd {p : Ak} {m : Ag} (h : EA p m = 0) : Ez p = 0 := Decidable.byContradiction fun hc => by unfold EA at h; rw [if_pos hc] at h; exact hc h
theorem Sj (N : Nat) (hN : N ≤ 1000000) (h20 : 100 ≤ N) {p : Ak} {m : Ag} (hw : Ml KO m.fHeld) : FA N p m = some (if EA p m = 0 then (Ki p m, 0) else ([], EA p m)) := by
 unfold FA
 rw [QV N hN h20 hw]
 simp only [Option.bind_some]
 by_cases h : EA p m = 0
 ·rw [if_pos h, if_pos h]
  have hv := Rd h
  obtain ⟨hp, hm⟩ := Je hw h
  have hl := Mt hp m
  simp only [bne_self_eq_false, AE]
  have := G5 (DG N p m (G9 p m, 0) fun v4 => some (v4, 0)) (fun a i => (a, i)) (G9 p m) (fun v4 => some (v4, 0)) (JV p m) 1 1000
   (fun i s _ => Md p m i s)
   (fun n i s a hs hl2 => by
    have hi := (List.getElem?_eq_some_iff.1 hs).1
    have hsm := List.mem_of_getElem? hs
    have hst := (LO hsm).2
    have hxo := Nl hp hm hst
    rw [DG, A1 (by simp only; omega)]
    simp only [BB, BU, hs, Option.bind_some]
    rw [Pj N hN h20 hw, if_pos h]
    simp only [Option.bind_some]
    rw [Qf N p _ hN h20 (PO hxo) (LI hv hxo)]
    simp only [Option.bind_some]
    rw [PP, A8 (by omega)]
    unfold JV Lm
    cases hb : Kr p (Fs p m s).1 with
    | none => rw [Option.isSome_none, AE, List.append_nil]
    | some q =>
     rw [Option.isSome_some, A6]
     rw [AK (by simp [E8]; have := hl2; unfold JV at this; rw [hb] at this; simp at this; omega)])
   (fun n a => by rw [DG, AY (by simp)]) N [] (by omega) (by simp; omega)
  have e : DG N p m (G9 p m, 0) (fun v4 => some (v4, 0)) N (([] : List A7), 0) = _ := this
  rw [e]; rfl
 ·rw [if_neg h, if_neg h]
  simp only
  rw [bne_iff_ne.2 h, A6]
theorem Pl (N : Nat) (hN : N ≤ 1000000) (h20 : 100 ≤ N) {p : Ak} {m : Ag} (hv : Ez p = 0) (hm : FJ p m) : E9 N p m = some (Ki p m) := by
 obtain ⟨hp, _⟩ := I1 hv
 have hl := Mt hp m
 unfold E9
 rw [Qa N hN h20 hv hm]
 simp only [Option.bind_some]
 have := G5 (Cy N p m (G9 p m) fun v3 => some v3) (fun a i => (a, i)) (G9 p m) (fun v3 => some v3) (JV p m) 1 1000
  (fun i s _ => Md p m i s)
  (fun n i s a hs hl2 => by
   have hi := (List.getElem?_eq_some_iff.1 hs).1
   have hsm := List.mem_of_getElem? hs
   have hst := (LO hsm).2
   have hxo := Nl hp hm hst
   obtain ⟨b, ea⟩ := Tz hN h20 hp hm hsm
   rw [Cy, A1 (by simp only; omega)]
   simp only [BB, BU, hs, Option.bind_some, ea]
   rw [QD N p _ hN h20 (PO hxo) (LI hv hxo)]
   simp only [Option.bind_some]
   rw [PP, A8 (by omega)]
   unfold JV Lm
   cases hb : Kr p (Fs p m s).1 with
   | none => rw [Option.isSome_none, AE, List.append_nil]
   | some q =>
    rw [Option.isSome_some, A6]
    rw [AK (by simp [E8]; have := hl2; unfold JV at this; rw [hb] at this; simp at this; omega)])
  (fun n a => by rw [Cy, AY (by simp)]) N [] (by omega) (by simp; omega)
 have e : Cy N p m (G9 p m) (fun v3 => some v3) N (([] : List A7), 0) = _ := this
 rw [e]; rfl
def QL (p : Ak) (_ : Nat) (m : Ag) : Option Int := if EA p m = 0 then none else some (EA p m)
def PW (p : Ak) (l : List Ag) : Int := if Ez p ≠ 0 then Ez p else (ES (QL p) 0 l).getD 0
theorem R1 (N : Nat) (hN : N ≤ 1000000) (h20 : 100 ≤ N) (p : Ak) (l : List Ag) (hl : l.length < N) : Fz N p l = some (PW p l) := by
 unfold Fz
 rw [Ou N p hN (by omega)]
 simp only [Option.bind_some]
 unfold PW
 by_cases hv : Ez p = 0
 ·rw [hv, bne_self_eq_false, AE, if_neg (by simp)]
  have := Ee (CR N p l fun _ => some 0) l (some 0) (QL p)
   (fun n i m hm => by
    have hi := (List.getElem?_eq_some_iff.1 hm).1
    rw [CR, A1 (by omega), BU, hm]
    simp only [Option.bind_some]
    rw [KP N p m hN (by omega), A8 (by omega)]
    simp only [Option.bind_some]
    unfold QL
    by_cases h : EA p m = 0
    ·rw [h, bne_self_eq_false, AE, if_pos rfl]; rfl
    ·rw [bne_iff_ne.2 h, A6, if_neg h]; rfl)
   (fun n => by rw [CR, AY (by simp)]) N 0 (Nat.zero_le _) (by omega)
  have e : CR N p l (fun _ => some 0) N 0 = _ := this
  rw [e, List.drop_zero]
  cases ES (QL p) 0 l <;> rfl
 ·rw [bne_iff_ne.2 hv, A6, if_pos hv]
theorem VE {p : Ak} {l : List Ag} (h : PW p l = 0) : Ez p = 0 ∧ ∀ m, m ∈ l → EA p m = 0 := by
 unfold PW at h
 by_cases hv : Ez p = 0
 ·refine ⟨hv, fun m hm => ?_⟩
  rw [if_neg (by simp [hv])] at h
  obtain ⟨j, hj⟩ := List.mem_iff_getElem?.1 hm
  cases hs : ES (QL p) 0 l with
  | none =>
   have := HF hs j m hj
   unfold QL at this
   split at this
   ·assumption
   ·cases this
  | some r =>
   rw [hs] at h
   obtain ⟨k, x, _, hr⟩ := Gb hs
   unfold QL at hr
   split at hr
   ·cases hr
   ·rename_i hne
    cases hr; exact absurd h hne
 ·rw [if_pos hv] at h; exact absurd h hv
theorem WF {p : Ak} {l : List Ag} (hv : Ez p = 0) (h : ∀ m, m ∈ l → EA p m = 0) : PW p l = 0 := by
 unfold PW
 rw [if_neg (by simp [hv]), FM (fun j x hx => by
  unfold QL; rw [if_pos (h x (List.mem_of_getElem? hx))])]; rfl
def P3 (p : Ak) (l : List Ag) : List A7 := EX (fun _ m => Ki p m) 0 l
theorem Pi (N : Nat) (hN : N ≤ 1000000) (h20 : 100 ≤ N) (p : Ak) (l : List Ag) (hl : l.length < N) (hl2 : l.length ≤ 1000) (hw : ∀ m, m ∈ l → Ml KO m.fHeld) : Fb N p l = some (if PW p l = 0 then (P3 p l, 0) else ([], PW p l)) := by
 unfold Fb
 rw [R1 N hN h20 p l hl]
 simp only [Option.bind_some]
 by_cases h : PW p l = 0
 ·obtain ⟨hv, hall⟩ := VE h
  obtain ⟨hp, _⟩ := I1 hv
  rw [if_pos h, h, bne_self_eq_false, AE]
  have := G5 (CA N p l fun v4 => some (v4, 0)) (fun a i => (a, i)) l (fun v4 => some (v4, 0)) (fun _ m => Ki p m) 54 100000
   (fun i m _ => NB hp m)
   (fun n i m a hm hl3 => by
    have hi := (List.getElem?_eq_some_iff.1 hm).1
    have hmm := List.mem_of_getElem? hm
    rw [CA, A1 (by simp only; omega)]
    simp only [BU, hm, Option.bind_some]
    rw [Pl N hN h20 hv (Je (hw m hmm) (hall m hmm)).2, A8 (by omega)]
    simp only [Option.bind_some]
    rw [AK (by simp [E8]; omega)])
   (fun n a => by rw [CA, AY (by simp)]) N [] (by omega) (by simp; omega)
  have e : CA N p l (fun v4 => some (v4, 0)) N (([] : List A7), 0) = _ := this
  rw [e]; rfl
 ·rw [if_neg h, bne_iff_ne.2 h, A6]
theorem Ui {p : Ak} {m x : Ag} {c : Af} (hp : CB p) (hm : FJ p m) (h : Kr p m = some (x, c)) : FJ p x := by
 unfold Kr at h
 obtain ⟨j, y, hy, hb⟩ := Gb h
 have hab : Of m y := Mr.1 (List.mem_of_getElem? hy)
 unfold LF at hb
 split at hb
 ·cases hb
 ·cases hb; exact UG hp hm hab
theorem Ta {p : Ak} {m : Ag} (hp : CB p) (hm : FJ p m) : ∀ b, b ∈ Ki p m → FJ p b.fMix := by
 intro b hb
 obtain ⟨j, s, hs, hb⟩ := Nt.1 hb
 unfold JV at hb
 split at hb
 ·rename_i x c h
  rw [List.mem_singleton.1 hb]
  exact Ui hp (Nl hp hm (LO (List.mem_of_getElem? hs)).2) h
 ·cases hb
theorem QM (N : Nat) (hN : N ≤ 1000000) (h20 : 100 ≤ N) {p : Ak} (hp : CB p) (a : List A7) (h : a.length < N) (hs : ∀ b, b ∈ a → FJ p b.fMix) : FK N a a = some true := by
 unfold FK
 rw [bne_self_eq_false, AE]
 have := Ee (C5 N a a fun _ => some true) a (some true) (fun _ _ => none)
  (fun n i b hb => by
   have hi := (List.getElem?_eq_some_iff.1 hb).1
   rw [C5, A1 (by omega)]
   simp only [BB, BU, hb, Option.bind_some, beq_self_eq_true, Bool.and_self, Bool.not_true, AE]
   have e := Tk hN h20 hp (hs b (List.mem_of_getElem? hb))
   rw [show (Ag.mk b.fMix.fBase b.fMix.fNext b.fMix.fHeld) = b.fMix from rfl, e, A8 (by omega)]
   rfl)
  (fun n => by rw [C5, AY (by simp)]) N 0 (Nat.zero_le _) (by omega)
 have e : C5 N a a (fun _ => some true) N 0 = _ := this
 rw [e, List.drop_zero, FM (fun _ _ _ => rfl)]; rfl
theorem L2 (d : CV) (x : Ce) (wd : Gj d) (wx : Gi x) : DN 1000 d x = some true := by
 obtain ⟨p, ok, e, hok⟩ := Ue d x wd wx
 unfold DN
 rw [e]
 simp only [Option.bind_some, BB, QC, Bool.not_true, AE]
 cases ok
 ·rfl
 simp only [Bool.not_true, AE]
 obtain ⟨hg, hp, m, e2, hof, hm, hvm, hw⟩ := hok rfl
 rw [e2]
 simp only [Option.bind_some]
 rw [Sj 1000 (by omega) (by omega) hw, Pi 1000 (by omega) (by omega) p [m] (by simp) (by simp) (fun y hy => by rw [List.mem_singleton.1 hy]; exact hw), if_pos hvm, if_pos (WF hg.valid fun y hy => by rw [List.mem_singleton.1 hy]; exact hvm)]
 simp only [Option.bind_some, beq_self_eq_true, A6]
 rw [show P3 p [m] = Ki p m from by simp [P3, EX]]
 have := NB hp m
 rw [QM 1000 (by omega) (by omega) hp _ (by omega) (Ta hp hm)]; rfl
end Go.Lift

