/- Lemmas for PlanFindSaid, which YtohibkdhajkmdaaFinP3 proves. -/
import Derived.Test.YtohibkdhajkmdaaDec
import Derived.KernelRfl
/- Plain words of the shallow programs. -/
namespace Go.Lift
theorem A2 {α : Type} (xs : List α) (i : Nat) : BZ xs (i : Int) = xs[i]? := by
 unfold BZ; simp
theorem CI {n : Int} (h0 : -9223372036854775808 ≤ n) (h1 : n ≤ 9223372036854775807) : IntKind.wrap .i64 n = n := by
 simp [IntKind.wrap, IntKind.signed, IntKind.bits]; omega
theorem AM {i : Nat} (h : i < 1000000) : IntKind.wrap .i64 ((i : Int) + 1) = ((i + 1 : Nat) : Int) := by
 rw [CI (by omega) (by omega)]; simp
@[simp] theorem AN {α : Type} {a b : Option α} : AZ true a b = a := rfl
@[simp] theorem Au {α : Type} {a b : Option α} : AZ false a b = b := rfl
theorem AL {α : Type} {p : Prop} [Decidable p] {a b : Option α} (h : p) : AZ (decide p) a b = a := by simp [h]
theorem AH {α : Type} {p : Prop} [Decidable p] {a b : Option α} (h : ¬ p) : AZ (decide p) a b = b := by simp [h]
def Hm : List Int → List Int → Int
 | [], [] => 0
 | [], _ :: _ => -1
 | _ :: _, [] => 1
 | a :: as1, b :: bs => if a < b then -1 else if b < a then 1 else Hm as1 bs
theorem Gg {α : Type} {xs : List α} {i : Nat} {x : α} (h : xs[i]? = some x) : xs.drop i = x :: xs.drop (i + 1) := by
 obtain ⟨hi, rfl⟩ := List.getElem?_eq_some_iff.1 h
 exact List.drop_eq_getElem_cons hi
theorem Rk (N : Nat) (a b : List Int) (hb : a.length < 1000000) : ∀ (n i : Nat), i ≤ a.length → i ≤ b.length → a.length - i < n →
  CW N a b (fun _ => AZ (decide ((a.length : Int) < (b.length : Int))) (some (-1)) (AZ (decide ((b.length : Int) < (a.length : Int))) (some 1) (some 0))) n (i : Int) = some (Hm (a.drop i) (b.drop i))
 | 0, i, _, _, h => by omega
 | n + 1, i, hi, hj, h => by
  unfold CW
  simp only [Bv]
  by_cases h1 : i < a.length
  ·rw [AL (p := (i : Int) < (a.length : Int)) (by omega)]
   have ha : a[i]? = some a[i] := by simp [h1]
   rw [Gg ha]
   by_cases h2 : i < b.length
   ·have hbb : b[i]? = some b[i] := by simp [h2]
    rw [show decide ((i : Int) < (b.length : Int)) = true from decide_eq_true (by omega), AN, A2, A2, ha, hbb, Gg hbb]
    simp only [Option.bind_some, Hm]
    rw [AM (by omega), Rk N a b hb n (i + 1) (by omega) (by omega) (by omega)]
    by_cases h3 : a[i] < b[i]
    ·simp [h3]
    ·by_cases h4 : b[i] < a[i]
     ·simp [h3, h4]
     ·simp [h3, h4]
   ·rw [show decide ((i : Int) < (b.length : Int)) = false from decide_eq_false (by omega), Au, AH (by omega), AL (by omega), List.drop_eq_nil_of_le (by omega : b.length ≤ i)]
    simp [Hm]
  ·rw [AH (p := (i : Int) < (a.length : Int)) (by omega), Au, List.drop_eq_nil_of_le (by omega : a.length ≤ i)]
   by_cases h2 : a.length < b.length
   ·rw [AL (by omega)]
    have hbb : b[i]? = some b[i] := by simp [show i < b.length from by omega]
    rw [Gg hbb]; simp [Hm]
   ·rw [AH (by omega), AH (by omega), List.drop_eq_nil_of_le (by omega : b.length ≤ i)]
    simp [Hm]
theorem MY {N : Nat} {a b : List Int} (h : a.length < N) (hN : N ≤ 1000000) : C1 N a b = some (Hm a b) := by
 have := Rk N a b (by omega) N 0 (by omega) (by omega) (by omega)
 simpa [C1] using this
end Go.Lift

/- MixCompare: the order on mixes. -/
namespace Go.Lift
theorem NT : ∀ a : List Int, Hm a a = 0
 | [] => rfl
 | a :: as1 => by simp [Hm, NT as1]
theorem Mb : ∀ a b : List Int, Hm a b = 0 → a = b
 | [], [], _ => rfl
 | [], _ :: _, h => by simp [Hm] at h
 | _ :: _, [], h => by simp [Hm] at h
 | a :: as1, b :: bs, h => by
  unfold Hm at h
  split at h
  ·omega
  ·split at h
   ·omega
   ·rw [Mb as1 bs h, show a = b from by omega]
def VH : List Int → Int
 | [] => 0
 | x :: xs => if x = 0 then VH xs else x
theorem V7 (N : Nat) (a : List Int) (hb : a.length < 1000000) (hw : Mf JU a) : ∀ (n i : Nat), i ≤ a.length → a.length - i < n →
  Cy N a (fun v => some v) n (a.take i, (i : Int)) = some a
 | 0, i, _, h => by omega
 | n + 1, i, hi, h => by
  unfold Cy
  by_cases h1 : i < a.length
  ·have ha : a[i]? = some a[i] := by simp [h1]
   rw [AL (by simpa using h1)]
   simp only
   rw [A2, ha]
   have hr : IntKind.wrap .i64 a[i] = a[i] := by
    have := hw a[i] (List.getElem_mem h1)
    unfold JU at this
    have h2 : 0 ≤ a[i] ∧ a[i] ≤ 255 := by simpa [Lit.wf, IntKind.min, IntKind.max, IntKind.signed, IntKind.bits] using this
    exact CI (by omega) (by omega)
   simp only [Option.bind_some, hr]
   have hlen : (a.take i).length + ([a[i]] : List Int).length ≤ Dv := by
    simp [Dv]; omega
   rw [show Eg ((a.take i).length + ([a[i]] : List Int).length ≤ Dv) = some () from by unfold Eg; rw [if_pos hlen]]
   simp only [Option.bind_some]
   rw [AM (by omega), show a.take i ++ [a[i]] = a.take (i + 1) from by rw [List.take_add_one, ha]; rfl]
   exact V7 N a hb hw n (i + 1) (by omega) (by omega)
  ·rw [AH (by simpa using h1)]
   simp only
   rw [List.take_of_length_le (by omega)]
theorem LY {N : Nat} {a : List Int} (h : a.length < N) (hN : N ≤ 1000000) (hw : Mf JU a) : CU N a = some a := by
 have := V7 N a (by omega) hw N 0 (by omega) (by omega)
 simpa [CU] using this
def Yc (a : Ah) : Prop := a.fBase.length ≤ 8 ∧ a.fNext.length ≤ 8 ∧ a.fHeld.length ≤ 14
def Qw (a b : Ah) : Int := VH [Hm a.fBase b.fBase, Hm a.fNext b.fNext, Hm a.fHeld b.fHeld]
theorem N5 (a : Ah) : Qw a a = 0 := by unfold Qw; simp [NT, VH]
end Go.Lift

/- The law MixCompare in plain words. -/
namespace Go.Lift
end Go.Lift

/- Search loops in plain words; the two tests of a problem give the same answer. -/
namespace Go.Lift
def Dd {α R : Type} (f : Nat → α → Option R) : Nat → List α → Option R
 | _, [] => none
 | i, x :: xs => match f i x with
  | some r => some r
  | none => Dd f (i + 1) xs
theorem FL {α R : Type} (f : Nat → α → Option R) (i : Nat) (x : α) (xs : List α) : Dd f i (x :: xs) = match f i x with
  | some r => some r
  | none => Dd f (i + 1) xs := rfl
def BD {R : Type} (a : Option R) (b : Option R) : Option R := match a with
 | some r => some r
 | none => b
theorem Cm {α R : Type} (L : Nat → Int → Option R) (xs : List α) (j : Option R) (f : Nat → α → Option R)
  (hs : ∀ (n i : Nat) (x : α), xs[i]? = some x → L (n + 1) (i : Int) = BD (f i x) (L n ((i + 1 : Nat) : Int))) (he : ∀ n : Nat, L (n + 1) (xs.length : Int) = j) :
  ∀ n i : Nat, i ≤ xs.length → xs.length - i < n → L n (i : Int) = BD (Dd f i (xs.drop i)) j
 | 0, i, _, h => by omega
 | n + 1, i, hi, h => by
  by_cases h1 : i < xs.length
  ·have hx : xs[i]? = some xs[i] := by simp [h1]
   rw [hs n i _ hx, Gg hx, Cm L xs j f hs he n (i + 1) (by omega) (by omega)]
   rw [FL]
   cases f i xs[i] <;> rfl
  ·have : i = xs.length := by omega
   subst this
   rw [he n, List.drop_eq_nil_of_le (Nat.le_refl _)]
   rfl
theorem NQ (N : Nat) (k n : Int) : DH N k n = some (decide (0 ≤ k) && decide (k < n)) := by
 unfold DH
 simp only [Bv]
 by_cases h : 0 ≤ k
 ·rw [AL h]; simp [h]
 ·rw [AH h]; simp [h]
theorem Lw (N : Nat) (t : AF) : A5 N t = some (t.fKind == 3 || t.fKind == 4) := by
 unfold A5
 simp only [Bv]
 cases h : t.fKind == 3 <;> simp
def sq (l : List (List Bool)) (n m : Int) : Bool := decide ((l.length : Int) = n) && l.all fun r => decide ((r.length : Int) = m)
theorem MD {α : Type} (p : α → Bool) {R : Type} (r : Nat → R) : ∀ (i : Nat) (xs : List α), (Dd (fun i x => if p x then none else some (r i)) i xs).isNone = xs.all p
 | i, [] => rfl
 | i, x :: xs => by
  unfold Dd
  cases h : p x <;> simp [h, MD p r (i + 1) xs]
theorem NU (N : Nat) (l : List (List Bool)) (n m : Int) (h : n < (N : Int)) (hN : N ≤ 1000000) : C8 N l n m = some (sq l n m) := by
 unfold C8 sq
 by_cases h1 : (l.length : Int) = n
 ·subst h1
  simp only [bne_self_eq_false, Au, decide_true, Bool.true_and]
  have := Cm (Cj N l (l.length : Int) m (fun _ => some true)) l (some true) (fun _ r => if decide ((r.length : Int) = m) then none else some false)
   (fun n i x hx => by
    have hi := (List.getElem?_eq_some_iff.1 hx).1
    rw [Cj, AL (by omega), A2, hx]
    simp only [Option.bind_some]
    rw [AM (by omega)]
    by_cases h2 : (x.length : Int) = m
    ·simp [h2, BD]
    ·have : ((x.length : Int) != m) = true := by simpa using h2
     simp [h2, this, BD])
   (fun n => by rw [Cj, AH (by omega)]) N 0 (by omega) (by omega)
  simp only [Int.ofNat_zero, List.drop_zero] at this
  rw [this]
  have h3 := MD (fun r : List Bool => decide ((r.length : Int) = m)) (fun _ => false) 0 l
  cases hsc : Dd (fun (_ : Nat) (r : List Bool) => if decide ((r.length : Int) = m) = true then none else some false) 0 l with
  | none => rw [hsc] at h3; rw [← h3]; rfl
  | some b =>
   rw [hsc] at h3
   rw [← h3]
   have : ∀ (i : Nat) (xs : List (List Bool)) b, Dd (fun (_ : Nat) (r : List Bool) => if decide ((r.length : Int) = m) = true then none else some false) i xs = some b → b = false := by
    intro i xs
    induction xs generalizing i with
    | nil => intro b hb; cases hb
    | cons x xs ih =>
     intro b hb
     unfold Dd at hb
     split at hb
     ·rename_i r hr; cases hb; split at hr <;> simp at hr; exact hr
     ·exact ih _ b hb
   rw [this 0 l b hsc]; rfl
 ·have : ((l.length : Int) != n) = true := by simpa using h1
  simp [this, h1]
end Go.Lift

/- The tests of a table and of a problem: both implementations give one answer. -/
namespace Go.Lift
theorem Oc (N : Nat) (l : List (List Bool)) (n m : Int) (h : n < (N : Int)) (hN : N ≤ 1000000) : EC N l n m = some (sq l n m) := by
 unfold EC sq
 simp only [Bv]
 by_cases h1 : (l.length : Int) = n
 ·subst h1
  simp only [beq_self_eq_true, AN, decide_true, Bool.true_and]
  have := Cm (Bl N l (fun x => DA N x m) (fun _ => some (-1))) l (some (-1)) (fun i r => if decide ((r.length : Int) = m) then none else some (i : Int))
   (fun n i x hx => by
    have hi := (List.getElem?_eq_some_iff.1 hx).1
    rw [Bl, AL (by omega), A2, hx]
    simp only [Option.bind_some, DA]
    rw [AM (by omega)]
    by_cases h2 : (x.length : Int) = m
    ·simp [h2, BD]
    ·have : ((x.length : Int) != m) = true := by simpa using h2
     simp [h2, this, BD])
   (fun n => by rw [Bl, AH (by omega)]) N 0 (by omega) (by omega)
  simp only [Int.ofNat_zero, List.drop_zero] at this
  unfold CK C6
  rw [this]
  have h3 := MD (fun r : List Bool => decide ((r.length : Int) = m)) (fun i : Nat => (i : Int)) 0 l
  cases hsc : Dd (fun (i : Nat) (r : List Bool) => if decide ((r.length : Int) = m) = true then none else some (i : Int)) 0 l with
  | none => rw [hsc] at h3; rw [← h3]; rfl
  | some b =>
   rw [hsc] at h3
   rw [← h3]
   have : ∀ (i : Nat) (xs : List (List Bool)) b, Dd (fun (i : Nat) (r : List Bool) => if decide ((r.length : Int) = m) = true then none else some (i : Int)) i xs = some b → 0 ≤ b := by
    intro i xs
    induction xs generalizing i with
    | nil => intro b hb; cases hb
    | cons x xs ih =>
     intro b hb
     rw [FL] at hb
     split at hb
     ·rename_i r hr
      cases hb
      split at hr
      ·cases hr
      ·cases hr; omega
     ·exact ih _ b hb
   have := this 0 l b hsc
   simp [BD, this]
 ·have : ((l.length : Int) == n) = false := by simpa using h1
  simp [this, h1]
end Go.Lift

/- The test of a table: both implementations give one answer. -/
namespace Go.Lift
def HE (l : List (List Bool)) : Option Int := Dd (fun i row => if row.getD i false then none else some 1) 0 l
theorem PY {row : List Bool} {i : Nat} (h : i < row.length) : BZ row (i : Int) = some (row.getD i false) := by
 rw [A2, List.getD_eq_getElem?_getD]; simp [h]
theorem TD (N : Nat) (t : AF) (h : t.fRewrite.length < N) (hN : N ≤ 1000000) (hsq : ∀ row, row ∈ t.fRewrite → row.length = t.fRewrite.length) (j : Option Int) :
  BS N t (fun _ => j) N 0 = BD (HE t.fRewrite) j := by
 have := Cm (BS N t (fun _ => j)) t.fRewrite j (fun i row => if row.getD i false then none else some 1)
  (fun n i x hx => by
   have hi := (List.getElem?_eq_some_iff.1 hx).1
   have hl := hsq x (List.mem_of_getElem? hx)
   rw [BS, AL (by omega), A2, hx]
   simp only [Option.bind_some]
   rw [PY (by omega), AM (by omega)]
   simp only [Option.bind_some]
   cases x.getD i false <;> rfl)
  (fun n => by rw [BS, AH (by omega)]) N 0 (by omega) (by omega)
 simpa [HE] using this
theorem NR (N : Nat) (t : AF) (h : t.fRewrite.length < N) (hN : N ≤ 1000000) (hsq : ∀ row, row ∈ t.fRewrite → row.length = t.fRewrite.length) (j : Option Int) :
  CP N t (fun _ => j) N 0 = BD (HE t.fRewrite) j := by
 have := Cm (CP N t (fun _ => j)) t.fRewrite j (fun i row => if row.getD i false then none else some 1)
  (fun n i x hx => by
   have hi := (List.getElem?_eq_some_iff.1 hx).1
   have hl := hsq x (List.mem_of_getElem? hx)
   rw [CP, AL (by omega), A2, hx]
   simp only [Option.bind_some]
   rw [PY (by omega), AM (by omega)]
   simp only [Option.bind_some]
   cases x.getD i false <;> rfl)
  (fun n => by rw [CP, AH (by omega)]) N 0 (by omega) (by omega)
 simpa [HE] using this
theorem L9 {l : List (List Bool)} {n m : Int} (h : sq l n m = true) : (l.length : Int) = n ∧ ∀ row, row ∈ l → (row.length : Int) = m := by
 unfold sq at h
 simp only [Bool.and_eq_true, decide_eq_true_eq, List.all_eq_true] at h
 exact h
def DI (p : Ae) (t : AF) : Int :=
 if t.fKind < 1 ∨ 4 < t.fKind ∨ (t.fAware = true ∧ (t.fKind = 3 ∨ t.fKind = 4)) then 1
 else if t.fFrom < 0 ∨ (p.fVersions.length : Int) ≤ t.fFrom ∨ t.fTo < 0 ∨ (p.fVersions.length : Int) ≤ t.fTo then 4
 else
  let f := p.fVersions.getD t.fFrom.toNat 0
  let g := p.fVersions.getD t.fTo.toNat 0
  if sq t.fOK f g = false then 6
  else if t.fKind = 4 then (if sq t.fRewrite f f = false then 6 else (HE t.fRewrite).getD 0)
  else if t.fRewrite.length = 0 then 0 else 6
theorem Em {α : Type} {xs : List α} {i : Int} {d : α} (h0 : 0 ≤ i) (h1 : i < (xs.length : Int)) : BZ xs i = some (xs.getD i.toNat d) := by
 obtain ⟨k, rfl⟩ := Int.eq_ofNat_of_zero_le h0
 rw [A2, List.getD_eq_getElem?_getD, Int.toNat_natCast]
 simp [show k < xs.length from by omega]
theorem Tk {t : AF} (A B : Option Int) (hk : ¬ (t.fAware = true ∧ (t.fKind = 3 ∨ t.fKind = 4))) : AZ t.fAware (AZ (t.fKind == 3 || t.fKind == 4) A B) B = B := by
 cases ha : t.fAware
 ·rfl
 ·have : (t.fKind == 3 || t.fKind == 4) = false := by
   rw [Bool.or_eq_false_iff]
   constructor
   ·simp only [beq_eq_false_iff_ne]; intro h; exact hk ⟨ha, .inl h⟩
   ·simp only [beq_eq_false_iff_ne]; intro h; exact hk ⟨ha, .inr h⟩
  rw [this]; rfl
theorem JB {p : Ae} {i : Int} (hv : ∀ v, v ∈ p.fVersions → 1 ≤ v ∧ v ≤ 6) (h0 : 0 ≤ i) (h1 : i < (p.fVersions.length : Int)) : 1 ≤ p.fVersions.getD i.toNat 0 ∧ p.fVersions.getD i.toNat 0 ≤ 6 := by
 refine hv _ ?_
 rw [List.getD_eq_getElem?_getD, List.getElem?_eq_getElem (by omega)]
 exact List.getElem_mem _
theorem RU (N : Nat) (p : Ae) (t : AF) (hN : N ≤ 1000000) (h6 : 7 ≤ N) (hv : ∀ v, v ∈ p.fVersions → 1 ≤ v ∧ v ≤ 6) : Ea N p t = some (DI p t) := by
 unfold Ea DI
 simp only [Bv, Lw, Option.bind_some]
 by_cases k1 : t.fKind < 1
 ·simp [k1]
 by_cases k2 : 4 < t.fKind
 ·simp [k1, k2]
 rw [AH k1, AH k2]
 by_cases hk : t.fAware = true ∧ (t.fKind = 3 ∨ t.fKind = 4)
 ·obtain ⟨ha, k | k⟩ := hk <;> simp [ha, k]
 rw [Au, Tk _ _ hk, if_neg (fun h => h.elim k1 fun h => h.elim k2 hk)]
 by_cases f1 : t.fFrom < 0
 ·simp [f1]
 by_cases f2 : (p.fVersions.length : Int) ≤ t.fFrom
 ·simp [f1, f2]
 by_cases f3 : t.fTo < 0
 ·simp [f1, f2, f3]
 by_cases f4 : (p.fVersions.length : Int) ≤ t.fTo
 ·simp [f1, f2, f3, f4]
 rw [AH f1, AH f2, AH f3, if_neg (fun h => h.elim f1 fun h => h.elim f2 fun h => h.elim f3 f4)]
 have hf := JB hv (i := t.fFrom) (by omega) (by omega)
 rw [decide_eq_false f4, Au, Em (d := 0) (by omega : 0 ≤ t.fFrom) (by omega), Em (d := 0) (by omega : 0 ≤ t.fTo) (by omega)]
 simp only [Option.bind_some]
 generalize p.fVersions.getD t.fFrom.toNat 0 = f at *
 generalize p.fVersions.getD t.fTo.toNat 0 = g at *
 rw [NU N t.fOK f g (by omega) hN, NU N t.fRewrite f f (by omega) hN]
 simp only [Option.bind_some]
 cases hq : sq t.fOK f g
 ·rfl
 simp only [Bool.not_true, Au]
 by_cases k4 : t.fKind = 4
 ·have : (t.fKind != 4) = false := by simp [k4]
  rw [this, Au]
  simp only [k4, if_true]
  cases hr : sq t.fRewrite f f
  ·rfl
  ·have h7 := L9 hr
   simp only [Bool.not_true, Au]
   rw [TD N t (by omega) hN (fun row hm => by have := h7.2 row hm; omega)]
   cases HE t.fRewrite <;> simp [BD]
 ·have : (t.fKind != 4) = true := by simpa using k4
  rw [this, AN]
  simp only [k4, if_false]
  by_cases hr : t.fRewrite.length = 0
  ·simp [hr]
  ·have : ((t.fRewrite.length : Int) != 0) = true := bne_iff_ne.2 (by omega)
   rw [this]; simp [hr]
theorem UB (N : Nat) (k : Int) (a : Bool) : F2 N k a = some (k == 1 || (k == 2 || ((k == 3 || k == 4) && !a))) := by
 unfold F2
 simp only [Bv]
 cases h1 : k == 1 <;> cases h2 : k == 2 <;> cases h3 : k == 3 <;> cases h4 : k == 4 <;> cases a <;> rfl
theorem Mv (N : Nat) (p : Ae) (t : AF) (hN : N ≤ 1000000) (h6 : 7 ≤ N) (hv : ∀ v, v ∈ p.fVersions → 1 ≤ v ∧ v ≤ 6) : FA N p t = some (DI p t) := by
 unfold FA DI
 simp only [Bv, UB, NQ, Option.bind_some]
 by_cases hb : t.fKind < 1 ∨ 4 < t.fKind ∨ (t.fAware = true ∧ (t.fKind = 3 ∨ t.fKind = 4))
 ·have : (t.fKind == 1 || (t.fKind == 2 || ((t.fKind == 3 || t.fKind == 4) && !t.fAware))) = false := by
   rcases hb with h | h | ⟨ha, h | h⟩
   ·rw [beq_eq_false_iff_ne.2 (by omega : t.fKind ≠ 1), beq_eq_false_iff_ne.2 (by omega : t.fKind ≠ 2), beq_eq_false_iff_ne.2 (by omega : t.fKind ≠ 3), beq_eq_false_iff_ne.2 (by omega : t.fKind ≠ 4)]; rfl
   ·rw [beq_eq_false_iff_ne.2 (by omega : t.fKind ≠ 1), beq_eq_false_iff_ne.2 (by omega : t.fKind ≠ 2), beq_eq_false_iff_ne.2 (by omega : t.fKind ≠ 3), beq_eq_false_iff_ne.2 (by omega : t.fKind ≠ 4)]; rfl
   ·simp [ha, h]
   ·simp [ha, h]
  rw [this, if_pos hb]; rfl
 ·have : (t.fKind == 1 || (t.fKind == 2 || ((t.fKind == 3 || t.fKind == 4) && !t.fAware))) = true := by
   have hk : t.fKind = 1 ∨ t.fKind = 2 ∨ t.fKind = 3 ∨ t.fKind = 4 := by
    have h1 : ¬ t.fKind < 1 := fun h => hb (.inl h)
    have h2 : ¬ 4 < t.fKind := fun h => hb (.inr (.inl h))
    omega
   rcases hk with h | h | h | h
   ·simp [h]
   ·simp [h]
   ·cases ha : t.fAware
    ·simp [h]
    ·exact (hb (.inr (.inr ⟨ha, .inl h⟩))).elim
   ·cases ha : t.fAware
    ·simp [h]
    ·exact (hb (.inr (.inr ⟨ha, .inr h⟩))).elim
  rw [this, if_neg hb]
  simp only [Bool.not_true, Au]
  by_cases f1 : t.fFrom < 0
  ·simp [f1, show ¬ (0 ≤ t.fFrom) from by omega]
  by_cases f2 : (p.fVersions.length : Int) ≤ t.fFrom
  ·simp [f2, show ¬ (t.fFrom < (p.fVersions.length : Int)) from by omega]
  by_cases f3 : t.fTo < 0
  ·simp [f3, show 0 ≤ t.fFrom from by omega, show t.fFrom < (p.fVersions.length : Int) from by omega, show ¬ (0 ≤ t.fTo) from by omega]
  by_cases f4 : (p.fVersions.length : Int) ≤ t.fTo
  ·simp [f4, show 0 ≤ t.fFrom from by omega, show t.fFrom < (p.fVersions.length : Int) from by omega, show ¬ (t.fTo < (p.fVersions.length : Int)) from by omega]
  rw [if_neg (fun h => h.elim f1 fun h => h.elim f2 fun h => h.elim f3 f4)]
  have hf := JB hv (i := t.fFrom) (by omega) (by omega)
  have hg := JB hv (i := t.fTo) (by omega) (by omega)
  rw [decide_eq_true (by omega : 0 ≤ t.fFrom), decide_eq_true (by omega : t.fFrom < (p.fVersions.length : Int)), decide_eq_true (by omega : 0 ≤ t.fTo), decide_eq_true (by omega : t.fTo < (p.fVersions.length : Int)), Em (d := 0) (by omega : 0 ≤ t.fFrom) (by omega), Em (d := 0) (by omega : 0 ≤ t.fTo) (by omega)]
  simp only [Bool.and_self, Bool.not_true, Au, Option.bind_some]
  generalize p.fVersions.getD t.fFrom.toNat 0 = f at *
  generalize p.fVersions.getD t.fTo.toNat 0 = g at *
  rw [Oc N t.fOK f g (by omega) hN, Oc N t.fRewrite f f (by omega) hN]
  simp only [Option.bind_some]
  cases hq : sq t.fOK f g
  ·rfl
  simp only [Bool.not_true, Au]
  by_cases k4 : t.fKind = 4
  ·simp only [k4, beq_self_eq_true, AN, if_true]
   cases hr : sq t.fRewrite f f
   ·rfl
   ·have h7 := L9 hr
    simp only [Bool.not_true, Au]
    rw [NR N t (by omega) hN (fun row hm => by have := h7.2 row hm; omega)]
    cases HE t.fRewrite <;> simp [BD]
  ·have : (t.fKind == 4) = false := beq_eq_false_iff_ne.2 k4
   rw [this, Au]
   simp only [k4, if_false, Bool.not_false, AN]
   by_cases hr : t.fRewrite.length = 0
   ·rw [NR N t (by omega) hN (fun row hm => by rw [List.eq_nil_of_length_eq_zero hr] at hm; cases hm), List.eq_nil_of_length_eq_zero hr]
    simp [HE, Dd, BD]
   ·rw [decide_eq_true (by omega : 0 < (t.fRewrite.length : Int))]
    simp [hr]
end Go.Lift

/- The test of a problem: both implementations give one answer. -/
namespace Go.Lift
def Fk (p : Ae) (i : Nat) (v : Int) : Option Int :=
 if v < 1 ∨ 6 < v ∨ p.fNow.getD i 0 < 0 ∨ v ≤ p.fNow.getD i 0 ∨ p.fTarget.getD i 0 < 0 ∨ v ≤ p.fTarget.getD i 0 then some 7 else none
def Ky (p : Ae) (_ : Nat) (t : AF) : Option Int := if DI p t = 0 then none else some (DI p t)
def BP (p : Ae) : Int :=
 if 6 < p.fVersions.length ∨ 12 < p.fTables.length then 3
 else if p.fNow.length ≠ p.fVersions.length ∨ p.fTarget.length ≠ p.fVersions.length then 6
 else ((BD (Dd (Fk p) 0 p.fVersions) (Dd (Ky p) 0 p.fTables)).getD 0)
theorem Eo {α R : Type} {f : Nat → α → Option R} : ∀ {i : Nat} {xs : List α}, Dd f i xs = none → ∀ j x, xs[j]? = some x → f (i + j) x = none
 | _, [], _, j, x, hx => by simp at hx
 | i, y :: ys, h, j, x, hx => by
  rw [FL] at h
  split at h
  ·cases h
  ·rename_i h0
   cases j with
   | zero => simp at hx; subst hx; exact h0
   | succ j =>
    have := Eo h j x (by simpa using hx)
    rwa [show i + 1 + j = i + (j + 1) from by omega] at this
theorem Mt {p : Ae} (h : Dd (Fk p) 0 p.fVersions = none) : ∀ v, v ∈ p.fVersions → 1 ≤ v ∧ v ≤ 6 := by
 intro v hv
 obtain ⟨i, hi⟩ := List.mem_iff_getElem?.1 hv
 have := Eo h i v hi
 unfold Fk at this
 split at this
 ·cases this
 ·rename_i hn
  constructor
  ·exact Int.not_lt.1 fun h => hn (.inl h)
  ·exact Int.not_lt.1 fun h => hn (.inr (.inl h))
theorem CN {α : Type} {xs : List α} {i : Nat} {d : α} (h : i < xs.length) : BZ xs (i : Int) = some (xs.getD i d) := by
 rw [A2, List.getD_eq_getElem?_getD]; simp [h]
theorem QX (N : Nat) (p : Ae) (hN : N ≤ 1000000) (h1 : p.fVersions.length < N) (h2 : p.fNow.length = p.fVersions.length) (h3 : p.fTarget.length = p.fVersions.length) (j : Option Int) :
  Bg N p (fun _ => j) N 0 = BD (Dd (Fk p) 0 p.fVersions) j := by
 have := Cm (Bg N p (fun _ => j)) p.fVersions j (Fk p)
  (fun n i x hx => by
   have hi := (List.getElem?_eq_some_iff.1 hx).1
   rw [Bg, AL (by omega), A2, hx]
   simp only [Option.bind_some, Bv]
   rw [CN (d := 0) (by omega), CN (d := 0) (by omega), AM (by omega)]
   simp only [Option.bind_some]
   unfold Fk
   generalize p.fNow.getD i 0 = a
   generalize p.fTarget.getD i 0 = b
   by_cases k1 : x < 1 <;> by_cases k2 : 6 < x <;> by_cases k3 : a < 0 <;> by_cases k4 : x ≤ a <;> by_cases k5 : b < 0 <;> by_cases k6 : x ≤ b <;> simp [k1, k2, k3, k4, k5, k6, BD])
  (fun n => by rw [Bg, AH (by omega)]) N 0 (by omega) (by omega)
 simpa using this
theorem Ot (N : Nat) (p : Ae) (hN : N ≤ 1000000) (h1 : p.fVersions.length < N) (h2 : p.fNow.length = p.fVersions.length) (h3 : p.fTarget.length = p.fVersions.length) (j : Option Int) :
  BX N p (fun _ => j) N 0 = BD (Dd (Fk p) 0 p.fVersions) j := by
 have := Cm (BX N p (fun _ => j)) p.fVersions j (Fk p)
  (fun n i x hx => by
   have hi := (List.getElem?_eq_some_iff.1 hx).1
   rw [BX, AL (by omega), A2, hx]
   simp only [Option.bind_some, Bv, NQ]
   rw [CN (d := 0) (by omega), CN (d := 0) (by omega), AM (by omega)]
   simp only [Option.bind_some]
   unfold Fk
   generalize p.fNow.getD i 0 = a
   generalize p.fTarget.getD i 0 = b
   have e1 : decide (0 ≤ a) = !decide (a < 0) := by rw [← decide_not]; congr 1; simp
   have e2 : decide (a < x) = !decide (x ≤ a) := by rw [← decide_not]; congr 1; simp
   have e3 : decide (0 ≤ b) = !decide (b < 0) := by rw [← decide_not]; congr 1; simp
   have e4 : decide (b < x) = !decide (x ≤ b) := by rw [← decide_not]; congr 1; simp
   rw [e1, e2, e3, e4]
   by_cases k1 : x < 1 <;> by_cases k2 : 6 < x <;> by_cases k3 : a < 0 <;> by_cases k4 : x ≤ a <;> by_cases k5 : b < 0 <;> by_cases k6 : x ≤ b <;> simp [k1, k2, k3, k4, k5, k6, BD])
  (fun n => by rw [BX, AH (by omega)]) N 0 (by omega) (by omega)
 simpa using this
theorem Si (N : Nat) (p : Ae) (hN : N ≤ 1000000) (h6 : 7 ≤ N) (h1 : p.fTables.length < N) (hv : ∀ v, v ∈ p.fVersions → 1 ≤ v ∧ v ≤ 6) (j : Option Int) :
  Ba N p (fun _ => j) N 0 = BD (Dd (Ky p) 0 p.fTables) j := by
 have := Cm (Ba N p (fun _ => j)) p.fTables j (Ky p)
  (fun n i x hx => by
   have hi := (List.getElem?_eq_some_iff.1 hx).1
   rw [Ba, AL (by omega), A2, hx]
   simp only [Option.bind_some]
   rw [RU N p x hN h6 hv, AM (by omega)]
   simp only [Option.bind_some]
   unfold Ky
   by_cases k : DI p x = 0
   ·simp [k, BD]
   ·rw [bne_iff_ne.2 k, if_neg k]; rfl)
  (fun n => by rw [Ba, AH (by omega)]) N 0 (by omega) (by omega)
 simpa using this
theorem QV (N : Nat) (p : Ae) (hN : N ≤ 1000000) (h6 : 7 ≤ N) (h1 : p.fTables.length < N) (hv : ∀ v, v ∈ p.fVersions → 1 ≤ v ∧ v ≤ 6) (j : Option Int) :
  BM N p (fun _ => j) N 0 = BD (Dd (Ky p) 0 p.fTables) j := by
 have := Cm (BM N p (fun _ => j)) p.fTables j (Ky p)
  (fun n i x hx => by
   have hi := (List.getElem?_eq_some_iff.1 hx).1
   rw [BM, AL (by omega), A2, hx]
   simp only [Option.bind_some]
   rw [Mv N p x hN h6 hv, AM (by omega)]
   simp only [Option.bind_some]
   unfold Ky
   by_cases k : DI p x = 0
   ·simp [k, BD]
   ·rw [bne_iff_ne.2 k, if_neg k]; rfl)
  (fun n => by rw [BM, AH (by omega)]) N 0 (by omega) (by omega)
 simpa using this
theorem Mg (N : Nat) (p : Ae) (hN : N ≤ 1000000) (h : 20 ≤ N) : Cl N p = some (BP p) := by
 unfold Cl BP
 simp only [Bv]
 by_cases k1 : 6 < p.fVersions.length
 ·rw [AL (by omega)]; simp [k1]
 rw [AH (by omega)]
 by_cases k2 : 12 < p.fTables.length
 ·rw [decide_eq_true (by omega : (12 : Int) < (p.fTables.length : Int))]; simp [k2]
 rw [decide_eq_false (by omega : ¬ (12 : Int) < (p.fTables.length : Int)), Au, if_neg (by omega)]
 by_cases k3 : p.fNow.length = p.fVersions.length
 ·by_cases k4 : p.fTarget.length = p.fVersions.length
  ·rw [k3, k4]
   simp only [bne_self_eq_false, Au, ne_eq, not_true_eq_false, or_self, if_false]
   rw [QX N p hN (by omega) k3 k4]
   cases hs : Dd (Fk p) 0 p.fVersions with
   | some r => rfl
   | none =>
    simp only [BD]
    rw [Si N p hN (by omega) (by omega) (Mt hs)]
    cases Dd (Ky p) 0 p.fTables <;> rfl
  ·have : ((p.fTarget.length : Int) != (p.fVersions.length : Int)) = true := bne_iff_ne.2 (by omega)
   rw [this, k3]; simp [k4]
 ·have : ((p.fNow.length : Int) != (p.fVersions.length : Int)) = true := bne_iff_ne.2 (by omega)
  rw [this]; simp [k3]
theorem KY (N : Nat) (p : Ae) (hN : N ≤ 1000000) (h : 20 ≤ N) : Db N p = some (BP p) := by
 unfold Db BP
 simp only [Bv]
 by_cases k1 : 6 < p.fVersions.length
 ·rw [AL (by omega)]; simp [k1]
 rw [AH (by omega)]
 by_cases k2 : 12 < p.fTables.length
 ·rw [decide_eq_true (by omega : (12 : Int) < (p.fTables.length : Int))]; simp [k2]
 rw [decide_eq_false (by omega : ¬ (12 : Int) < (p.fTables.length : Int)), Au, if_neg (by omega)]
 by_cases k3 : p.fNow.length = p.fVersions.length
 ·by_cases k4 : p.fTarget.length = p.fVersions.length
  ·rw [k3, k4]
   simp only [bne_self_eq_false, Au, ne_eq, not_true_eq_false, or_self, if_false]
   rw [Ot N p hN (by omega) k3 k4]
   cases hs : Dd (Fk p) 0 p.fVersions with
   | some r => rfl
   | none =>
    simp only [BD]
    rw [QV N p hN (by omega) (by omega) (Mt hs)]
    cases Dd (Ky p) 0 p.fTables <;> rfl
  ·have : ((p.fTarget.length : Int) != (p.fVersions.length : Int)) = true := bne_iff_ne.2 (by omega)
   rw [this, k3]; simp [k4]
 ·have : ((p.fNow.length : Int) != (p.fVersions.length : Int)) = true := bne_iff_ne.2 (by omega)
  rw [this]; simp [k3]
end Go.Lift

/- The test of a mix: both implementations give one answer. -/
namespace Go.Lift
theorem HB {n : Int} (h : JU n) : 0 ≤ n ∧ n ≤ 255 := by
 unfold JU at h
 simpa [Lit.wf, IntKind.min, IntKind.max, IntKind.signed, IntKind.bits] using h
theorem Nt : ∀ k : Fin 256, CY .u8 0 (k.val : Int) = 0 := by decide +kernel
theorem ND : ∀ k : Fin 256, CY .u8 (k.val : Int) 0 = (k.val : Int) := by decide +kernel
theorem Su {n : Int} (h : JU n) : CY .u8 0 n = 0 := by
 have := HB h
 obtain ⟨k, rfl⟩ := Int.eq_ofNat_of_zero_le this.1
 exact Nt ⟨k, by omega⟩
theorem SD {n : Int} (h : JU n) : CY .u8 n 0 = n := by
 have := HB h
 obtain ⟨k, rfl⟩ := Int.eq_ofNat_of_zero_le this.1
 exact ND ⟨k, by omega⟩
theorem DW {α R : Type} {f : Nat → α → Option R} : ∀ {i : Nat} {xs : List α} {r : R}, Dd f i xs = some r → ∃ j x, xs[j]? = some x ∧ f (i + j) x = some r
 | _, [], _, h => by cases h
 | i, y :: ys, r, h => by
  rw [FL] at h
  split at h
  ·rename_i r' h0
   cases h
   exact ⟨0, y, rfl, h0⟩
  ·obtain ⟨j, x, h1, h2⟩ := DW h
   exact ⟨j + 1, x, by simpa using h1, by rwa [show i + (j + 1) = i + 1 + j from by omega]⟩
structure Bi (p : Ae) : Prop where
 nv : p.fVersions.length ≤ 6
 nt : p.fTables.length ≤ 12
 now : p.fNow.length = p.fVersions.length
 tgt : p.fTarget.length = p.fVersions.length
 ver : ∀ v, v ∈ p.fVersions → 1 ≤ v ∧ v ≤ 6
 tab : ∀ t, t ∈ p.fTables → DI p t = 0
theorem QJ (l : List (List Bool)) : (HE l).getD 0 = 0 ∨ (HE l).getD 0 = 1 := by
 cases h : HE l with
 | none => exact .inl rfl
 | some r =>
  obtain ⟨j, x, _, h⟩ := DW h
  split at h
  ·cases h
  ·cases h; exact .inr rfl
theorem OA (p : Ae) (t : AF) : DI p t = 0 ∨ DI p t = 1 ∨ DI p t = 4 ∨ DI p t = 6 := by
 unfold DI
 split
 ·exact .inr (.inl rfl)
 split
 ·exact .inr (.inr (.inl rfl))
 simp only
 split
 ·exact .inr (.inr (.inr rfl))
 split
 ·split
  ·exact .inr (.inr (.inr rfl))
  ·rcases QJ t.fRewrite with h | h
   ·exact .inl h
   ·exact .inr (.inl h)
 ·split
  ·exact .inl rfl
  ·exact .inr (.inr (.inr rfl))
theorem Gx (p : Ae) : (BP p = 0 ∧ Bi p) ∨ (BP p = 1 ∨ BP p = 3 ∨ BP p = 4 ∨ BP p = 6 ∨ BP p = 7) := by
 unfold BP
 split
 ·simp
 rename_i k1
 split
 ·simp
 rename_i k2
 cases hs : Dd (Fk p) 0 p.fVersions with
 | some r =>
  obtain ⟨j, x, _, h⟩ := DW hs
  unfold Fk at h
  split at h
  ·cases h; simp [BD]
  ·cases h
 | none =>
  cases ht : Dd (Ky p) 0 p.fTables with
  | some r =>
   obtain ⟨j, t, _, h⟩ := DW ht
   unfold Ky at h
   split at h
   ·cases h
   ·rename_i hne
    cases h
    simp only [BD, Option.getD_some]
    right
    rcases OA p t with h | h | h | h
    ·exact (hne h).elim
    ·exact .inl h
    ·exact .inr (.inr (.inl h))
    ·exact .inr (.inr (.inr (.inl h)))
  | none =>
   left
   refine ⟨rfl, by omega, by omega, by omega, by omega, Mt hs, fun t hm => ?_⟩
   obtain ⟨j, hj⟩ := List.mem_iff_getElem?.1 hm
   have := Eo ht j t hj
   unfold Ky at this
   split at this
   ·assumption
   ·cases this
end Go.Lift

/- The test of a mix: both implementations give one answer. -/
namespace Go.Lift
def FZ (m : Ah) (s : Nat) : Int :=
 if 0 ≤ m.fNext.getD s 0 then Ng .u8 (Dw .u8 1 (m.fBase.getD s 0)) (Dw .u8 1 (m.fNext.getD s 0)) else Dw .u8 1 (m.fBase.getD s 0)
def Kf (m : Ah) (i : Nat) (v : Int) : Option Int :=
 if m.fBase.getD i 0 < 0 ∨ v ≤ m.fBase.getD i 0 ∨ m.fNext.getD i 0 < -1 ∨ v ≤ m.fNext.getD i 0 then some 7
 else if m.fBase.getD i 0 = m.fNext.getD i 0 then some 1 else none
def B7 (t : AF) : Bool := t.fKind == 3 || t.fKind == 4
def TU (p : Ae) (t : AF) : Int := IntKind.wrap .u8 (Dw .u8 1 (p.fVersions.getD t.fFrom.toNat 0) - 1)
def H9 (p : Ae) (m : Ah) (i : Nat) (t : AF) : Option Int :=
 if B7 t = true then (if CY .u8 (FZ m t.fFrom.toNat) (m.fHeld.getD i 0) ≠ 0 ∨ CY .u8 (m.fHeld.getD i 0) (TU p t) ≠ 0 then some 1 else none)
 else if m.fHeld.getD i 0 ≠ 0 then some 1 else none
def EM (p : Ae) (m : Ah) : Int :=
 if BP p ≠ 0 then BP p
 else if m.fBase.length ≠ p.fVersions.length ∨ m.fNext.length ≠ p.fVersions.length ∨ m.fHeld.length ≠ p.fTables.length then 6
 else (BD (Dd (Kf m) 0 p.fVersions) (Dd (H9 p m) 0 p.fTables)).getD 0
theorem HH {p : Ae} {t : AF} (h : DI p t = 0) : 0 ≤ t.fFrom ∧ t.fFrom < (p.fVersions.length : Int) ∧ 0 ≤ t.fTo ∧ t.fTo < (p.fVersions.length : Int) := by
 unfold DI at h
 split at h
 ·cases h
 ·split at h
  ·cases h
  ·omega
theorem Kv (N : Nat) (m : Ah) (s : Int) (h0 : 0 ≤ s) (h1 : s < (m.fBase.length : Int)) (h2 : s < (m.fNext.length : Int)) (hb : 0 ≤ m.fBase.getD s.toNat 0) : Ev N m s = some (FZ m s.toNat) := by
 unfold Ev FZ
 rw [Em (d := 0) h0 h1, Em (d := 0) h0 h2]
 simp only [Option.bind_some, Bv]
 rw [show Eg (0 ≤ m.fBase.getD s.toNat 0) = some () from by unfold Eg; rw [if_pos hb]]
 simp only [Option.bind_some]
 by_cases h : 0 ≤ m.fNext.getD s.toNat 0
 ·rw [AL h, if_pos h, show Eg (0 ≤ m.fNext.getD s.toNat 0) = some () from by unfold Eg; rw [if_pos h]]; rfl
 ·rw [AH h, if_neg h]
theorem IH (N : Nat) (m : Ah) (s : Int) (h0 : 0 ≤ s) (h1 : s < (m.fBase.length : Int)) (h2 : s < (m.fNext.length : Int)) (hb : 0 ≤ m.fBase.getD s.toNat 0) : BR N m s = some (FZ m s.toNat) := by
 unfold BR FZ
 rw [Em (d := 0) h0 h1, Em (d := 0) h0 h2]
 simp only [Option.bind_some, Bv]
 rw [show Eg (0 ≤ m.fBase.getD s.toNat 0) = some () from by unfold Eg; rw [if_pos hb]]
 simp only [Option.bind_some]
 by_cases h : 0 ≤ m.fNext.getD s.toNat 0
 ·rw [AL h, if_pos h, show Eg (0 ≤ m.fNext.getD s.toNat 0) = some () from by unfold Eg; rw [if_pos h]]; rfl
 ·rw [AH h, if_neg h]
theorem OJ (N : Nat) (p : Ae) (m : Ah) (hN : N ≤ 1000000) (h1 : p.fVersions.length < N) (h2 : m.fBase.length = p.fVersions.length) (h3 : m.fNext.length = p.fVersions.length) (j : Option Int) :
  DF N p m (fun _ => j) N 0 = BD (Dd (Kf m) 0 p.fVersions) j := by
 have := Cm (DF N p m (fun _ => j)) p.fVersions j (Kf m)
  (fun n i x hx => by
   have hi := (List.getElem?_eq_some_iff.1 hx).1
   rw [DF, AL (by omega), A2, hx]
   simp only [Option.bind_some, Bv]
   rw [CN (d := 0) (by omega), CN (d := 0) (by omega), AM (by omega)]
   simp only [Option.bind_some]
   unfold Kf
   generalize m.fBase.getD i 0 = a
   generalize m.fNext.getD i 0 = b
   by_cases k7 : a = b
   ·subst k7
    by_cases k3 : a < 0 <;> by_cases k4 : x ≤ a <;> by_cases k5 : a < -1 <;> simp [k3, k4, k5, BD]
   ·have k8 : (a == b) = false := beq_eq_false_iff_ne.2 k7
    by_cases k3 : a < 0 <;> by_cases k4 : x ≤ a <;> by_cases k5 : b < -1 <;> by_cases k6 : x ≤ b <;> simp [k3, k4, k5, k6, k7, k8, BD])
  (fun n => by rw [DF, AH (by omega)]) N 0 (by omega) (by omega)
 simpa using this
theorem O7 (N : Nat) (p : Ae) (m : Ah) (hN : N ≤ 1000000) (h1 : p.fVersions.length < N) (h2 : m.fBase.length = p.fVersions.length) (h3 : m.fNext.length = p.fVersions.length) (j : Option Int) :
  B2 N p m (fun _ => j) N 0 = BD (Dd (Kf m) 0 p.fVersions) j := by
 have := Cm (B2 N p m (fun _ => j)) p.fVersions j (Kf m)
  (fun n i x hx => by
   have hi := (List.getElem?_eq_some_iff.1 hx).1
   rw [B2, AL (by omega), show BZ p.fVersions (i : Int) = some x from by rw [A2, hx]]
   simp only [Option.bind_some, Bv]
   rw [CN (d := 0) (by omega), CN (d := 0) (by omega), AM (by omega)]
   simp only [Option.bind_some]
   unfold Kf
   generalize m.fBase.getD i 0 = a
   generalize m.fNext.getD i 0 = b
   by_cases k7 : a = b
   ·subst k7
    by_cases k3 : a < 0 <;> by_cases k4 : x ≤ a <;> by_cases k5 : a < -1 <;> simp [k3, k4, k5, BD]
   ·have k8 : (a == b) = false := beq_eq_false_iff_ne.2 k7
    by_cases k3 : a < 0 <;> by_cases k4 : x ≤ a <;> by_cases k5 : b < -1 <;> by_cases k6 : x ≤ b <;> simp [k3, k4, k5, k6, k7, k8, BD])
  (fun n => by rw [B2, AH (by omega)]) N 0 (by omega) (by omega)
 simpa using this
end Go.Lift

/- The test of a mix, the whole: both implementations give one answer. -/
namespace Go.Lift
structure MixServ (p : Ae) (m : Ah) : Prop where
 base : m.fBase.length = p.fVersions.length
 next : m.fNext.length = p.fVersions.length
 held : m.fHeld.length = p.fTables.length
 b0 : ∀ i, i < p.fVersions.length → 0 ≤ m.fBase.getD i 0 ∧ m.fBase.getD i 0 < p.fVersions.getD i 0
 n0 : ∀ i, i < p.fVersions.length → -1 ≤ m.fNext.getD i 0 ∧ m.fNext.getD i 0 < p.fVersions.getD i 0
 ne : ∀ i, i < p.fVersions.length → m.fBase.getD i 0 ≠ m.fNext.getD i 0
theorem On {p : Ae} {m : Ah} (h2 : m.fBase.length = p.fVersions.length) (h3 : m.fNext.length = p.fVersions.length) (h4 : m.fHeld.length = p.fTables.length) (h : Dd (Kf m) 0 p.fVersions = none) : MixServ p m := by
 have key : ∀ i, i < p.fVersions.length → ¬ (m.fBase.getD i 0 < 0 ∨ p.fVersions.getD i 0 ≤ m.fBase.getD i 0 ∨ m.fNext.getD i 0 < -1 ∨ p.fVersions.getD i 0 ≤ m.fNext.getD i 0) ∧ ¬ m.fBase.getD i 0 = m.fNext.getD i 0 := by
  intro i hi
  have hx : p.fVersions[i]? = some (p.fVersions.getD i 0) := by rw [List.getD_eq_getElem?_getD]; simp [hi]
  have := Eo h i _ hx
  rw [Nat.zero_add] at this
  unfold Kf at this
  split at this
  ·cases this
  ·split at this
   ·cases this
   ·rename_i k1 k2; exact ⟨k1, k2⟩
 exact ⟨h2, h3, h4, fun i hi => by have := (key i hi).1; omega, fun i hi => by have := (key i hi).1; omega, fun i hi => (key i hi).2⟩
theorem PR {m : Ah} (hw : Mf JU m.fHeld) {i : Nat} (h : i < m.fHeld.length) : JU (m.fHeld.getD i 0) := by
 refine hw _ ?_
 rw [List.getD_eq_getElem?_getD, List.getElem?_eq_getElem h]
 exact List.getElem_mem _
theorem If (N : Nat) (t : AF) : EN N t = some (B7 t) := by
 unfold EN B7
 simp only [Bv]
 cases h : t.fKind == 3 <;> simp
theorem FV (N : Nat) (t : AF) : A5 N t = some (B7 t) := Lw N t
theorem Qu (N : Nat) (p : Ae) (m : Ah) (hN : N ≤ 1000000) (h1 : p.fTables.length < N) (hp : Bi p) (hm : MixServ p m) (hw : Mf JU m.fHeld) (j : Option Int) :
  Di N p m (fun _ => j) N 0 = BD (Dd (H9 p m) 0 p.fTables) j := by
 have := Cm (Di N p m (fun _ => j)) p.fTables j (H9 p m)
  (fun n i x hx => by
   have hi := (List.getElem?_eq_some_iff.1 hx).1
   have hin := HH (hp.tab x (List.mem_of_getElem? hx))
   have hheld := PR hw (show i < m.fHeld.length from by rw [hm.held]; exact hi)
   have hv := JB hp.ver hin.1 hin.2.1
   rw [Di, AL (by omega), A2, hx]
   simp only [Option.bind_some, Bv, If]
   rw [Kv N m x.fFrom hin.1 (by rw [hm.base]; exact hin.2.1) (by rw [hm.next]; exact hin.2.1) (hm.b0 _ (by omega)).1, Em (d := 0) hin.1 hin.2.1, CN (d := 0) (show i < m.fHeld.length from by rw [hm.held]; exact hi), AM (by omega)]
   simp only [Option.bind_some]
   rw [show Eg (0 ≤ p.fVersions.getD x.fFrom.toNat 0) = some () from by unfold Eg; rw [if_pos (by omega)]]
   simp only [Option.bind_some]
   unfold H9 TU
   rw [Su hheld, SD hheld]
   generalize CY .u8 (FZ m x.fFrom.toNat) (m.fHeld.getD i 0) = A
   generalize CY .u8 (m.fHeld.getD i 0) (IntKind.wrap .u8 (Dw .u8 1 (p.fVersions.getD x.fFrom.toNat 0) - 1)) = B
   generalize m.fHeld.getD i 0 = H
   cases B7 x
   ·simp only [Au, bne_self_eq_false]
    by_cases k : H = 0
    ·simp [k, BD]
    ·have : (H != 0) = true := bne_iff_ne.2 k
     simp [k, this, BD]
   ·simp only [AN]
    by_cases k : A = 0
    ·by_cases k2 : B = 0
     ·simp [k, k2, BD]
     ·have : (B != 0) = true := bne_iff_ne.2 k2
      simp [k, k2, this, BD]
    ·have : (A != 0) = true := bne_iff_ne.2 k
     simp [k, this, BD])
  (fun n => by rw [Di, AH (by omega)]) N 0 (by omega) (by omega)
 simpa using this
theorem QH (N : Nat) (p : Ae) (m : Ah) (hN : N ≤ 1000000) (h1 : p.fTables.length < N) (hp : Bi p) (hm : MixServ p m) (j : Option Int) :
  BT N p m (fun _ => j) N 0 = BD (Dd (H9 p m) 0 p.fTables) j := by
 have := Cm (BT N p m (fun _ => j)) p.fTables j (H9 p m)
  (fun n i x hx => by
   have hi := (List.getElem?_eq_some_iff.1 hx).1
   have hin := HH (hp.tab x (List.mem_of_getElem? hx))
   have hv := JB hp.ver hin.1 hin.2.1
   rw [BT, AL (by omega), A2, hx]
   simp only [Option.bind_some, Bv, FV]
   rw [IH N m x.fFrom hin.1 (by rw [hm.base]; exact hin.2.1) (by rw [hm.next]; exact hin.2.1) (hm.b0 _ (by omega)).1, Em (d := 0) hin.1 hin.2.1, CN (d := 0) (show i < m.fHeld.length from by rw [hm.held]; exact hi), AM (by omega)]
   simp only [Option.bind_some]
   rw [show Eg (0 ≤ p.fVersions.getD x.fFrom.toNat 0) = some () from by unfold Eg; rw [if_pos (by omega)]]
   simp only [Option.bind_some]
   unfold H9 TU
   generalize CY .u8 (FZ m x.fFrom.toNat) (m.fHeld.getD i 0) = A
   generalize CY .u8 (m.fHeld.getD i 0) (IntKind.wrap .u8 (Dw .u8 1 (p.fVersions.getD x.fFrom.toNat 0) - 1)) = B
   generalize m.fHeld.getD i 0 = H
   cases B7 x
   ·simp only [Bool.not_false, AN, Au]
    by_cases k : H = 0
    ·simp [k, BD]
    ·have : (H != 0) = true := bne_iff_ne.2 k
     simp [k, this, BD]
   ·simp only [Bool.not_true, Au, AN]
    by_cases k : A = 0
    ·by_cases k2 : B = 0
     ·simp [k, k2, BD]
     ·have : (B != 0) = true := bne_iff_ne.2 k2
      simp [k, k2, this, BD]
    ·have : (A != 0) = true := bne_iff_ne.2 k
     by_cases k2 : B = 0
     ·simp [k, k2, this, BD]
     ·have h5 : (B != 0) = true := bne_iff_ne.2 k2
      simp [k, h5, BD])
  (fun n => by rw [BT, AH (by omega)]) N 0 (by omega) (by omega)
 simpa using this
theorem Hk (N : Nat) (p : Ae) (m : Ah) (hN : N ≤ 1000000) (h : 20 ≤ N) (hw : Mf JU m.fHeld) : ED N p m = some (EM p m) := by
 unfold ED EM
 rw [KY N p hN h]
 simp only [Option.bind_some, Bv]
 by_cases k0 : BP p = 0
 ·have hp : Bi p := by
   rcases Gx p with h | h
   ·exact h.2
   ·omega
  have hnv := hp.nv
  have hnt := hp.nt
  rw [k0]
  simp only [bne_self_eq_false, Au, ne_eq, not_true_eq_false, if_false]
  by_cases k1 : m.fBase.length = p.fVersions.length
  ·by_cases k2 : m.fNext.length = p.fVersions.length
   ·by_cases k3 : m.fHeld.length = p.fTables.length
    ·rw [k1, k2, k3]
     simp only [bne_self_eq_false, Au, not_true_eq_false, or_self, if_false]
     rw [OJ N p m hN (by omega) k1 k2]
     cases hs : Dd (Kf m) 0 p.fVersions with
     | some r => rfl
     | none =>
      simp only [BD]
      rw [Qu N p m hN (by omega) hp (On k1 k2 k3 hs) hw]
      cases Dd (H9 p m) 0 p.fTables <;> rfl
    ·have : ((m.fHeld.length : Int) != (p.fTables.length : Int)) = true := bne_iff_ne.2 (by omega)
     rw [this, k1, k2]; simp [k3]
   ·have : ((m.fNext.length : Int) != (p.fVersions.length : Int)) = true := bne_iff_ne.2 (by omega)
    rw [this, k1]; simp [k2]
  ·have : ((m.fBase.length : Int) != (p.fVersions.length : Int)) = true := bne_iff_ne.2 (by omega)
   rw [this]; simp [k1]
 ·rw [bne_iff_ne.2 k0]; simp [k0]
theorem Hi (N : Nat) (p : Ae) (m : Ah) (hN : N ≤ 1000000) (h : 20 ≤ N) : CS N p m = some (EM p m) := by
 unfold CS EM
 rw [Mg N p hN h]
 simp only [Option.bind_some, Bv]
 by_cases k0 : BP p = 0
 ·have hp : Bi p := by
   rcases Gx p with h | h
   ·exact h.2
   ·omega
  have hnv := hp.nv
  have hnt := hp.nt
  rw [k0]
  simp only [bne_self_eq_false, Au, ne_eq, not_true_eq_false, if_false]
  by_cases k1 : m.fBase.length = p.fVersions.length
  ·by_cases k2 : m.fNext.length = p.fVersions.length
   ·by_cases k3 : m.fHeld.length = p.fTables.length
    ·rw [k1, k2, k3]
     simp only [bne_self_eq_false, Au, not_true_eq_false, or_self, if_false]
     rw [O7 N p m hN (by omega) k1 k2]
     cases hs : Dd (Kf m) 0 p.fVersions with
     | some r => rfl
     | none =>
      simp only [BD]
      rw [QH N p m hN (by omega) hp (On k1 k2 k3 hs)]
      cases Dd (H9 p m) 0 p.fTables <;> rfl
    ·have : ((m.fHeld.length : Int) != (p.fTables.length : Int)) = true := bne_iff_ne.2 (by omega)
     rw [this, k1, k2]; simp [k3]
   ·have : ((m.fNext.length : Int) != (p.fVersions.length : Int)) = true := bne_iff_ne.2 (by omega)
    rw [this, k1]; simp [k2]
  ·have : ((m.fBase.length : Int) != (p.fVersions.length : Int)) = true := bne_iff_ne.2 (by omega)
   rw [this]; simp [k1]
 ·rw [bne_iff_ne.2 k0]; simp [k0]
end Go.Lift

/- Loops of the shallow programs as folds along lists. -/
namespace Go.Lift
@[simp] theorem Bd {α β : Type} (k : α) (f : α → β) : Bv k f = f k := rfl
@[simp] theorem Sj {p : Prop} [Decidable p] (h : p) : Eg p = some () := by unfold Eg; rw [if_pos h]
theorem Az {β : Type} {p : Prop} [Decidable p] (h : p) (f : Unit → Option β) : (Eg p).bind f = f () := by rw [Sj h]; rfl
def CG {α β : Type} (g : Nat → α → List β) : Nat → List α → List β
 | _, [] => []
 | i, x :: xs => g i x ++ CG g (i + 1) xs
def He {α A : Type} (f : Nat → α → A → A) : Nat → List α → A → A
 | _, [], a => a
 | i, x :: xs, a => He f (i + 1) xs (f i x a)
theorem Lk {α β : Type} (g : Nat → α → List β) : ∀ (i : Nat) (xs ys : List α), CG g i (xs ++ ys) = CG g i xs ++ CG g (i + xs.length) ys
 | i, [], ys => by simp [CG]
 | i, x :: xs, ys => by
  rw [List.cons_append, CG, CG, Lk g (i + 1) xs ys, List.append_assoc, List.length_cons, Nat.add_assoc, Nat.add_comm 1]
theorem Gd {α β : Type} {g : Nat → α → List β} {y : β} : ∀ {i : Nat} {xs : List α}, y ∈ CG g i xs ↔ ∃ j x, xs[j]? = some x ∧ y ∈ g (i + j) x
 | _, [] => by simp [CG]
 | i, x :: xs => by
  rw [CG, List.mem_append, Gd]
  constructor
  ·rintro (h | ⟨j, z, hz, h⟩)
   ·exact ⟨0, x, rfl, h⟩
   ·exact ⟨j + 1, z, by simpa using hz, by rwa [show i + (j + 1) = i + 1 + j from by omega]⟩
  ·rintro ⟨j, z, hz, h⟩
   cases j with
   | zero => simp at hz; subst hz; exact .inl h
   | succ j => exact .inr ⟨j, z, by simpa using hz, by rwa [show i + 1 + j = i + (j + 1) from by omega]⟩
theorem Ff {α β : Type} {g : Nat → α → List β} {c : Nat} : ∀ {i : Nat} {xs : List α}, (∀ j x, xs[j]? = some x → (g (i + j) x).length ≤ c) → (CG g i xs).length ≤ c * xs.length
 | _, [], _ => by simp [CG]
 | i, x :: xs, h => by
  have h1 := h 0 x rfl
  have h2 := Ff (g := g) (c := c) (i := i + 1) (xs := xs) fun j y hy => by
   have := h (j + 1) y (by simpa using hy)
   rwa [show i + (j + 1) = i + 1 + j from by omega] at this
  rw [CG, List.length_append, List.length_cons, Nat.mul_add]
  simp only [Nat.add_zero] at h1
  omega
theorem Hv {α A S R : Type} (L : Nat → S → Option R) (mk : A → Int → S) (xs : List α) (j : A → Option R) (f : Nat → α → A → A) (I : Nat → A → Prop)
  (hs : ∀ (n i : Nat) (x : α) (a : A), xs[i]? = some x → I i a → L (n + 1) (mk a (i : Int)) = L n (mk (f i x a) ((i + 1 : Nat) : Int)) ∧ I (i + 1) (f i x a))
  (he : ∀ (n : Nat) (a : A), I xs.length a → L (n + 1) (mk a (xs.length : Int)) = j a) :
  ∀ (n i : Nat) (a : A), i ≤ xs.length → xs.length - i < n → I i a → L n (mk a (i : Int)) = j (He f i (xs.drop i) a) ∧ I xs.length (He f i (xs.drop i) a)
 | 0, i, _, _, h, _ => by omega
 | n + 1, i, a, hi, h, ha => by
  by_cases h1 : i < xs.length
  ·have hx : xs[i]? = some xs[i] := by simp [h1]
   obtain ⟨e1, e2⟩ := hs n i _ a hx ha
   rw [e1, Gg hx, He]
   exact Hv L mk xs j f I hs he n (i + 1) _ (by omega) (by omega) e2
  ·have : i = xs.length := by omega
   subst this
   rw [List.drop_eq_nil_of_le (Nat.le_refl _), He]
   exact ⟨he n a ha, ha⟩
theorem M5 {α β : Type} (g : Nat → α → List β) : ∀ (i : Nat) (xs : List α) (acc : List β), He (fun i x a => a ++ g i x) i xs acc = acc ++ CG g i xs
 | _, [], acc => by simp [He, CG]
 | i, x :: xs, acc => by rw [He, M5 g (i + 1) xs, CG, List.append_assoc]
theorem FF {α β S R : Type} (L : Nat → S → Option R) (mk : List β → Int → S) (xs : List α) (j : List β → Option R) (g : Nat → α → List β) (c B : Nat)
  (hg : ∀ i x, xs[i]? = some x → (g i x).length ≤ c)
  (hs : ∀ (n i : Nat) (x : α) (a : List β), xs[i]? = some x → a.length + (g i x).length ≤ B → L (n + 1) (mk a (i : Int)) = L n (mk (a ++ g i x) ((i + 1 : Nat) : Int)))
  (he : ∀ (n : Nat) (a : List β), L (n + 1) (mk a (xs.length : Int)) = j a) (n : Nat) (a : List β) (hn : xs.length < n) (ha : a.length + c * xs.length ≤ B) :
  L n (mk a 0) = j (a ++ CG g 0 xs) := by
 have := Hv L mk xs j (fun i x a => a ++ g i x) (fun i b => i ≤ xs.length ∧ b.length ≤ a.length + c * i)
  (fun n i x b hx hb => by
   have h1 := hg i x hx
   have hi := (List.getElem?_eq_some_iff.1 hx).1
   have h2 : c * (i + 1) ≤ c * xs.length := Nat.mul_le_mul_left c hi
   have h3 : c * (i + 1) = c * i + c := Nat.mul_succ c i
   refine ⟨hs n i x b hx (by have := hb.2; omega), hi, ?_⟩
   rw [List.length_append]
   have := hb.2
   omega)
  (fun n b _ => he n b) n 0 a (Nat.zero_le _) (by omega) ⟨Nat.zero_le _, by omega⟩
 have h2 := this.1
 rw [List.drop_zero, M5] at h2
 exact h2
end Go.Lift

/- Sets as bits, the mixes that are valid, and the conflicts of a mix: both implementations give one answer. -/
namespace Go.Lift
def Dn (s : Int) (v : Nat) : Bool := s.toNat.testBit v
def Hj (m : Ah) (s v : Nat) : Bool := decide (m.fBase.getD s 0 = (v : Int)) || decide (m.fNext.getD s 0 = (v : Int))
theorem Uk : ∀ (s : Fin 256) (v : Fin 8), FK .u8 (E2 .u8 (s.val : Int) (v.val : Int)) 1 = if Dn (s.val : Int) v.val then 1 else 0 := by decide +kernel
theorem O5 {s : Int} {v : Nat} (h0 : 0 ≤ s) (h1 : s ≤ 255) (hv : v < 8) : FK .u8 (E2 .u8 s (v : Int)) 1 = if Dn s v then 1 else 0 := by
 obtain ⟨k, rfl⟩ := Int.eq_ofNat_of_zero_le h0
 exact Uk ⟨k, by omega⟩ ⟨v, hv⟩
theorem PX {s : Int} {v : Nat} (h0 : 0 ≤ s) (h1 : s ≤ 255) (hv : v < 8) : (FK .u8 (E2 .u8 s (v : Int)) 1 == 0) = !Dn s v := by
 rw [O5 h0 h1 hv]; cases Dn s v <;> rfl
theorem Qe {s : Int} {v : Nat} (h0 : 0 ≤ s) (h1 : s ≤ 255) (hv : v < 8) : (FK .u8 (E2 .u8 s (v : Int)) 1 == 1) = Dn s v := by
 rw [O5 h0 h1 hv]; cases Dn s v <;> rfl
theorem IT {s : Int} {v : Nat} (h1 : s ≤ 255) (hv : 8 ≤ v) : Dn s v = false := by
 unfold Dn
 apply Nat.testBit_lt_two_pow
 have : (2 : Nat) ^ 8 ≤ 2 ^ v := Nat.pow_le_pow_right (by omega) hv
 omega
theorem IK : ∀ (b : Fin 8) (v : Fin 8), Dn (Dw .u8 1 (b.val : Int)) v.val = decide (b.val = v.val) ∧ 0 ≤ Dw .u8 1 (b.val : Int) ∧ Dw .u8 1 (b.val : Int) ≤ 255 := by decide +kernel
theorem TL : ∀ (b n : Fin 8) (v : Fin 8), Dn (Ng .u8 (Dw .u8 1 (b.val : Int)) (Dw .u8 1 (n.val : Int))) v.val = (decide (b.val = v.val) || decide (n.val = v.val))
  ∧ 0 ≤ Ng .u8 (Dw .u8 1 (b.val : Int)) (Dw .u8 1 (n.val : Int)) ∧ Ng .u8 (Dw .u8 1 (b.val : Int)) (Dw .u8 1 (n.val : Int)) ≤ 255 := by decide +kernel
theorem Tt {m : Ah} {s : Nat} (hb0 : 0 ≤ m.fBase.getD s 0) (hb1 : m.fBase.getD s 0 < 8) (hn1 : m.fNext.getD s 0 < 8) :
  (∀ v, Dn (FZ m s) v = Hj m s v) ∧ 0 ≤ FZ m s ∧ FZ m s ≤ 255 := by
 unfold FZ Hj
 obtain ⟨b, hb⟩ := Int.eq_ofNat_of_zero_le hb0
 rw [hb] at hb1 ⊢
 by_cases h : 0 ≤ m.fNext.getD s 0
 ·obtain ⟨n, hn⟩ := Int.eq_ofNat_of_zero_le h
  rw [hn] at hn1 ⊢
  rw [if_pos (by omega)]
  have h1 := TL ⟨b, by omega⟩ ⟨n, by omega⟩
  refine ⟨fun v => ?_, (h1 0).2⟩
  by_cases hv : v < 8
  ·rw [(h1 ⟨v, hv⟩).1]
   simp only [Int.ofNat_inj]
  ·rw [IT (h1 0).2.2 (by omega)]
   simp; omega
 ·rw [if_neg h]
  have h1 := IK ⟨b, by omega⟩
  refine ⟨fun v => ?_, (h1 0).2⟩
  have h3 : decide (m.fNext.getD s 0 = (v : Int)) = false := decide_eq_false (by omega)
  rw [h3, Bool.or_false]
  by_cases hv : v < 8
  ·rw [(h1 ⟨v, hv⟩).1]
   simp only [Int.ofNat_inj]
  ·rw [IT (h1 0).2.2 (by omega)]
   simp; omega
theorem SU {a : Nat} (h : a < 256) : (BitVec.ofInt 8 (a : Int)).toNat = a := by
 simp; omega
theorem MP {a b : Int} (ha : 0 ≤ a ∧ a ≤ 255) (hb : 0 ≤ b ∧ b ≤ 255) : CY .u8 a b = 0 ↔ ∀ v, Dn a v = true → Dn b v = true := by
 obtain ⟨a, rfl⟩ := Int.eq_ofNat_of_zero_le ha.1
 obtain ⟨b, rfl⟩ := Int.eq_ofNat_of_zero_le hb.1
 have hA := SU (a := a) (by omega)
 have hB := SU (a := b) (by omega)
 unfold CY Dn
 simp only [IntKind.bits, Int.toNat_natCast]
 have hx : ∀ x : BitVec 8, IntKind.wrap .u8 (x.toNat : Int) = (x.toNat : Int) := by
  intro x
  have := x.isLt
  simp [IntKind.wrap, IntKind.signed, IntKind.bits]
  omega
 rw [hx]
 constructor
 ·intro h v hv
  have h0 : (BitVec.ofInt 8 (a : Int) &&& ~~~BitVec.ofInt 8 (b : Int)) = (BitVec.ofNat 8 0) := by
   apply BitVec.eq_of_toNat_eq
   simp only [BitVec.toNat_ofNat, Nat.zero_mod]
   exact Int.ofNat_inj.1 h
  by_cases hv8 : v < 8
  ·have h1 : (BitVec.ofInt 8 (a : Int) &&& ~~~BitVec.ofInt 8 (b : Int)).getLsbD v = false := by rw [h0]; simp
   rw [BitVec.getLsbD_and, BitVec.getLsbD_not] at h1
   have e1 : (BitVec.ofInt 8 (a : Int)).getLsbD v = a.testBit v := by unfold BitVec.getLsbD; rw [hA]
   have e2 : (BitVec.ofInt 8 (b : Int)).getLsbD v = b.testBit v := by unfold BitVec.getLsbD; rw [hB]
   rw [e1, e2, hv] at h1
   simpa [hv8] using h1
  ·have := IT (s := (a : Int)) (v := v) (by omega) (by omega)
   unfold Dn at this
   rw [Int.toNat_natCast, hv] at this
   cases this
 ·intro h
  have h0 : (BitVec.ofInt 8 (a : Int) &&& ~~~BitVec.ofInt 8 (b : Int)) = (BitVec.ofNat 8 0) := by
   apply BitVec.eq_of_getLsbD_eq
   intro i hi
   rw [BitVec.getLsbD_and, BitVec.getLsbD_not]
   have e1 : (BitVec.ofInt 8 (a : Int)).getLsbD i = a.testBit i := by unfold BitVec.getLsbD; rw [hA]
   have e2 : (BitVec.ofInt 8 (b : Int)).getLsbD i = b.testBit i := by unfold BitVec.getLsbD; rw [hB]
   rw [e1, e2]
   have := h i
   cases h3 : a.testBit i
   ·simp
   ·rw [this h3]; simp
  have h2 : ∀ x : BitVec 8, x = (BitVec.ofNat 8 0) → (x.toNat : Int) = 0 := fun x hx => by rw [hx]; rfl
  exact h2 _ h0
theorem TS : ∀ n : Fin 9, (∀ v : Fin 8, Dn (IntKind.wrap .u8 (Dw .u8 1 (n.val : Int) - 1)) v.val = decide (v.val < n.val)) ∧ 0 ≤ IntKind.wrap .u8 (Dw .u8 1 (n.val : Int) - 1) ∧ IntKind.wrap .u8 (Dw .u8 1 (n.val : Int) - 1) ≤ 255 := by decide +kernel
theorem TQ {n : Int} (h0 : 0 ≤ n) (h1 : n ≤ 8) : (∀ v, Dn (IntKind.wrap .u8 (Dw .u8 1 n - 1)) v = decide ((v : Int) < n)) ∧ 0 ≤ IntKind.wrap .u8 (Dw .u8 1 n - 1) ∧ IntKind.wrap .u8 (Dw .u8 1 n - 1) ≤ 255 := by
 obtain ⟨n, rfl⟩ := Int.eq_ofNat_of_zero_le h0
 have h := TS ⟨n, by omega⟩
 refine ⟨fun v => ?_, h.2⟩
 by_cases hv : v < 8
 ·rw [h.1 ⟨v, hv⟩]; simp
 ·rw [IT h.2.2 (by omega)]
  symm; apply decide_eq_false; omega
structure BN (p : Ae) (m : Ah) : Prop extends MixServ p m where
 range : ∀ i, i < p.fTables.length → 0 ≤ m.fHeld.getD i 0 ∧ m.fHeld.getD i 0 ≤ 255
 low : ∀ i t, p.fTables[i]? = some t → B7 t = true → ∀ v, Hj m t.fFrom.toNat v = true → Dn (m.fHeld.getD i 0) v = true
 high : ∀ i t, p.fTables[i]? = some t → B7 t = true → ∀ v, Dn (m.fHeld.getD i 0) v = true → (v : Int) < p.fVersions.getD t.fFrom.toNat 0
 none : ∀ i t, p.fTables[i]? = some t → B7 t = false → m.fHeld.getD i 0 = 0
theorem Ha {p : Ae} (hp : Bi p) {i : Nat} (hi : i < p.fVersions.length) : 1 ≤ p.fVersions.getD i 0 ∧ p.fVersions.getD i 0 ≤ 6 := by
 have := JB (i := (i : Int)) hp.ver (by omega) (by omega)
 simpa using this
theorem GY {p : Ae} {m : Ah} (hp : Bi p) (hm : MixServ p m) {s : Nat} (hs : s < p.fVersions.length) :
  (∀ v, Dn (FZ m s) v = Hj m s v) ∧ 0 ≤ FZ m s ∧ FZ m s ≤ 255 := by
 have h1 := hm.b0 s hs
 have h2 := hm.n0 s hs
 have h3 := Ha hp hs
 exact Tt h1.1 (by omega) (by omega)
theorem PI {p : Ae} {m : Ah} (hp : Bi p) (hm : MixServ p m) {i : Nat} {t : AF} (ht : p.fTables[i]? = some t) (hr : 0 ≤ m.fHeld.getD i 0 ∧ m.fHeld.getD i 0 ≤ 255) :
  H9 p m i t = none ↔ ((B7 t = true → (∀ v, Hj m t.fFrom.toNat v = true → Dn (m.fHeld.getD i 0) v = true) ∧ (∀ v, Dn (m.fHeld.getD i 0) v = true → (v : Int) < p.fVersions.getD t.fFrom.toNat 0)) ∧ (B7 t = false → m.fHeld.getD i 0 = 0)) := by
 have hin := HH (hp.tab t (List.mem_of_getElem? ht))
 have hrun := GY hp hm (s := t.fFrom.toNat) (by omega)
 have hver := Ha hp (i := t.fFrom.toNat) (by omega)
 have hall := TQ (n := p.fVersions.getD t.fFrom.toNat 0) (by omega) (by omega)
 unfold H9 TU
 have e1 := MP hrun.2 hr
 have e2 := MP hr hall.2
 cases hst : B7 t
 ·simp
 ·simp only [if_true, true_implies, Bool.true_eq_false, false_implies, and_true, ite_eq_right_iff, reduceCtorEq, imp_false, not_or, Decidable.not_not]
  rw [e1, e2]
  simp only [hrun.1, hall.1, decide_eq_true_eq]
theorem Iq {p : Ae} {m : Ah} (hw : Mf JU m.fHeld) (h : EM p m = 0) : Bi p ∧ BN p m := by
 unfold EM at h
 split at h
 ·rename_i k; exact (k h).elim
 ·rename_i k0
  have hp : Bi p := by
   rcases Gx p with h | h
   ·exact h.2
   ·omega
  split at h
  ·cases h
  ·rename_i k1
   have b1 : m.fBase.length = p.fVersions.length := Decidable.not_not.1 fun h => k1 (.inl h)
   have b2 : m.fNext.length = p.fVersions.length := Decidable.not_not.1 fun h => k1 (.inr (.inl h))
   have b3 : m.fHeld.length = p.fTables.length := Decidable.not_not.1 fun h => k1 (.inr (.inr h))
   cases hs : Dd (Kf m) 0 p.fVersions with
   | some r =>
    obtain ⟨j, x, _, he⟩ := DW hs
    rw [hs] at h
    unfold Kf at he
    simp only [BD, Option.getD_some] at h
    split at he
    ·cases he; cases h
    ·split at he
     ·cases he; cases h
     ·cases he
   | none =>
    have hm := On b1 b2 b3 hs
    rw [hs] at h
    simp only [BD] at h
    cases ht : Dd (H9 p m) 0 p.fTables with
    | some r =>
     obtain ⟨j, x, _, he⟩ := DW ht
     rw [ht] at h
     simp only [Option.getD_some] at h
     subst h
     unfold H9 at he
     split at he
     ·split at he <;> cases he
     ·split at he <;> cases he
    | none =>
     have hr : ∀ i, i < p.fTables.length → 0 ≤ m.fHeld.getD i 0 ∧ m.fHeld.getD i 0 ≤ 255 := fun i hi => HB (PR hw (by omega))
     have key : ∀ i t, p.fTables[i]? = some t → _ := fun i t hi => (PI hp hm hi (hr i (List.getElem?_eq_some_iff.1 hi).1)).1 (by have := Eo ht i t hi; rwa [Nat.zero_add] at this)
     exact ⟨hp, hm, hr, fun i t hi hst => ((key i t hi).1 hst).1, fun i t hi hst => ((key i t hi).1 hst).2, fun i t hi hst => (key i t hi).2 hst⟩
theorem EE {α R : Type} {f : Nat → α → Option R} : ∀ {i : Nat} {xs : List α}, (∀ j x, xs[j]? = some x → f (i + j) x = none) → Dd f i xs = none
 | _, [], _ => rfl
 | i, y :: ys, h => by
  rw [FL, show f i y = none from h 0 y rfl]
  exact EE fun j x hx => by
   have := h (j + 1) x (by simpa using hx)
   rwa [show i + (j + 1) = i + 1 + j from by omega] at this
theorem O6 {p : Ae} (hp : Bi p) (hr : ∀ i, i < p.fVersions.length → 0 ≤ p.fNow.getD i 0 ∧ p.fNow.getD i 0 < p.fVersions.getD i 0 ∧ 0 ≤ p.fTarget.getD i 0 ∧ p.fTarget.getD i 0 < p.fVersions.getD i 0) : BP p = 0 := by
 have := hp.nv
 have := hp.nt
 have := hp.now
 have := hp.tgt
 unfold BP
 rw [if_neg (by omega), if_neg (by omega)]
 have h1 : Dd (Fk p) 0 p.fVersions = none := EE fun j x hx => by
  have hj := (List.getElem?_eq_some_iff.1 hx).1
  have h1 := hr j hj
  have h2 := Ha hp hj
  have e : p.fVersions.getD j 0 = x := by rw [List.getD_eq_getElem?_getD, hx]; rfl
  rw [e] at h1 h2
  unfold Fk
  rw [Nat.zero_add, if_neg (by omega)]
 have h2 : Dd (Ky p) 0 p.fTables = none := EE fun j x hx => by
  unfold Ky
  rw [if_pos (hp.tab x (List.mem_of_getElem? hx))]
 rw [h1, h2]; rfl
theorem CQ {p : Ae} (h : BP p = 0) : Bi p ∧ ∀ i, i < p.fVersions.length → 0 ≤ p.fNow.getD i 0 ∧ p.fNow.getD i 0 < p.fVersions.getD i 0 ∧ 0 ≤ p.fTarget.getD i 0 ∧ p.fTarget.getD i 0 < p.fVersions.getD i 0 := by
 have hp : Bi p := by
  rcases Gx p with h | h
  ·exact h.2
  ·omega
 refine ⟨hp, fun i hi => ?_⟩
 have h1 := hp.nv
 have h2 := hp.nt
 have h3 := hp.now
 have h4 := hp.tgt
 unfold BP at h
 rw [if_neg (by omega), if_neg (by omega)] at h
 cases hs : Dd (Fk p) 0 p.fVersions with
 | some r =>
  obtain ⟨j, x, _, he⟩ := DW hs
  rw [hs] at h
  unfold Fk at he
  split at he
  ·cases he; cases h
  ·cases he
 | none =>
  have hx : p.fVersions[i]? = some (p.fVersions.getD i 0) := by rw [List.getD_eq_getElem?_getD]; simp [hi]
  have := Eo hs i _ hx
  rw [Nat.zero_add] at this
  unfold Fk at this
  split at this
  ·cases this
  ·rename_i hn; omega
theorem Fr {p : Ae} {m : Ah} (hv : BP p = 0) (hm : BN p m) : EM p m = 0 := by
 obtain ⟨hp, _⟩ := CQ hv
 unfold EM
 rw [hv, if_neg (by simp), if_neg (by have := hm.base; have := hm.next; have := hm.held; omega)]
 have h1 : Dd (Kf m) 0 p.fVersions = none := EE fun j x hx => by
  have hj := (List.getElem?_eq_some_iff.1 hx).1
  have e : p.fVersions.getD j 0 = x := by rw [List.getD_eq_getElem?_getD, hx]; rfl
  have h1 := hm.b0 j hj
  have h2 := hm.n0 j hj
  have h3 := hm.ne j hj
  rw [e] at h1 h2
  unfold Kf
  rw [Nat.zero_add, if_neg (by omega), if_neg h3]
 have h2 : Dd (H9 p m) 0 p.fTables = none := EE fun j x hx => by
  have hj := (List.getElem?_eq_some_iff.1 hx).1
  rw [Nat.zero_add]
  exact (PI hp hm.toMixServ hx (hm.range j hj)).2 ⟨fun hst => ⟨hm.low j x hx hst, hm.high j x hx hst⟩, fun hst => hm.none j x hx hst⟩
 rw [h1, h2]; rfl
end Go.Lift

/- The conflicts of a mix: both implementations give one answer. -/
namespace Go.Lift
def Mq {α : Type} (g : Nat → α → Bool) : Nat → List α → Bool
 | _, [] => false
 | i, x :: xs => g i x || Mq g (i + 1) xs
theorem Kr {α β : Type} (g : Nat → α → List β) (h : Nat → α → Bool) : ∀ (i : Nat) (xs : List α) (a : List β) (b : Bool),
  He (fun i x (s : List β × Bool) => (s.1 ++ g i x, s.2 || h i x)) i xs (a, b) = (a ++ CG g i xs, b || Mq h i xs)
 | _, [], a, b => by simp [He, CG, Mq]
 | i, x :: xs, a, b => by rw [He, Kr g h, CG, Mq, List.append_assoc, Bool.or_assoc]
def gC (i u : Nat) (m : Ah) (t : AF) (v : Nat) (ok : Bool) : List An :=
 if Hj m t.fTo.toNat v && (!ok && !t.fAware) then [⟨(i : Int), (u : Int), (v : Int)⟩] else []
def hC (m : Ah) (t : AF) (v : Nat) (ok : Bool) : Bool := Hj m t.fTo.toNat v && ok
def IE (i : Nat) (m : Ah) (t : AF) (u : Nat) (row : List Bool) : List An :=
 CG (gC i u m t) 0 row ++ if t.fAware && !Mq (hC m t) 0 row then [⟨(i : Int), (u : Int), -1⟩] else []
def RV (m : Ah) (i : Nat) (t : AF) (u : Nat) : Bool := if B7 t then Dn (m.fHeld.getD i 0) u else Hj m t.fFrom.toNat u
def IN (m : Ah) (i : Nat) (t : AF) : List An := CG (fun u row => if RV m i t u then IE i m t u row else []) 0 t.fOK
def F7 (p : Ae) (m : Ah) : List An := CG (IN m) 0 p.fTables
structure Mz (p : Ae) (t : AF) : Prop where
 kind : 1 ≤ t.fKind ∧ t.fKind ≤ 4
 aware : t.fAware = true → B7 t = false
 from0 : 0 ≤ t.fFrom ∧ t.fFrom < (p.fVersions.length : Int)
 to0 : 0 ≤ t.fTo ∧ t.fTo < (p.fVersions.length : Int)
 okL : (t.fOK.length : Int) = p.fVersions.getD t.fFrom.toNat 0
 okR : ∀ row, row ∈ t.fOK → (row.length : Int) = p.fVersions.getD t.fTo.toNat 0
 reL : t.fKind = 4 → (t.fRewrite.length : Int) = p.fVersions.getD t.fFrom.toNat 0
 reR : ∀ row, row ∈ t.fRewrite → (row.length : Int) = p.fVersions.getD t.fFrom.toNat 0
 reD : t.fKind = 4 → HE t.fRewrite = none
 reN : t.fKind ≠ 4 → t.fRewrite = []
theorem Lr {p : Ae} {t : AF} (h : DI p t = 0) : Mz p t := by
 unfold DI at h
 split at h
 ·cases h
 rename_i h1
 split at h
 ·cases h
 rename_i h2
 simp only at h
 split at h
 ·cases h
 rename_i h3
 have h3 : sq t.fOK (p.fVersions.getD t.fFrom.toNat 0) (p.fVersions.getD t.fTo.toNat 0) = true := by simpa using h3
 have h3 := L9 h3
 have ha : t.fAware = true → B7 t = false := by
  intro ha
  unfold B7
  rw [Bool.or_eq_false_iff, beq_eq_false_iff_ne, beq_eq_false_iff_ne]
  exact ⟨fun hk => h1 (.inr (.inr ⟨ha, .inl hk⟩)), fun hk => h1 (.inr (.inr ⟨ha, .inr hk⟩))⟩
 split at h
 ·rename_i h4
  split at h
  ·cases h
  rename_i h5
  have h5 : sq t.fRewrite (p.fVersions.getD t.fFrom.toNat 0) (p.fVersions.getD t.fFrom.toNat 0) = true := by simpa using h5
  have h5 := L9 h5
  refine ⟨by omega, ha, by omega, by omega, h3.1, h3.2, fun _ => h5.1, h5.2, fun _ => ?_, fun h => (h h4).elim⟩
  cases hd : HE t.fRewrite with
  | none => rfl
  | some r =>
   obtain ⟨j, x, _, hx⟩ := DW hd
   rw [hd] at h
   split at hx
   ·cases hx
   ·cases hx; cases h
 ·rename_i h4
  split at h
  ·rename_i h5
   have h5 := List.eq_nil_of_length_eq_zero h5
   refine ⟨by omega, ha, by omega, by omega, h3.1, h3.2, fun h => (h4 h).elim, fun row hr => ?_, fun h => (h4 h).elim, fun _ => h5⟩
   rw [h5] at hr; cases hr
  ·cases h
theorem JO {R : Type} (b : Bool) (acc : List An) (x : An) (j : List An → Option R) (h : acc.length + 1 ≤ Dv) :
  AZ b ((Eg (acc.length + ([x] : List An).length ≤ Dv)).bind fun _ => j (acc ++ [x])) (j acc) = j (acc ++ if b then [x] else []) := by
 cases b
 ·simp
 ·rw [AN, Az (by simpa using h)]; rfl
theorem Pc (N : Nat) (m : Ah) (t : AF) (i u : Nat) (row : List Bool) (R : Int) (b1 b2 acc : List An) (j : List An × Bool → Option (List An))
  (hN : N ≤ 1000000) (h8 : 8 ≤ N) (hrow : row.length ≤ 6) (hacc : acc.length + 6 ≤ Dv) (hR0 : 0 ≤ R) (hR1 : R ≤ 255) (hRb : ∀ v, Dn R v = Hj m t.fTo.toNat v) :
  BU N (b1, (i : Int)) t R (b2, (u : Int)) row j N (acc, false, 0) = j (acc ++ CG (gC i u m t) 0 row, Mq (hC m t) 0 row) := by
 have := Hv (A := List An × Bool) (BU N (b1, (i : Int)) t R (b2, (u : Int)) row j) (fun a k => (a.1, a.2, k)) row (fun a => j a) (fun v ok s => (s.1 ++ gC i u m t v ok, s.2 || hC m t v ok))
  (fun v a => v ≤ row.length ∧ a.1.length ≤ acc.length + v)
  (fun n v ok a hx ha => by
   have hv := (List.getElem?_eq_some_iff.1 hx).1
   obtain ⟨c, f⟩ := a
   simp only at ha
   refine ⟨?_, by omega, ?_⟩
   ·rw [BU]
    simp only [Bd]
    rw [AL (by omega), A2, hx]
    simp only [Option.bind_some]
    rw [Az (by omega), PX hR0 hR1 (by omega), hRb, AM (by omega), JO _ _ _ (fun l => BU N (b1, (i : Int)) t R (b2, (u : Int)) row j n (l, true, ((v + 1 : Nat) : Int))) (by omega)]
    unfold gC hC
    rw [JO _ _ _ (fun l => BU N (b1, (i : Int)) t R (b2, (u : Int)) row j n (l, ok, ((v + 1 : Nat) : Int))) (by omega)]
    cases Hj m t.fTo.toNat v
    ·simp
    ·cases ok <;> cases f <;> cases t.fAware <;> simp
   ·simp only [gC, List.length_append]
    split <;> simp <;> omega)
  (fun n a _ => by
   rw [BU]
   simp only [Bd]
   rw [AH (by omega)]) N 0 (acc, false) (by omega) (by omega) ⟨by omega, by simp⟩
 have h2 := this.1
 rw [List.drop_zero, Kr, Bool.false_or] at h2
 exact h2
end Go.Lift

/- The conflicts of a mix: both implementations give one answer. -/
namespace Go.Lift
theorem Md {p : Ae} {t : AF} (hp : Bi p) (ht : Mz p t) : t.fOK.length ≤ 6 ∧ ∀ row, row ∈ t.fOK → row.length ≤ 6 := by
 have h1 := JB hp.ver ht.from0.1 ht.from0.2
 have h2 := JB hp.ver ht.to0.1 ht.to0.2
 have h3 := ht.okL
 exact ⟨by omega, fun row hr => by have := ht.okR row hr; omega⟩
theorem Qp (i u : Nat) (m : Ah) (t : AF) (v : Nat) (ok : Bool) : (gC i u m t v ok).length ≤ 1 := by
 unfold gC; split <;> simp
theorem Qy (i : Nat) (m : Ah) (t : AF) (u : Nat) (row : List Bool) (h : row.length ≤ 6) : (IE i m t u row).length ≤ 7 := by
 unfold IE
 rw [List.length_append]
 have := Ff (g := gC i u m t) (c := 1) (i := 0) (xs := row) (fun j x _ => Qp _ _ _ _ _ _)
 split <;> simp <;> omega
theorem QY (i : Nat) (m : Ah) (t : AF) (u : Nat) (row : List Bool) (h : row.length ≤ 6) : (if RV m i t u = true then IE i m t u row else []).length ≤ 7 := by
 have := Qy i m t u row h
 split <;> simp <;> omega
theorem LX {p : Ae} {t : AF} (hp : Bi p) (ht : Mz p t) (i : Nat) (m : Ah) : (IN m i t).length ≤ 42 := by
 have h1 := Md hp ht
 have := Ff (g := fun u row => if RV m i t u = true then IE i m t u row else []) (c := 7) (i := 0) (xs := t.fOK) (fun j x hx => QY i m t _ x (h1.2 x (List.mem_of_getElem? hx)))
 unfold IN
 omega
theorem K0 (N : Nat) (p : Ae) (m : Ah) (t : AF) (i : Nat) (W R : Int) (b1 acc : List An) (j : List An → Option (List An))
  (hN : N ≤ 1000000) (h8 : 8 ≤ N) (hp : Bi p) (ht : Mz p t) (hacc : acc.length + 42 ≤ 10000) (hR0 : 0 ≤ R) (hR1 : R ≤ 255) (hRb : ∀ v, Dn R v = Hj m t.fTo.toNat v) (hW0 : 0 ≤ W) (hW1 : W ≤ 255) (hWb : ∀ v, Dn W v = RV m i t v) :
  Cg N (b1, (i : Int)) t R W j N (acc, 0) = j (acc ++ IN m i t) := by
 have hl := Md hp ht
 exact FF (Cg N (b1, (i : Int)) t R W j) (fun a k => (a, k)) t.fOK j (fun u row => if RV m i t u then IE i m t u row else []) 7 10000
  (fun u row hx => QY i m t u row (hl.2 row (List.mem_of_getElem? hx)))
  (fun n u row a hx ha => by
   have hu := (List.getElem?_eq_some_iff.1 hx).1
   have hrow := hl.2 row (List.mem_of_getElem? hx)
   rw [Cg]
   simp only [Bd]
   rw [AL (by omega), Az (by omega), PX hW0 hW1 (by omega), hWb, A2, hx]
   simp only [Option.bind_some]
   rw [Pc N m t i u row R b1 a a _ hN h8 hrow (by unfold Dv; omega) hR0 hR1 hRb, AM (by omega)]
   cases hw : RV m i t u
   ·simp
   ·simp only [Bool.not_true, Au, if_true, IE]
    have h1 := Ff (g := gC i u m t) (c := 1) (i := 0) (xs := row) (fun j x _ => Qp _ _ _ _ _ _)
    have := JO (R := List An) (t.fAware && !Mq (hC m t) 0 row) (a ++ CG (gC i u m t) 0 row) ⟨(i : Int), (u : Int), -1⟩ (fun l => Cg N (b1, (i : Int)) t R W j n (l, ((u + 1 : Nat) : Int))) (by rw [List.length_append]; unfold Dv; rw [hw, if_pos rfl] at ha; omega)
    rw [← List.append_assoc, ← this]
    cases t.fAware <;> cases Mq (hC m t) 0 row <;> rfl)
  (fun n a => by
   rw [Cg]
   simp only [Bd]
   rw [AH (by omega)]) N acc (by omega) (by omega)
theorem Pm (N : Nat) (p : Ae) (m : Ah) (t : AF) (i u : Nat) (row : List Bool) (b1 b2 acc : List An) (j : List An × Bool → Option (List An))
  (hN : N ≤ 1000000) (h8 : 8 ≤ N) (hp : Bi p) (hm : MixServ p m) (ht : Mz p t) (hu : t.fOK[u]? = some row) (hacc : acc.length + 6 ≤ Dv) :
  Bk N p m (b1, (i : Int)) t (b2, (u : Int)) j N (acc, false, 0) = j (acc ++ CG (gC i u m t) 0 row, Mq (hC m t) 0 row) := by
 have hrow := (Md hp ht).2 row (List.mem_of_getElem? hu)
 have hR := GY hp hm (s := t.fTo.toNat) (by have := ht.to0; omega)
 have hlen := ht.okR row (List.mem_of_getElem? hu)
 have hto := ht.to0
 have := Hv (A := List An × Bool) (Bk N p m (b1, (i : Int)) t (b2, (u : Int)) j) (fun a k => (a.1, a.2, k)) row (fun a => j a) (fun v ok s => (s.1 ++ gC i u m t v ok, s.2 || hC m t v ok))
  (fun v a => v ≤ row.length ∧ a.1.length ≤ acc.length + v)
  (fun n v ok a hx ha => by
   have hv := (List.getElem?_eq_some_iff.1 hx).1
   obtain ⟨c, f⟩ := a
   simp only at ha
   refine ⟨?_, by omega, ?_⟩
   ·rw [Bk]
    simp only [Bd]
    rw [Em (d := 0) hto.1 hto.2, IH N m t.fTo hto.1 (by rw [hm.base]; exact hto.2) (by rw [hm.next]; exact hto.2) (hm.b0 _ (by omega)).1, A2, hu]
    simp only [Option.bind_some]
    unfold Ck
    rw [AL (by omega), A2, hx, Az (by omega), Qe hR.2.1 hR.2.2 (by omega), hR.1]
    simp only [Option.bind_some]
    rw [AM (by omega), JO _ _ _ (fun l => Bk N p m (b1, (i : Int)) t (b2, (u : Int)) j n (l, true, ((v + 1 : Nat) : Int))) (by omega)]
    unfold gC hC
    rw [JO _ _ _ (fun l => Bk N p m (b1, (i : Int)) t (b2, (u : Int)) j n (l, ok, ((v + 1 : Nat) : Int))) (by omega)]
    cases Hj m t.fTo.toNat v
    ·simp
    ·cases ok <;> cases f <;> cases t.fAware <;> simp
   ·simp only [gC, List.length_append]
    split <;> simp <;> omega)
  (fun n a _ => by
   rw [Bk]
   simp only [Bd]
   rw [Em (d := 0) hto.1 hto.2]
   simp only [Option.bind_some]
   rw [AH (by omega)]) N 0 (acc, false) (by omega) (by omega) ⟨by omega, by simp⟩
 have h2 := this.1
 rw [List.drop_zero, Kr, Bool.false_or] at h2
 exact h2
theorem KG (N : Nat) (p : Ae) (m : Ah) (t : AF) (i : Nat) (W : Int) (b1 acc : List An) (j : List An → Option (List An))
  (hN : N ≤ 1000000) (h8 : 8 ≤ N) (hp : Bi p) (hm : MixServ p m) (ht : Mz p t) (hacc : acc.length + 42 ≤ 10000) (hW0 : 0 ≤ W) (hW1 : W ≤ 255) (hWb : ∀ v, Dn W v = RV m i t v) :
  BB N p m (b1, (i : Int)) t W j N (acc, 0) = j (acc ++ IN m i t) := by
 have hl := Md hp ht
 have hfr := ht.from0
 have hok := ht.okL
 exact FF (BB N p m (b1, (i : Int)) t W j) (fun a k => (a, k)) t.fOK j (fun u row => if RV m i t u then IE i m t u row else []) 7 10000
  (fun u row hx => QY i m t u row (hl.2 row (List.mem_of_getElem? hx)))
  (fun n u row a hx ha => by
   have hu := (List.getElem?_eq_some_iff.1 hx).1
   have hrow := hl.2 row (List.mem_of_getElem? hx)
   rw [BB]
   simp only [Bd]
   rw [Em (d := 0) hfr.1 hfr.2]
   simp only [Option.bind_some]
   unfold Ck
   rw [AL (by omega), Az (by omega), Qe hW0 hW1 (by omega), hWb]
   simp only [Option.bind_some]
   rw [Pm N p m t i u row b1 a a _ hN h8 hp hm ht hx (by unfold Dv; omega), AM (by omega)]
   cases hw : RV m i t u
   ·simp
   ·simp only [Bool.not_true, Au, if_true, IE]
    have h1 := Ff (g := gC i u m t) (c := 1) (i := 0) (xs := row) (fun j x _ => Qp _ _ _ _ _ _)
    have := JO (R := List An) (t.fAware && !Mq (hC m t) 0 row) (a ++ CG (gC i u m t) 0 row) ⟨(i : Int), (u : Int), -1⟩ (fun l => BB N p m (b1, (i : Int)) t W j n (l, ((u + 1 : Nat) : Int))) (by rw [List.length_append]; unfold Dv; rw [hw, if_pos rfl] at ha; omega)
    rw [← List.append_assoc, ← this]
    cases t.fAware <;> cases Mq (hC m t) 0 row <;> rfl)
  (fun n a => by
   rw [BB]
   simp only [Bd]
   rw [Em (d := 0) hfr.1 hfr.2]
   simp only [Option.bind_some]
   rw [AH (by omega)]) N acc (by omega) (by omega)
theorem Lu (N : Nat) (p : Ae) (m : Ah) (hN : N ≤ 1000000) (h20 : 20 ≤ N) (hp : Bi p) (hm : BN p m) : EY N p m = some (F7 p m) := by
 unfold EY
 have hnt := hp.nt
 rw [FF (C0 N p m _) (fun a k => (a, k)) p.fTables some (IN m) 42 9000
  (fun i t hx => LX hp (Lr (hp.tab t (List.mem_of_getElem? hx))) i m)
  (fun n i t a hx ha => by
   have hi := (List.getElem?_eq_some_iff.1 hx).1
   have ht := Lr (hp.tab t (List.mem_of_getElem? hx))
   have hto := ht.to0
   have hfr := ht.from0
   have hR := GY hp hm.toMixServ (s := t.fTo.toNat) (by omega)
   have hF := GY hp hm.toMixServ (s := t.fFrom.toNat) (by omega)
   have hH := hm.range i hi
   rw [C0]
   simp only [Bd]
   rw [AL (by omega), A2, hx]
   simp only [Option.bind_some, If]
   rw [Kv N m t.fFrom hfr.1 (by rw [hm.base]; exact hfr.2) (by rw [hm.next]; exact hfr.2) (hm.b0 _ (by omega)).1, Kv N m t.fTo hto.1 (by rw [hm.base]; exact hto.2) (by rw [hm.next]; exact hto.2) (hm.b0 _ (by omega)).1, CN (d := 0) (by rw [hm.held]; exact hi), AM (by omega)]
   simp only [Option.bind_some]
   cases hs : B7 t
   ·rw [Au, K0 N p m t i _ _ a a _ hN (by omega) hp ht (by omega) hR.2.1 hR.2.2 hR.1 hF.2.1 hF.2.2 (fun v => by unfold RV; rw [hs, hF.1]; rfl)]
   ·rw [AN, K0 N p m t i _ _ a a _ hN (by omega) hp ht (by omega) hR.2.1 hR.2.2 hR.1 hH.1 hH.2 (fun v => by unfold RV; rw [hs]; rfl)])
  (fun n a => by
   rw [C0]
   simp only [Bd]
   rw [AH (by omega)]) N [] (by omega) (by simp; omega)]
 rfl
theorem Lp (N : Nat) (p : Ae) (m : Ah) (hN : N ≤ 1000000) (h20 : 20 ≤ N) (hp : Bi p) (hm : BN p m) : D2 N p m = some (F7 p m) := by
 unfold D2
 have hnt := hp.nt
 rw [FF (Ct N p m _) (fun a k => (a, k)) p.fTables some (IN m) 42 9000
  (fun i t hx => LX hp (Lr (hp.tab t (List.mem_of_getElem? hx))) i m)
  (fun n i t a hx ha => by
   have hi := (List.getElem?_eq_some_iff.1 hx).1
   have ht := Lr (hp.tab t (List.mem_of_getElem? hx))
   have hto := ht.to0
   have hfr := ht.from0
   have hF := GY hp hm.toMixServ (s := t.fFrom.toNat) (by omega)
   have hH := hm.range i hi
   rw [Ct]
   simp only [Bd]
   rw [AL (by omega), A2, hx]
   simp only [Option.bind_some, FV]
   rw [IH N m t.fFrom hfr.1 (by rw [hm.base]; exact hfr.2) (by rw [hm.next]; exact hfr.2) (hm.b0 _ (by omega)).1, CN (d := 0) (by rw [hm.held]; exact hi), AM (by omega)]
   simp only [Option.bind_some]
   cases hs : B7 t
   ·rw [Au, KG N p m t i _ a a _ hN (by omega) hp hm.toMixServ ht (by omega) hF.2.1 hF.2.2 (fun v => by unfold RV; rw [hs, hF.1]; rfl)]
   ·rw [AN, KG N p m t i _ a a _ hN (by omega) hp hm.toMixServ ht (by omega) hH.1 hH.2 (fun v => by unfold RV; rw [hs]; rfl)])
  (fun n a => by
   rw [Ct]
   simp only [Bd]
   rw [AH (by omega)]) N [] (by omega) (by simp; omega)]
 rfl
end Go.Lift

/- The drafts: what the recipes give is a valid problem and a valid mix. -/
namespace Go.Lift
theorem Ex {A S R : Type} (L : Nat → S → Option R) (mk : A → Int → S) (len : Nat) (j : A → Option R) (I : Nat → A → Prop)
  (hs : ∀ (n i : Nat) (a : A), i < len → I i a → ∃ a', L (n + 1) (mk a (i : Int)) = L n (mk a' ((i + 1 : Nat) : Int)) ∧ I (i + 1) a')
  (he : ∀ (n : Nat) (a : A), I len a → L (n + 1) (mk a (len : Int)) = j a) :
  ∀ (n i : Nat) (a : A), i ≤ len → len - i < n → I i a → ∃ a', L n (mk a (i : Int)) = j a' ∧ I len a'
 | 0, i, _, _, h, _ => by omega
 | n + 1, i, a, hi, h, ha => by
  by_cases h1 : i < len
  ·obtain ⟨a', e1, e2⟩ := hs n i a h1 ha
   rw [e1]
   exact Ex L mk len j I hs he n (i + 1) _ (by omega) (by omega) e2
  ·have : i = len := by omega
   subst this
   exact ⟨a, he n a ha, ha⟩
theorem H1 {α : Type} {xs ys : List α} {i : Nat} {d : α} (h : i < xs.length) : (xs ++ ys).getD i d = xs.getD i d := by
 rw [List.getD_eq_getElem?_getD, List.getD_eq_getElem?_getD, List.getElem?_append_left h]
theorem H8 {α : Type} {xs : List α} {y : α} {i : Nat} {d : α} (h : i = xs.length) : (xs ++ [y]).getD i d = y := by
 subst h; rw [List.getD_eq_getElem?_getD, List.getElem?_append_right (Nat.le_refl _)]; simp
theorem Mn {α : Type} {P : Nat → α → Prop} {xs : List α} {y : α} {d : α} {n : Nat} (hn : xs.length = n) (h : ∀ k, k < n → P k (xs.getD k d)) (hy : P n y) : ∀ k, k < n + 1 → P k ((xs ++ [y]).getD k d) := by
 intro k hk
 by_cases h1 : k < n
 ·rw [H1 (by omega)]; exact h k h1
 ·have : k = n := by omega
  subst this
  rw [H8 hn.symm]; exact hy
theorem Rm {l : List Int} (hw : Mf JU l) (i : Nat) : 0 ≤ l.getD i 0 ∧ l.getD i 0 ≤ 255 := by
 by_cases h : i < l.length
 ·have : l.getD i 0 ∈ l := by rw [List.getD_eq_getElem?_getD, List.getElem?_eq_getElem h]; exact List.getElem_mem _
  exact HB (hw _ this)
 ·rw [List.getD_eq_getElem?_getD, List.getElem?_eq_none (by omega)]
  exact ⟨by decide, by decide⟩
theorem NS (N : Nat) {l : List Int} (hw : Mf JU l) (i : Nat) : DD N l (i : Int) = some (l.getD i 0) := by
 unfold DD
 have h2 := Rm hw i
 by_cases h : i < l.length
 ·rw [AL (by omega), CN (d := 0) h]
  simp only [Option.bind_some]
  rw [CI (by omega) (by omega)]
 ·rw [AH (by omega), List.getD_eq_getElem?_getD, List.getElem?_eq_none (by omega)]; rfl
theorem GO {a n : Int} (ha : 0 ≤ a) (hn : 0 < n) : 0 ≤ Int.tmod a n ∧ Int.tmod a n < n := ⟨Int.tmod_nonneg n ha, Int.tmod_lt_of_pos a hn⟩
end Go.Lift

/- The drafts of problems: what the recipe gives is a valid problem. -/
namespace Go.Lift
theorem UQ {l : List (List Bool)} {n m : Int} (h1 : (l.length : Int) = n) (h2 : ∀ row, row ∈ l → (row.length : Int) = m) : sq l n m = true := by
 unfold sq
 simp only [Bool.and_eq_true, decide_eq_true_eq, List.all_eq_true]
 exact ⟨h1, h2⟩
theorem VV {p : Ae} {t : AF} (h : Mz p t) : DI p t = 0 := by
 have hk := h.kind
 have hf := h.from0
 have ht := h.to0
 unfold DI
 rw [if_neg, if_neg (by omega)]
 ·simp only [UQ h.okL h.okR]
  rw [if_neg (by simp)]
  by_cases h4 : t.fKind = 4
  ·rw [if_pos h4, UQ (h.reL h4) h.reR, if_neg (by simp), h.reD h4]; rfl
  ·rw [if_neg h4, h.reN h4]; rfl
 ·rintro (h1 | h1 | ⟨h1, h2⟩)
  ·omega
  ·omega
  ·have := h.aware h1
   unfold B7 at this
   rw [Bool.or_eq_false_iff, beq_eq_false_iff_ne, beq_eq_false_iff_ne] at this
   omega
theorem S1 (N : Nat) (m bad : Int) (diag : Bool) (i : Nat) (acc : List (List Bool)) {R : Type} (j : List Bool → Option (List (List Bool))) (hN : N ≤ 1000000) (h20 : 20 ≤ N) (hm : 0 ≤ m ∧ m ≤ 6) (hi : i < 6) :
  ∃ row, Ch N m bad diag (acc, (i : Int)) j N ([], 0) = j row ∧ (row.length : Int) = m ∧ (diag = true → (i : Int) < m → row.getD i false = true) := by
 obtain ⟨M, rfl⟩ := Int.eq_ofNat_of_zero_le hm.1
 obtain ⟨row, e, h1, h2⟩ := Ex (A := List Bool) (Ch N (M : Int) bad diag (acc, (i : Int)) j) (fun a k => (a, k)) M j
  (fun k a => a.length = k ∧ ∀ q, q < k → diag = true → q = i → a.getD q false = true)
  (fun n k a hk ha => by
   refine ⟨a ++ [(diag && decide (i = k)) || (Int.tmod (E2 .u16 bad ((3 * i + k : Nat) : Int)) 2 == 0)], ?_, by simp [ha.1], Mn (P := fun q y => diag = true → q = i → y = true) ha.1 ha.2 (fun h1 h2 => by simp [h1, h2])⟩
   rw [Ch]
   simp only [Bd]
   rw [AL (by omega), AM (by omega), CI (n := 3 * (i : Int)) (by omega) (by omega), CI (n := 3 * (i : Int) + (k : Int)) (by omega) (by omega)]
   have l1 : ∀ y : Bool, a.length + ([y] : List Bool).length ≤ Dv := by intro y; rw [ha.1]; unfold Dv; simp; omega
   simp only [Az (l1 _), Az (show (0 : Int) ≤ 3 * (i : Int) + (k : Int) by omega)]
   have e1 : ((3 * i + k : Nat) : Int) = 3 * (i : Int) + (k : Int) := by omega
   rw [e1]
   have e2 : (((i : Nat) : Int) == ((k : Nat) : Int)) = decide (i = k) := by
    by_cases h : i = k
    ·simp [h]
    ·rw [decide_eq_false h]; exact beq_eq_false_iff_ne.2 (by omega)
   rw [e2]
   cases diag <;> cases decide (i = k) <;> rfl)
  (fun n a _ => by
   rw [Ch]
   simp only [Bd]
   rw [AH (by omega)]) N 0 [] (Nat.zero_le _) (by omega) ⟨rfl, fun q hq => by omega⟩
 exact ⟨row, e, by omega, fun hd hlt => h2 i (by omega) hd rfl⟩
theorem Rg (N : Nat) (n m bad : Int) (diag : Bool) (hN : N ≤ 1000000) (h20 : 20 ≤ N) (hn : 0 ≤ n ∧ n ≤ 6) (hm : 0 ≤ m ∧ m ≤ 6) :
  ∃ l, DB N n m bad diag = some l ∧ (l.length : Int) = n ∧ (∀ row, row ∈ l → (row.length : Int) = m) ∧ (diag = true → n = m → HE l = none) := by
 obtain ⟨M, rfl⟩ := Int.eq_ofNat_of_zero_le hn.1
 unfold DB
 obtain ⟨l, e, h1, h2⟩ := Ex (A := List (List Bool)) (Ca N (M : Int) m bad diag (fun v => some v)) (fun a k => (a, k)) M some
  (fun k a => a.length = k ∧ ∀ q, q < k → (((a.getD q []).length : Nat) : Int) = m ∧ (diag = true → (q : Int) < m → (a.getD q []).getD q false = true))
  (fun n k a hk ha => by
   obtain ⟨row, e, h1, h2⟩ := S1 (R := Unit) N m bad diag k a (fun (v5 : List Bool) =>
    (Eg (a.length + (([v5] : List (List Bool))).length ≤ Dv)).bind fun _ =>
    Ca N (M : Int) m bad diag (fun v => some v) n (a ++ (([v5] : List (List Bool))), (IntKind.wrap .i64 ((k : Int) + 1)))) hN h20 hm (by omega)
   refine ⟨a ++ [row], ?_, by simp [ha.1], Mn (P := fun q y => ((y.length : Nat) : Int) = m ∧ (diag = true → (q : Int) < m → y.getD q false = true)) ha.1 ha.2 ⟨h1, h2⟩⟩
   rw [Ca]
   simp only [Bd]
   rw [AL (by omega), e, Az (by rw [ha.1]; unfold Dv; simp; omega), AM (by omega)])
  (fun n a _ => by
   rw [Ca]
   simp only [Bd]
   rw [AH (by omega)]) N 0 [] (Nat.zero_le _) (by omega) ⟨rfl, fun q hq => by omega⟩
 have key : ∀ q row, l[q]? = some row → l.getD q [] = row := fun q row hq => by rw [List.getD_eq_getElem?_getD, hq]; rfl
 refine ⟨l, e, by omega, fun row hr => ?_, fun hd hnm => ?_⟩
 ·obtain ⟨q, hq⟩ := List.mem_iff_getElem?.1 hr
  have := (h2 q (by have := (List.getElem?_eq_some_iff.1 hq).1; omega)).1
  rwa [key q row hq] at this
 ·unfold HE
  refine EE fun q row hq => ?_
  have hlt := (List.getElem?_eq_some_iff.1 hq).1
  have := (h2 q (by omega)).2 hd (by omega)
  rw [key q row hq] at this
  rw [Nat.zero_add, this]; rfl
structure SV (p : Ae) : Prop where
 valid : BP p = 0
 nv : p.fVersions.length ≤ 3
 nt : p.fTables.length ≤ 4
 v3 : ∀ v, v ∈ p.fVersions → v ≤ 3
theorem RX {p q : Ae} (h : p.fVersions = q.fVersions) (t : AF) : DI p t = DI q t := by
 unfold DI; rw [h]
theorem XG (N : Nat) (d : BL) (hN : N ≤ 1000000) (h20 : 20 ≤ N) (hw : EG d) : ∃ p ok, EK N d = some (p, ok) ∧ (ok = true → SV p) := by
 obtain ⟨w1, w2, w3, w4, _⟩ := hw
 unfold EK
 simp only [Bd]
 by_cases k1 : 3 < d.fVersions.length
 ·rw [AL (by omega)]; exact ⟨_, false, rfl, fun h => by cases h⟩
 by_cases k2 : 4 < d.fLinks.length
 ·rw [AH (by omega), decide_eq_true (by omega : (4 : Int) < (d.fLinks.length : Int))]; exact ⟨_, false, rfl, fun h => by cases h⟩
 rw [AH (by omega), decide_eq_false (by omega : ¬ (4 : Int) < (d.fLinks.length : Int)), Au]
 obtain ⟨⟨vs, ns, ts⟩, e, h1, h2, h3, h4⟩ := Ex (A := List Int × List Int × List Int) (Cv N d fun v5 => Bw N d v5 (fun v16 => some (Ae.mk v5.1 v5.2.1 v5.2.2 v16, true)) N ([], 0)) (fun a k => (a.1, a.2.1, a.2.2, k)) d.fVersions.length
  (fun v5 => Bw N d v5 (fun v16 => some (Ae.mk v5.1 v5.2.1 v5.2.2 v16, true)) N ([], 0))
  (fun i a => a.1.length = i ∧ a.2.1.length = i ∧ a.2.2.length = i ∧ (∀ k, k < i → (1 ≤ a.1.getD k 0 ∧ a.1.getD k 0 ≤ 3) ∧ (0 ≤ a.2.1.getD k 0 ∧ a.2.1.getD k 0 < a.1.getD k 0) ∧ (0 ≤ a.2.2.getD k 0 ∧ a.2.2.getD k 0 < a.1.getD k 0)))
  (fun n i a hi ha => by
   obtain ⟨vs, ns, ts⟩ := a
   obtain ⟨h1, h2, h3, h4⟩ := ha
   simp only at h1 h2 h3 h4
   have hv := Rm w1 i
   have hb := Rm w2 i
   have hk := Rm w3 i
   have hm := GO (n := 3) hv.1 (by omega)
   obtain ⟨v, hvd⟩ : ∃ v, v = 1 + Int.tmod (d.fVersions.getD i 0) 3 := ⟨_, rfl⟩
   have m1 := GO (n := v) hb.1 (by omega)
   have m2 := GO (n := v) hk.1 (by omega)
   refine ⟨(vs ++ [v], ns ++ [Int.tmod (d.fNow.getD i 0) v], ts ++ [Int.tmod (d.fTarget.getD i 0) v]), ?_, by simp [h1], by simp [h2], by simp [h3], ?_⟩
   ·rw [Cv]
    simp only [Bd]
    rw [AL (by omega), CN (d := 0) hi, NS N w2, NS N w3]
    simp only [Option.bind_some]
    rw [CI (n := Int.tmod _ _) (by omega) (by omega), CI (n := 1 + _) (by omega) (by omega), ← hvd, AM (by omega)]
    have l1 : ∀ y : Int, vs.length + ([y] : List Int).length ≤ Dv := by intro y; rw [h1]; unfold Dv; simp; omega
    have l2 : ∀ y : Int, ns.length + ([y] : List Int).length ≤ Dv := by intro y; rw [h2]; unfold Dv; simp; omega
    have l3 : ∀ y : Int, ts.length + ([y] : List Int).length ≤ Dv := by intro y; rw [h3]; unfold Dv; simp; omega
    simp only [Az (l1 _), Az (l2 _), Az (l3 _), Az (show v ≠ 0 by omega)]
   ·intro k hk
    simp only
    by_cases hki : k < i
    ·rw [H1 (by omega), H1 (by omega), H1 (by omega)]; exact h4 k hki
    ·have : k = i := by omega
     subst this
     rw [H8 h1.symm, H8 h2.symm, H8 h3.symm]
     omega)
  (fun n a _ => by
   rw [Cv]
   simp only [Bd]
   rw [AH (by omega)]) N 0 ([], [], []) (Nat.zero_le _) (by omega) ⟨rfl, rfl, rfl, fun k hk => by omega⟩
 simp only at h1 h2 h3 h4
 have e' : Cv N d (fun v5 => Bw N d v5 (fun v16 => some (Ae.mk v5.1 v5.2.1 v5.2.2 v16, true)) N ([], 0)) N ([], [], [], 0) = _ := e
 rw [e']
 have hvs : ∀ v, v ∈ vs → 1 ≤ v ∧ v ≤ 3 := by
  intro v hv
  obtain ⟨q, hq⟩ := List.mem_iff_getElem?.1 hv
  have := (h4 q (by have := (List.getElem?_eq_some_iff.1 hq).1; omega)).1
  rwa [List.getD_eq_getElem?_getD, hq] at this
 have fin : ∀ tabs : List AF, tabs.length ≤ 4 → (∀ t, t ∈ tabs → DI ⟨vs, ns, ts, []⟩ t = 0) → SV ⟨vs, ns, ts, tabs⟩ := by
  intro tabs ht h
  have hp : Bi ⟨vs, ns, ts, tabs⟩ := ⟨show vs.length ≤ 6 by omega, show tabs.length ≤ 12 by omega, show ns.length = vs.length by omega, show ts.length = vs.length by omega, fun v hv => by have := hvs v hv; omega, fun t ht => by rw [← h t ht]; exact RX rfl t⟩
  exact ⟨O6 hp fun i hi => by have := h4 i (by have : i < vs.length := hi; omega); simp only; omega, show vs.length ≤ 3 by omega, ht, fun v hv => (hvs v hv).2⟩
 by_cases k3 : vs.length = 0
 ·refine ⟨_, true, ?_, fun _ => fin [] (by simp) (fun t ht => by cases ht)⟩
  obtain ⟨M, rfl⟩ : ∃ M, N = M + 1 := ⟨N - 1, by omega⟩
  rw [Bw]
  simp only [Bd]
  rw [k3]
  by_cases k4 : (0 : Int) < (d.fLinks.length : Int)
  ·rw [AL k4]; rfl
  ·rw [AH k4]; rfl
 obtain ⟨tabs, e2, g1, g2⟩ := Ex (A := List AF) (Bw N d (vs, ns, ts) (fun v16 => some (Ae.mk vs ns ts v16, true))) (fun a k => (a, k)) d.fLinks.length (fun v16 => some (Ae.mk vs ns ts v16, true))
  (fun i a => a.length = i ∧ ∀ t, t ∈ a → DI ⟨vs, ns, ts, []⟩ t = 0)
  (fun n i a hi ha => by
   have hx : d.fLinks[i]? = some d.fLinks[i] := by simp [hi]
   generalize d.fLinks[i] = l at hx
   obtain ⟨u1, u2, u3, _, u5, u6, _⟩ := w4 l (List.mem_of_getElem? hx)
   have u1 := HB u1
   have u2 := HB u2
   have u3 := HB u3
   have mk := GO (n := 4) u1.1 (by omega)
   have hL : (0 : Int) < (vs.length : Int) := by omega
   have mf := GO (n := (vs.length : Int)) u2.1 hL
   have mt := GO (n := (vs.length : Int)) u3.1 hL
   rw [Bw]
   simp only [Bd]
   rw [AL (by omega), decide_eq_true hL, AN, A2, hx]
   simp only [Option.bind_some]
   rw [Az (by omega), Az (by omega), CI (n := l.fFrom) (by omega) (by omega), CI (n := l.fTo) (by omega) (by omega), CI (n := Int.tmod l.fKind 4) (by omega) (by omega), CI (n := 1 + _) (by omega) (by omega), AM (by omega)]
   simp only [Lw, Option.bind_some]
   rw [Em (d := 0) mf.1 mf.2, Em (d := 0) mt.1 mt.2]
   simp only [Option.bind_some]
   have hA : ∀ q : Int, 0 ≤ q → q < (vs.length : Int) → 1 ≤ vs.getD q.toNat 0 ∧ vs.getD q.toNat 0 ≤ 3 := fun q h0 h1 => (h4 q.toNat (by omega)).1
   have hf := hA _ mf.1 mf.2
   have ht := hA _ mt.1 mt.2
   obtain ⟨A, eA, a1, a2, _⟩ := Rg N (vs.getD (Int.tmod l.fFrom (vs.length : Int)).toNat 0) (vs.getD (Int.tmod l.fTo (vs.length : Int)).toNat 0) l.fBad false hN h20 (by omega) (by omega)
   obtain ⟨B, eB, b1, b2, b3⟩ := Rg N (vs.getD (Int.tmod l.fFrom (vs.length : Int)).toNat 0) (vs.getD (Int.tmod l.fFrom (vs.length : Int)).toNat 0) l.fLost true hN h20 (by omega) (by omega)
   rw [eA, eB]
   simp only [Option.bind_some]
   have l1 : ∀ y : AF, a.length + ([y] : List AF).length ≤ Dv := by intro y; rw [ha.1]; unfold Dv; simp; omega
   simp only [Az (l1 _)]
   obtain ⟨kd, hkd⟩ : ∃ kd, kd = 1 + Int.tmod l.fKind 4 := ⟨_, rfl⟩
   rw [← hkd]
   have fin2 : ∀ (aw : Bool) (re : List (List Bool)), (aw = true → (kd == 3 || kd == 4) = false) → ((kd = 4 → re = B) ∧ (kd ≠ 4 → re = [])) →
     DI ⟨vs, ns, ts, []⟩ (AF.mk kd (Int.tmod l.fFrom (vs.length : Int)) (Int.tmod l.fTo (vs.length : Int)) aw A re) = 0 := by
    intro aw re haw hre
    refine VV ⟨show 1 ≤ kd ∧ kd ≤ 4 by omega, haw, mf, mt, a1, a2, fun h => by rw [hre.1 h]; exact b1, fun row hr => ?_, fun h => by rw [hre.1 h]; exact b3 rfl rfl, fun h => hre.2 h⟩
    by_cases h4 : kd = 4
    ·simp only at hr; rw [hre.1 h4] at hr; exact b2 row hr
    ·simp only at hr; rw [hre.2 h4] at hr; cases hr
   have app : ∀ t, DI ⟨vs, ns, ts, []⟩ t = 0 → (a ++ [t]).length = i + 1 ∧ ∀ t', t' ∈ a ++ [t] → DI ⟨vs, ns, ts, []⟩ t' = 0 := by
    intro t ht
    refine ⟨by simp [ha.1], fun t' ht' => ?_⟩
    rcases List.mem_append.1 ht' with h | h
    ·exact ha.2 t' h
    ·rw [List.mem_singleton.1 h]; exact ht
   by_cases h4 : kd = 4
   ·have e4 : (kd == 4) = true := beq_iff_eq.2 h4
    have hre : (kd = 4 → B = B) ∧ (kd ≠ 4 → B = []) := ⟨fun _ => rfl, fun h => (h h4).elim⟩
    rw [e4]
    simp only [AN, Bool.or_true, Bool.not_true]
    cases l.fAware
    ·exact ⟨_, rfl, app _ (fin2 false B (fun h => by cases h) hre)⟩
    ·exact ⟨_, rfl, app _ (fin2 false B (fun h => by cases h) hre)⟩
   ·have e4 : (kd == 4) = false := beq_eq_false_iff_ne.2 h4
    have hre : (kd = 4 → ([] : List (List Bool)) = B) ∧ (kd ≠ 4 → ([] : List (List Bool)) = []) := ⟨fun h => (h4 h).elim, fun _ => rfl⟩
    rw [e4]
    simp only [Au, Bool.or_false]
    cases l.fAware
    ·exact ⟨_, rfl, app _ (fin2 false [] (fun h => by cases h) hre)⟩
    ·cases e3 : kd == 3
     ·exact ⟨_, rfl, app _ (fin2 true [] (fun _ => by rw [e3, e4]; rfl) hre)⟩
     ·exact ⟨_, rfl, app _ (fin2 false [] (fun h => by cases h) hre)⟩)
  (fun n a _ => by
   rw [Bw]
   simp only [Bd]
   rw [AH (by omega), Au]) N 0 [] (Nat.zero_le _) (by omega) ⟨rfl, fun t ht => by cases ht⟩
 exact ⟨_, true, e2, fun _ => fin tabs (by omega) g2⟩
end Go.Lift

/- The mixes that result from aborts: both implementations give one list. -/
namespace Go.Lift
def Hl : List Int → Nat → Nat
 | [], _ => 0
 | _, 0 => 0
 | n :: ns, q + 1 => (if 0 ≤ n then 1 else 0) + Hl ns q
theorem HF (l : List Int) : Hl l 0 = 0 := by cases l <;> rfl
theorem Gn : ∀ (l : List Int) (q : Nat), q < l.length → Hl l (q + 1) = Hl l q + if 0 ≤ l.getD q 0 then 1 else 0
 | [], q, h => by simp at h
 | n :: ns, 0, _ => by simp [Hl, HF]
 | n :: ns, q + 1, h => by
  rw [Hl, Gn ns q (by simpa using h), Hl, List.getD_cons_succ, Nat.add_assoc]
theorem M8 (l : List Int) {a b : Nat} (h : a ≤ b) (hb : b ≤ l.length) : Hl l a ≤ Hl l b := by
 induction b with
 | zero => rw [Nat.le_zero.1 h]; exact Nat.le_refl _
 | succ b ih =>
  by_cases h1 : a = b + 1
  ·rw [h1]; exact Nat.le_refl _
  ·have := ih (by omega) (by omega)
   rw [Gn l b (by omega)]; omega
theorem JA (l : List Int) : ∀ q, q ≤ l.length → Hl l q ≤ q
 | 0, _ => by rw [HF]; exact Nat.le_refl _
 | q + 1, h => by
  have := JA l q (by omega)
  rw [Gn l q h]
  split <;> omega
def Lx (l : List Int) (k q : Nat) : Int := if 0 ≤ l.getD q 0 ∧ k.testBit (Hl l q) = true then -1 else l.getD q 0
def TB (l : List Int) (k : Nat) : List Int := (List.range l.length).map (Lx l k)
def Vf (m : Ah) (k : Nat) : Ah := ⟨m.fBase, TB m.fNext k, m.fHeld⟩
def Fm (m : Ah) : List Ah := (List.range (2 ^ Hl m.fNext m.fNext.length)).map (Vf m)
theorem KQ (l : List Int) (k : Nat) : (TB l k).length = l.length := by simp [TB]
theorem OO (l : List Int) (k q : Nat) (h : q < l.length) : (TB l k).getD q 0 = Lx l k q := by
 unfold TB; rw [List.getD_eq_getElem?_getD, List.getElem?_map, List.getElem?_range h]; rfl
theorem EQ {l1 l2 : List Int} (h1 : l1.length = l2.length) (h : ∀ q, q < l1.length → l1.getD q 0 = l2.getD q 0) : l1 = l2 := by
 apply List.ext_getElem h1
 intro q h2 h3
 have := h q h2
 rw [List.getD_eq_getElem?_getD, List.getD_eq_getElem?_getD, List.getElem?_eq_getElem h2, List.getElem?_eq_getElem h3] at this
 exact this
theorem Rd : ∀ (k : Fin 64) (b : Fin 7), FK .i64 (E2 .i64 (k.val : Int) (b.val : Int)) 1 = (if k.val.testBit b.val then 1 else 0) ∧ Int.tmod (E2 .i64 (k.val : Int) (b.val : Int)) 2 = (if k.val.testBit b.val then 1 else 0) := by decide +kernel
theorem UI : ∀ n : Fin 7, Dw .i64 1 (n.val : Int) = ((2 ^ n.val : Nat) : Int) := by decide +kernel
structure Nv (m x : Ah) : Prop where
 base : x.fBase = m.fBase
 held : x.fHeld = m.fHeld
 len : x.fNext.length = m.fNext.length
 next : ∀ q, q < m.fNext.length → x.fNext.getD q 0 = m.fNext.getD q 0 ∨ (0 ≤ m.fNext.getD q 0 ∧ x.fNext.getD q 0 = -1)
theorem Nv.refl (m : Ah) : Nv m m := ⟨rfl, rfl, rfl, fun _ _ => .inl rfl⟩
theorem Nv.trans {a b c : Ah} (h1 : Nv a b) (h2 : Nv b c) : Nv a c :=
 ⟨h2.base.trans h1.base, h2.held.trans h1.held, h2.len.trans h1.len, fun q hq => by
  have e1 := h1.next q hq
  have e2 := h2.next q (by rw [h1.len]; exact hq)
  omega⟩
theorem SE (m : Ah) (k : Nat) : Nv m (Vf m k) :=
 ⟨rfl, rfl, KQ _ _, fun q hq => by
  show (TB m.fNext k).getD q 0 = _ ∨ _ ∧ (TB m.fNext k).getD q 0 = _
  rw [OO _ _ _ hq]; unfold Lx
  split
  ·rename_i h; exact .inr ⟨h.1, rfl⟩
  ·exact .inl rfl⟩
theorem Q7 : ∀ (l x : List Int), x.length = l.length → (∀ q, q < l.length → x.getD q 0 = l.getD q 0 ∨ (0 ≤ l.getD q 0 ∧ x.getD q 0 = -1)) → ∃ k, k < 2 ^ Hl l l.length ∧ ∀ q, q < l.length → x.getD q 0 = Lx l k q
 | [], x, h, _ => ⟨0, by simp [Hl], fun q hq => by simp at hq⟩
 | n :: ns, [], h, _ => by simp at h
 | n :: ns, y :: ys, h, hq => by
  obtain ⟨k, hk, hk2⟩ := Q7 ns ys (by simpa using h) (fun q hq' => by have := hq (q + 1) (by simpa using hq'); simpa using this)
  have h0 := hq 0 (by simp)
  simp only [List.getD_cons_zero] at h0
  by_cases hn : 0 ≤ n
  ·refine ⟨2 * k + if y = n then 0 else 1, ?_, ?_⟩
   ·rw [List.length_cons, Hl, if_pos hn, Nat.pow_add]
    split <;> omega
   ·intro q hq'
    cases q with
    | zero =>
     simp only [List.getD_cons_zero, Lx, HF]
     by_cases hy : y = n
     ·simp [hy]
     ·rw [if_neg hy, if_pos ⟨hn, by simp⟩]; omega
    | succ q =>
     have := hk2 q (by simpa using hq')
     simp only [List.getD_cons_succ, Lx, Hl, if_pos hn] at this ⊢
     rw [this, Nat.add_comm 1, Nat.testBit_succ]
     have : (2 * k + if y = n then 0 else 1) / 2 = k := by split <;> omega
     rw [this]
  ·refine ⟨k, ?_, ?_⟩
   ·rw [List.length_cons, Hl, if_neg hn, Nat.zero_add]; exact hk
   ·intro q hq'
    cases q with
    | zero =>
     simp only [List.getD_cons_zero, Lx, HF]
     rw [if_neg (fun h => hn h.1)]
     omega
    | succ q =>
     have := hk2 q (by simpa using hq')
     simp only [List.getD_cons_succ, Lx, Hl, if_neg hn, Nat.zero_add] at this ⊢
     exact this
theorem Ms {m x : Ah} : x ∈ Fm m ↔ Nv m x := by
 unfold Fm
 rw [List.mem_map]
 constructor
 ·rintro ⟨k, _, rfl⟩; exact SE m k
 ·intro h
  obtain ⟨k, hk, hq⟩ := Q7 m.fNext x.fNext h.len h.next
  refine ⟨k, List.mem_range.2 hk, ?_⟩
  have : TB m.fNext k = x.fNext := EQ (by rw [KQ, h.len]) fun q hq' => by
   rw [KQ] at hq'
   rw [OO _ _ _ hq', hq q hq']
  unfold Vf
  rw [this, ← h.base, ← h.held]
theorem VL {m x : Ah} (h : Nv m x) {s : Nat} (hs : s < m.fNext.length) {v : Nat} (hv : Hj x s v = true) : Hj m s v = true := by
 unfold Hj at hv ⊢
 rw [h.base] at hv
 have := h.next s hs
 simp only [Bool.or_eq_true, decide_eq_true_eq] at hv ⊢
 omega
theorem U0 {p : Ae} {m x : Ah} (hp : Bi p) (hm : BN p m) (h : Nv m x) : BN p x := by
 refine ⟨⟨by rw [h.base]; exact hm.base, by rw [h.len]; exact hm.next, by rw [h.held]; exact hm.held, fun i hi => by rw [h.base]; exact hm.b0 i hi, fun i hi => ?_, fun i hi => ?_⟩, fun i hi => by rw [h.held]; exact hm.range i hi, fun i t ht hs v hv => ?_, fun i t ht hs v hv => ?_, fun i t ht hs => by rw [h.held]; exact hm.none i t ht hs⟩
 ·have h1 := hm.n0 i hi
  have h2 := h.next i (by rw [hm.next]; exact hi)
  have h3 := Ha hp hi
  omega
 ·have h1 := hm.ne i hi
  have h2 := h.next i (by rw [hm.next]; exact hi)
  have h3 := hm.b0 i hi
  rw [h.base]
  omega
 ·have hin := (Lr (hp.tab t (List.mem_of_getElem? ht))).from0
  rw [h.held]
  exact hm.low i t ht hs v (VL h (by rw [hm.next]; omega) hv)
 ·rw [h.held] at hv
  exact hm.high i t ht hs v hv
theorem Iu (N : Nat) (l : List Int) (h : l.length ≤ Dv) : BH N l = some l := by
 unfold BH
 rw [Az (by simpa using h)]; rfl
theorem NV (N : Nat) (l : List Int) (h : l.length ≤ Dv) : BO N l = some l := by
 unfold BO
 rw [Az (by simpa using h)]; rfl
theorem Hx {l : List Int} {i q : Nat} {y : Int} (hi : i < l.length) : (l.set i y).getD q 0 = if q = i then y else l.getD q 0 := by
 rw [List.getD_eq_getElem?_getD, List.getD_eq_getElem?_getD, List.getElem?_set]
 by_cases h : i = q
 ·subst h; simp [hi]
 ·rw [if_neg h, if_neg (fun e => h e.symm)]
theorem Ub {l : List Int} {a b : Nat} (ha : a < l.length) (hb : b < l.length) (h1 : 0 ≤ l.getD a 0) (h2 : 0 ≤ l.getD b 0) (h : Hl l a = Hl l b) : a = b := by
 rcases Nat.lt_trichotomy a b with h3 | h3 | h3
 ·have := M8 l (a := a + 1) (b := b) h3 (by omega)
  rw [Gn l a ha, if_pos h1] at this; omega
 ·exact h3
 ·have := M8 l (a := b + 1) (b := a) h3 (by omega)
  rw [Gn l b hb, if_pos h2] at this; omega
structure Tv (l : List Int) (o : List Int) : Prop where
 len : o.length = Hl l l.length
 at_ : ∀ b, b < o.length → ∃ i : Nat, o.getD b 0 = (i : Int) ∧ i < l.length ∧ 0 ≤ l.getD i 0 ∧ Hl l i = b
theorem PU (N : Nat) (l o : List Int) (k : Nat) (acc : List Ah) (hN : N ≤ 1000000) (h20 : 20 ≤ N) (hl : l.length ≤ 6) (ho : Tv l o) (hk : k < 64) (j : List Int → Option (List Ah × Int)) :
  CM N o (acc, (k : Int)) j N (l, 0) = j (TB l k) := by
 have hol := JA l l.length (Nat.le_refl _)
 have hoL := ho.len
 obtain ⟨x, e, h1, h2⟩ := Ex (A := List Int) (CM N o (acc, (k : Int)) j) (fun a k => (a, k)) o.length j
  (fun b a => a.length = l.length ∧ ∀ q, q < l.length → a.getD q 0 = if 0 ≤ l.getD q 0 ∧ Hl l q < b ∧ k.testBit (Hl l q) = true then -1 else l.getD q 0)
  (fun n b a hb ha => by
   obtain ⟨i, hi1, hi2, hi3, hi4⟩ := ho.at_ b hb
   have hbit := Rd ⟨k, hk⟩ ⟨b, by omega⟩
   rw [CM]
   simp only [Bd]
   rw [AL (by omega), CN (d := 0) hb]
   simp only [Option.bind_some]
   rw [Az (by omega), hi1, hbit.1, CN (d := 0) (show i < a.length by rw [ha.1]; exact hi2), AM (by omega)]
   simp only [Option.bind_some, Int.toNat_natCast]
   cases hkb : k.testBit b
   ·refine ⟨a, rfl, ha.1, fun q hq => ?_⟩
    rw [ha.2 q hq]
    by_cases hqb : Hl l q = b
    ·rw [hqb, hkb]; simp
    ·by_cases h3 : Hl l q < b
     ·have : Hl l q < b + 1 := by omega
      simp [h3, this]
     ·have : ¬ Hl l q < b + 1 := by omega
      simp [h3, this]
   ·refine ⟨a.set i (-1), rfl, by simp [ha.1], fun q hq => ?_⟩
    rw [Hx (by rw [ha.1]; exact hi2), ha.2 q hq]
    by_cases hqi : q = i
    ·subst hqi
     rw [if_pos rfl, if_pos ⟨hi3, by omega, by rw [hi4]; exact hkb⟩]
    ·rw [if_neg hqi]
     by_cases h0 : 0 ≤ l.getD q 0
     ·have hne : Hl l q ≠ b := fun h => hqi (Ub hq hi2 h0 hi3 (by omega))
      by_cases h3 : Hl l q < b
      ·have : Hl l q < b + 1 := by omega
       simp [h3, this]
      ·have : ¬ Hl l q < b + 1 := by omega
       simp [h3, this]
     ·rw [if_neg (fun h => h0 h.1), if_neg (fun h => h0 h.1)])
  (fun n a _ => by
   rw [CM]
   simp only [Bd]
   rw [AH (by omega)]) N 0 l (Nat.zero_le _) (by omega) ⟨rfl, fun q hq => by simp⟩
 have e' : CM N o (acc, (k : Int)) j N (l, 0) = j x := e
 rw [e']
 congr 1
 refine EQ (by rw [KQ, h1]) fun q hq => ?_
 rw [h1] at hq
 rw [h2 q hq, OO _ _ _ hq, Lx]
 by_cases h0 : 0 ≤ l.getD q 0
 ·have h3 := M8 l (a := q + 1) (b := l.length) hq (Nat.le_refl _)
  rw [Gn l q hq, if_pos h0] at h3
  have : Hl l q < o.length := by omega
  simp [this]
 ·rw [if_neg (fun h => h0 h.1), if_neg (fun h => h0 h.1)]
theorem P0 (N : Nat) (m : Ah) (k : Nat) (acc : List Ah) (hN : N ≤ 1000000) (h20 : 20 ≤ N) (hl : m.fNext.length ≤ 6) (hk : k < 64) (j : List Int → Option (List Ah)) :
  BQ N m (acc, (k : Int)) j N (m.fNext, 0, 0) = j (TB m.fNext k) := by
 obtain ⟨⟨x, pl⟩, e, h1, h2, h3⟩ := Ex (A := List Int × Nat) (BQ N m (acc, (k : Int)) j) (fun a k => (a.1, (a.2 : Int), k)) m.fNext.length (fun a => j a.1)
  (fun i a => a.2 = Hl m.fNext i ∧ a.1.length = m.fNext.length ∧ ∀ q, q < m.fNext.length → a.1.getD q 0 = if q < i then Lx m.fNext k q else m.fNext.getD q 0)
  (fun n i a hi ha => by
   obtain ⟨a, pl⟩ := a
   obtain ⟨a1, a2, a3⟩ := ha
   simp only at a1 a2 a3
   have hple := JA m.fNext i (by omega)
   have hbit := Rd ⟨k, hk⟩ ⟨pl, by omega⟩
   have hs := Gn m.fNext i hi
   rw [BQ]
   simp only [Bd]
   rw [AL (by omega), CN (d := 0) hi]
   simp only [Option.bind_some]
   rw [AM (by omega)]
   by_cases h0 : m.fNext.getD i 0 < 0
   ·rw [AL h0]
    refine ⟨(a, pl), rfl, by simp only; rw [hs, if_neg (by omega), a1]; rfl, a2, fun q hq => ?_⟩
    simp only
    rw [a3 q hq]
    by_cases hqi : q = i
    ·subst hqi
     rw [if_neg (by omega), if_pos (by omega), Lx, if_neg (by omega)]
    ·by_cases h4 : q < i
     ·rw [if_pos h4, if_pos (by omega)]
     ·rw [if_neg h4, if_neg (by omega)]
   ·rw [AH h0, Az (by omega), CN (d := 0) (show i < a.length by omega), hbit.2, AM (by omega)]
    simp only [Option.bind_some, Int.toNat_natCast]
    cases hkb : k.testBit pl
    ·refine ⟨(a, pl + 1), rfl, by simp only; rw [hs, if_pos (by omega), a1], a2, fun q hq => ?_⟩
     simp only
     rw [a3 q hq]
     by_cases hqi : q = i
     ·subst hqi
      rw [if_neg (by omega), if_pos (by omega), Lx, ← a1, hkb]; simp
     ·by_cases h4 : q < i
      ·rw [if_pos h4, if_pos (by omega)]
      ·rw [if_neg h4, if_neg (by omega)]
    ·refine ⟨(a.set i (-1), pl + 1), rfl, by simp only; rw [hs, if_pos (by omega), a1], by simp [a2], fun q hq => ?_⟩
     simp only
     rw [Hx (by omega), a3 q hq]
     by_cases hqi : q = i
     ·subst hqi
      rw [if_pos rfl, if_pos (by omega), Lx, ← a1, if_pos ⟨by omega, hkb⟩]
     ·rw [if_neg hqi]
      by_cases h4 : q < i
      ·rw [if_pos h4, if_pos (by omega)]
      ·rw [if_neg h4, if_neg (by omega)])
  (fun n a _ => by
   rw [BQ]
   simp only [Bd]
   rw [AH (by omega)]) N 0 (m.fNext, 0) (Nat.zero_le _) (by omega) ⟨(HF _).symm, rfl, fun q hq => by simp⟩
 have e' : BQ N m (acc, (k : Int)) j N (m.fNext, 0, 0) = j x := e
 rw [e']
 congr 1
 simp only at h2 h3
 refine EQ (by rw [KQ, h2]) fun q hq => ?_
 rw [h2] at hq
 rw [h3 q hq, if_pos hq, OO _ _ _ hq]
end Go.Lift

/- Aborts, the first mix that is to blame, and robustness: both implementations give one answer. -/
namespace Go.Lift
theorem Sk (N : Nat) (m : Ah) (hN : N ≤ 1000000) (h20 : 20 ≤ N) (hl : m.fNext.length ≤ 6) (j : List Int → Option (List Ah × Int)) :
  ∃ o, Dp N m j N ([], 0) = j o ∧ Tv m.fNext o := by
 obtain ⟨o, e, h1, h2⟩ := Ex (A := List Int) (Dp N m j) (fun a k => (a, k)) m.fNext.length j
  (fun i o => o.length = Hl m.fNext i ∧ ∀ b, b < o.length → ∃ q : Nat, o.getD b 0 = (q : Int) ∧ q < m.fNext.length ∧ 0 ≤ m.fNext.getD q 0 ∧ Hl m.fNext q = b)
  (fun n i o hi ho => by
   have hple := JA m.fNext i (by omega)
   have hs := Gn m.fNext i hi
   rw [Dp]
   simp only [Bd]
   rw [AL (by omega), CN (d := 0) hi]
   simp only [Option.bind_some]
   rw [AM (by omega)]
   by_cases h0 : 0 ≤ m.fNext.getD i 0
   ·rw [AL h0, Az (by rw [ho.1]; unfold Dv; simp; omega)]
    refine ⟨o ++ [(i : Int)], rfl, by rw [hs, if_pos h0, ← ho.1]; simp, ?_⟩
    rw [List.length_append]
    exact Mn (P := fun b y => ∃ q : Nat, y = (q : Int) ∧ q < m.fNext.length ∧ 0 ≤ m.fNext.getD q 0 ∧ Hl m.fNext q = b) rfl ho.2 ⟨i, rfl, hi, h0, ho.1.symm⟩
   ·rw [AH h0]
    exact ⟨o, rfl, by rw [hs, if_neg h0, ho.1]; rfl, ho.2⟩)
  (fun n a _ => by
   rw [Dp]
   simp only [Bd]
   rw [AH (by omega)]) N 0 [] (Nat.zero_le _) (by omega) ⟨(HF _).symm, fun b hb => by simp at hb⟩
 exact ⟨o, e, h1, h2⟩
theorem Kj {n : Nat} (h : n ≤ 6) : 2 ^ n ≤ 64 := Nat.pow_le_pow_right (n := 2) (by omega) h
theorem Ma {n : Nat} (h : n ≤ 6) : Dw .i64 1 (n : Int) = ((2 ^ n : Nat) : Int) := UI ⟨n, by omega⟩
theorem Js {β : Type} (f : Nat → β) (n : Nat) : (List.range (n + 1)).map f = (List.range n).map f ++ [f n] := by
 rw [List.range_succ, List.map_append]; rfl
theorem NA (N : Nat) (p : Ae) (m : Ah) (hN : N ≤ 1000000) (h20 : 100 ≤ N) (hw : Mf JU m.fHeld) (hv : EM p m = 0) : FX N p m = some (Fm m, 0) := by
 obtain ⟨hp, hm⟩ := Iq hw hv
 have hnv := hp.nv
 have hnt := hp.nt
 have hl : m.fNext.length ≤ 6 := by rw [hm.next]; omega
 unfold FX
 rw [Hk N p m hN (by omega) hw, hv]
 simp only [Option.bind_some, bne_self_eq_false, Au]
 obtain ⟨o, e, ho⟩ := Sk N m hN (by omega) hl (fun (v4 : (List Int)) =>
   (Eg (0 ≤ (v4.length : Int))).bind fun _ =>
   CJ N m v4 (fun (v12 : (List Ah)) =>
    some (v12, 0)) N (([] : List Ah), 0))
 rw [e, Az (by omega)]
 have hoL := ho.len
 have hol := JA m.fNext m.fNext.length (Nat.le_refl _)
 have hpow := Kj (show Hl m.fNext m.fNext.length ≤ 6 by omega)
 obtain ⟨a, e2, h1⟩ := Ex (A := List Ah) (CJ N m o fun v12 => some (v12, 0)) (fun a k => (a, k)) (2 ^ Hl m.fNext m.fNext.length) (fun v12 => some (v12, 0))
  (fun i a => a = (List.range i).map (Vf m))
  (fun n i a hi ha => by
   refine ⟨a ++ [Vf m i], ?_, by rw [Js, ha]⟩
   have hal : a.length = i := by rw [ha]; simp
   rw [CJ]
   rw [hoL, Ma (n := Hl m.fNext m.fNext.length) (by omega), AL (by omega), Iu N m.fBase (by have := hm.base; unfold Dv; omega), Iu N m.fNext (by unfold Dv; omega), NV N m.fHeld (by have := hm.held; unfold Dv; omega)]
   simp only [Option.bind_some]
   rw [PU N m.fNext o i a hN (by omega) hl ho (by omega), Az (by rw [hal]; unfold Dv; simp; omega), AM (by omega)]
   rfl)
  (fun n a _ => by
   rw [CJ]
   rw [hoL, Ma (n := Hl m.fNext m.fNext.length) (by omega), AH (by simp)]) N 0 [] (Nat.zero_le _) (by omega) rfl
 have e2' : CJ N m o (fun v12 => some (v12, 0)) N ([], 0) = some (a, 0) := e2
 rw [e2', h1]; rfl
theorem QD (N : Nat) (m : Ah) (h1 : m.fBase.length ≤ Dv) (h2 : m.fNext.length ≤ Dv) (h3 : m.fHeld.length ≤ Dv) : DK N m = some m := by
 unfold DK
 rw [Az (by simpa using h1), Az (by simpa using h2), Az (by simpa using h3)]; rfl
theorem QW (N : Nat) (m : Ah) (hN : N ≤ 1000000) (h20 : 100 ≤ N) (h1 : m.fBase.length ≤ 100) (hl : m.fNext.length ≤ 6) (h3 : m.fHeld.length ≤ 100) : DX N m = some (Fm m) := by
 unfold DX
 obtain ⟨c, e, hc⟩ := Ex (A := Nat) (Cn N m (fun (v2 : Int) =>
  Bu N m v2 (fun (v8 : (List Ah)) => some v8) N (([] : List Ah), 0))) (fun a k => ((a : Int), k)) m.fNext.length (fun a => Bu N m (a : Int) (fun (v8 : (List Ah)) => some v8) N (([] : List Ah), 0))
  (fun i a => a = Hl m.fNext i)
  (fun n i a hi ha => by
   have hple := JA m.fNext i (by omega)
   have hs := Gn m.fNext i hi
   rw [Cn]
   simp only [Bd]
   rw [AL (by omega), CN (d := 0) hi]
   simp only [Option.bind_some]
   rw [AM (by omega), AM (by omega)]
   by_cases h0 : 0 ≤ m.fNext.getD i 0
   ·rw [AL h0]
    exact ⟨a + 1, rfl, by rw [hs, if_pos h0, ha]⟩
   ·rw [AH h0]
    exact ⟨a, rfl, by rw [hs, if_neg h0, ha]; rfl⟩)
  (fun n a _ => by
   rw [Cn]
   simp only [Bd]
   rw [AH (by omega)]) N 0 0 (Nat.zero_le _) (by omega) (HF _).symm
 have e' : Cn N m (fun (v2 : Int) => Bu N m v2 (fun (v8 : (List Ah)) => some v8) N (([] : List Ah), 0)) N (0, 0) = _ := e
 rw [e', hc]
 have hol := JA m.fNext m.fNext.length (Nat.le_refl _)
 have hpow := Kj (show Hl m.fNext m.fNext.length ≤ 6 by omega)
 obtain ⟨a, e2, h1⟩ := Ex (A := List Ah) (Bu N m (Hl m.fNext m.fNext.length : Int) fun v8 => some v8) (fun a k => (a, k)) (2 ^ Hl m.fNext m.fNext.length) some
  (fun i a => a = (List.range i).map (Vf m))
  (fun n i a hi ha => by
   refine ⟨a ++ [Vf m i], ?_, by rw [Js, ha]⟩
   have hal : a.length = i := by rw [ha]; simp
   rw [Bu]
   rw [Az (by omega), Ma (n := Hl m.fNext m.fNext.length) (by omega), AL (by omega), QD N m (by unfold Dv; omega) (by unfold Dv; omega) (by unfold Dv; omega)]
   simp only [Option.bind_some]
   rw [P0 N m i a hN (by omega) hl (by omega), Az (by rw [hal]; unfold Dv; simp; omega), AM (by omega)]
   rfl)
  (fun n a _ => by
   rw [Bu]
   rw [Az (by omega), Ma (n := Hl m.fNext m.fNext.length) (by omega), AH (by simp)]) N 0 [] (Nat.zero_le _) (by omega) rfl
 have e2' : Bu N m (Hl m.fNext m.fNext.length : Int) (fun v8 => some v8) N ([], 0) = some a := e2
 rw [e2', h1]; rfl
theorem Qr (N : Nat) (p : Ae) (m : Ah) (hN : N ≤ 1000000) (h20 : 100 ≤ N) (hp : Bi p) (hm : BN p m) : DX N m = some (Fm m) := by
 have := hp.nv
 have := hp.nt
 exact QW N m hN h20 (by rw [hm.base]; omega) (by rw [hm.next]; omega) (by rw [hm.held]; omega)
theorem H0 {p : Ae} {m : Ah} (hm : BN p m) : Mf JU m.fHeld := by
 intro x hx
 obtain ⟨q, hq⟩ := List.mem_iff_getElem?.1 hx
 have h1 := (List.getElem?_eq_some_iff.1 hq).1
 have := hm.range q (by rw [← hm.held]; exact h1)
 rw [List.getD_eq_getElem?_getD, hq] at this
 unfold JU
 simp only [Option.getD_some] at this
 simp [Lit.wf, IntKind.min, IntKind.max, IntKind.signed, IntKind.bits]
 omega
def Ki (p : Ae) (x : Ah) : Option (Ah × An) := match F7 p x with
 | [] => none
 | c :: _ => some (x, c)
def HS (p : Ae) (m : Ah) : Option (Ah × An) := Dd (fun _ x => Ki p x) 0 (Fm m)
def Fy : Ah := ⟨[], [], []⟩
def Mk : An := ⟨0, 0, 0⟩
def MX (p : Ae) (m : Ah) : Ah × An × Int := match HS p m with
 | some (x, c) => (x, c, 0)
 | none => (Fy, Mk, 15)
def Bt (p : Ae) (m : Ah) : Bool := (HS p m).isNone
theorem Mo {m : Ah} (hl : m.fNext.length ≤ 6) : (Fm m).length ≤ 64 := by
 unfold Fm
 have hol := JA m.fNext m.fNext.length (Nat.le_refl _)
 have hpow := Kj (show Hl m.fNext m.fNext.length ≤ 6 by omega)
 simpa using hpow
theorem I7 {α R R' : Type} (f : Nat → α → Option R) (g : R → R') : ∀ (i : Nat) (xs : List α), Dd (fun i x => (f i x).map g) i xs = (Dd f i xs).map g
 | _, [] => rfl
 | i, x :: xs => by
  rw [FL, FL]
  cases f i x
  ·exact I7 f g (i + 1) xs
  ·rfl
theorem IG (N : Nat) (p : Ae) (m : Ah) (hN : N ≤ 1000000) (h20 : 100 ≤ N) (hw : Mf JU m.fHeld) (hv : EM p m = 0) : E7 N p m = some (MX p m) := by
 obtain ⟨hp, hm⟩ := Iq hw hv
 have hnv := hp.nv
 unfold E7
 rw [NA N p m hN h20 hw hv]
 simp only [Option.bind_some, bne_self_eq_false, Au]
 have hal := Mo (m := m) (by rw [hm.next]; omega)
 have := Cm (Ej N p (Fm m, 0) fun _ => some (Fy, Mk, 15)) (Fm m) (some (Fy, Mk, 15)) (fun _ x => (Ki p x).map fun y => (y.1, y.2, 0))
  (fun n i x hx => by
   have hi := (List.getElem?_eq_some_iff.1 hx).1
   have hx2 := U0 hp hm (Ms.1 (List.mem_of_getElem? hx))
   rw [Ej, AL (by simp only; omega)]
   simp only [A2, hx, Option.bind_some]
   rw [Lu N p x hN (by omega) hp hx2, AM (by omega)]
   simp only [Option.bind_some, Ki]
   cases F7 p x with
   | nil => rfl
   | cons c cs => rw [AL (by simp only [List.length_cons]; omega)]; rfl)
  (fun n => by rw [Ej, AH (by simp)]) N 0 (Nat.zero_le _) (by omega)
 rw [List.drop_zero, I7] at this
 exact this.trans (by
  unfold MX HS
  cases Dd (fun _ x => Ki p x) 0 (Fm m) <;> rfl)
theorem Ii (N : Nat) (p : Ae) (m : Ah) (hN : N ≤ 1000000) (h20 : 100 ≤ N) (hw : Mf JU m.fHeld) (hv : EM p m = 0) : Fg N p m = some (Bt p m, 0) := by
 unfold Fg
 rw [IG N p m hN h20 hw hv]
 unfold Bt MX
 cases HS p m <;> rfl
theorem Pe (N : Nat) (p : Ae) (m : Ah) (hN : N ≤ 1000000) (h20 : 100 ≤ N) (hp : Bi p) (hm : BN p m) : DM N p m = some (F7 p m).isEmpty := by
 unfold DM
 rw [Lp N p m hN (by omega) hp hm]
 simp only [Option.bind_some]
 cases F7 p m with
 | nil => rfl
 | cons c cs =>
  rw [beq_eq_false_iff_ne.2 (by simp only [List.length_cons]; omega)]; rfl
theorem GR (N : Nat) (p : Ae) (m : Ah) (hN : N ≤ 1000000) (h20 : 100 ≤ N) (hp : Bi p) (hm : BN p m) : Cr N p m = some (Bt p m) := by
 have hnv := hp.nv
 unfold Cr
 rw [Qr N p m hN h20 hp hm]
 simp only [Option.bind_some]
 have hal := Mo (m := m) (by rw [hm.next]; omega)
 have := Cm (B0 N p (Fm m) fun _ => some true) (Fm m) (some true) (fun _ x => (Ki p x).map fun _ => false)
  (fun n i x hx => by
   have hi := (List.getElem?_eq_some_iff.1 hx).1
   have hx2 := U0 hp hm (Ms.1 (List.mem_of_getElem? hx))
   rw [B0, AL (by omega)]
   simp only [A2, hx, Option.bind_some]
   rw [Pe N p x hN h20 hp hx2, AM (by omega)]
   simp only [Option.bind_some, Ki]
   cases F7 p x with
   | nil => rfl
   | cons c cs => rfl)
  (fun n => by rw [B0, AH (by simp)]) N 0 (Nat.zero_le _) (by omega)
 rw [List.drop_zero, I7] at this
 refine Eq.trans this ?_
 unfold Bt HS
 cases Dd (fun _ x => Ki p x) 0 (Fm m) <;> rfl
end Go.Lift

/- The laws of the mixes in plain words: MixConflicts, MixAborts, MixAborted, MixGoal, MixValid. -/
namespace Go.Lift
theorem Pa {N : Nat} {a b : Ah} (hN : N ≤ 1000000) (h1 : a.fBase.length < N) (h2 : a.fNext.length < N) (h3 : a.fHeld.length < N) (h4 : b.fHeld.length < N) (wa : Mf JU a.fHeld) (wb : Mf JU b.fHeld) : Dz N a b = some (Qw a b) := by
 unfold Dz
 rw [MY h1 hN, MY h2 hN, LY h3 hN wa, LY h4 hN wb]
 simp only [Option.bind_some]
 rw [MY h3 hN]
 unfold Qw VH
 by_cases h1 : Hm a.fBase b.fBase = 0
 ·simp only [h1, VH]
  by_cases h2 : Hm a.fNext b.fNext = 0
  ·simp only [h2]
   by_cases h3 : Hm a.fHeld b.fHeld = 0 <;> simp [h3]
  ·have : (Hm a.fNext b.fNext != 0) = true := by simpa using h2
   simp [h2, this]
 ·have : (Hm a.fBase b.fBase != 0) = true := by simpa using h1
  simp [h1, this]
end Go.Lift

/- The laws of the mixes in plain words: MixGoal, MixValid. -/
namespace Go.Lift
theorem OG (N : Nat) (a b : List Int) (hN : N ≤ 1000000) (h : a.length < N) : Do N a b = some (a == b) := by
 unfold Do
 by_cases hl : a.length = b.length
 ·rw [hl, bne_self_eq_false, Au]
  have := Cm (B1 N a b fun _ => some true) a (some true) (fun i x => if x = b.getD i 0 then none else some false)
   (fun n i x hx => by
    have hi := (List.getElem?_eq_some_iff.1 hx).1
    rw [B1, AL (by omega), A2, hx, CN (d := 0) (by omega)]
    simp only [Option.bind_some]
    rw [AM (by omega)]
    by_cases h : x = b.getD i 0
    ·rw [if_pos h, h, bne_self_eq_false]; rfl
    ·rw [if_neg h, bne_iff_ne.2 h]; rfl)
   (fun n => by rw [B1, AH (by simp)]) N 0 (Nat.zero_le _) (by omega)
  refine this.trans ?_
  rw [List.drop_zero]
  cases hs : Dd (fun i x => if x = b.getD i 0 then none else some false) 0 a with
  | none =>
   have : a = b := EQ hl fun q hq => by
    have hx : a[q]? = some (a.getD q 0) := by rw [List.getD_eq_getElem?_getD]; simp [hq]
    have := Eo hs q _ hx
    rw [Nat.zero_add] at this
    split at this
    ·assumption
    ·cases this
   rw [this, beq_self_eq_true]; rfl
  | some r =>
   obtain ⟨j, x, hx, hf⟩ := DW hs
   rw [Nat.zero_add] at hf
   split at hf
   ·cases hf
   ·rename_i hne
    cases hf
    have : (a == b) = false := beq_eq_false_iff_ne.2 fun e => hne (by rw [← e, List.getD_eq_getElem?_getD, hx]; rfl)
    rw [this]; rfl
 ·have h1 : ((a.length : Int) != (b.length : Int)) = true := bne_iff_ne.2 (by omega)
  have h2 : (a == b) = false := beq_eq_false_iff_ne.2 fun e => hl (by rw [e])
  rw [h1, h2]; rfl
theorem O3 (N : Nat) (a : List Int) (f : Int → Option Bool) (g : Int → Bool) (hN : N ≤ 1000000) (h : a.length < N) (hf : ∀ x, x ∈ a → f x = some (g x)) : Cq N a f = some (a.any g) := by
 unfold Cq Du
 have := Cm (Be N a f fun _ => some (-1)) a (some (-1)) (fun i x => if g x then some (i : Int) else none)
  (fun n i x hx => by
   have hi := (List.getElem?_eq_some_iff.1 hx).1
   rw [Be, AL (by omega), A2, hx]
   simp only [Option.bind_some]
   rw [hf x (List.mem_of_getElem? hx), AM (by omega)]
   simp only [Option.bind_some]
   cases g x <;> rfl)
  (fun n => by rw [Be, AH (by simp)]) N 0 (Nat.zero_le _) (by omega)
 have e : Be N a f (fun _ => some (-1)) N 0 = _ := this
 rw [e, List.drop_zero]
 cases hs : Dd (fun i x => if g x then some (i : Int) else none) 0 a with
 | none =>
  have : a.any g = false := by
   rw [List.any_eq_false]
   intro x hx
   obtain ⟨j, hj⟩ := List.mem_iff_getElem?.1 hx
   have := Eo hs j x hj
   intro hg
   rw [hg] at this; cases this
  rw [this]; rfl
 | some r =>
  obtain ⟨j, x, hx, hf⟩ := DW hs
  split at hf
  ·rename_i hg
   cases hf
   have : a.any g = true := List.any_eq_true.2 ⟨x, List.mem_of_getElem? hx, hg⟩
   rw [this]
   simp only [BD, Option.bind_some]
   rw [decide_eq_true (by omega)]
  ·cases hf
def FM (p : Ae) (m : Ah) : Bool := EM p m == 0 && (m.fBase == p.fTarget && m.fNext.all (fun n => decide (n < 0)))
theorem LZ (N : Nat) (p : Ae) (m : Ah) (hN : N ≤ 1000000) (h20 : 100 ≤ N) (hw : Mf JU m.fHeld) : Fz N p m = some (FM p m) := by
 unfold Fz FM
 rw [Hk N p m hN (by omega) hw]
 simp only [Bd, Option.bind_some]
 by_cases hv : EM p m = 0
 ·obtain ⟨hp, hm⟩ := Iq hw hv
  have := hp.nv
  rw [hv, OG N _ _ hN (by rw [hm.base]; omega), O3 N m.fNext (fun x => F0 N x) (fun n => decide (0 ≤ n)) hN (by rw [hm.next]; omega) (fun x _ => rfl)]
  simp only [Option.bind_some, beq_self_eq_true, AN, Bool.true_and]
  have : m.fNext.all (fun n => decide (n < 0)) = !m.fNext.any (fun n => decide (0 ≤ n)) := by
   rw [List.not_any_eq_all_not]
   congr 1; funext n
   by_cases h : 0 ≤ n
   ·rw [decide_eq_true h, decide_eq_false (by omega)]; rfl
   ·rw [decide_eq_false h, decide_eq_true (by omega)]; rfl
  rw [this]
  cases m.fBase == p.fTarget <;> simp
 ·rw [beq_eq_false_iff_ne.2 hv]; rfl
theorem Pb (N : Nat) (p : Ae) (m : Ah) (hN : N ≤ 1000000) (h20 : 100 ≤ N) (hw : Mf JU m.fHeld) : El N p m = some (FM p m) := by
 unfold El FM
 rw [Hi N p m hN (by omega)]
 simp only [Option.bind_some]
 by_cases hv : EM p m = 0
 ·obtain ⟨hp, hm⟩ := Iq hw hv
  have h1 := hp.nv
  have h2 := hp.tgt
  have h3 := hm.base
  have h4 := hm.next
  rw [hv]
  simp only [bne_self_eq_false, Au, beq_self_eq_true, Bool.true_and]
  have := Cm (CA N p m fun _ => some true) m.fBase (some true) (fun i x => if 0 ≤ m.fNext.getD i 0 ∨ x ≠ p.fTarget.getD i 0 then some false else none)
   (fun n i x hx => by
    have hi := (List.getElem?_eq_some_iff.1 hx).1
    rw [CA, AL (by omega)]
    simp only [Bd]
    rw [show BZ m.fBase (i : Int) = some x from by rw [A2, hx], CN (d := 0) (by omega), CN (d := 0) (by omega)]
    simp only [Option.bind_some]
    rw [AM (by omega)]
    by_cases k1 : 0 ≤ m.fNext.getD i 0
    ·rw [AL k1, if_pos (.inl k1)]; rfl
    ·rw [AH k1]
     by_cases k2 : x = p.fTarget.getD i 0
     ·rw [if_neg (fun h => h.elim k1 (fun h => h k2)), k2, bne_self_eq_false]; rfl
     ·rw [if_pos (.inr k2), bne_iff_ne.2 k2]; rfl)
   (fun n => by rw [CA, AH (by simp)]) N 0 (Nat.zero_le _) (by omega)
  refine this.trans ?_
  rw [List.drop_zero]
  cases hs : Dd (fun i x => if 0 ≤ m.fNext.getD i 0 ∨ x ≠ p.fTarget.getD i 0 then some false else none) 0 m.fBase with
  | none =>
   have key : ∀ q, q < m.fBase.length → m.fBase.getD q 0 = p.fTarget.getD q 0 ∧ ¬ 0 ≤ m.fNext.getD q 0 := by
    intro q hq
    have hx : m.fBase[q]? = some (m.fBase.getD q 0) := by rw [List.getD_eq_getElem?_getD]; simp [hq]
    have := Eo hs q _ hx
    rw [Nat.zero_add] at this
    split at this
    ·cases this
    ·rename_i h; exact ⟨Decidable.not_not.1 fun h' => h (.inr h'), fun h' => h (.inl h')⟩
   have e1 : m.fBase = p.fTarget := EQ (by omega) fun q hq => (key q hq).1
   have e2 : m.fNext.all (fun n => decide (n < 0)) = true := by
    rw [List.all_eq_true]
    intro n hn
    obtain ⟨q, hq⟩ := List.mem_iff_getElem?.1 hn
    have hl := (List.getElem?_eq_some_iff.1 hq).1
    have := (key q (by omega)).2
    rw [List.getD_eq_getElem?_getD, hq] at this
    simp only [Option.getD_some] at this
    simp only [decide_eq_true_eq]
    omega
   rw [e2, e1]; simp [BD]
  | some r =>
   obtain ⟨j, x, hx, hf⟩ := DW hs
   rw [Nat.zero_add] at hf
   have hj := (List.getElem?_eq_some_iff.1 hx).1
   split at hf
   ·rename_i h
    cases hf
    have : (m.fBase == p.fTarget && m.fNext.all (fun n => decide (n < 0))) = false := by
     rw [Bool.and_eq_false_iff]
     rcases h with h | h
     ·right
      rw [List.all_eq_false]
      refine ⟨m.fNext.getD j 0, ?_, ?_⟩
      ·rw [List.getD_eq_getElem?_getD, List.getElem?_eq_getElem (by omega)]; exact List.getElem_mem _
      ·simp only [decide_eq_true_eq]; omega
     ·left
      exact beq_eq_false_iff_ne.2 fun e => h (by rw [← e, List.getD_eq_getElem?_getD, hx]; rfl)
    rw [this]; rfl
   ·cases hf
 ·rw [bne_iff_ne.2 hv, beq_eq_false_iff_ne.2 hv]; rfl
end Go.Lift

/- The first mix in plain words, and the law MixStart. -/
namespace Go.Lift
open Go
def E4 (p : Ae) (t : AF) : Int := if B7 t = true then Dw .u8 1 (p.fNow.getD t.fFrom.toNat 0) else 0
def D7 (p : Ae) : Ah := ⟨p.fNow, List.replicate p.fNow.length (-1), p.fTables.map (E4 p)⟩
theorem RF (N : Nat) (h : 100 ≤ N) (n : Nat) (hn : n ≤ 6) : DZ N [(-1)] (n : Int) = some (List.replicate n (-1)) := by
 obtain ⟨k, rfl⟩ : ∃ k, N = k + 100 := ⟨N - 100, by omega⟩
 have : n = 0 ∨ n = 1 ∨ n = 2 ∨ n = 3 ∨ n = 4 ∨ n = 5 ∨ n = 6 := by omega
 rcases this with rfl | rfl | rfl | rfl | rfl | rfl | rfl
 all_goals (show _ = _; kernel_rfl)
theorem Pz (T : List Int) (i : Nat) (hi : i < T.length) : (T.take i ++ List.replicate (T.length - i) 0).set i (T.getD i 0) = T.take (i + 1) ++ List.replicate (T.length - (i + 1)) 0 := by
 have hl : (T.take i).length = i := by simp; omega
 rw [List.set_append_right _ _ (by omega), hl, Nat.sub_self, show T.length - i = (T.length - (i + 1)) + 1 from by omega, List.replicate_succ, List.set_cons_zero, List.take_add_one, List.append_assoc]
 have : T[i]? = some (T.getD i 0) := by rw [List.getD_eq_getElem?_getD]; simp [hi]
 rw [this]; rfl
theorem R0 (T : List Int) (i : Nat) (hi : i < T.length) (h0 : T.getD i 0 = 0) : T.take i ++ List.replicate (T.length - i) 0 = T.take (i + 1) ++ List.replicate (T.length - (i + 1)) 0 := by
 rw [← Pz T i hi, h0, List.set_append_right _ _ (by rw [List.length_take]; omega)]
 congr 1
 have hl : (T.take i).length = i := by simp; omega
 rw [hl, Nat.sub_self, show T.length - i = (T.length - (i + 1)) + 1 from by omega, List.replicate_succ, List.set_cons_zero]
theorem QL {p : Ae} (hv : BP p = 0) {t : AF} (ht : t ∈ p.fTables) : 0 ≤ t.fFrom ∧ t.fFrom.toNat < p.fNow.length ∧ 0 ≤ p.fNow.getD t.fFrom.toNat 0 ∧ p.fNow.getD t.fFrom.toNat 0 < 6 ∧ p.fNow.getD t.fFrom.toNat 0 < p.fVersions.getD t.fFrom.toNat 0 ∧ t.fFrom.toNat < p.fVersions.length := by
 obtain ⟨hp, hr⟩ := CQ hv
 have h1 := HH (hp.tab t ht)
 have h2 := hr t.fFrom.toNat (by omega)
 have h3 := Ha hp (i := t.fFrom.toNat) (by omega)
 have := hp.now
 refine ⟨h1.1, by omega, h2.1, by omega, h2.2.1, by omega⟩
theorem Is {p : Ae} {i : Nat} {t : AF} (ht : p.fTables[i]? = some t) : (p.fTables.map (E4 p)).getD i 0 = E4 p t := by
 rw [List.getD_eq_getElem?_getD, List.getElem?_map, ht]; rfl
theorem Ll (N : Nat) (p : Ae) (hN : N ≤ 1000000) (h20 : 100 ≤ N) : FJ N p = some (if BP p = 0 then D7 p else ⟨[], [], []⟩, BP p) := by
 unfold FJ
 rw [KY N p hN (by omega)]
 simp only [Option.bind_some]
 by_cases hv : BP p = 0
 ·rw [if_pos hv, hv]
  obtain ⟨hp, _⟩ := CQ hv
  have hnv := hp.nv
  have hnt := hp.nt
  have hnow := hp.now
  rw [bne_self_eq_false, Au, Iu N _ (by simp only [Dv]; omega)]
  simp only [Option.bind_some]
  rw [RF N h20 _ (by omega)]
  simp only [Option.bind_some]
  rw [Az (by simp only [Dv]; omega)]
  obtain ⟨a', e, ha⟩ := Ex (DG N p fun v7 => some (Ah.mk p.fNow (List.replicate p.fNow.length (-1)) v7, 0)) (fun a i => (a, i)) p.fTables.length (fun v7 => some (Ah.mk p.fNow (List.replicate p.fNow.length (-1)) v7, 0))
   (fun i a => a = (p.fTables.map (E4 p)).take i ++ List.replicate ((p.fTables.map (E4 p)).length - i) 0)
   (fun n i a hi ha => by
    have hx : p.fTables[i]? = some p.fTables[i] := by simp [hi]
    have hm : p.fTables[i] ∈ p.fTables := List.getElem_mem hi
    obtain ⟨n1, n2, n3, n4, _⟩ := QL hv hm
    rw [DG, AL (by simp only; omega)]
    simp only [Bd, A2, hx, Option.bind_some, If, AM (show i < 1000000 by omega)]
    have hal : i < (p.fTables.map (E4 p)).length := by simpa using hi
    cases hs : B7 p.fTables[i]
    ·rw [Au]
     refine ⟨a, rfl, ?_⟩
     rw [ha]
     exact R0 _ _ hal (by rw [Is hx]; unfold E4; rw [hs]; rfl)
    ·rw [AN]
     have e1 : BZ p.fNow p.fTables[i].fFrom = some (p.fNow.getD p.fTables[i].fFrom.toNat 0) := by
      obtain ⟨q, hq⟩ := Int.eq_ofNat_of_zero_le n1
      rw [hq]; exact CN (by rw [hq] at n2; simpa using n2)
     rw [e1]
     simp only [Option.bind_some]
     rw [Az n3]
     have hl : i < a.length := by rw [ha]; simp; omega
     have e2 : a[i]? = some a[i] := by simp [hl]
     rw [e2]
     simp only [Option.bind_some]
     refine ⟨_, rfl, ?_⟩
     rw [← Pz _ _ hal, Is hx, ha]
     unfold E4; rw [hs]; rfl)
   (fun n a ha => by rw [DG, AH (by simp)]) N 0 (List.replicate p.fTables.length 0) (Nat.zero_le _) (by omega) (by simp)
  have e' : DG N p (fun v7 => some (Ah.mk p.fNow (List.replicate p.fNow.length (-1)) v7, 0)) N (List.replicate ((p.fTables.length : Int)).toNat (0 : Int), 0) = _ := e
  rw [e', ha]
  have e5 : (p.fTables.map (E4 p)).take p.fTables.length = p.fTables.map (E4 p) := List.take_of_length_le (by simp)
  simp [D7, e5]
 ·rw [if_neg hv, bne_iff_ne.2 hv, AN]
theorem KW (N : Nat) (p : Ae) (hN : N ≤ 1000000) (h20 : 100 ≤ N) : Dk N p = some (if BP p = 0 then D7 p else ⟨[], [], []⟩, BP p) := by
 unfold Dk
 rw [Mg N p hN (by omega)]
 simp only [Option.bind_some]
 by_cases hv : BP p = 0
 ·rw [if_pos hv, hv]
  obtain ⟨hp, _⟩ := CQ hv
  have hnv := hp.nv
  have hnt := hp.nt
  have hnow := hp.now
  rw [bne_self_eq_false, Au]
  obtain ⟨a', e, ha⟩ := Ex (B3 N p fun v4 => Bf N p (fun v10 => some (Ah.mk v4.1 v4.2 v10, 0)) N (([] : List Int), 0)) (fun a i => (a.1, a.2, i)) p.fVersions.length (fun v4 => Bf N p (fun v10 => some (Ah.mk v4.1 v4.2 v10, 0)) N (([] : List Int), 0))
   (fun i a => a = (p.fNow.take i, List.replicate i (-1)))
   (fun n i a hi ha => by
    subst ha
    rw [B3, AL (by simp only; omega)]
    have hx : p.fNow[i]? = some p.fNow[i] := by simp [show i < p.fNow.length from by omega]
    simp only [A2, hx, Option.bind_some, AM (show i < 1000000 by omega)]
    rw [Az (by simp [Dv]; omega), Az (by simp [Dv]; omega)]
    refine ⟨(p.fNow.take i ++ [p.fNow[i]], List.replicate i (-1) ++ [-1]), rfl, ?_⟩
    rw [List.take_add_one, hx, List.replicate_succ']; rfl)
   (fun n a ha => by rw [B3, AH (by simp)]) N 0 ([], []) (Nat.zero_le _) (by omega) rfl
  have e' : B3 N p (fun v4 => Bf N p (fun v10 => some (Ah.mk v4.1 v4.2 v10, 0)) N (([] : List Int), 0)) N (([] : List Int), ([] : List Int), 0) = _ := e
  rw [e', ha]
  simp only
  obtain ⟨b', e2, hb⟩ := Ex (Bf N p fun v10 => some (Ah.mk (p.fNow.take p.fVersions.length) (List.replicate p.fVersions.length (-1)) v10, 0)) (fun a i => (a, i)) p.fTables.length (fun v10 => some (Ah.mk (p.fNow.take p.fVersions.length) (List.replicate p.fVersions.length (-1)) v10, 0))
   (fun i a => a = (p.fTables.map (E4 p)).take i)
   (fun n i a hi ha => by
    subst ha
    have hx : p.fTables[i]? = some p.fTables[i] := by simp [hi]
    have hm : p.fTables[i] ∈ p.fTables := List.getElem_mem hi
    obtain ⟨n1, n2, n3, n4, _⟩ := QL hv hm
    rw [Bf, AL (by simp only; omega)]
    simp only [Bd, A2, hx, Option.bind_some, FV, AM (show i < 1000000 by omega)]
    have hT : (p.fTables.map (E4 p))[i]? = some (E4 p p.fTables[i]) := by rw [List.getElem?_map, hx]; rfl
    have hlen : ((p.fTables.map (E4 p)).take i).length + 1 ≤ Dv := by simp [Dv]; omega
    cases hs : B7 p.fTables[i]
    ·rw [Au, Az (by simpa using hlen)]
     refine ⟨_, rfl, ?_⟩
     rw [List.take_add_one, hT]
     unfold E4; rw [hs]; rfl
    ·rw [AN]
     have e1 : BZ p.fNow p.fTables[i].fFrom = some (p.fNow.getD p.fTables[i].fFrom.toNat 0) := by
      obtain ⟨q, hq⟩ := Int.eq_ofNat_of_zero_le n1
      rw [hq]; exact CN (by rw [hq] at n2; simpa using n2)
     rw [e1]
     simp only [Option.bind_some]
     rw [Az n3, Az (by simpa using hlen)]
     refine ⟨_, rfl, ?_⟩
     rw [List.take_add_one, hT]
     unfold E4; rw [hs]; rfl)
   (fun n a ha => by rw [Bf, AH (by simp)]) N 0 [] (Nat.zero_le _) (by omega) rfl
  have e3 : Bf N p (fun v10 => some (Ah.mk (p.fNow.take p.fVersions.length) (List.replicate p.fVersions.length (-1)) v10, 0)) N (([] : List Int), 0) = _ := e2
  rw [e3, hb]
  simp only [D7, ← hnow, List.take_length]
  rw [show p.fTables.length = (p.fTables.map (E4 p)).length from by simp, List.take_length]
 ·rw [if_neg hv, bne_iff_ne.2 hv, AN]
theorem KE {p : Ae} (hv : BP p = 0) : BN p (D7 p) := by
 obtain ⟨hp, hr⟩ := CQ hv
 have hnow := hp.now
 have hnx : ∀ i, i < p.fVersions.length → (List.replicate p.fNow.length (-1 : Int)).getD i 0 = -1 := fun i hi => by
  rw [List.getD_eq_getElem?_getD, List.getElem?_replicate, if_pos (by omega)]; rfl
 have hone : ∀ (i : Nat) (t : AF), p.fTables[i]? = some t → ∃ b : Nat, b < 6 ∧ p.fNow.getD t.fFrom.toNat 0 = (b : Int) ∧ (b : Int) < p.fVersions.getD t.fFrom.toNat 0 ∧ t.fFrom.toNat < p.fVersions.length := fun i t ht => by
  obtain ⟨n1, n2, n3, n4, n5, n6⟩ := QL hv (List.mem_of_getElem? ht)
  obtain ⟨b, hb⟩ := Int.eq_ofNat_of_zero_le n3
  exact ⟨b, by omega, hb, by omega, n6⟩
 have hbit : ∀ b : Nat, b < 8 → ∀ v, Dn (Dw .u8 1 (b : Int)) v = decide (b = v) := fun b hb v => by
  by_cases h : v < 8
  ·exact (IK ⟨b, hb⟩ ⟨v, h⟩).1
  ·rw [IT (IK ⟨b, hb⟩ ⟨0, by omega⟩).2.2 (by omega)]
   symm; apply decide_eq_false; omega
 refine { base := hnow, next := by simp [D7, hnow], held := by simp [D7], b0 := fun i hi => ⟨(hr i hi).1, (hr i hi).2.1⟩, n0 := fun i hi => ?_, ne := fun i hi => ?_, range := fun i hi => ?_, low := fun i t ht hs v hv' => ?_, high := fun i t ht hs v hb => ?_, none := fun i t ht hs => ?_ }
 ·show -1 ≤ (List.replicate p.fNow.length (-1 : Int)).getD i 0 ∧ (List.replicate p.fNow.length (-1 : Int)).getD i 0 < _
  rw [hnx i hi]
  have := Ha hp hi
  omega
 ·show p.fNow.getD i 0 ≠ (List.replicate p.fNow.length (-1 : Int)).getD i 0
  rw [hnx i hi]
  have := hr i hi
  omega
 ·have hx : p.fTables[i]? = some p.fTables[i] := by simp [hi]
  show 0 ≤ (p.fTables.map (E4 p)).getD i 0 ∧ (p.fTables.map (E4 p)).getD i 0 ≤ 255
  rw [Is hx]
  unfold E4
  split
  ·obtain ⟨b, h1, h2, _⟩ := hone i _ hx
   rw [h2]
   exact (IK ⟨b, by omega⟩ ⟨0, by omega⟩).2
  ·omega
 ·show Dn ((p.fTables.map (E4 p)).getD i 0) v = true
  obtain ⟨b, h1, h2, h3, h4⟩ := hone i t ht
  rw [Is ht]
  unfold E4
  rw [if_pos hs, h2, hbit b (by omega)]
  unfold Hj at hv'
  have h5 : (D7 p).fBase.getD t.fFrom.toNat 0 = (b : Int) := h2
  have h6 : (D7 p).fNext.getD t.fFrom.toNat 0 = -1 := hnx _ h4
  rw [h5, h6, Bool.or_eq_true, decide_eq_true_iff, decide_eq_true_iff] at hv'
  apply decide_eq_true; omega
 ·have hb : Dn ((p.fTables.map (E4 p)).getD i 0) v = true := hb
  obtain ⟨b, h1, h2, h3, h4⟩ := hone i t ht
  rw [Is ht] at hb
  unfold E4 at hb
  rw [if_pos hs, h2, hbit b (by omega), decide_eq_true_iff] at hb
  omega
 ·show (p.fTables.map (E4 p)).getD i 0 = 0
  rw [Is ht]; unfold E4; rw [hs]; rfl
theorem Pl {p : Ae} (hv : BP p = 0) : EM p (D7 p) = 0 := Fr hv (KE hv)
end Go.Lift

/- Bits of sets of versions: or, and-not, the lowest bit. -/
namespace Go.Lift
open Go
theorem LJ (x : BitVec 8) : IntKind.wrap .u8 (x.toNat : Int) = (x.toNat : Int) := by
 have := x.isLt
 simp [IntKind.wrap, IntKind.signed, IntKind.bits]
 omega
theorem Ph (x : BitVec 8) : 0 ≤ (x.toNat : Int) ∧ (x.toNat : Int) ≤ 255 := by
 have := x.isLt
 omega
theorem Td (x : BitVec 8) (v : Nat) : Dn (x.toNat : Int) v = x.getLsbD v := by
 unfold Dn; rw [Int.toNat_natCast]; rfl
theorem OU {a : Int} (ha : 0 ≤ a ∧ a ≤ 255) (v : Nat) : (BitVec.ofInt 8 a).getLsbD v = Dn a v := by
 obtain ⟨a, rfl⟩ := Int.eq_ofNat_of_zero_le ha.1
 unfold BitVec.getLsbD Dn
 rw [SU (by omega), Int.toNat_natCast]
theorem QS {a b : Int} (ha : 0 ≤ a ∧ a ≤ 255) (hb : 0 ≤ b ∧ b ≤ 255) : (∀ v, Dn (CY .u8 a b) v = (Dn a v && !Dn b v)) ∧ 0 ≤ CY .u8 a b ∧ CY .u8 a b ≤ 255 := by
 have e : CY .u8 a b = ((BitVec.ofInt 8 a &&& ~~~BitVec.ofInt 8 b).toNat : Int) := LJ (BitVec.ofInt 8 a &&& ~~~BitVec.ofInt 8 b)
 rw [e]
 refine ⟨fun v => ?_, Ph _⟩
 rw [Td, BitVec.getLsbD_and, BitVec.getLsbD_not, OU ha, OU hb]
 by_cases h : v < 8
 ·simp [h]
 ·rw [IT ha.2 (by omega)]; simp
theorem Qv {a b : Int} (ha : 0 ≤ a ∧ a ≤ 255) (hb : 0 ≤ b ∧ b ≤ 255) : (∀ v, Dn (Ng .u8 a b) v = (Dn a v || Dn b v)) ∧ 0 ≤ Ng .u8 a b ∧ Ng .u8 a b ≤ 255 := by
 have e : Ng .u8 a b = ((BitVec.ofInt 8 a ||| BitVec.ofInt 8 b).toNat : Int) := LJ (BitVec.ofInt 8 a ||| BitVec.ofInt 8 b)
 rw [e]
 refine ⟨fun v => ?_, Ph _⟩
 rw [Td, BitVec.getLsbD_or, OU ha, OU hb]
theorem Up {b : Nat} (hb : b < 8) : (∀ v, Dn (Dw .u8 1 (b : Int)) v = decide (b = v)) ∧ 0 ≤ Dw .u8 1 (b : Int) ∧ Dw .u8 1 (b : Int) ≤ 255 := by
 refine ⟨fun v => ?_, (IK ⟨b, hb⟩ ⟨0, by omega⟩).2⟩
 by_cases h : v < 8
 ·exact (IK ⟨b, hb⟩ ⟨v, h⟩).1
 ·rw [IT (IK ⟨b, hb⟩ ⟨0, by omega⟩).2.2 (by omega)]
  symm; apply decide_eq_false; omega
theorem ST (N : Nat) {s : Int} {v : Nat} (hs : 0 ≤ s ∧ s ≤ 255) (hv : v < 8) : Ck N s (v : Int) = some (Dn s v) := by
 unfold Ck
 rw [Az (by omega), O5 hs.1 hs.2 hv]
 cases Dn s v <;> rfl
def U6 (v : Nat) : Nat := ((List.range 8).find? fun u => v.testBit u).getD 8
def Wk (v : Nat) : Nat := ((List.range 8).filter fun u => v.testBit u).length
theorem VS : ∀ v : Fin 256, CL 0 (v.val : Int) = some (U6 v.val : Int) := by decide +kernel
theorem Wn (N : Nat) {v : Nat} (h : v < 256) : CL N (v : Int) = some (U6 v : Int) := VS ⟨v, h⟩
theorem T6 : ∀ v : Fin 256, v.val ≠ 0 → U6 v.val < 8 ∧ Dn (v.val : Int) (U6 v.val) = true ∧ 0 ≤ FK .u8 (v.val : Int) (IntKind.wrap .u8 ((v.val : Int) - 1)) ∧ FK .u8 (v.val : Int) (IntKind.wrap .u8 ((v.val : Int) - 1)) ≤ 255 ∧
  Wk (FK .u8 (v.val : Int) (IntKind.wrap .u8 ((v.val : Int) - 1))).toNat + 1 = Wk v.val ∧
  ∀ u : Fin 8, Dn (FK .u8 (v.val : Int) (IntKind.wrap .u8 ((v.val : Int) - 1))) u.val = (Dn (v.val : Int) u.val && decide (u.val ≠ U6 v.val)) := by decide +kernel
theorem WL (v : Nat) : Wk v ≤ 8 := by
 have := List.length_filter_le (fun u => v.testBit u) (List.range 8)
 simpa [Wk] using this
theorem O9 (N : Nat) (t : AF) (b : Int) (rw_ : Nat → Bool) : ∀ (k n v : Nat), Wk v ≤ k → k < n → v < 256 →
  (∀ u, u < 8 → Dn (v : Int) u = true → ∃ row, BZ t.fRewrite (u : Int) = some row ∧ BZ row b = some (rw_ u)) →
  Da N t b (fun _ => some true) n (v : Int) = some ((List.range 8).all fun u => !Dn (v : Int) u || rw_ u)
 | k, 0, v, _, h, _, _ => by omega
 | k, n + 1, v, hk, hn, hv, hr => by
  rw [Da]
  by_cases h0 : v = 0
  ·subst h0
   have : (((0 : Nat) : Int) != 0) = false := rfl
   rw [this, Au]
   congr 1
  ·have h1 : ((v : Int) != 0) = true := bne_iff_ne.2 (by omega)
   obtain ⟨l1, l2, l3, l4, l5, l6⟩ := T6 ⟨v, hv⟩ h0
   simp only at l1 l2 l3 l4 l5 l6
   obtain ⟨row, e1, e2⟩ := hr _ l1 l2
   rw [h1, AN, Wn N hv]
   simp only [Option.bind_some, e1, e2]
   obtain ⟨w, hw⟩ := Int.eq_ofNat_of_zero_le l3
   rw [hw] at l4 l5 l6 ⊢
   rw [Int.toNat_natCast] at l5
   cases hq : rw_ (U6 v)
   ·rw [Bool.not_false, AN]
    congr 1
    symm
    rw [List.all_eq_false]
    exact ⟨U6 v, by simpa using l1, by rw [l2, hq]; simp⟩
   ·rw [Bool.not_true, Au]
    match k, hk with
    | 0, hk => exfalso; omega
    | k + 1, hk =>
    rw [O9 N t b rw_ k n w (by omega) (by omega) (by omega) (fun u hu hb => hr u hu (by have := l6 ⟨u, hu⟩; simp only at this; rw [hb] at this; simpa using (Bool.and_eq_true_iff.1 this.symm).1))]
    congr 1
    rw [Bool.eq_iff_iff, List.all_eq_true, List.all_eq_true]
    refine ⟨fun h u hu => ?_, fun h u hu => ?_⟩
    ·have hu8 : u < 8 := by simpa using hu
     have h3 := h u hu
     have h4 := l6 ⟨u, hu8⟩
     simp only at h4
     rw [h4] at h3
     by_cases e : u = U6 v
     ·rw [e, hq]; simp
     ·simpa [e] using h3
    ·have hu8 : u < 8 := by simpa using hu
     have h3 := h u hu
     have h4 := l6 ⟨u, hu8⟩
     simp only at h4
     rw [h4]
     cases hb : Dn (v : Int) u
     ·simp
     ·rw [hb] at h3; simp at h3; simp [h3]
end Go.Lift

/- Steps: both implementations give one answer. -/
namespace Go.Lift
open Go
theorem Po (N : Nat) (m : Ah) (s : Int) (h0 : 0 ≤ s) (h1 : s < (m.fBase.length : Int)) (h2 : s < (m.fNext.length : Int)) (hb : 0 ≤ m.fBase.getD s.toNat 0) : Fe N m s = some (FZ m s.toNat) := by
 unfold Fe FZ
 rw [Em (d := 0) h0 h1, Em (d := 0) h0 h2]
 simp only [Option.bind_some, Bv]
 rw [show Eg (0 ≤ m.fBase.getD s.toNat 0) = some () from by unfold Eg; rw [if_pos hb]]
 simp only [Option.bind_some]
 by_cases h : 0 ≤ m.fNext.getD s.toNat 0
 ·rw [AL h, if_pos h, show Eg (0 ≤ m.fNext.getD s.toNat 0) = some () from by unfold Eg; rw [if_pos h]]; rfl
 ·rw [AH h, if_neg h]
theorem Jn (N : Nat) (t : AF) : EW N t = some (B7 t) := by
 unfold EW B7
 simp only [Bv]
 cases h : t.fKind == 3 <;> simp
def Fu (s : Af) : Bool := decide (1 ≤ s.fKind ∧ s.fKind ≤ 4 ∧ 0 ≤ s.fIndex ∧ 0 ≤ s.fVersion) && (s.fKind == 1 || s.fVersion == 0)
def EV (p : Ae) (s : Af) : Bool :=
 if s.fKind = 3 then decide (s.fIndex < (p.fTables.length : Int)) else decide (s.fIndex < (p.fVersions.length : Int)) && (s.fKind != 1 || decide (s.fVersion < p.fVersions.getD s.fIndex.toNat 0))
theorem Nj (N : Nat) (s : Af) : FU N s = some (Fu s) := by
 unfold FU Fu Tc
 simp only [Bv]
 by_cases h1 : (if s.fVersion < s.fIndex then s.fVersion else s.fIndex) < 0
 ·rw [AL h1, AN, decide_eq_false (by split at h1 <;> omega)]; rfl
 ·rw [AH h1]
  by_cases h2 : s.fKind < 1
  ·rw [AL h2, AN, decide_eq_false (by omega)]; rfl
  ·rw [AH h2]
   by_cases h3 : 4 < s.fKind
   ·rw [decide_eq_true h3, AN, decide_eq_false (by omega)]; rfl
   ·rw [decide_eq_false h3, Au, decide_eq_true (by split at h1 <;> omega), Bool.true_and]
    cases h4 : s.fKind == 1 <;> simp
theorem Ox (N : Nat) (s : Af) : D0 N s = some (Fu s) := by
 unfold D0 Fu
 simp only [Bv]
 by_cases h1 : 1 ≤ s.fKind
 ·rw [AL h1]
  by_cases h2 : s.fKind ≤ 4
  ·rw [AL h2]
   by_cases h3 : 0 ≤ s.fIndex
   ·rw [AL h3]
    by_cases h4 : 0 ≤ s.fVersion
    ·rw [AL h4, decide_eq_true (by omega), Bool.true_and]
     cases h5 : s.fKind == 1 <;> simp
    ·rw [AH h4, decide_eq_false (by omega)]; rfl
   ·rw [AH h3, decide_eq_false (by omega)]; rfl
  ·rw [AH h2, decide_eq_false (by omega)]; rfl
 ·rw [AH h1, decide_eq_false (by omega)]; rfl
theorem Nb (N : Nat) (p : Ae) (s : Af) (hv : Fu s = true) : Fw N p s = some (EV p s) := by
 have h0 : 0 ≤ s.fIndex := by
  unfold Fu at hv
  rw [Bool.and_eq_true, decide_eq_true_iff] at hv
  exact hv.1.2.2.1
 unfold Fw EV
 simp only [Bv]
 by_cases h1 : s.fKind = 3
 ·rw [if_pos h1, beq_iff_eq.2 h1, AN]
 ·rw [if_neg h1, beq_eq_false_iff_ne.2 h1, Au]
  by_cases h2 : s.fIndex < (p.fVersions.length : Int)
  ·rw [AL h2, decide_eq_true h2, Bool.true_and]
   cases h3 : s.fKind != 1
   ·rw [Au, Em (d := 0) h0 h2, Bool.false_or]; rfl
   ·rw [AN]; rfl
  ·rw [AH h2, decide_eq_false h2]; rfl
def Rv (s : Af) (t : AF) : Bool := t.fFrom == s.fIndex && B7 t
def R8 (s : Af) (i : Nat) (t : AF) (a : List Int) : List Int := if Rv s t = true then a.set i (Ng .u8 (a.getD i 0) (Dw .u8 1 s.fVersion)) else a
def HD (p : Ae) (s : Af) (held : List Int) : List Int := He (R8 s) 0 p.fTables held
theorem L3 {R : Type} (N : Nat) (p : Ae) (s : Af) (held : List Int) (hv : 0 ≤ s.fVersion) (hl : held.length = p.fTables.length) (h12 : p.fTables.length < N) (hN : N ≤ 1000000) (j : List Int → Option (Bool × List Int × List Int)) :
  Dl N p s j N (held, 0) = j (HD p s held) ∧ (HD p s held).length = p.fTables.length := by
 have := Hv (Dl N p s j) (fun a i => (a, i)) p.fTables j (R8 s) (fun i a => a.length = p.fTables.length)
  (fun n i x a hx ha => by
   have hi := (List.getElem?_eq_some_iff.1 hx).1
   rw [Dl, AL (by simp only; omega)]
   simp only [Bd, A2, hx, Option.bind_some, Jn, AM (show i < 1000000 by omega)]
   have e2 : a[i]? = some (a.getD i 0) := by rw [List.getD_eq_getElem?_getD]; simp [show i < a.length from by omega]
   unfold R8 Rv
   cases h1 : x.fFrom == s.fIndex
   ·rw [Au, Au, Bool.false_and, if_neg (by simp)]; exact ⟨rfl, ha⟩
   ·rw [AN, Bool.true_and]
    cases h2 : B7 x
    ·rw [Au, if_neg (by simp)]; exact ⟨rfl, ha⟩
    ·rw [AN, e2, if_pos rfl]
     simp only [Option.bind_some]
     rw [Az hv]
     exact ⟨rfl, by simpa using ha⟩)
  (fun n a ha => by rw [Dl, AH (by simp)]) N 0 held (Nat.zero_le _) (by omega) hl
 rw [List.drop_zero] at this
 exact this
theorem Mx (N : Nat) (p : Ae) (s : Af) (held : List Int) (hv : 0 ≤ s.fVersion) (hl : held.length = p.fTables.length) (h12 : p.fTables.length < N) (hN : N ≤ 1000000) (j : List Int → Option (Ah × Bool)) :
  BW N p s j N (held, 0) = j (HD p s held) := by
 have := Hv (BW N p s j) (fun a i => (a, i)) p.fTables j (R8 s) (fun i a => a.length = p.fTables.length)
  (fun n i x a hx ha => by
   have hi := (List.getElem?_eq_some_iff.1 hx).1
   rw [BW, AL (by simp only; omega)]
   simp only [Bd, A2, hx, Option.bind_some, FV, AM (show i < 1000000 by omega)]
   have e2 : a[i]? = some (a.getD i 0) := by rw [List.getD_eq_getElem?_getD]; simp [show i < a.length from by omega]
   unfold R8 Rv
   cases h1 : x.fFrom == s.fIndex
   ·rw [Au, Au, Bool.false_and, if_neg (by simp)]; exact ⟨rfl, ha⟩
   ·rw [AN, Bool.true_and]
    cases h2 : B7 x
    ·rw [Au, if_neg (by simp)]; exact ⟨rfl, ha⟩
    ·rw [AN, e2, if_pos rfl]
     simp only [Option.bind_some]
     rw [Az hv]
     exact ⟨rfl, by simpa using ha⟩)
  (fun n a ha => by rw [BW, AH (by simp)]) N 0 held (Nat.zero_le _) (by omega) hl
 rw [List.drop_zero] at this
 exact this.1
def Ka (m : Ah) (t : AF) (u : Nat) : Bool := (t.fRewrite.getD u []).getD (m.fBase.getD t.fFrom.toNat 0).toNat false
def M7 (m : Ah) (i : Nat) (t : AF) (u : Nat) : Bool := Dn (m.fHeld.getD i 0) u && !Hj m t.fFrom.toNat u
def G8 (p : Ae) (m : Ah) (i : Nat) (t : AF) : Bool := t.fKind == 4 && (List.range 8).any fun u => M7 m i t u && !Ka m t u
def EZ (p : Ae) (m : Ah) (s : Af) : Option Ah :=
 let i := s.fIndex.toNat
 if s.fKind = 1 then (if 0 ≤ m.fNext.getD i 0 ∨ m.fBase.getD i 0 = s.fVersion then none else some ⟨m.fBase, m.fNext.set i s.fVersion, HD p s m.fHeld⟩)
 else if s.fKind = 3 then match p.fTables[i]? with
  | none => none
  | some t => if B7 t = false ∨ m.fHeld.getD i 0 = FZ m t.fFrom.toNat ∨ G8 p m i t = true then none else some ⟨m.fBase, m.fNext, m.fHeld.set i (FZ m t.fFrom.toNat)⟩
 else if m.fNext.getD i 0 < 0 then none
 else some ⟨if s.fKind = 2 then m.fBase.set i (m.fNext.getD i 0) else m.fBase, m.fNext.set i (-1), m.fHeld⟩
def A1 (p : Ae) (m : Ah) (s : Af) : Ah × Int :=
 if Fu s = false then (Fy, 1) else if EV p s = false then (Fy, 4) else match EZ p m s with
  | none => (Fy, 11)
  | some x => (x, 0)
end Go.Lift

/- Steps: clearing, and the whole of Apply. -/
namespace Go.Lift
open Go
section clear
variable {p : Ae} {m : Ah} {i : Nat} {t : AF}
theorem S3 (hp : Bi p) (hm : BN p m) (ht : p.fTables[i]? = some t) (hs : B7 t = true) {u : Nat} (h : Dn (m.fHeld.getD i 0) u = true) : (u : Int) < p.fVersions.getD t.fFrom.toNat 0 ∧ u < 6 ∧ t.fFrom.toNat < p.fVersions.length := by
 have h1 := hm.high i t ht hs u h
 have hin := HH (hp.tab t (List.mem_of_getElem? ht))
 have h2 := Ha hp (i := t.fFrom.toNat) (by omega)
 exact ⟨h1, by omega, by omega⟩
theorem So (hp : Bi p) (hm : BN p m) (ht : p.fTables[i]? = some t) (hs : B7 t = true) (h4 : t.fKind = 4) {u : Nat} (h : Dn (m.fHeld.getD i 0) u = true) :
  BZ t.fRewrite (u : Int) = some (t.fRewrite.getD u []) ∧ BZ (t.fRewrite.getD u []) (m.fBase.getD t.fFrom.toNat 0) = some (Ka m t u) := by
 have hT := Lr (hp.tab t (List.mem_of_getElem? ht))
 obtain ⟨h1, h2, h3⟩ := S3 hp hm ht hs h
 have hl := hT.reL h4
 have e : t.fRewrite[u]? = some (t.fRewrite.getD u []) := by rw [List.getD_eq_getElem?_getD]; simp [show u < t.fRewrite.length from by omega]
 have hr := hT.reR _ (List.mem_of_getElem? e)
 have hb := hm.b0 t.fFrom.toNat h3
 refine ⟨by rw [A2, e], ?_⟩
 unfold Ka
 obtain ⟨b, hb'⟩ := Int.eq_ofNat_of_zero_le hb.1
 rw [hb'] at hb ⊢
 rw [Int.toNat_natCast]
 exact CN (by omega)
theorem Nq (N : Nat) (hN : N ≤ 1000000) (h20 : 100 ≤ N) (hp : Bi p) (hm : BN p m) (ht : p.fTables[i]? = some t) :
  FY N p m (i : Int) = some (if B7 t = false ∨ m.fHeld.getD i 0 = FZ m t.fFrom.toNat ∨ G8 p m i t = true then (false, m.fHeld) else (true, m.fHeld.set i (FZ m t.fFrom.toNat))) := by
 have hi := (List.getElem?_eq_some_iff.1 ht).1
 have hin := HH (hp.tab t (List.mem_of_getElem? ht))
 have hb := hm.base
 have hnx := hm.next
 have hh := hm.held
 have hr := GY hp hm.toMixServ (s := t.fFrom.toNat) (by omega)
 have hrg := hm.range i hi
 have eh : BZ m.fHeld (i : Int) = some (m.fHeld.getD i 0) := CN (by omega)
 unfold FY
 simp only [Bd, A2, ht, Option.bind_some, Jn]
 have eh' : m.fHeld[i]? = some (m.fHeld.getD i 0) := by rw [← A2, eh]
 cases hs : B7 t
 ·rw [Bool.not_false, AN, if_pos (.inl rfl)]
 ·rw [Bool.not_true, Au, Po N m _ hin.1 (by omega) (by omega) (hm.b0 _ (by omega)).1]
  simp only [Option.bind_some, eh']
  by_cases h1 : m.fHeld.getD i 0 = FZ m t.fFrom.toNat
  ·rw [beq_iff_eq.2 h1, AN, AN, if_pos (.inr (.inl h1))]
  ·rw [beq_eq_false_iff_ne.2 h1, Au]
   by_cases h4 : t.fKind = 4
   ·rw [beq_iff_eq.2 h4, AN, Em (d := 0) hin.1 (by omega)]
    simp only [Option.bind_some]
    obtain ⟨a1, a2, a3⟩ := QS hrg hr.2
    obtain ⟨w, hw⟩ := Int.eq_ofNat_of_zero_le a2
    unfold E8
    rw [hw] at a1 a3 ⊢
    rw [O9 N t _ (Ka m t) 8 N w (WL _) (by omega) (by omega) (fun u hu hbu => by
     have := a1 u; rw [hbu] at this
     exact ⟨_, So hp hm ht hs h4 (Bool.and_eq_true_iff.1 this.symm).1⟩)]
    simp only [Option.bind_some]
    have e : (!(List.range 8).all fun u => !Dn (w : Int) u || Ka m t u) = G8 p m i t := by
     unfold G8
     rw [beq_iff_eq.2 h4, Bool.true_and, List.not_all_eq_any_not]
     congr 1
     funext u
     rw [a1 u, hr.1 u]
     unfold M7
     cases Dn (m.fHeld.getD i 0) u <;> cases Hj m t.fFrom.toNat u <;> cases Ka m t u <;> rfl
    rw [e]
    cases hst : G8 p m i t
    ·rw [Au, if_neg (by rintro (h | h | h); cases h; exact h1 h; cases h)]; rfl
    ·rw [AN, if_pos (.inr (.inr rfl))]
   ·have e : G8 p m i t = false := by unfold G8; rw [beq_eq_false_iff_ne.2 h4]; rfl
    rw [beq_eq_false_iff_ne.2 h4, Au, Au, e, if_neg (by rintro (h | h | h); cases h; exact h1 h; cases h)]; rfl
theorem Mu (N : Nat) (hN : N ≤ 1000000) (h20 : 100 ≤ N) (hp : Bi p) (hm : BN p m) (ht : p.fTables[i]? = some t) (hs : B7 t = true) (s : Af) (hsi : s.fIndex = (i : Int)) (j : Option (Ah × Bool)) :
  BA N p m s t (FZ m t.fFrom.toNat) (fun _ => j) N 0 = if G8 p m i t = true then some (Fy, false) else j := by
 have hi := (List.getElem?_eq_some_iff.1 ht).1
 have hin := HH (hp.tab t (List.mem_of_getElem? ht))
 have hb := hm.base
 have hh := hm.held
 have hr := GY hp hm.toMixServ (s := t.fFrom.toNat) (by omega)
 have hrg := hm.range i hi
 have hver := Ha hp (i := t.fFrom.toNat) (by omega)
 obtain ⟨nv, hnv⟩ := Int.eq_ofNat_of_zero_le (show 0 ≤ p.fVersions.getD t.fFrom.toNat 0 by omega)
 have eh' : m.fHeld[i]? = some (m.fHeld.getD i 0) := by rw [List.getD_eq_getElem?_getD]; simp [show i < m.fHeld.length from by omega]
 have := Cm (BA N p m s t (FZ m t.fFrom.toNat) fun _ => j) (List.range nv) j (fun u _ => if (M7 m i t u && (t.fKind == 4 && !Ka m t u)) = true then some (Fy, false) else none)
  (fun n u x hx => by
   have hu : u < nv := by
    have := (List.getElem?_eq_some_iff.1 hx).1
    simpa using this
   rw [BA, Em (d := 0) hin.1 (by omega), hnv]
   simp only [Option.bind_some]
   rw [AL (by omega)]
   simp only [Bd, hsi, A2, eh', Option.bind_some]
   rw [ST N hrg (by omega), AM (by omega)]
   simp only [Option.bind_some]
   cases h1 : Dn (m.fHeld.getD i 0) u
   ·have e : M7 m i t u = false := by unfold M7; rw [h1]; rfl
    rw [Au, Au, Au, e]; rfl
   ·rw [AN, ST N hr.2 (by omega), hr.1 u]
    simp only [Option.bind_some]
    have e : M7 m i t u = !Hj m t.fFrom.toNat u := by unfold M7; rw [h1]; rfl
    rw [← e]
    cases h2 : M7 m i t u
    ·rw [Au, Au]; rfl
    ·rw [AN]
     by_cases h4 : t.fKind = 4
     ·obtain ⟨e1, e2⟩ := So hp hm ht hs h4 h1
      rw [A2] at e1
      rw [beq_iff_eq.2 h4, AN, e1, Em (d := 0) hin.1 (by omega)]
      simp only [Option.bind_some]
      rw [e2]
      simp only [Option.bind_some]
      cases Ka m t u <;> rfl
     ·rw [beq_eq_false_iff_ne.2 h4, Au, Au]; rfl)
  (fun n => by
   rw [BA, Em (d := 0) hin.1 (by omega), hnv]
   simp only [Option.bind_some, List.length_range]
   rw [AH (by omega)]) N 0 (Nat.zero_le _) (by simp; omega)
 have e0 : BA N p m s t (FZ m t.fFrom.toNat) (fun _ => j) N 0 = _ := this
 rw [e0, List.drop_zero]
 by_cases hst : G8 p m i t = true
 ·rw [if_pos hst]
  unfold G8 at hst
  rw [Bool.and_eq_true, List.any_eq_true] at hst
  obtain ⟨h4, u, hu, h5⟩ := hst
  rw [Bool.and_eq_true] at h5
  have h6 : Dn (m.fHeld.getD i 0) u = true := by have := h5.1; unfold M7 at this; exact (Bool.and_eq_true_iff.1 this).1
  have h7 := S3 hp hm ht hs h6
  cases hsc : Dd (fun u (_ : Nat) => if (M7 m i t u && (t.fKind == 4 && !Ka m t u)) = true then some (Fy, false) else none) 0 (List.range nv) with
  | some r =>
   obtain ⟨q, x, hx, hf⟩ := DW hsc
   split at hf
   ·cases hf; rfl
   ·cases hf
  | none =>
   exfalso
   have hx : (List.range nv)[u]? = some u := List.getElem?_range (by omega)
   have := Eo hsc u u hx
   rw [Nat.zero_add, h5.1, h4, h5.2] at this
   cases this
 ·rw [if_neg hst]
  have : Dd (fun u (_ : Nat) => if (M7 m i t u && (t.fKind == 4 && !Ka m t u)) = true then some (Fy, false) else none) 0 (List.range nv) = none := EE fun q x hx => by
   rw [Nat.zero_add]
   split
   ·rename_i h5
    exfalso; apply hst
    rw [Bool.and_eq_true, Bool.and_eq_true] at h5
    unfold G8
    rw [h5.2.1, Bool.true_and, List.any_eq_true]
    have hq : q < nv := by
     have := (List.getElem?_eq_some_iff.1 hx).1
     simpa using this
    exact ⟨q, List.mem_range.2 (by omega), by rw [h5.1, h5.2.2]; rfl⟩
   ·rfl
  rw [this]; rfl
end clear
end Go.Lift

/- Apply: both implementations give applyP; a step leads from a valid mix to a valid mix. -/
namespace Go.Lift
open Go
theorem GK {s : Af} (h : Fu s = true) : 1 ≤ s.fKind ∧ s.fKind ≤ 4 ∧ 0 ≤ s.fIndex ∧ 0 ≤ s.fVersion ∧ (s.fKind ≠ 1 → s.fVersion = 0) := by
 unfold Fu at h
 rw [Bool.and_eq_true, decide_eq_true_iff, Bool.or_eq_true, beq_iff_eq, beq_iff_eq] at h
 exact ⟨h.1.1, h.1.2.1, h.1.2.2.1, h.1.2.2.2, fun hk => h.2.elim (fun e => (hk e).elim) id⟩
theorem Hu {p : Ae} {s : Af} (h : EV p s = true) : (s.fKind = 3 → s.fIndex < (p.fTables.length : Int)) ∧ (s.fKind ≠ 3 → s.fIndex < (p.fVersions.length : Int)) ∧ (s.fKind = 1 → s.fVersion < p.fVersions.getD s.fIndex.toNat 0) := by
 unfold EV at h
 split at h
 ·rename_i hk
  rw [decide_eq_true_iff] at h
  exact ⟨fun _ => h, fun hn => (hn hk).elim, fun h1 => by omega⟩
 ·rename_i hk
  rw [Bool.and_eq_true, decide_eq_true_iff, Bool.or_eq_true, decide_eq_true_iff, bne_iff_ne] at h
  exact ⟨fun h3 => (hk h3).elim, fun _ => h.1, fun h1 => h.2.elim (fun hn => (hn h1).elim) id⟩
theorem RN (N : Nat) {p : Ae} {m : Ah} (hp : Bi p) (hm : BN p m) : FC N m = some m := by
 have hnv := hp.nv
 have hnt := hp.nt
 have h1 := hm.base
 have h2 := hm.next
 have h3 := hm.held
 unfold FC
 rw [Iu N _ (by simp only [Dv]; omega), Iu N _ (by simp only [Dv]; omega), NV N _ (by simp only [Dv]; omega)]
 rfl
theorem Kd (N : Nat) (hN : N ≤ 1000000) (h20 : 100 ≤ N) {p : Ae} {m : Ah} (hp : Bi p) (hm : BN p m) {s : Af} (hv : Fu s = true) (hx : EV p s = true) :
  ∃ o, EL N p m s = some (o, (EZ p m s).isSome) ∧ ∀ x, EZ p m s = some x → o = x := by
 obtain ⟨k1, k4, i0, v0, vk⟩ := GK hv
 obtain ⟨x3, xn, x1⟩ := Hu hx
 have hnv := hp.nv
 have hnt := hp.nt
 have hb := hm.base
 have hn := hm.next
 have hh := hm.held
 obtain ⟨i, hi⟩ := Int.eq_ofNat_of_zero_le i0
 unfold EL EZ
 rw [RN N hp hm]
 simp only [Option.bind_some, Bd]
 by_cases hk1 : s.fKind = 1
 ·have hi1 : (i : Int) < p.fVersions.length := by have := xn (by omega); omega
  rw [beq_iff_eq.2 hk1, AN, if_pos hk1]
  unfold GT
  simp only [Bd, hi, Int.toNat_natCast]
  rw [CN (d := 0) (show i < m.fNext.length by omega)]
  simp only [Option.bind_some]
  by_cases c1 : 0 ≤ m.fNext.getD i 0
  ·rw [AL c1, AN, if_pos (.inl c1)]
   exact ⟨_, rfl, fun x hx => by cases hx⟩
  ·rw [AH c1, CN (d := 0) (show i < m.fBase.length by omega)]
   simp only [Option.bind_some]
   by_cases c2 : m.fBase.getD i 0 = s.fVersion
   ·rw [beq_iff_eq.2 c2, AN, if_pos (.inr c2)]
    exact ⟨_, rfl, fun x hx => by cases hx⟩
   ·rw [beq_eq_false_iff_ne.2 c2, Au, (L3 (R := Unit) N p s m.fHeld v0 hh (by omega) hN _).1, if_neg (by rintro (h | h); exact c1 h; exact c2 h)]
    exact ⟨_, rfl, fun x hx => by cases hx; rfl⟩
 ·rw [beq_eq_false_iff_ne.2 hk1, Au, if_neg hk1]
  by_cases hk3 : s.fKind = 3
  ·have hi3 : i < p.fTables.length := by have := x3 hk3; omega
   have ht : p.fTables[i]? = some p.fTables[i] := by simp [hi3]
   rw [beq_iff_eq.2 hk3, AN, if_pos hk3, hi, Nq N hN h20 hp hm ht]
   simp only [Option.bind_some, Int.toNat_natCast, ht]
   split
   ·exact ⟨_, rfl, fun x hx => by cases hx⟩
   ·exact ⟨_, rfl, fun x hx => by cases hx; rfl⟩
  ·have hi1 : (i : Int) < p.fVersions.length := by have := xn hk3; omega
   rw [beq_eq_false_iff_ne.2 hk3, Au, if_neg hk3, hi, CN (d := 0) (show i < m.fNext.length by omega)]
   simp only [Option.bind_some, Int.toNat_natCast]
   by_cases c1 : m.fNext.getD i 0 < 0
   ·rw [AL c1, if_pos c1]
    exact ⟨_, rfl, fun x hx => by cases hx⟩
   ·rw [AH c1, if_neg c1]
    by_cases hk2 : s.fKind = 2
    ·rw [beq_iff_eq.2 hk2, AN, CN (d := 0) (show i < m.fBase.length by omega), if_pos hk2]
     exact ⟨_, rfl, fun x hx => by cases hx; rfl⟩
    ·rw [beq_eq_false_iff_ne.2 hk2, Au, if_neg hk2]
     exact ⟨_, rfl, fun x hx => by cases hx; rfl⟩
theorem Nw (N : Nat) (hN : N ≤ 1000000) (h20 : 100 ≤ N) {p : Ae} {m : Ah} (hp : Bi p) (hm : BN p m) (s : Af) : F1 N p m s = some (A1 p m s) := by
 unfold F1 A1
 rw [Nj]
 simp only [Option.bind_some]
 cases hv : Fu s
 ·rw [Bool.not_false, AN, if_pos rfl]; rfl
 ·rw [Bool.not_true, Au, if_neg (by simp), Nb N p s hv]
  simp only [Option.bind_some]
  cases hx : EV p s
  ·rw [Bool.not_false, AN, if_pos rfl]; rfl
  ·rw [Bool.not_true, Au, if_neg (by simp)]
   obtain ⟨o, e, ho⟩ := Kd N hN h20 hp hm hv hx
   rw [e]
   simp only [Option.bind_some]
   cases ha : EZ p m s with
   | none => rfl
   | some x => rw [ho x ha]; rfl
theorem KX (N : Nat) (hN : N ≤ 1000000) (h20 : 100 ≤ N) {p : Ae} {m : Ah} (hp : Bi p) (hm : BN p m) {s : Af} (hv : Fu s = true) (hx : EV p s = true) :
  Cw N p m s = some (match EZ p m s with | none => (Fy, false) | some x => (x, true)) := by
 obtain ⟨k1, k4, i0, v0, vk⟩ := GK hv
 obtain ⟨x3, xn, x1⟩ := Hu hx
 have hnv := hp.nv
 have hnt := hp.nt
 have hb := hm.base
 have hn := hm.next
 have hh := hm.held
 obtain ⟨i, hi⟩ := Int.eq_ofNat_of_zero_le i0
 unfold Cw EZ
 rw [Az (by simp [Dv]; omega), Az (by simp [Dv]; omega), Az (by simp [Dv]; omega)]
 simp only [Option.bind_some, Bd, List.nil_append]
 by_cases hk1 : s.fKind = 1
 ·have hi1 : (i : Int) < p.fVersions.length := by have := xn (by omega); omega
  rw [beq_iff_eq.2 hk1, AN, if_pos hk1]
  simp only [hi, Int.toNat_natCast]
  rw [CN (d := 0) (show i < m.fNext.length by omega)]
  simp only [Option.bind_some]
  by_cases c1 : 0 ≤ m.fNext.getD i 0
  ·rw [AL c1, AN, if_pos (.inl c1)]; rfl
  ·rw [AH c1, CN (d := 0) (show i < m.fBase.length by omega)]
   simp only [Option.bind_some]
   by_cases c2 : m.fBase.getD i 0 = s.fVersion
   ·rw [beq_iff_eq.2 c2.symm, AN, if_pos (.inr c2)]; rfl
   ·rw [beq_eq_false_iff_ne.2 (fun h => c2 h.symm), Au, Mx N p s m.fHeld v0 hh (by omega) hN _, if_neg (by rintro (h | h); exact c1 h; exact c2 h)]
 ·rw [beq_eq_false_iff_ne.2 hk1, Au, if_neg hk1]
  by_cases hk3 : s.fKind = 3
  ·have hi3 : i < p.fTables.length := by have := x3 hk3; omega
   have ht : p.fTables[i]? = some p.fTables[i] := by simp [hi3]
   have hin := HH (hp.tab _ (List.mem_of_getElem? ht))
   have eh' : BZ m.fHeld (i : Int) = some (m.fHeld.getD i 0) := CN (by omega)
   rw [beq_eq_false_iff_ne.2 (show s.fKind ≠ 2 by omega), Au, beq_iff_eq.2 hk3, AN, if_pos hk3, hi, A2, ht]
   simp only [Option.bind_some, FV, Int.toNat_natCast, ht]
   cases hs : B7 p.fTables[i]
   ·rw [Bool.not_false, AN, if_pos (.inl rfl)]; rfl
   ·rw [Bool.not_true, Au, IH N m _ hin.1 (by omega) (by omega) (hm.b0 _ (by omega)).1, eh']
    simp only [Option.bind_some]
    by_cases h1 : m.fHeld.getD i 0 = FZ m (p.fTables[i]).fFrom.toNat
    ·rw [beq_iff_eq.2 h1, AN, if_pos (.inr (.inl h1))]; rfl
    ·rw [beq_eq_false_iff_ne.2 h1, Au]
     rw [Mu N hN h20 hp hm ht hs s hi]
     cases hst : G8 p m i p.fTables[i]
     ·rw [if_neg (by simp), if_neg (by rintro (h | h | h); cases h; exact h1 h; cases h)]
     ·rw [if_pos rfl, if_pos (.inr (.inr rfl))]
  ·have hi1 : (i : Int) < p.fVersions.length := by have := xn hk3; omega
   rw [if_neg hk3, hi, CN (d := 0) (show i < m.fNext.length by omega)]
   simp only [Option.bind_some, Int.toNat_natCast]
   by_cases hk2 : s.fKind = 2
   ·rw [beq_iff_eq.2 hk2, AN, if_pos hk2]
    by_cases c1 : m.fNext.getD i 0 < 0
    ·rw [AL c1, if_pos c1]; rfl
    ·rw [AH c1, if_neg c1, CN (d := 0) (show i < m.fBase.length by omega)]; rfl
   ·rw [beq_eq_false_iff_ne.2 hk2, Au, beq_eq_false_iff_ne.2 hk3, Au, if_neg hk2]
    by_cases c1 : m.fNext.getD i 0 < 0
    ·rw [AL c1, if_pos c1]; rfl
    ·rw [AH c1, if_neg c1]
end Go.Lift

/- A step leads from a valid mix to a valid mix; Apply of both implementations. -/
namespace Go.Lift
open Go
theorem PJ (s : Af) : ∀ (xs : List AF) (i : Nat) (a : List Int), i + xs.length ≤ a.length → (He (R8 s) i xs a).length = a.length ∧ ∀ q, (He (R8 s) i xs a).getD q 0 = match (if i ≤ q then xs[q - i]? else none) with
  | some t => if Rv s t = true then Ng .u8 (a.getD q 0) (Dw .u8 1 s.fVersion) else a.getD q 0
  | none => a.getD q 0
 | [], i, a, _ => by
  refine ⟨rfl, fun q => ?_⟩
  split
  ·rename_i h; split at h
   ·simp at h
   ·cases h
  ·rfl
 | x :: xs, i, a, hl => by
  have hl' : i + (xs.length + 1) ≤ a.length := by simpa using hl
  have ha : (R8 s i x a).length = a.length := by unfold R8; split <;> simp
  obtain ⟨ih1, ih2⟩ := PJ s xs (i + 1) (R8 s i x a) (by omega)
  refine ⟨by rw [He, ih1, ha], fun q => ?_⟩
  rw [He, ih2 q]
  have hu : (R8 s i x a).getD q 0 = if q = i ∧ Rv s x = true then Ng .u8 (a.getD q 0) (Dw .u8 1 s.fVersion) else a.getD q 0 := by
   unfold R8
   by_cases hc : Rv s x = true
   ·rw [if_pos hc, Hx (by omega)]
    by_cases hq : q = i
    ·subst hq; rw [if_pos rfl, if_pos ⟨rfl, hc⟩]
    ·rw [if_neg hq, if_neg (fun h => hq h.1)]
   ·rw [if_neg hc, if_neg (fun h => hc h.2)]
  by_cases h1 : i + 1 ≤ q
  ·rw [if_pos h1, if_pos (show i ≤ q by omega), hu, if_neg (by omega)]
   rw [show (x :: xs)[q - i]? = xs[q - (i + 1)]? from by rw [show q - i = (q - (i + 1)) + 1 from by omega, List.getElem?_cons_succ]]
  ·rw [if_neg h1]
   by_cases h2 : q = i
   ·subst h2
    rw [if_pos (Nat.le_refl _), Nat.sub_self, hu]
    simp
   ·rw [if_neg (show ¬ i ≤ q by omega), hu, if_neg (by omega)]
theorem RZ {p : Ae} {s : Af} {held : List Int} (hl : held.length = p.fTables.length) : (HD p s held).length = p.fTables.length ∧ ∀ q t, p.fTables[q]? = some t → (HD p s held).getD q 0 = if Rv s t = true then Ng .u8 (held.getD q 0) (Dw .u8 1 s.fVersion) else held.getD q 0 := by
 obtain ⟨h1, h2⟩ := PJ s p.fTables 0 held (by omega)
 refine ⟨h1.trans hl, fun q t ht => ?_⟩
 have := h2 q
 rw [if_pos (Nat.zero_le _), Nat.sub_zero, ht] at this
 exact this
theorem Mp {m : Ah} {s v : Nat} : Hj m s v = true ↔ m.fBase.getD s 0 = (v : Int) ∨ m.fNext.getD s 0 = (v : Int) := by
 unfold Hj; rw [Bool.or_eq_true, decide_eq_true_iff, decide_eq_true_iff]
theorem Sx {p : Ae} {m x : Ah} (hp : Bi p) (hm : BN p m) {s : Af} (hv : Fu s = true) (hx : EV p s = true) (h : EZ p m s = some x) : BN p x := by
 obtain ⟨k1, k4, i0, v0, vk⟩ := GK hv
 obtain ⟨x3, xn, x1⟩ := Hu hx
 obtain ⟨i, hi⟩ := Int.eq_ofNat_of_zero_le i0
 have hb := hm.base
 have hn := hm.next
 have hh := hm.held
 unfold EZ at h
 simp only [hi, Int.toNat_natCast] at h
 rw [hi, Int.toNat_natCast] at x1
 split at h
 ·rename_i hk1
  have hi1 : i < p.fVersions.length := by have := xn (by omega); omega
  have hx1 := x1 hk1
  have hvi := Ha hp hi1
  split at h
  ·cases h
  rename_i hc
  cases h
  obtain ⟨u1, u2⟩ := RZ (s := s) hh
  obtain ⟨b, hbv⟩ := Int.eq_ofNat_of_zero_le v0
  have hob := Up (b := b) (by omega)
  have hN : ∀ q, (m.fNext.set i s.fVersion).getD q 0 = if q = i then s.fVersion else m.fNext.getD q 0 := fun q => Hx (by omega)
  refine { base := hb, next := by simpa using hn, held := u1, b0 := hm.b0, n0 := fun q hq => ?_, ne := fun q hq => ?_, range := fun q hq => ?_, low := fun q t ht hs v hr => ?_, high := fun q t ht hs v hbit => ?_, none := fun q t ht hs => ?_ }
  ·show -1 ≤ (m.fNext.set i s.fVersion).getD q 0 ∧ (m.fNext.set i s.fVersion).getD q 0 < _
   rw [hN q]
   split
   ·rename_i e; subst e; omega
   ·exact hm.n0 q hq
  ·show m.fBase.getD q 0 ≠ (m.fNext.set i s.fVersion).getD q 0
   rw [hN q]
   split
   ·rename_i e; subst e; exact fun h => hc (.inr h)
   ·exact hm.ne q hq
  ·have ht : p.fTables[q]? = some p.fTables[q] := by simp [hq]
   show 0 ≤ (HD p s m.fHeld).getD q 0 ∧ (HD p s m.fHeld).getD q 0 ≤ 255
   rw [u2 q _ ht, hbv]
   split
   ·exact (Qv (hm.range q hq) hob.2).2
   ·exact hm.range q hq
  ·have hq := (List.getElem?_eq_some_iff.1 ht).1
   show Dn ((HD p s m.fHeld).getD q 0) v = true
   have hin := HH (hp.tab t (List.mem_of_getElem? ht))
   rw [Mp] at hr
   have hr : m.fBase.getD t.fFrom.toNat 0 = (v : Int) ∨ (m.fNext.set i s.fVersion).getD t.fFrom.toNat 0 = (v : Int) := hr
   rw [hN] at hr
   rw [u2 q t ht, hbv]
   have hlow := hm.low q t ht hs v
   rw [Mp] at hlow
   by_cases hf : t.fFrom.toNat = i
   ·have hup : Rv s t = true := by unfold Rv; rw [hs, Bool.and_true, beq_iff_eq, hi]; omega
    rw [if_pos hup, (Qv (hm.range q hq) hob.2).1, hob.1 v, Bool.or_eq_true, decide_eq_true_iff]
    rw [if_pos hf] at hr
    rcases hr with h | h
    ·exact .inl (hlow (.inl h))
    ·right; omega
   ·rw [if_neg hf] at hr
    have hup : Rv s t = false := by unfold Rv; rw [hs, Bool.and_true, beq_eq_false_iff_ne, hi]; omega
    rw [hup, if_neg (by simp)]
    exact hlow hr
  ·have hq := (List.getElem?_eq_some_iff.1 ht).1
   have hbit : Dn ((HD p s m.fHeld).getD q 0) v = true := hbit
   have hin := HH (hp.tab t (List.mem_of_getElem? ht))
   rw [u2 q t ht, hbv] at hbit
   split at hbit
   ·rename_i hup
    rw [(Qv (hm.range q hq) hob.2).1, hob.1 v, Bool.or_eq_true, decide_eq_true_iff] at hbit
    rcases hbit with h | h
    ·exact hm.high q t ht hs v h
    ·unfold Rv at hup
     rw [hs, Bool.and_true, beq_iff_eq, hi] at hup
     rw [hup, Int.toNat_natCast]; omega
   ·exact hm.high q t ht hs v hbit
  ·show (HD p s m.fHeld).getD q 0 = 0
   have hup : Rv s t = false := by unfold Rv; rw [hs, Bool.and_false]
   rw [u2 q t ht, hup, if_neg (by simp)]
   exact hm.none q t ht hs
 ·rename_i hk1
  split at h
  ·rename_i hk3
   have hi3 : i < p.fTables.length := by have := x3 hk3; omega
   have ht0 : p.fTables[i]? = some p.fTables[i] := by simp [hi3]
   rw [ht0] at h
   simp only at h
   split at h
   ·cases h
   rename_i hc
   cases h
   have hin0 := HH (hp.tab _ (List.mem_of_getElem? ht0))
   have hr0 := GY hp hm.toMixServ (s := (p.fTables[i]).fFrom.toNat) (by omega)
   have hs0 : B7 p.fTables[i] = true := by
    cases hs : B7 p.fTables[i]
    ·exact (hc (.inl hs)).elim
    ·rfl
   have hH : ∀ q, (m.fHeld.set i (FZ m (p.fTables[i]).fFrom.toNat)).getD q 0 = if q = i then FZ m (p.fTables[i]).fFrom.toNat else m.fHeld.getD q 0 := fun q => Hx (by omega)
   refine { base := hb, next := hn, held := by simpa using hh, b0 := hm.b0, n0 := hm.n0, ne := hm.ne, range := fun q hq => ?_, low := fun q t ht hs v hr => ?_, high := fun q t ht hs v hbit => ?_, none := fun q t ht hs => ?_ }
   ·show 0 ≤ (m.fHeld.set i (FZ m (p.fTables[i]).fFrom.toNat)).getD q 0 ∧ (m.fHeld.set i (FZ m (p.fTables[i]).fFrom.toNat)).getD q 0 ≤ 255
    rw [hH q]
    split
    ·exact hr0.2
    ·exact hm.range q hq
   ·show Dn ((m.fHeld.set i (FZ m (p.fTables[i]).fFrom.toNat)).getD q 0) v = true
    have hr : Hj m t.fFrom.toNat v = true := hr
    rw [hH q]
    split
    ·rename_i e; subst e
     rw [ht0] at ht; cases ht
     rw [hr0.1]; exact hr
    ·exact hm.low q t ht hs v hr
   ·have hbit : Dn ((m.fHeld.set i (FZ m (p.fTables[i]).fFrom.toNat)).getD q 0) v = true := hbit
    rw [hH q] at hbit
    split at hbit
    ·rename_i e; subst e
     rw [ht0] at ht; cases ht
     rw [hr0.1] at hbit
     exact hm.high q _ ht0 hs0 v (hm.low q _ ht0 hs0 v hbit)
    ·exact hm.high q t ht hs v hbit
   ·show (m.fHeld.set i (FZ m (p.fTables[i]).fFrom.toNat)).getD q 0 = 0
    rw [hH q, if_neg (fun e => by subst e; rw [ht0] at ht; cases ht; rw [hs0] at hs; cases hs)]
    exact hm.none q t ht hs
  ·rename_i hk3
   have hi1 : i < p.fVersions.length := by have := xn hk3; omega
   have hvi := Ha hp hi1
   split at h
   ·cases h
   rename_i hc
   cases h
   have hN : ∀ q, (m.fNext.set i (-1)).getD q 0 = if q = i then -1 else m.fNext.getD q 0 := fun q => Hx (by omega)
   have hB : ∀ q, (if s.fKind = 2 then m.fBase.set i (m.fNext.getD i 0) else m.fBase).getD q 0 = if s.fKind = 2 ∧ q = i then m.fNext.getD i 0 else m.fBase.getD q 0 := fun q => by
    by_cases hk2 : s.fKind = 2
    ·rw [if_pos hk2, Hx (by omega)]
     by_cases e : q = i
     ·rw [if_pos e, if_pos ⟨hk2, e⟩]
     ·rw [if_neg e, if_neg (fun h => e h.2)]
    ·rw [if_neg hk2, if_neg (fun h => hk2 h.1)]
   have hrun : ∀ q v, Hj ⟨if s.fKind = 2 then m.fBase.set i (m.fNext.getD i 0) else m.fBase, m.fNext.set i (-1), m.fHeld⟩ q v = true → Hj m q v = true := fun q v hr => by
    rw [Mp] at hr ⊢
    simp only [hN q, hB q] at hr
    by_cases e : q = i
    ·subst e
     rw [if_pos rfl] at hr
     by_cases hk2 : s.fKind = 2
     ·rw [if_pos ⟨hk2, rfl⟩] at hr; omega
     ·rw [if_neg (fun h => hk2 h.1)] at hr; omega
    ·rw [if_neg e, if_neg (fun h => e h.2)] at hr; exact hr
   refine { base := by simp only; split <;> simp [hb], next := by simpa using hn, held := hh, b0 := fun q hq => ?_, n0 := fun q hq => ?_, ne := fun q hq => ?_, range := hm.range, low := fun q t ht hs v hr => hm.low q t ht hs v (hrun _ _ hr), high := hm.high, none := hm.none }
   ·simp only [hB q]
    split
    ·rename_i e; obtain ⟨_, e⟩ := e; subst e
     have := hm.n0 q hq
     omega
    ·exact hm.b0 q hq
   ·simp only [hN q]
    split
    ·rename_i e; subst e; omega
    ·exact hm.n0 q hq
   ·simp only [hB q, hN q]
    have h1 := hm.b0 q hq
    by_cases e : q = i
    ·rw [if_pos e]
     split
     ·rename_i e2; obtain ⟨_, e2⟩ := e2; subst e2; omega
     ·omega
    ·rw [if_neg e, if_neg (fun h => e h.2)]; exact hm.ne q hq
theorem OH (N : Nat) (hN : N ≤ 1000000) (h20 : 100 ≤ N) {p : Ae} {m : Ah} (hw : Mf JU m.fHeld) (s : Af) : D6 N p m s = some (if EM p m = 0 then A1 p m s else (Fy, EM p m)) := by
 unfold D6 A1
 rw [Hi N p m hN (by omega)]
 simp only [Option.bind_some, Bd]
 by_cases hval : EM p m = 0
 ·obtain ⟨hp, hm⟩ := Iq hw hval
  rw [if_pos hval, hval, bne_self_eq_false, Au, Ox]
  simp only [Option.bind_some]
  cases hv : Fu s
  ·rw [Bool.not_false, AN, if_pos rfl]; rfl
  ·rw [Bool.not_true, Au, if_neg (by simp)]
   obtain ⟨k1, k4, i0, v0, vk⟩ := GK hv
   have key : ∀ b : Bool, EV p s = b → (if b = false then (Fy, (4 : Int)) else match EZ p m s with | none => (Fy, 11) | some x => (x, 0)) = (if b = false then (Fy, (4 : Int)) else match EZ p m s with | none => (Fy, 11) | some x => (x, 0)) := fun _ _ => rfl
   have tail : EV p s = true → ((Cw N p m s).bind fun v15 => AZ (!v15.2) (some (Ah.mk [] [] [], (11 : Int))) (some (v15.1, 0))) = some (match EZ p m s with | none => (Fy, 11) | some x => (x, 0)) := fun hx => by
    rw [KX N hN h20 hp hm hv hx]
    cases EZ p m s <;> rfl
   have zz : (Ah.mk [] [] [], (4 : Int)) = (Fy, 4) := rfl
   by_cases hk3 : s.fKind = 3
   ·rw [beq_iff_eq.2 hk3, AN, show (s.fKind != 3) = false from by rw [hk3]; rfl]
    have hX : EV p s = decide (s.fIndex < (p.fTables.length : Int)) := by unfold EV; rw [if_pos hk3]
    by_cases c : (p.fTables.length : Int) ≤ s.fIndex
    ·rw [AL c, AN, hX, decide_eq_false (by omega), if_pos rfl]; rfl
    ·have hx : EV p s = true := by rw [hX, decide_eq_true (by omega)]
     rw [AH c, Au, Au, beq_eq_false_iff_ne.2 (show s.fKind ≠ 1 by omega), Au, Au, hx, if_neg (by simp)]
     exact tail hx
   ·rw [beq_eq_false_iff_ne.2 hk3, Au, bne_iff_ne.2 hk3, AN]
    have hX : EV p s = (decide (s.fIndex < (p.fVersions.length : Int)) && (s.fKind != 1 || decide (s.fVersion < p.fVersions.getD s.fIndex.toNat 0))) := by unfold EV; rw [if_neg hk3]
    by_cases c : (p.fVersions.length : Int) ≤ s.fIndex
    ·rw [decide_eq_true c, AN, hX, decide_eq_false (show ¬ s.fIndex < (p.fVersions.length : Int) by omega), Bool.false_and, if_pos rfl]; rfl
    ·rw [decide_eq_false c, Au]
     by_cases hk1 : s.fKind = 1
     ·rw [beq_iff_eq.2 hk1, AN, Em (d := 0) i0 (by omega)]
      simp only [Option.bind_some]
      by_cases c2 : p.fVersions.getD s.fIndex.toNat 0 ≤ s.fVersion
      ·rw [decide_eq_true c2, AN, hX, decide_eq_false (show ¬ s.fVersion < p.fVersions.getD s.fIndex.toNat 0 by omega), show (s.fKind != 1) = false from by rw [hk1]; rfl, Bool.false_or, Bool.and_false, if_pos rfl]; rfl
      ·have hx : EV p s = true := by rw [hX, decide_eq_true (by omega), decide_eq_true (by omega), Bool.or_true]; rfl
       rw [decide_eq_false c2, Au, hx, if_neg (by simp)]
       exact tail hx
     ·have hx : EV p s = true := by rw [hX, decide_eq_true (by omega), bne_iff_ne.2 hk1]; rfl
      rw [beq_eq_false_iff_ne.2 hk1, Au, Au, hx, if_neg (by simp)]
      exact tail hx
 ·rw [if_neg hval, bne_iff_ne.2 hval, AN]; rfl
theorem Ke (N : Nat) (hN : N ≤ 1000000) (h20 : 100 ≤ N) {p : Ae} {m : Ah} (hw : Mf JU m.fHeld) (s : Af) : Fj N p m s = some (if EM p m = 0 then A1 p m s else (Fy, EM p m)) := by
 unfold Fj
 rw [Hk N p m hN (by omega) hw]
 simp only [Option.bind_some]
 by_cases hval : EM p m = 0
 ·obtain ⟨hp, hm⟩ := Iq hw hval
  rw [if_pos hval, hval, bne_self_eq_false, Au, Nw N hN h20 hp hm s]; rfl
 ·rw [if_neg hval, bne_iff_ne.2 hval, AN]; rfl
theorem Iw {p : Ae} {m : Ah} (hp : Bi p) (hm : BN p m) {s : Af} (h : (A1 p m s).2 = 0) : BN p (A1 p m s).1 := by
 unfold A1 at h ⊢
 split at h
 ·cases h
 rename_i h1
 rw [if_neg h1]
 split at h
 ·cases h
 rename_i h2
 rw [if_neg h2]
 cases ha : EZ p m s with
 | none => rw [ha] at h; cases h
 | some x => exact Sx hp hm (by simpa using h1) (by simpa using h2) ha
end Go.Lift

/- Failure and Check: both implementations give one answer; the laws PlanCheck and PlanFailure. -/
namespace Go.Lift
open Go
def Jk (p : Ae) (total : Nat) : List Af → Nat → Ah → Int × Ah × An × Int
 | [], _, m => if FM p m = true then (0, Fy, Mk, 15) else ((total : Int), Fy, Mk, 14)
 | s :: l, i, m => if (A1 p m s).2 ≠ 0 ∨ s.fKind = 4 then ((i : Int), Fy, Mk, 0) else match HS p (A1 p m s).1 with
  | some (x, c) => ((i : Int), x, c, 0)
  | none => Jk p total l (i + 1) (A1 p m s).1
def Rc (p : Ae) (l : List Af) : Int × Ah × An × Int :=
 if BP p ≠ 0 then (0, Fy, Mk, BP p) else match HS p (D7 p) with
  | some (x, c) => (-1, x, c, 0)
  | none => Jk p l.length l 0 (D7 p)
section
variable {N : Nat} {p : Ae} {l : List Af}
theorem I9 (hN : N ≤ 1000000) (h20 : 100 ≤ N) (hv : BP p = 0) (hl : l.length ≤ 1000) : ∀ (n i : Nat) (m : Ah), i ≤ l.length → l.length - i < n → BN p m →
  DU N p l (fun v6 => (Fz N p v6).bind fun v15 => AZ (!v15) (some ((l.length : Int), (Ah.mk ([] : List Int) ([] : List Int) ([] : List Int)), (An.mk 0 0 0), 14)) (some (0, (Ah.mk ([] : List Int) ([] : List Int) ([] : List Int)), (An.mk 0 0 0), 15))) n (m, (i : Int)) = some (Jk p l.length (l.drop i) i m)
 | 0, i, m, _, h, _ => by omega
 | n + 1, i, m, hi, h, hm => by
  obtain ⟨hp, _⟩ := CQ hv
  have hval := Fr hv hm
  rw [DU]
  by_cases hlt : i < l.length
  ·have hx : l[i]? = some l[i] := by simp [hlt]
   rw [AL (by simp only; omega), Gg hx, Jk]
   simp only [Bd, A2, hx, Option.bind_some, AM (show i < 1000000 by omega)]
   rw [Ke N hN h20 (H0 hm), if_pos hval]
   simp only [Option.bind_some]
   by_cases h1 : (A1 p m l[i]).2 = 0
   ·rw [h1, bne_self_eq_false, Au]
    by_cases h2 : l[i].fKind = 4
    ·rw [beq_iff_eq.2 h2, AN, if_pos (.inr h2)]; rfl
    ·have hm' := Iw hp hm h1
     rw [beq_eq_false_iff_ne.2 h2, Au, if_neg (by rintro (h | h); exact h rfl; exact h2 h), IG N p _ hN h20 (H0 hm') (Fr hv hm')]
     unfold MX
     simp only [Option.bind_some]
     cases hb : HS p (A1 p m l[i]).1 with
     | some y => rfl
     | none =>
      have e : ((15 : Int) == 0) = false := rfl
      simp only
      rw [e, Au]
      exact I9 hN h20 hv hl n (i + 1) _ (by omega) (by omega) hm'
   ·rw [bne_iff_ne.2 h1, AN, AN, if_pos (.inl h1)]; rfl
  ·have hd : l.drop i = [] := List.drop_eq_nil_of_le (by omega)
   rw [AH (by simp only; omega), hd, Jk, LZ N p m hN h20 (H0 hm)]
   simp only [Option.bind_some]
   cases FM p m <;> rfl
theorem OR (hN : N ≤ 1000000) (h20 : 100 ≤ N) (hl : l.length ≤ 1000) (hln : l.length < N) : EB N p l = some (Rc p l) := by
 unfold EB Rc
 rw [Ll N p hN h20]
 simp only [Option.bind_some]
 by_cases hv : BP p = 0
 ·have hm := KE hv
  rw [if_pos hv, hv, bne_self_eq_false, Au, if_neg (by simp), IG N p _ hN h20 (H0 hm) (Pl hv)]
  unfold MX
  simp only [Option.bind_some]
  cases hb : HS p (D7 p) with
  | some y => rfl
  | none =>
   have e : ((15 : Int) == 0) = false := rfl
   simp only
   rw [e, Au]
   have := I9 (N := N) (p := p) (l := l) hN h20 hv hl N 0 (D7 p) (Nat.zero_le _) (by omega) hm
   rw [List.drop_zero] at this
   exact this
 ·rw [if_neg hv, bne_iff_ne.2 hv, AN, if_pos hv]; rfl
def Qx (p : Ae) (l : List Af) : Bool := (Rc p l).2.2.2 == 15
theorem Nz (hN : N ≤ 1000000) (h20 : 100 ≤ N) (hl : l.length ≤ 1000) (hln : l.length < N) : Fi N p l = some (Qx p l) := by
 unfold Fi
 rw [OR hN h20 hl hln]; rfl
end
theorem Om : EJ 1000 = some true := by show _ = _; kernel_rfl
end Go.Lift

/- The law PlanErrors in plain words. -/
namespace Go.Lift
open Go
end Go.Lift

/- Trim: both implementations give one list. -/
namespace Go.Lift
open Go
end Go.Lift

/- A plan without a step: what can be left out. -/
namespace Go.Lift
open Go
def J8 (p : Ae) (m : Ah) (s : Af) : Option Ah := if (A1 p m s).2 = 0 ∧ s.fKind ≠ 4 ∧ Bt p (A1 p m s).1 = true then some (A1 p m s).1 else none
def LA (p : Ae) : Ah → List Af → Option Ah
 | m, [] => some m
 | m, s :: l => (J8 p m s).bind fun x => LA p x l
def I0 (p : Ae) (m : Ah) (l : List Af) : Bool := match LA p m l with
 | some x => FM p x
 | none => false
theorem LV (p : Ae) (total : Nat) : ∀ (l : List Af) (i : Nat) (m : Ah), ((Jk p total l i m).2.2.2 == 15) = I0 p m l
 | [], i, m => by
  rw [Jk]
  unfold I0
  rw [LA]
  cases h : FM p m
  ·rw [if_neg (by simp)]; exact h.symm
  ·rw [if_pos rfl]; exact h.symm
 | s :: l, i, m => by
  rw [Jk]
  unfold I0 LA J8 Bt
  by_cases h1 : (A1 p m s).2 ≠ 0 ∨ s.fKind = 4
  ·rw [if_pos h1, if_neg (fun h => h1.elim (fun a => a h.1) (fun a => h.2.1 a))]; rfl
  ·rw [if_neg h1]
   have h2 : (A1 p m s).2 = 0 := Decidable.byContradiction fun h => h1 (.inl h)
   have h3 : s.fKind ≠ 4 := fun h => h1 (.inr h)
   cases hb : HS p (A1 p m s).1 with
   | some y => rw [if_neg (fun h => by have := h.2.2; cases this)]; rfl
   | none =>
    rw [if_pos ⟨h2, h3, rfl⟩]
    exact LV p total l (i + 1) _
theorem R3 (p : Ae) (l : List Af) : Qx p l = (decide (BP p = 0) && (Bt p (D7 p) && I0 p (D7 p) l)) := by
 unfold Qx Rc Bt
 by_cases hv : BP p = 0
 ·rw [if_neg (fun h => h hv), decide_eq_true hv, Bool.true_and]
  cases hb : HS p (D7 p) with
  | some y => rfl
  | none => exact LV p l.length l 0 _
 ·rw [if_pos hv, decide_eq_false hv, Bool.false_and, beq_eq_false_iff_ne]
  rcases Gx p with h | h <;> (simp only; omega)
theorem RS {p : Ae} {m x : Ah} {s : Af} : J8 p m s = some x ↔ Fu s = true ∧ EV p s = true ∧ EZ p m s = some x ∧ s.fKind ≠ 4 ∧ Bt p x = true := by
 unfold J8 A1
 cases h1 : Fu s
 ·simp
 cases h2 : EV p s
 ·simp
 cases h3 : EZ p m s with
 | none => simp
 | some y =>
  simp only [Bool.true_eq_false, if_false, true_and, Option.some.injEq]
  constructor
  ·intro h
   split at h
   ·rename_i hc; cases h; exact ⟨rfl, hc.1, hc.2⟩
   ·cases h
  ·rintro ⟨rfl, h4, h5⟩
   rw [if_pos ⟨h4, h5⟩]
structure VZ (p : Ae) (m x : Ah) : Prop where
 base : m.fBase = x.fBase
 next : m.fNext = x.fNext
 held : ∀ i, i < p.fTables.length → ∀ v, Dn (m.fHeld.getD i 0) v = true → Dn (x.fHeld.getD i 0) v = true
theorem VZ.refl (p : Ae) (m : Ah) : VZ p m m := ⟨rfl, rfl, fun _ _ _ h => h⟩
theorem VZ.trans {p : Ae} {a b c : Ah} (h : VZ p a b) (g : VZ p b c) : VZ p a c := ⟨h.base.trans g.base, h.next.trans g.next, fun i hi v hv => g.held i hi v (h.held i hi v hv)⟩
end Go.Lift

/- A step between two mixes; openings and closings; the law PlanTrim. -/
namespace Go.Lift
open Go
theorem NN {p : Ae} {m : Ah} {l : List Af} (h : I0 p m l = true) : ∃ x, LA p m l = some x ∧ FM p x = true := by
 unfold I0 at h
 cases hr : LA p m l with
 | none => rw [hr] at h; cases h
 | some x => rw [hr] at h; exact ⟨x, rfl, h⟩
end Go.Lift

/- The law PlanTrim in plain words. -/
namespace Go.Lift
open Go
theorem PO (N : Nat) (l : List Af) (hN : N ≤ 1000000) (h : l.length < N) : DE N l l = some true := by
 unfold DE
 rw [bne_self_eq_false, Au]
 have := Cm (CC N l l fun _ => some true) l (some true) (fun _ _ => none)
  (fun n i x hx => by
   have hi := (List.getElem?_eq_some_iff.1 hx).1
   rw [CC, AL (by omega), A2, hx]
   simp only [Option.bind_some, beq_self_eq_true, Bool.and_true, Bool.not_true, Au]
   rw [AM (by omega)]; rfl)
  (fun n => by rw [CC, AH (by simp)]) N 0 (Nat.zero_le _) (by omega)
 refine this.trans ?_
 rw [EE fun j x hx => rfl]; rfl
end Go.Lift

/- The keys of mixes. -/
namespace Go.Lift
open Go
def Fo (m : Ah) (i : Nat) (b : Int) : List Int := [IntKind.wrap .u8 b, IntKind.wrap .u8 (IntKind.wrap .i64 (m.fNext.getD i 0 + 1))]
def JH (m : Ah) : List Int := CG (Fo m) 0 m.fBase ++ m.fHeld
theorem Tb (N : Nat) (hN : N ≤ 1000000) (h20 : 100 ≤ N) {p : Ae} {m : Ah} (hp : Bi p) (hm : BN p m) : Gf N m = some (Cp (JH m)) := by
 have hnv := hp.nv
 have hnt := hp.nt
 have hb := hm.base
 have hn := hm.next
 have hh := hm.held
 unfold Gf
 have e1 : IntKind.wrap .i64 (2 * (m.fBase.length : Int)) = 2 * (m.fBase.length : Int) := CI (by omega) (by omega)
 rw [e1, CI (n := 2 * (m.fBase.length : Int) + (m.fHeld.length : Int)) (by omega) (by omega), Az ⟨Int.le_refl 0, by omega, by simp only [Dv]; omega⟩]
 have l1 := FF (D9 N m fun v3 => Dg N m (fun v9 => some (Cp v9)) N (v3, 0)) (fun a i => (a, i)) m.fBase (fun v3 => Dg N m (fun v9 => some (Cp v9)) N (v3, 0)) (Fo m) 2 100
  (fun i x hx => by simp [Fo])
  (fun n i x a hx hl => by
   have hi := (List.getElem?_eq_some_iff.1 hx).1
   rw [D9, AL (by simp only; omega)]
   simp only [A2, hx, Option.bind_some, AM (show i < 1000000 by omega)]
   have e2 : m.fNext[i]? = some (m.fNext.getD i 0) := by rw [List.getD_eq_getElem?_getD]; simp [show i < m.fNext.length by omega]
   rw [e2]
   simp only [Option.bind_some]
   rw [Az (by simp [Dv]; simp [Fo] at hl; omega)]
   rfl)
  (fun n a => by rw [D9, AH (by simp)]) N [] (by omega) (by simp; omega)
 have l1' : D9 N m (fun v3 => Dg N m (fun v9 => some (Cp v9)) N (v3, 0)) N (List.replicate (0 : Int).toNat (0 : Int), 0) = _ := l1
 rw [l1', List.nil_append]
 have hfl : (CG (Fo m) 0 m.fBase).length ≤ 2 * m.fBase.length := Ff fun j x hx => by simp [Fo]
 have l2 := FF (Dg N m fun v9 => some (Cp v9)) (fun a i => (a, i)) m.fHeld (fun v9 => some (Cp v9)) (fun _ x => [x]) 1 100
  (fun i x hx => by simp)
  (fun n i x a hx hl => by
   have hi := (List.getElem?_eq_some_iff.1 hx).1
   rw [Dg, AL (by simp only; omega)]
   simp only [A2, hx, Option.bind_some, AM (show i < 1000000 by omega)]
   rw [Az (by simp [Dv]; simp at hl; omega)])
  (fun n a => by rw [Dg, AH (by simp)]) N (CG (Fo m) 0 m.fBase) (by omega) (by omega)
 have e3 : ∀ (i : Nat) (l : List Int), CG (fun _ (x : Int) => [x]) i l = l := by
  intro i l
  induction l generalizing i with
  | nil => rfl
  | cons x l ih => rw [CG, ih]; rfl
 refine l2.trans ?_
 rw [e3]; rfl
end Go.Lift

/- Keys tell mixes. -/
namespace Go.Lift
open Go
theorem QQ (xs : List Int) : ∀ b : ByteArray, (xs.foldl (fun s n => s.push (UInt8.ofNat n.toNat)) b).data.toList = b.data.toList ++ xs.map fun n => UInt8.ofNat n.toNat := by
 induction xs with
 | nil => intro b; simp
 | cons x xs ih => intro b; rw [List.foldl_cons, ih]; simp [ByteArray.push]
theorem K2 (xs : List Int) : (Cp xs).data.toList = xs.map fun n => UInt8.ofNat n.toNat := by
 unfold Cp
 rw [QQ]; rfl
theorem Vt {a b : Int} (ha : 0 ≤ a ∧ a ≤ 255) (hb : 0 ≤ b ∧ b ≤ 255) (h : UInt8.ofNat a.toNat = UInt8.ofNat b.toNat) : a = b := by
 have := congrArg UInt8.toNat h
 simp at this
 omega
theorem MK : ∀ {xs ys : List Int}, (∀ x, x ∈ xs → 0 ≤ x ∧ x ≤ 255) → (∀ x, x ∈ ys → 0 ≤ x ∧ x ≤ 255) → (xs.map fun n => UInt8.ofNat n.toNat) = (ys.map fun n => UInt8.ofNat n.toNat) → xs = ys
 | [], [], _, _, _ => rfl
 | [], _ :: _, _, _, h => by cases h
 | _ :: _, [], _, _, h => by cases h
 | x :: xs, y :: ys, hx, hy, h => by
  rw [List.map_cons, List.map_cons, List.cons.injEq] at h
  rw [Vt (hx x (by simp)) (hy y (by simp)) h.1, MK (fun z hz => hx z (List.mem_cons_of_mem _ hz)) (fun z hz => hy z (List.mem_cons_of_mem _ hz)) h.2]
theorem Pk {xs ys : List Int} (hx : ∀ x, x ∈ xs → 0 ≤ x ∧ x ≤ 255) (hy : ∀ x, x ∈ ys → 0 ≤ x ∧ x ≤ 255) (h : (Cp xs == Cp ys) = true) : xs = ys := by
 rw [Ih, beq_iff_eq] at h
 have h := congrArg Array.toList h
 rw [K2, K2] at h
 exact MK hx hy h
theorem OX (xs : List Int) : (Cp xs == Cp xs) = true := by rw [Ih]; simp
theorem NW {α β : Type} {g h : Nat → α → List β} {c : Nat} : ∀ {i : Nat} {xs ys : List α}, xs.length = ys.length → (∀ i x, (g i x).length = c) → (∀ i x, (h i x).length = c) → CG g i xs = CG h i ys → ∀ j x y, xs[j]? = some x → ys[j]? = some y → g (i + j) x = h (i + j) y
 | i, [], ys, _, _, _, _, j, x, y, hx, _ => by simp at hx
 | i, x :: xs, [], hl, _, _, _, _, _, _, _, _ => by simp at hl
 | i, x :: xs, y :: ys, hl, hg, hh, e, j, x', y', hx, hy => by
  rw [CG, CG] at e
  have e1 := List.append_inj e ((hg i x).trans (hh i y).symm)
  cases j with
  | zero => simp at hx hy; subst hx; subst hy; exact e1.1
  | succ j =>
   have := NW (i := i + 1) (by simpa using hl) hg hh e1.2 j x' y' (by simpa using hx) (by simpa using hy)
   rwa [show i + 1 + j = i + (j + 1) from by omega] at this
theorem NF {p : Ae} {m : Ah} (hp : Bi p) (hm : BN p m) : ∀ x, x ∈ JH m → 0 ≤ x ∧ x ≤ 255 := by
 intro x hx
 unfold JH at hx
 rcases List.mem_append.1 hx with h | h
 ·obtain ⟨j, b, hb, hk⟩ := Gd.1 h
  have hw : ∀ n : Int, 0 ≤ IntKind.wrap .u8 n ∧ IntKind.wrap .u8 n ≤ 255 := fun n => by
   simp [IntKind.wrap, IntKind.signed, IntKind.bits]; omega
  unfold Fo at hk
  rcases List.mem_cons.1 hk with e | e
  ·subst e; exact hw _
  ·rcases List.mem_cons.1 e with e | e
   ·subst e; exact hw _
   ·cases e
 ·obtain ⟨j, hj⟩ := List.mem_iff_getElem?.1 h
  have hl := (List.getElem?_eq_some_iff.1 hj).1
  have := hm.range j (by rw [← hm.held]; exact hl)
  rw [List.getD_eq_getElem?_getD, hj] at this
  exact this
theorem GQ {n : Int} (h : 0 ≤ n ∧ n ≤ 255) : IntKind.wrap .u8 n = n := by
 simp [IntKind.wrap, IntKind.signed, IntKind.bits]; omega
theorem TP {p : Ae} {m x : Ah} (hp : Bi p) (hm : BN p m) (hx : BN p x) (h : (Cp (JH m) == Cp (JH x)) = true) : m = x := by
 have e := Pk (NF hp hm) (NF hp hx) h
 unfold JH at e
 have hbl : m.fBase.length = x.fBase.length := hm.base.trans hx.base.symm
 have hfl : ∀ y : Ah, (CG (Fo y) 0 y.fBase).length = 2 * y.fBase.length := fun y => by
  have : ∀ (i : Nat) (l : List Int), (CG (Fo y) i l).length = 2 * l.length := by
   intro i l
   induction l generalizing i with
   | nil => rfl
   | cons b l ih => rw [CG, List.length_append, ih, List.length_cons]; simp [Fo]; omega
  exact this 0 _
 obtain ⟨e1, e2⟩ := List.append_inj e (by rw [hfl, hfl, hbl])
 have key : ∀ j, j < p.fVersions.length → m.fBase.getD j 0 = x.fBase.getD j 0 ∧ m.fNext.getD j 0 = x.fNext.getD j 0 := fun j hj => by
  have h1 : m.fBase[j]? = some (m.fBase.getD j 0) := by rw [List.getD_eq_getElem?_getD]; simp [hm.base, hj]
  have h2 : x.fBase[j]? = some (x.fBase.getD j 0) := by rw [List.getD_eq_getElem?_getD]; simp [hx.base, hj]
  have h3 := NW (c := 2) hbl (fun _ _ => by simp [Fo]) (fun _ _ => by simp [Fo]) e1 j _ _ h1 h2
  rw [Nat.zero_add] at h3
  have v := Ha hp hj
  have b1 := hm.b0 j hj
  have b2 := hx.b0 j hj
  have n1 := hm.n0 j hj
  have n2 := hx.n0 j hj
  unfold Fo at h3
  rw [CI (n := m.fNext.getD j 0 + 1) (by omega) (by omega), CI (n := x.fNext.getD j 0 + 1) (by omega) (by omega), GQ (n := m.fBase.getD j 0) (by omega), GQ (n := x.fBase.getD j 0) (by omega), GQ (n := m.fNext.getD j 0 + 1) (by omega), GQ (n := x.fNext.getD j 0 + 1) (by omega), List.cons.injEq, List.cons.injEq] at h3
  exact ⟨h3.1, by omega⟩
 have hB : m.fBase = x.fBase := EQ hbl fun q hq => (key q (by rw [← hm.base]; exact hq)).1
 have hN : m.fNext = x.fNext := EQ (hm.next.trans hx.next.symm) fun q hq => (key q (by rw [← hm.next]; exact hq)).2
 cases m; cases x
 simp only at hB hN e2
 rw [hB, hN, e2]
end Go.Lift

/- The possible steps of a mix, in order: both implementations. -/
namespace Go.Lift
open Go
def HU (i : Nat) (n : Int) : List Af := (List.range n.toNat).map fun v => ⟨1, (i : Int), ((v : Nat) : Int), ⟩
def D4 (p : Ae) : List Af := CG HU 0 p.fVersions ++ ((List.range p.fVersions.length).map fun i => (⟨2, ((i : Nat) : Int), 0⟩ : Af)) ++ ((List.range p.fTables.length).map fun i => (⟨3, ((i : Nat) : Int), 0⟩ : Af))
def EU (p : Ae) (m : Ah) : List Af := (D4 p).filter fun s => (A1 p m s).2 == 0
theorem Q1 {p : Ae} (hp : Bi p) : (D4 p).length ≤ 54 := by
 have h1 : (CG HU 0 p.fVersions).length ≤ 6 * p.fVersions.length := Ff fun j x hx => by
  have := hp.ver x (List.mem_of_getElem? hx)
  simp [HU]; omega
 have := hp.nv
 have := hp.nt
 unfold D4
 simp only [List.length_append, List.length_map, List.length_range]
 omega
theorem Qi (N : Nat) (hN : N ≤ 1000000) (h20 : 100 ≤ N) {p : Ae} (hp : Bi p) : GU N p = some (D4 p) := by
 have hnv := hp.nv
 have hnt := hp.nt
 unfold GU
 have l1 := FF (CR N p fun v2 => Cb N p (fun v10 => Bo N p (fun v14 => some v14) N (v10, 0)) N (v2, 0)) (fun a i => (a, i)) p.fVersions (fun v2 => Cb N p (fun v10 => Bo N p (fun v14 => some v14) N (v10, 0)) N (v2, 0)) HU 6 100
  (fun i x hx => by have := hp.ver x (List.mem_of_getElem? hx); simp [HU]; omega)
  (fun n i x a hx hl => by
   have hi := (List.getElem?_eq_some_iff.1 hx).1
   have hx6 := hp.ver x (List.mem_of_getElem? hx)
   obtain ⟨k, hk⟩ := Int.eq_ofNat_of_zero_le (show 0 ≤ x by omega)
   rw [CR, AL (by simp only; omega)]
   simp only [A2, hx, Option.bind_some, AM (show i < 1000000 by omega)]
   subst hk
   obtain ⟨a', e, ha⟩ := Ex (Eb N (a, (i : Int)) (k : Int) fun v6 => CR N p (fun v2 => Cb N p (fun v10 => Bo N p (fun v14 => some v14) N (v10, 0)) N (v2, 0)) n (v6, ((i + 1 : Nat) : Int))) (fun b v => (b, v)) k (fun v6 => CR N p (fun v2 => Cb N p (fun v10 => Bo N p (fun v14 => some v14) N (v10, 0)) N (v2, 0)) n (v6, ((i + 1 : Nat) : Int)))
    (fun v b => b = a ++ (List.range v).map fun v => (⟨1, (i : Int), ((v : Nat) : Int)⟩ : Af))
    (fun n v b hv hb => by
     subst hb
     rw [Eb, AL (by simp only; omega), Az (by simp [Dv]; simp [HU] at hl; omega), AM (by omega)]
     exact ⟨_, rfl, by rw [List.range_succ, List.map_append, List.append_assoc]; rfl⟩)
    (fun n b hb => by rw [Eb, AH (by simp)]) N 0 a (Nat.zero_le _) (by omega) (by simp)
   have e' : Eb N (a, (i : Int)) (k : Int) (fun v6 => CR N p (fun v2 => Cb N p (fun v10 => Bo N p (fun v14 => some v14) N (v10, 0)) N (v2, 0)) n (v6, ((i + 1 : Nat) : Int))) N (a, 0) = _ := e
   rw [e', ha]; rfl)
  (fun n a => by rw [CR, AH (by simp)]) N [] (by omega) (by simp; omega)
 have l1' : CR N p (fun v2 => Cb N p (fun v10 => Bo N p (fun v14 => some v14) N (v10, 0)) N (v2, 0)) N (([] : List Af), 0) = _ := l1
 rw [l1', List.nil_append]
 have hA : (CG HU 0 p.fVersions).length ≤ 6 * p.fVersions.length := Ff fun j x hx => by
  have := hp.ver x (List.mem_of_getElem? hx)
  simp [HU]; omega
 generalize hAe : CG HU 0 p.fVersions = A at hA
 obtain ⟨b', e2, hb⟩ := Ex (Cb N p fun v10 => Bo N p (fun v14 => some v14) N (v10, 0)) (fun b v => (b, v)) p.fVersions.length (fun v10 => Bo N p (fun v14 => some v14) N (v10, 0))
  (fun v b => b = A ++ (List.range v).map fun i => (⟨2, ((i : Nat) : Int), 0⟩ : Af))
  (fun n v b hv hb => by
   subst hb
   rw [Cb, AL (by simp only; omega), Az (by simp [Dv]; omega), AM (by omega)]
   exact ⟨_, rfl, by rw [List.range_succ, List.map_append, List.append_assoc]; rfl⟩)
  (fun n b hb => by rw [Cb, AH (by simp)]) N 0 A (Nat.zero_le _) (by omega) (by simp)
 have e2' : Cb N p (fun v10 => Bo N p (fun v14 => some v14) N (v10, 0)) N (A, 0) = _ := e2
 rw [e2', hb]
 generalize hBe : A ++ (List.range p.fVersions.length).map (fun i => (⟨2, ((i : Nat) : Int), 0⟩ : Af)) = B
 have hB : B.length ≤ 50 := by rw [← hBe]; simp; omega
 obtain ⟨c', e3, hc⟩ := Ex (Bo N p fun v14 => some v14) (fun b v => (b, v)) p.fTables.length (fun v14 => some v14)
  (fun v b => b = B ++ (List.range v).map fun i => (⟨3, ((i : Nat) : Int), 0⟩ : Af))
  (fun n v b hv hb => by
   subst hb
   rw [Bo, AL (by simp only; omega), Az (by simp [Dv]; omega), AM (by omega)]
   exact ⟨_, rfl, by rw [List.range_succ, List.map_append, List.append_assoc]; rfl⟩)
  (fun n b hb => by rw [Bo, AH (by simp)]) N 0 B (Nat.zero_le _) (by omega) (by simp)
 have e3' : Bo N p (fun v14 => some v14) N (B, 0) = _ := e3
 rw [e3', hc, ← hBe, ← hAe]; rfl
end Go.Lift

/- Enabled: the possible steps. -/
namespace Go.Lift
open Go
theorem Ly {p : Ae} (hp : Bi p) {s : Af} (h : s ∈ D4 p) : Fu s = true ∧ EV p s = true := by
 have hnv := hp.nv
 unfold D4 at h
 rcases List.mem_append.1 h with h | h
 ·rcases List.mem_append.1 h with h | h
  ·obtain ⟨j, x, hx, hk⟩ := Gd.1 h
   rw [Nat.zero_add] at hk
   unfold HU at hk
   obtain ⟨v, hv, rfl⟩ := List.mem_map.1 hk
   have hx6 := hp.ver x (List.mem_of_getElem? hx)
   have hv := List.mem_range.1 hv
   have hj := (List.getElem?_eq_some_iff.1 hx).1
   refine ⟨by unfold Fu; simp, ?_⟩
   unfold EV
   have e : p.fVersions.getD j 0 = x := by rw [List.getD_eq_getElem?_getD, hx]; rfl
   simp only
   rw [if_neg (by omega), decide_eq_true (by omega), Int.toNat_natCast, e, decide_eq_true (by omega), Bool.or_true]; rfl
  ·obtain ⟨v, hv, rfl⟩ := List.mem_map.1 h
   have hv := List.mem_range.1 hv
   refine ⟨by unfold Fu; simp, ?_⟩
   unfold EV
   simp only
   rw [if_neg (by omega), decide_eq_true (by omega)]; rfl
 ·obtain ⟨v, hv, rfl⟩ := List.mem_map.1 h
  have hv := List.mem_range.1 hv
  refine ⟨by unfold Fu; simp, ?_⟩
  unfold EV
  simp only
  rw [if_pos trivial, decide_eq_true (by omega)]
theorem SC {p : Ae} {m : Ah} {s : Af} (hv : Fu s = true) (hx : EV p s = true) : ((A1 p m s).2 == 0) = (EZ p m s).isSome := by
 unfold A1
 rw [hv, hx, if_neg (by simp), if_neg (by simp)]
 cases EZ p m s <;> rfl
theorem Pu (N : Nat) (hN : N ≤ 1000000) (h20 : 100 ≤ N) {p : Ae} {m : Ah} (hp : Bi p) (hm : BN p m) {s : Af} (h : s ∈ D4 p) :
  C3 N s p.fVersions p.fNow p.fTarget p.fTables m.fBase m.fNext m.fHeld = some (!((A1 p m s).2 == 0)) := by
 obtain ⟨hv, hx⟩ := Ly hp h
 unfold C3
 obtain ⟨o, e, _⟩ := Kd N hN h20 hp hm hv hx
 have e' : EL N ⟨p.fVersions, p.fNow, p.fTarget, p.fTables⟩ ⟨m.fBase, m.fNext, m.fHeld⟩ s = some (o, (EZ p m s).isSome) := e
 rw [e', SC hv hx]; rfl
theorem QN (N : Nat) (hN : N ≤ 1000000) (a : List Af) (f : Af → Option Bool) (g : Af → Bool) (h : a.length < N) (hf : ∀ x, x ∈ a → f x = some (g x)) :
  BI N a f = some ((Dd (fun i x => if g x = true then some (i : Int) else none) 0 a).getD (-1)) := by
 unfold BI
 have := Cm (A3 N a f fun _ => some (-1)) a (some (-1)) (fun i x => if g x = true then some (i : Int) else none)
  (fun n i x hx => by
   have hi := (List.getElem?_eq_some_iff.1 hx).1
   rw [A3, AL (by omega), A2, hx]
   simp only [Option.bind_some]
   rw [hf x (List.mem_of_getElem? hx), AM (by omega)]
   simp only [Option.bind_some]
   cases g x <;> rfl)
  (fun n => by rw [A3, AH (by simp)]) N 0 (Nat.zero_le _) (by omega)
 refine this.trans ?_
 rw [List.drop_zero]
 cases Dd (fun i x => if g x = true then some (i : Int) else none) 0 a <;> rfl
end Go.Lift

/- Enabled gives the possible steps. -/
namespace Go.Lift
open Go
theorem Ny {α : Type} {l : List α} {i : Nat} {v : α} (h : i < l.length) : (l.set i v).take (i + 1) = l.take i ++ [v] := by
 rw [List.take_add_one, List.take_set_of_le (Nat.le_refl i)]
 congr 1
 simp [h]
theorem PM (N : Nat) (hN : N ≤ 1000000) (a : List Af) (f : Af → Option Bool) (g : Af → Bool) (h : a.length < N) (h9 : a.length ≤ 1000) (hf : ∀ x, x ∈ a → f x = some (g x)) :
  ∃ X n, BE N a f = some (n, X) ∧ n ≤ X.length ∧ X.take n = a.filter fun x => !g x := by
 unfold BE
 rw [QN N hN a f g h hf]
 simp only [Option.bind_some]
 cases hs : Dd (fun i x => if g x = true then some (i : Int) else none) 0 a with
 | none =>
  refine ⟨a, a.length, rfl, Nat.le_refl _, ?_⟩
  rw [List.take_length]
  symm
  rw [List.filter_eq_self]
  intro x hx
  obtain ⟨j, hj⟩ := List.mem_iff_getElem?.1 hx
  have := Eo hs j x hj
  cases hg : g x
  ·rfl
  ·rw [hg] at this; cases this
 | some r =>
  obtain ⟨j, x, hx, hr⟩ := DW hs
  rw [Nat.zero_add] at hr
  split at hr
  ·rename_i hg
   cases hr
   have hj := (List.getElem?_eq_some_iff.1 hx).1
   have e0 : ((some (j : Int)).getD (-1) == (-1 : Int)) = false := beq_eq_false_iff_ne.2 (by simp only [Option.getD_some]; omega)
   rw [e0, Au]
   simp only [Option.getD_some]
   rw [AM (by omega)]
   -- what lies before the first that goes is kept
   have hpre : (a.take (j + 1)).filter (fun x => !g x) = a.take j := by
    rw [List.take_add_one, hx, List.filter_append]
    have h1 : (a.take j).filter (fun x => !g x) = a.take j := by
     rw [List.filter_eq_self]
     intro y hy
     obtain ⟨q, hq⟩ := List.mem_iff_getElem?.1 hy
     have hql := (List.getElem?_eq_some_iff.1 hq).1
     simp at hql
     rw [List.getElem?_take_of_lt (by omega)] at hq
     cases hgy : g y
     ·rfl
     ·exfalso
      have : ∀ (xs : List Af) (i j q : Nat) (y : Af), Dd (fun i x => if g x = true then some (i : Int) else none) i xs = some ((i + j : Nat) : Int) → q < j → xs[q]? = some y → g y = true → False := by
       intro xs
       induction xs with
       | nil => intro i j q y _ _ hq; simp at hq
       | cons z zs ih =>
        intro i j q y hs hqj hq hgy
        rw [FL] at hs
        cases hz : g z
        ·rw [hz] at hs
         cases q with
         | zero => simp at hq; subst hq; rw [hz] at hgy; cases hgy
         | succ q =>
          cases j with
          | zero => omega
          | succ j => exact ih (i + 1) j q y (by rw [show i + 1 + j = i + (j + 1) from by omega]; exact hs) (by omega) (by simpa using hq) hgy
        ·rw [hz] at hs
         have hs : (some (i : Int)) = some ((i + j : Nat) : Int) := hs
         have := Option.some.inj hs
         omega
      exact this a 0 j q y (by rw [Nat.zero_add]; exact hs) (by omega) hq hgy
    rw [h1]
    simp [hg]
   obtain ⟨b, e, hb⟩ := Ex (AW N f fun v4 => (Eg ((0 : Int) ≤ v4.2 ∧ (v4.2).toNat ≤ v4.1.length ∧ v4.1.length ≤ v4.1.length)).bind fun _ =>
     (Eg ((0 : Int) ≤ v4.2 ∧ 0 ≤ (v4.2).toNat ∧ (v4.2).toNat ≤ (Il v4.1 ((v4.2).toNat) (List.replicate ((v4.1.length - (v4.2).toNat)) ((Af.mk 0 0 0)))).length)).bind fun _ =>
     some ((v4.2).toNat, Il v4.1 ((v4.2).toNat) (List.replicate ((v4.1.length - (v4.2).toNat)) ((Af.mk 0 0 0)))))
    (fun (b : List Af × Nat) i => (b.1, ((b.2 : Nat) : Int), i)) a.length (fun b => (Eg ((0 : Int) ≤ ((b.2 : Nat) : Int) ∧ (((b.2 : Nat) : Int)).toNat ≤ b.1.length ∧ b.1.length ≤ b.1.length)).bind fun _ =>
     (Eg ((0 : Int) ≤ ((b.2 : Nat) : Int) ∧ 0 ≤ (((b.2 : Nat) : Int)).toNat ∧ (((b.2 : Nat) : Int)).toNat ≤ (Il b.1 ((((b.2 : Nat) : Int)).toNat) (List.replicate ((b.1.length - (((b.2 : Nat) : Int)).toNat)) ((Af.mk 0 0 0)))).length)).bind fun _ =>
     some ((((b.2 : Nat) : Int)).toNat, Il b.1 ((((b.2 : Nat) : Int)).toNat) (List.replicate ((b.1.length - (((b.2 : Nat) : Int)).toNat)) ((Af.mk 0 0 0)))))
    (fun i b => b.1.length = a.length ∧ b.2 ≤ i ∧ b.1.drop i = a.drop i ∧ b.1.take b.2 = (a.take i).filter fun x => !g x)
    (fun n i b hi hb => by
     obtain ⟨b1, b2, b3, b4⟩ := hb
     rw [AW, AL (by simp only; omega)]
     have hai : a[i]? = some a[i] := by simp [hi]
     have hbi : b.1[i]? = some a[i] := by
      have := congrArg (fun l => l[0]?) b3
      simp only [List.getElem?_drop, Nat.add_zero] at this
      rw [this, hai]
     simp only [Bd, A2, hbi, Option.bind_some]
     rw [hf a[i] (List.getElem_mem hi), AM (i := i) (by omega)]
     simp only [Option.bind_some]
     have hnext : b.1.drop (i + 1) = a.drop (i + 1) := by
      have := congrArg (List.drop 1) b3
      rwa [List.drop_drop, List.drop_drop] at this
     cases hgi : g a[i]
     ·rw [Bool.not_false, AN]
      have hbj : b.1[b.2]? = some b.1[b.2] := by simp [show b.2 < b.1.length from by omega]
      rw [hbj, AM (i := b.2) (by omega)]
      refine ⟨(b.1.set b.2 a[i], b.2 + 1), rfl, by simpa using b1, by simp only; omega, ?_, ?_⟩
      ·simp only
       rw [List.drop_set_of_lt (by omega), hnext]
      ·simp only
       rw [Ny (by omega), b4, List.take_add_one, hai, List.filter_append]
       simp [hgi]
     ·rw [Bool.not_true, Au]
      refine ⟨b, rfl, b1, by omega, hnext, ?_⟩
      rw [b4, List.take_add_one, hai, List.filter_append]
      simp [hgi])
    (fun n b hb => by rw [AW, AH (by simp [hb.1])]) N (j + 1) (a, j) (by omega) (by omega) ⟨rfl, by simp only; omega, rfl, hpre.symm⟩
   obtain ⟨b1, b2, b3, b4⟩ := hb
   have e' : AW N f (fun v4 => (Eg ((0 : Int) ≤ v4.2 ∧ (v4.2).toNat ≤ v4.1.length ∧ v4.1.length ≤ v4.1.length)).bind fun _ =>
     (Eg ((0 : Int) ≤ v4.2 ∧ 0 ≤ (v4.2).toNat ∧ (v4.2).toNat ≤ (Il v4.1 ((v4.2).toNat) (List.replicate ((v4.1.length - (v4.2).toNat)) ((Af.mk 0 0 0)))).length)).bind fun _ =>
     some ((v4.2).toNat, Il v4.1 ((v4.2).toNat) (List.replicate ((v4.1.length - (v4.2).toNat)) ((Af.mk 0 0 0))))) N (a, (j : Int), ((j + 1 : Nat) : Int)) = _ := e
   rw [e']
   have hsl : (Il b.1 b.2 (List.replicate (b.1.length - b.2) (Af.mk 0 0 0))).length = b.1.length := IS (by rw [List.length_replicate]; omega)
   simp only [Int.toNat_natCast]
   rw [Az ⟨by omega, by omega, Nat.le_refl _⟩, Az ⟨by omega, by omega, by rw [hsl]; omega⟩]
   refine ⟨_, _, rfl, by rw [hsl]; omega, ?_⟩
   unfold Il
   rw [List.append_assoc, List.take_append_of_le_length (by simp; omega), List.take_take, Nat.min_self, b4, List.take_length]
  ·cases hr
theorem Qm (N : Nat) (hN : N ≤ 1000000) (h20 : 100 ≤ N) {p : Ae} {m : Ah} (hv : BP p = 0) (hm : BN p m) : Fd N p m = some (EU p m, 0) := by
 obtain ⟨hp, _⟩ := CQ hv
 unfold Fd
 rw [Hk N p m hN (by omega) (H0 hm), Fr hv hm]
 simp only [Option.bind_some, bne_self_eq_false, Au]
 rw [Qi N hN h20 hp]
 simp only [Option.bind_some]
 have hl := Q1 hp
 obtain ⟨X, n, e, h1, h2⟩ := PM N hN (D4 p) (fun x => C3 N x p.fVersions p.fNow p.fTarget p.fTables m.fBase m.fNext m.fHeld) (fun s => !((A1 p m s).2 == 0)) (by omega) (by omega) (fun x hx => Pu N hN h20 hp hm hx)
 rw [e]
 simp only [Option.bind_some]
 rw [Az h1, h2]
 unfold EU
 simp
end Go.Lift

/- The reference's list of possible steps is the same. -/
namespace Go.Lift
open Go
theorem GW {β : Type} (g : Nat → List β) : ∀ n : Nat, CG (fun i (_ : Nat) => g i) 0 (List.range n) = (List.range n).flatMap g
 | 0 => rfl
 | n + 1 => by rw [List.range_succ, Lk, GW g n, List.flatMap_append]; simp [CG]
def TC (p : Ae) (m : Ah) (s : Af) : Bool := (A1 p m s).2 == 0
def gS (p : Ae) (m : Ah) (k : Int) (i v : Nat) : List Af := if TC p m ⟨k, (i : Int), (v : Int)⟩ = true then [⟨k, (i : Int), (v : Int)⟩] else []
def bS (p : Ae) (m : Ah) (k : Int) (i : Nat) : List Af := (List.range 6).flatMap (gS p m k i)
def Qq (p : Ae) : Nat := max p.fVersions.length p.fTables.length
def kS (p : Ae) (m : Ah) (k : Int) : List Af := (List.range (Qq p)).flatMap (bS p m k)
theorem Ju {β : Type} (f : Nat → β) (q : β → Bool) : ∀ n : Nat, ((List.range n).flatMap fun v => if q (f v) = true then [f v] else []) = ((List.range n).map f).filter q
 | 0 => rfl
 | n + 1 => by
  rw [List.range_succ, List.flatMap_append, Ju f q n, List.map_append, List.filter_append]
  cases h : q (f n) <;> simp [h]
theorem Jo {β : Type} (g : Nat → List β) (a : Nat) (h : ∀ v, a ≤ v → g v = []) : ∀ n, a ≤ n → (List.range n).flatMap g = (List.range a).flatMap g
 | 0, hn => by rw [Nat.le_zero.1 hn]
 | n + 1, hn => by
  by_cases h1 : a = n + 1
  ·rw [h1]
  ·rw [List.range_succ, List.flatMap_append, Jo g a h n (by omega)]
   simp [h n (by omega)]
theorem Sg (p : Ae) (m : Ah) (k : Int) (i v : Nat) : (gS p m k i v).length ≤ 1 := by unfold gS; split <;> simp
theorem Tw (p : Ae) (m : Ah) (k : Int) (i : Nat) : (bS p m k i).length ≤ 6 := by
 unfold bS
 rw [← GW]
 have := Ff (g := fun i' (_ : Nat) => gS p m k i i') (c := 1) (i := 0) (xs := List.range 6) fun j x _ => Sg p m k i _
 simpa using this
theorem Vu {p : Ae} (hp : Bi p) (m : Ah) (k : Int) : (kS p m k).length ≤ 72 := by
 have h1 := hp.nv
 have h2 := hp.nt
 unfold kS
 rw [← GW]
 have := Ff (g := fun i' (_ : Nat) => bS p m k i') (c := 6) (i := 0) (xs := List.range (Qq p)) fun j x _ => Tw p m k _
 simp only [List.length_range] at this
 have h3 : Qq p ≤ 12 := by unfold Qq; omega
 omega
theorem VU {p : Ae} {m : Ah} {s : Af} (h : TC p m s = true) : Fu s = true ∧ EV p s = true := by
 unfold TC A1 at h
 split at h
 ·cases h
 ·rename_i h1
  split at h
  ·cases h
  ·rename_i h2
   exact ⟨by simpa using h1, by simpa using h2⟩
theorem Lh {p : Ae} {m : Ah} {k : Int} {i v : Nat} (h : TC p m ⟨k, (i : Int), (v : Int)⟩ = true) : (k = 3 → i < p.fTables.length) ∧ (k ≠ 3 → i < p.fVersions.length) ∧ (k = 1 → (v : Int) < p.fVersions.getD i 0) ∧ (k ≠ 1 → v = 0) := by
 obtain ⟨h1, h2⟩ := VU h
 obtain ⟨a1, a2, a3, a4, a5⟩ := GK h1
 obtain ⟨b1, b2, b3⟩ := Hu h2
 simp only [Int.toNat_natCast] at *
 exact ⟨fun e => by have := b1 e; omega, fun e => by have := b2 e; omega, b3, fun e => by have := a5 e; omega⟩
theorem SF {p : Ae} (hp : Bi p) (m : Ah) : kS p m 1 ++ kS p m 2 ++ kS p m 3 = EU p m := by
 have hnv := hp.nv
 have hnt := hp.nt
 unfold EU D4
 rw [List.filter_append, List.filter_append]
 have e1 : kS p m 1 = (CG HU 0 p.fVersions).filter fun s => (A1 p m s).2 == 0 := by
  unfold kS
  rw [Jo (bS p m 1) p.fVersions.length (fun i hi => by
   unfold bS
   rw [List.flatMap_eq_nil_iff]
   intro v _
   unfold gS
   rw [if_neg]
   intro h
   have := (Lh h).2.1 (by decide)
   omega) (Qq p) (by unfold Qq; omega)]
  have e : ∀ (xs : List Int) (i : Nat), (∀ j x, xs[j]? = some x → 1 ≤ x ∧ x ≤ 6 ∧ p.fVersions.getD (i + j) 0 = x) → ((List.range xs.length).flatMap fun j => bS p m 1 (i + j)) = (CG HU i xs).filter fun s => (A1 p m s).2 == 0 := by
   intro xs
   induction xs with
   | nil => intro i _; rfl
   | cons x xs ih =>
    intro i hx
    rw [List.length_cons, List.range_succ_eq_map, List.flatMap_cons, List.flatMap_map, CG, List.filter_append]
    have ih' := ih (i + 1) (fun j y hy => by
     have := hx (j + 1) y (by simpa using hy)
     rw [show i + 1 + j = i + (j + 1) from by omega]; exact this)
    have hx0 := hx 0 x rfl
    rw [Nat.add_zero] at hx0
    congr 1
    ·rw [Nat.add_zero]
     unfold bS HU
     rw [Jo (gS p m 1 i) x.toNat (fun v hv => by
      unfold gS
      rw [if_neg]
      intro h
      have := (Lh h).2.2.1 rfl
      rw [hx0.2.2] at this
      omega) 6 (by omega)]
     exact Ju (fun v => (⟨1, (i : Int), ((v : Nat) : Int)⟩ : Af)) (TC p m) x.toNat
    ·rw [← ih']
     congr 1
     funext j
     rw [show i + (j + 1) = i + 1 + j from by omega]
  have := e p.fVersions 0 (fun j x hx => by
   have h1 := hp.ver x (List.mem_of_getElem? hx)
   refine ⟨h1.1, h1.2, ?_⟩
   rw [Nat.zero_add, List.getD_eq_getElem?_getD, hx]; rfl)
  simp only [Nat.zero_add] at this
  exact this
 have e23 : ∀ (k : Int) (n : Nat), k ≠ 1 → n ≤ Qq p → (∀ i v, TC p m ⟨k, ((i : Nat) : Int), ((v : Nat) : Int)⟩ = true → i < n) → kS p m k = (((List.range n).map fun i => (⟨k, ((i : Nat) : Int), 0⟩ : Af)).filter fun s => (A1 p m s).2 == 0) := by
  intro k n hk hn hi
  unfold kS
  rw [Jo (bS p m k) n (fun i hi' => by
   unfold bS
   rw [List.flatMap_eq_nil_iff]
   intro v _
   unfold gS
   rw [if_neg]
   intro h
   have := hi i v h
   omega) (Qq p) hn]
  show _ = List.filter (TC p m) _
  rw [← Ju (fun i => (⟨k, ((i : Nat) : Int), 0⟩ : Af)) (TC p m) n]
  congr 1
  funext i
  unfold bS
  rw [Jo (gS p m k i) 1 (fun v hv => by
   unfold gS
   rw [if_neg]
   intro h
   have := (Lh h).2.2.2 hk
   omega) 6 (by omega)]
  simp [gS]
 rw [e1, e23 2 p.fVersions.length (by decide) (by unfold Qq; omega) (fun i v h => (Lh h).2.1 (by decide)), e23 3 p.fTables.length (by decide) (by unfold Qq; omega) (fun i v h => (Lh h).1 rfl)]
theorem P4 (a b : Nat) : R1 (a : Int) (b : Int) = ((max a b : Nat) : Int) := by
 unfold R1
 omega
theorem O1 (N : Nat) (hN : N ≤ 1000000) (h20 : 100 ≤ N) {p : Ae} {m : Ah} (hv : BP p = 0) (hm : BN p m) : D5 N p m = some (EU p m) := by
 obtain ⟨hp, _⟩ := CQ hv
 have hnv := hp.nv
 have hnt := hp.nt
 have hmx : Qq p ≤ 12 := by unfold Qq; omega
 unfold D5
 have hmix := Fr hv hm
 -- one number
 have inn : ∀ (k : Int) (c0 a : List Af) (i : Nat) (d0 : List Af) (j : List Af → Option (List Af)), a.length ≤ 1000 →
   B4 N p m (c0, k) (d0, (i : Int)) j N (a, 0) = j (a ++ bS p m k i) := by
  intro k c0 a i d0 j ha
  have := FF (B4 N p m (c0, k) (d0, (i : Int)) j) (fun a i => (a, i)) (List.range 6) j (fun v _ => gS p m k i v) 1 2000
   (fun v x _ => Sg _ _ _ _ _)
   (fun n v x a hx hl => by
    have hi := (List.getElem?_eq_some_iff.1 hx).1
    simp only [List.length_range] at hi
    rw [B4, AL (by simp only; omega)]
    simp only [Bd]
    rw [OH N hN h20 (H0 hm), if_pos hmix]
    simp only [Option.bind_some, AM (show v < 1000000 by omega)]
    unfold gS TC
    cases hq : (A1 p m ⟨k, (i : Int), (v : Int)⟩).2 == 0
    ·rw [Au, if_neg (by simp), List.append_nil]
    ·rw [AN, if_pos rfl, Az (by simp [Dv]; unfold gS TC at hl; rw [hq] at hl; simp at hl; omega)])
   (fun n a => by rw [B4, AH (by simp)]) N a (by simp; omega) (by simp; omega)
  rw [GW] at this
  exact this
 have mid : ∀ (k : Int) (c0 a : List Af) (j : List Af → Option (List Af)), a.length ≤ 500 →
   B5 N p m (c0, k) j N (a, 0) = j (a ++ kS p m k) := by
  intro k c0 a j ha
  have := FF (B5 N p m (c0, k) j) (fun a i => (a, i)) (List.range (Qq p)) j (fun i _ => bS p m k i) 6 900
   (fun v x _ => Tw _ _ _ _)
   (fun n i x a hx hl => by
    have hi := (List.getElem?_eq_some_iff.1 hx).1
    simp only [List.length_range] at hi
    rw [B5, AL (by simp only; rw [P4]; unfold Qq at hi; omega)]
    rw [inn k c0 a i a _ (by omega)]
    simp only [AM (show i < 1000000 by omega)])
   (fun n a => by rw [B5, AH (by simp [P4, Qq])]) N a (by simp; omega) (by simp; omega)
  rw [GW] at this
  exact this
 have hk := Vu hp m
 have go : ∀ (k : Int) (n : Nat) (a : List Af), k ≤ 3 → 1 ≤ k → a.length ≤ 300 → Bp N p m (fun v2 => some v2) (n + 1) (a, k) = Bp N p m (fun v2 => some v2) n (a ++ kS p m k, k + 1) := by
  intro k n a h1 h2 ha
  rw [Bp, AL h1]
  rw [mid k a a _ (by omega), CI (by omega) (by omega)]
 obtain ⟨N', hN'⟩ : ∃ q, N = q + 4 := ⟨N - 4, by omega⟩
 have e0 : Bp N p m (fun v2 => some v2) N ([], 1) = Bp N p m (fun v2 => some v2) (N' + 4) ([], 1) := by rw [hN']
 rw [e0, go 1 (N' + 3) [] (by decide) (by decide) (by simp), List.nil_append]
 rw [show (1 : Int) + 1 = 2 from rfl, go 2 (N' + 2) _ (by decide) (by decide) (by have := hk 1; omega)]
 rw [show (2 : Int) + 1 = 3 from rfl, go 3 (N' + 1) _ (by decide) (by decide) (by have h1 := hk 1; have h2 := hk 2; rw [List.length_append]; omega)]
 rw [Bp, AH (by simp), SF hp]
end Go.Lift

/- Breadth-first search in plain Lean: the ways that it finds are the least ones, by length and then by the ranks of their steps. No condition. -/
namespace Go.Lift
namespace Bfs
section
variable {α σ : Type}
def code (rk : σ → Nat) (K : Nat) (w : List σ) : Nat := w.foldl (fun c s => c * K + rk s) 0
theorem Hw (rk : σ → Nat) (K : Nat) (w : List σ) (s : σ) : code rk K (w ++ [s]) = code rk K w * K + rk s := by
 simp [code]
theorem Pr (rk : σ → Nat) (K : Nat) : code rk K ([] : List σ) = 0 := rfl
def Dig (rk : σ → Nat) (K : Nat) (w : List σ) : Prop := ∀ s, s ∈ w → 1 ≤ rk s ∧ rk s ≤ K
theorem Dig.snoc {rk : σ → Nat} {K : Nat} {w : List σ} {s : σ} (h : Dig rk K w) (hs : 1 ≤ rk s ∧ rk s ≤ K) : Dig rk K (w ++ [s]) := by
 intro x hx; rcases List.mem_append.1 hx with h1 | h1
 ·exact h x h1
 ·rw [List.mem_singleton.1 h1]; exact hs
theorem Rn {c d K a b : Nat} (h : c < d) (_ : 1 ≤ b) (ha : a ≤ K) : c * K + a < d * K + b := by
 have : c * K + K ≤ d * K := by rw [← Nat.succ_mul]; exact Nat.mul_le_mul_right K h
 omega
theorem UH {c d K a : Nat} (h : c ≤ d) : c * K + a ≤ d * K + a := Nat.add_le_add_right (Nat.mul_le_mul_right K h) a
theorem list_snoc {β : Type} (l : List β) : l = [] ∨ ∃ u s, l = u ++ [s] := by
 cases h : l.reverse with
 | nil => exact .inl (List.reverse_eq_nil_iff.1 h)
 | cons s r => exact .inr ⟨r.reverse, s, by rw [← List.reverse_cons, ← h, List.reverse_reverse]⟩
abbrev Nd (α σ : Type) := α × Int × σ
def put [DecidableEq α] (i : Nat) (l : List (Nd α σ)) (q : σ × α) : List (Nd α σ) := if (l.any fun n => decide (n.1 = q.2)) = true then l else l ++ [(q.2, (i : Int), q.1)]
def inner [DecidableEq α] (most i : Nat) : List (σ × α) → List (Nd α σ) → Option (List (Nd α σ))
 | [], l => some l
 | q :: qs, l => if most < (put i l q).length then none else inner most i qs (put i l q)
def go [DecidableEq α] (nxt : α → List (σ × α)) (most : Nat) : Nat → Nat → List (Nd α σ) → Option (List (Nd α σ))
 | 0, _, _ => none
 | n + 1, i, l => match l[i]? with
  | none => some l
  | some nd => (inner most i (nxt nd.1) l).bind fun l' => go nxt most n (i + 1) l'
structure Inv (nxt : α → List (σ × α)) (rk : σ → Nat) (K : Nat) (root : α) (i : Nat) (done : List (σ × α)) (l : List (Nd α σ)) (ws : List (List σ)) : Prop where
 len : ws.length = l.length
 root : ∃ s, l[0]? = some (root, -1, s)
 root' : ws[0]? = some []
 par : ∀ (k : Nat) x f s, 0 < k → l[k]? = some (x, f, s) → ∃ (j : Nat) (y : α) (g : Int) (t : σ) (w : List σ), f = (j : Int) ∧ j < k ∧ l[j]? = some (y, g, t) ∧ (s, x) ∈ nxt y ∧ ws[j]? = some w ∧ ws[k]? = some (w ++ [s]) ∧ (j < i ∨ (j = i ∧ (s, x) ∈ done))
 nodup : ∀ (a b : Nat) x f s g t, l[a]? = some (x, f, s) → l[b]? = some (x, g, t) → a = b
 inc : ∀ (a b : Nat) u w, ws[a]? = some u → ws[b]? = some w → a < b → code rk K u < code rk K w
 dig : ∀ (k : Nat) w, ws[k]? = some w → Dig rk K w
 closed : ∀ (j : Nat) x f s w, l[j]? = some (x, f, s) → ws[j]? = some w → ∀ q, (j < i ∧ q ∈ nxt x) ∨ (j = i ∧ q ∈ done) → ∃ (k : Nat) (f' : Int) (s' : σ) (w' : List σ), l[k]? = some (q.2, f', s') ∧ ws[k]? = some w' ∧ code rk K w' ≤ code rk K (w ++ [q.1])
theorem get_app {β : Type} {l : List β} {y x : β} {k : Nat} (h : (l ++ [y])[k]? = some x) : l[k]? = some x ∨ (k = l.length ∧ x = y) := by
 rcases Nat.lt_trichotomy k l.length with h1 | h1 | h1
 ·rw [List.getElem?_append_left h1] at h; exact .inl h
 ·subst h1; simp at h; exact .inr ⟨rfl, h.symm⟩
 ·rw [List.getElem?_eq_none (by simp; omega)] at h; cases h
theorem get_app_of {β : Type} {l : List β} {y x : β} {k : Nat} (h : l[k]? = some x) : (l ++ [y])[k]? = some x := by
 rw [List.getElem?_append_left ((List.getElem?_eq_some_iff.1 h).1)]; exact h
theorem get_app_new {β : Type} {l : List β} {y : β} : (l ++ [y])[l.length]? = some y := by simp
theorem lt_get {β : Type} {l : List β} {k : Nat} {x : β} (h : l[k]? = some x) : k < l.length := (List.getElem?_eq_some_iff.1 h).1
theorem get_ex {β : Type} {l : List β} {k : Nat} (h : k < l.length) : ∃ x, l[k]? = some x := ⟨l[k], List.getElem?_eq_getElem h⟩
theorem TN [DecidableEq α] {nxt : α → List (σ × α)} {rk : σ → Nat} {K : Nat} {root : α} {i : Nat} {done : List (σ × α)} {l : List (Nd α σ)} {ws : List (List σ)} {x : α} {f : Int} {s : σ} {q : σ × α}
  (hI : Inv nxt rk K root i done l ws) (hx : l[i]? = some (x, f, s)) (hq : q ∈ nxt x) (hd : ∀ r, r ∈ done → rk r.1 < rk q.1) (hr : 1 ≤ rk q.1 ∧ rk q.1 ≤ K) :
  ∃ ws', Inv nxt rk K root i (done ++ [q]) (put i l q) ws' ∧ (∀ (k : Nat) w, ws[k]? = some w → ws'[k]? = some w) ∧ (∀ (k : Nat) n, l[k]? = some n → (put i l q)[k]? = some n) := by
 obtain ⟨w0, hw0⟩ := get_ex (l := ws) (k := i) (by rw [hI.len]; exact lt_get hx)
 unfold put
 by_cases hin : (l.any fun n => decide (n.1 = q.2)) = true
 ·rw [if_pos hin]
  refine ⟨ws, ⟨hI.len, hI.root, hI.root', ?_, hI.nodup, hI.inc, hI.dig, ?_⟩, fun _ _ h => h, fun _ _ h => h⟩
  ·intro k y g t hk hy
   obtain ⟨j, y', g', t', w, h1, h2, h3, h4, h5, h6, h7⟩ := hI.par k y g t hk hy
   exact ⟨j, y', g', t', w, h1, h2, h3, h4, h5, h6, h7.imp id fun h => ⟨h.1, List.mem_append_left _ h.2⟩⟩
  ·intro j y g t w hy hw r hr'
   by_cases hold : (j < i ∧ r ∈ nxt y) ∨ (j = i ∧ r ∈ done)
   ·exact hI.closed j y g t w hy hw r hold
   ·have hjr : j = i ∧ r = q := by
     rcases hr' with h | ⟨h1, h2⟩
     ·exact absurd (.inl h) hold
     ·rcases List.mem_append.1 h2 with h3 | h3
      ·exact absurd (.inr ⟨h1, h3⟩) hold
      ·exact ⟨h1, List.mem_singleton.1 h3⟩
    obtain ⟨rfl, rfl⟩ := hjr
    rw [hw0] at hw; cases hw
    obtain ⟨n, hn1, hn2⟩ := List.any_eq_true.1 hin
    obtain ⟨k, hk⟩ := List.mem_iff_getElem?.1 hn1
    obtain ⟨nx, nf, ns⟩ := n
    have hn2 : nx = r.2 := of_decide_eq_true hn2
    subst hn2
    obtain ⟨wk, hwk⟩ := get_ex (l := ws) (k := k) (by rw [hI.len]; exact lt_get hk)
    refine ⟨k, nf, ns, wk, hk, hwk, ?_⟩
    rw [Hw]
    rcases Nat.eq_zero_or_pos k with rfl | hk0
    ·rw [hI.root'] at hwk; cases hwk; rw [Pr]; omega
    ·obtain ⟨j', y', g', t', w, h1, h2, h3, h4, h5, h6, h7⟩ := hI.par k _ _ _ hk0 hk
     rw [h6] at hwk; cases hwk
     rw [Hw]
     have hdg : 1 ≤ rk ns ∧ rk ns ≤ K := hI.dig k _ h6 ns (by simp)
     rcases h7 with h7 | ⟨h7, h8⟩
     ·exact Nat.le_of_lt (Rn (hI.inc _ _ _ _ h5 hw0 h7) hr.1 hdg.2)
     ·subst h7; rw [hw0] at h5; cases h5
      have := hd _ h8
      simp only at this; omega
 ·rw [if_neg hin]
  have hnew : ∀ (k : Nat) y g t, l[k]? = some (y, g, t) → y ≠ q.2 := fun k y g t hy e => hin (List.any_eq_true.2 ⟨_, List.mem_of_getElem? hy, decide_eq_true e⟩)
  have hbig : ∀ (k : Nat) u, ws[k]? = some u → code rk K u < code rk K (w0 ++ [q.1]) := by
   intro k u hu
   rw [Hw]
   obtain ⟨⟨nx, nf, ns⟩, hk⟩ := get_ex (l := l) (k := k) (by rw [← hI.len]; exact lt_get hu)
   rcases Nat.eq_zero_or_pos k with rfl | hk0
   ·rw [hI.root'] at hu; cases hu; rw [Pr]; omega
   ·obtain ⟨j', y', g', t', w, h1, h2, h3, h4, h5, h6, h7⟩ := hI.par k _ _ _ hk0 hk
    rw [h6] at hu; cases hu
    rw [Hw]
    have hdg : 1 ≤ rk ns ∧ rk ns ≤ K := hI.dig k _ h6 ns (by simp)
    rcases h7 with h7 | ⟨h7, h8⟩
    ·exact Rn (hI.inc _ _ _ _ h5 hw0 h7) hr.1 hdg.2
    ·subst h7; rw [hw0] at h5; cases h5
     have := hd _ h8
     simp only at this; omega
  refine ⟨ws ++ [w0 ++ [q.1]], ⟨by simp [hI.len], ?_, get_app_of hI.root', ?_, ?_, ?_, ?_, ?_⟩, fun _ _ h => get_app_of h, fun _ _ h => get_app_of h⟩
  ·obtain ⟨s0, hs0⟩ := hI.root; exact ⟨s0, get_app_of hs0⟩
  ·intro k y g t hk hy
   rcases get_app hy with hy | ⟨hk1, hy⟩
   ·obtain ⟨j, y', g', t', w, h1, h2, h3, h4, h5, h6, h7⟩ := hI.par k y g t hk hy
    exact ⟨j, y', g', t', w, h1, h2, get_app_of h3, h4, get_app_of h5, get_app_of h6, h7.imp id fun h => ⟨h.1, List.mem_append_left _ h.2⟩⟩
   ·cases hy
    refine ⟨i, x, f, s, w0, rfl, by rw [hk1]; exact lt_get hx, get_app_of hx, hq, get_app_of hw0, by rw [hk1, ← hI.len]; exact get_app_new, .inr ⟨rfl, by simp⟩⟩
  ·intro a b y g t g' t' ha hb
   rcases get_app ha with ha | ⟨ha1, ha⟩ <;> rcases get_app hb with hb | ⟨hb1, hb⟩
   ·exact hI.nodup a b y g t g' t' ha hb
   ·cases hb; exact absurd rfl (hnew _ _ _ _ ha)
   ·cases ha; exact absurd rfl (hnew _ _ _ _ hb)
   ·omega
  ·intro a b u w ha hb hab
   rcases get_app ha with ha | ⟨ha1, ha⟩ <;> rcases get_app hb with hb | ⟨hb1, hb⟩
   ·exact hI.inc a b u w ha hb hab
   ·rw [hb]; exact hbig _ _ ha
   ·have := lt_get hb; omega
   ·omega
  ·intro k w hw
   rcases get_app hw with hw | ⟨hw1, hw⟩
   ·exact hI.dig k w hw
   ·rw [hw]; exact (hI.dig _ _ hw0).snoc hr
  ·intro j y g t w hy hw r hr'
   rcases get_app hy with hy1 | ⟨hy1, hy2⟩
   ·have hw1 : ws[j]? = some w := by
     rcases get_app hw with h | ⟨h, _⟩
     ·exact h
     ·have := lt_get hy1; rw [← hI.len] at this; omega
    by_cases hold : (j < i ∧ r ∈ nxt y) ∨ (j = i ∧ r ∈ done)
    ·obtain ⟨k, f', s', w', h1, h2, h3⟩ := hI.closed j y g t w hy1 hw1 r hold
     exact ⟨k, f', s', w', get_app_of h1, get_app_of h2, h3⟩
    ·have hjr : j = i ∧ r = q := by
      rcases hr' with h | ⟨h1, h2⟩
      ·exact absurd (.inl h) hold
      ·rcases List.mem_append.1 h2 with h3 | h3
       ·exact absurd (.inr ⟨h1, h3⟩) hold
       ·exact ⟨h1, List.mem_singleton.1 h3⟩
     obtain ⟨rfl, rfl⟩ := hjr
     rw [hw0] at hw1; cases hw1
     exact ⟨l.length, _, _, _, get_app_new, by rw [← hI.len]; exact get_app_new, Nat.le_refl _⟩
   ·have := lt_get hx
    rcases hr' with h | h <;> omega
theorem NX [DecidableEq α] {nxt : α → List (σ × α)} {rk : σ → Nat} {K : Nat} {root : α} {i most : Nat} {x : α} {f : Int} {s : σ} (hP : (nxt x).Pairwise fun a b => rk a.1 < rk b.1) (hD : ∀ q, q ∈ nxt x → 1 ≤ rk q.1 ∧ rk q.1 ≤ K) :
  ∀ (qs done : List (σ × α)) (l l' : List (Nd α σ)) (ws : List (List σ)), done ++ qs = nxt x → Inv nxt rk K root i done l ws → l[i]? = some (x, f, s) → inner most i qs l = some l' →
   ∃ ws', Inv nxt rk K root i (nxt x) l' ws' ∧ (∀ (k : Nat) w, ws[k]? = some w → ws'[k]? = some w) ∧ (∀ (k : Nat) n, l[k]? = some n → l'[k]? = some n)
 | [], done, l, l', ws, he, hI, hx, h => by
  cases h; rw [List.append_nil] at he; subst he; exact ⟨ws, hI, fun _ _ h => h, fun _ _ h => h⟩
 | q :: qs, done, l, l', ws, he, hI, hx, h => by
  have hqm : q ∈ nxt x := by rw [← he]; simp
  have hlt : ∀ r, r ∈ done → rk r.1 < rk q.1 := fun r hr => by
   rw [← he] at hP
   exact (List.pairwise_append.1 hP).2.2 r hr q (by simp)
  obtain ⟨ws1, h1, h2, h3⟩ := TN hI hx hqm hlt (hD q hqm)
  simp only [inner] at h
  split at h
  ·cases h
  ·obtain ⟨ws2, g1, g2, g3⟩ := NX hP hD qs (done ++ [q]) _ l' ws1 (by rw [List.append_assoc]; exact he) h1 (h3 _ _ hx) h
   exact ⟨ws2, g1, fun k w hw => g2 k w (h2 k w hw), fun k n hn => g3 k n (h3 k n hn)⟩
theorem Tr {nxt : α → List (σ × α)} {rk : σ → Nat} {K : Nat} {root : α} {i : Nat} {x : α} {f : Int} {s : σ} {l : List (Nd α σ)} {ws : List (List σ)} (h : Inv nxt rk K root i (nxt x) l ws) (hx : l[i]? = some (x, f, s)) : Inv nxt rk K root (i + 1) [] l ws := by
 refine ⟨h.len, h.root, h.root', ?_, h.nodup, h.inc, h.dig, ?_⟩
 ·intro k y g t hk hy
  obtain ⟨j, y', g', t', w, h1, h2, h3, h4, h5, h6, h7⟩ := h.par k y g t hk hy
  exact ⟨j, y', g', t', w, h1, h2, h3, h4, h5, h6, .inl (by rcases h7 with h7 | h7 <;> omega)⟩
 ·intro j y g t w hy hw r hr
  rcases hr with ⟨h1, h2⟩ | ⟨_, h2⟩
  ·refine h.closed j y g t w hy hw r ?_
   by_cases hj : j < i
   ·exact .inl ⟨hj, h2⟩
   ·have : j = i := by omega
    subst this; rw [hx] at hy; cases hy; exact .inr ⟨rfl, h2⟩
  ·cases h2
theorem inv_go [DecidableEq α] {nxt : α → List (σ × α)} {rk : σ → Nat} {K : Nat} {root : α} {most : Nat} (P : α → Prop) (hP : ∀ x, P x → (nxt x).Pairwise fun a b => rk a.1 < rk b.1) (hD : ∀ x, P x → ∀ q, q ∈ nxt x → (1 ≤ rk q.1 ∧ rk q.1 ≤ K) ∧ P q.2) (hroot : P root) :
  ∀ (n i : Nat) (l l' : List (Nd α σ)) (ws : List (List σ)), i ≤ l.length → Inv nxt rk K root i [] l ws → (∀ (k : Nat) x f s, l[k]? = some (x, f, s) → P x) → go nxt most n i l = some l' → ∃ ws', Inv nxt rk K root l'.length [] l' ws' ∧ (∀ (k : Nat) x f s, l'[k]? = some (x, f, s) → P x)
 | 0, i, l, l', ws, _, _, _, h => by cases h
 | n + 1, i, l, l', ws, hi, hI, hA, h => by
  simp only [go] at h
  split at h
  ·rename_i hn
   cases h
   have : i = l.length := by
    have := List.getElem?_eq_none_iff.1 hn; omega
   subst this
   exact ⟨ws, hI, hA⟩
  ·rename_i nd hn
   obtain ⟨x, f, s⟩ := nd
   cases hin : inner most i (nxt x) l with
   | none => rw [hin] at h; cases h
   | some l1 =>
    rw [hin] at h
    have hx := hA _ _ _ _ hn
    obtain ⟨ws1, h1, h2, h3⟩ := NX (hP x hx) (fun q hq => (hD x hx q hq).1) (nxt x) [] l l1 ws rfl hI hn hin
    have hA1 : ∀ (k : Nat) y g t, l1[k]? = some (y, g, t) → P y := fun k y g t hy => by
     rcases Nat.eq_zero_or_pos k with rfl | hk
     ·obtain ⟨s0, hs0⟩ := h1.root; rw [hs0] at hy; cases hy; exact hroot
     ·obtain ⟨j, y', g', t', w, e1, e2, e3, e4, e5, e6, e7⟩ := h1.par k y g t hk hy
      have hj : P y' := by
       have hjl : j < l.length := by rcases e7 with h | h <;> have := lt_get hn <;> omega
       obtain ⟨⟨z, zf, zs⟩, hz⟩ := get_ex hjl
       have := h3 _ _ hz
       rw [e3] at this; cases this
       exact hA _ _ _ _ hz
      exact (hD y' hj _ e4).2
    exact inv_go P hP hD hroot n (i + 1) l1 l' ws1 (by have := lt_get (h3 _ _ hn); omega) (Tr h1 (h3 _ _ hn)) hA1 h
theorem inv_start {nxt : α → List (σ × α)} {rk : σ → Nat} {K : Nat} {root : α} {s : σ} : Inv nxt rk K root 0 [] [(root, -1, s)] [[]] := by
 refine ⟨rfl, ⟨s, rfl⟩, rfl, ?_, ?_, ?_, ?_, ?_⟩
 ·intro k x f s hk h; rw [List.getElem?_eq_none (by simp; omega)] at h; cases h
 ·intro a b x f s g t ha hb; have := lt_get ha; have := lt_get hb; simp at *; omega
 ·intro a b u w ha hb hab; have := lt_get hb; simp at this; omega
 ·intro k w hw
  have := lt_get hw; simp at this; subst this; simp at hw; subst hw
  intro s hs; cases hs
 ·intro j x f s w _ _ q h
  rcases h with h | h
  ·omega
  ·cases h.2
def run (nxt : α → List (σ × α)) (x : α) : List σ → α → Prop
 | [], y => y = x
 | s :: w, y => ∃ z, (s, z) ∈ nxt x ∧ run nxt z w y
theorem E9 {nxt : α → List (σ × α)} : ∀ {u w : List σ} {x y : α}, run nxt x (u ++ w) y ↔ ∃ z, run nxt x u z ∧ run nxt z w y
 | [], w, x, y => by simp [run]
 | s :: u, w, x, y => by
  simp only [List.cons_append, run]
  constructor
  ·rintro ⟨z, h1, h2⟩
   obtain ⟨z', h3, h4⟩ := E9.1 h2
   exact ⟨z', ⟨z, h1, h3⟩, h4⟩
  ·rintro ⟨z', ⟨z, h1, h3⟩, h4⟩
   exact ⟨z, h1, E9.2 ⟨z', h3, h4⟩⟩
theorem way_run {nxt : α → List (σ × α)} {rk : σ → Nat} {K : Nat} {root : α} {i : Nat} {l : List (Nd α σ)} {ws : List (List σ)} (h : Inv nxt rk K root i [] l ws) : ∀ (n k : Nat) {x : α} {f : Int} {s : σ} {w : List σ}, k < n → l[k]? = some (x, f, s) → ws[k]? = some w → run nxt root w x
 | 0, k, _, _, _, _, hk, _, _ => by omega
 | n + 1, k, x, f, s, w, hk, hx, hw => by
  rcases Nat.eq_zero_or_pos k with rfl | hk0
  ·obtain ⟨s0, hs0⟩ := h.root; rw [hs0] at hx; cases hx
   rw [h.root'] at hw; cases hw; rfl
  ·obtain ⟨j, y', g', t', w', e1, e2, e3, e4, e5, e6, e7⟩ := h.par k _ _ _ hk0 hx
   rw [e6] at hw; cases hw
   exact E9.2 ⟨y', way_run h n j (by omega) e3 e5, x, e4, rfl⟩
theorem reach_node {nxt : α → List (σ × α)} {rk : σ → Nat} {K : Nat} {root : α} {l : List (Nd α σ)} {ws : List (List σ)} (h : Inv nxt rk K root l.length [] l ws) : ∀ (n : Nat) {w : List σ} {y : α}, w.length = n → run nxt root w y → ∃ (k : Nat) (f : Int) (s : σ) (u : List σ), l[k]? = some (y, f, s) ∧ ws[k]? = some u ∧ code rk K u ≤ code rk K w
 | 0, w, y, hn, hr => by
  rw [List.length_eq_zero_iff.1 hn] at hr ⊢
  simp only [run] at hr; subst hr
  obtain ⟨s, hs⟩ := h.root
  exact ⟨0, _, _, _, hs, h.root', Nat.le_refl _⟩
 | n + 1, w, y, hn, hr => by
  rcases list_snoc w with rfl | ⟨w', s, rfl⟩
  ·simp at hn
  obtain ⟨z, h1, h2⟩ := E9.1 hr
  simp only [run] at h2
  obtain ⟨z', h2, rfl⟩ := h2
  simp only [List.length_append, List.length_singleton] at hn
  obtain ⟨k, f, t, u, g1, g2, g3⟩ := reach_node h n (by omega) h1
  obtain ⟨k', f', s', u', e1, e2, e3⟩ := h.closed k z f t u g1 g2 (s, y) (.inl ⟨lt_get g1, h2⟩)
  refine ⟨k', f', s', u', e1, e2, Nat.le_trans e3 ?_⟩
  rw [Hw, Hw]
  exact UH g3
theorem Ml [DecidableEq α] {most more i : Nat} (hm : most ≤ more) : ∀ (qs : List (σ × α)) (l l' : List (Nd α σ)), inner most i qs l = some l' → inner more i qs l = some l'
 | [], l, l', h => h
 | q :: qs, l, l', h => by
  simp only [inner] at h ⊢
  split at h
  ·cases h
  ·rw [if_neg (by omega)]; exact Ml hm qs _ _ h
theorem go_more [DecidableEq α] {nxt : α → List (σ × α)} {most more : Nat} (hm : most ≤ more) : ∀ (n m i : Nat) (l l' : List (Nd α σ)), n ≤ m → go nxt most n i l = some l' → go nxt more m i l = some l'
 | 0, m, i, l, l', _, h => by cases h
 | n + 1, m, i, l, l', hnm, h => by
  obtain ⟨m, rfl⟩ : ∃ k, m = k + 1 := ⟨m - 1, by omega⟩
  simp only [go] at h ⊢
  cases hl : l[i]? with
  | none => rw [hl] at h; exact h
  | some nd =>
   rw [hl] at h
   simp only at h ⊢
   cases hin : inner most i (nxt nd.1) l with
   | none => rw [hin] at h; cases h
   | some l1 =>
    rw [hin] at h
    rw [Ml hm _ _ _ hin]
    exact go_more hm n m (i + 1) l1 l' (by omega) h
theorem inner_len [DecidableEq α] {most i : Nat} : ∀ (qs : List (σ × α)) (l l' : List (Nd α σ)), l.length ≤ most → inner most i qs l = some l' → l'.length ≤ most
 | [], l, l', h0, h => by cases h; exact h0
 | q :: qs, l, l', h0, h => by
  simp only [inner] at h
  split at h
  ·cases h
  ·exact inner_len qs _ _ (by omega) h
theorem go_len [DecidableEq α] {nxt : α → List (σ × α)} {most : Nat} : ∀ (n i : Nat) (l l' : List (Nd α σ)), l.length ≤ most → go nxt most n i l = some l' → l'.length ≤ most
 | 0, i, l, l', _, h => by cases h
 | n + 1, i, l, l', h0, h => by
  simp only [go] at h
  split at h
  ·cases h; exact h0
  ·rename_i nd hn
   cases hin : inner most i (nxt nd.1) l with
   | none => rw [hin] at h; cases h
   | some l1 => rw [hin] at h; exact go_len n (i + 1) l1 l' (inner_len _ _ _ h0 hin) h
end
end Bfs
end Go.Lift

/- The region of a mix: the reference's list of nodes is the breadth-first search. -/
namespace Go.Lift
open Go
theorem Ps : ∀ {l : List Int}, VH l = 0 → ∀ x, x ∈ l → x = 0
 | [], _, x, hx => by cases hx
 | y :: ys, h, x, hx => by
  unfold VH at h
  split at h
  ·rename_i hy
   rcases List.mem_cons.1 hx with rfl | hx
   ·exact hy
   ·exact Ps h x hx
  ·rename_i hy; exact absurd h hy
theorem N9 {a b : Ah} (h : Qw a b = 0) : a = b := by
 have := Ps h
 have h1 := Mb _ _ (this (Hm a.fBase b.fBase) (by simp))
 have h2 := Mb _ _ (this (Hm a.fNext b.fNext) (by simp))
 have h3 := Mb _ _ (this (Hm a.fHeld b.fHeld) (by simp))
 cases a; cases b; simp only at h1 h2 h3; subst h1; subst h2; subst h3; rfl
instance X6 : DecidableEq Ah := fun a b => if h : Qw a b = 0 then isTrue (N9 h) else isFalse (fun e => h (by rw [e]; exact N5 b))
theorem Ts (a b : Ah) : (Qw a b == 0) = decide (a = b) := by
 by_cases h : a = b
 ·rw [decide_eq_true h, h, N5]; rfl
 ·rw [decide_eq_false h]
  exact beq_eq_false_iff_ne.2 fun e => h (N9 e)
def N8 (p : Ae) (m : Ah) (ss : List Af) : List (Af × Ah) := ss.filterMap fun s => if Bt p (A1 p m s).1 = true then some (s, (A1 p m s).1) else none
def HV (p : Ae) (m : Ah) : List (Af × Ah) := N8 p m (EU p m)
def Kx (s : Af) : Nat := if s.fKind = 1 then 1 + 8 * s.fIndex.toNat + s.fVersion.toNat else if s.fKind = 2 then 60 + s.fIndex.toNat else 70 + s.fIndex.toNat
theorem G6 {p : Ae} {m : Ah} {s : Af} (h : s ∈ EU p m) : s ∈ D4 p ∧ (A1 p m s).2 = 0 := by
 unfold EU at h
 have := List.mem_filter.1 h
 exact ⟨this.1, by simpa using this.2⟩
theorem Rw {p : Ae} {m : Ah} {ss : List Af} {q : Af × Ah} : q ∈ N8 p m ss ↔ q.1 ∈ ss ∧ q.2 = (A1 p m q.1).1 ∧ Bt p q.2 = true := by
 unfold N8
 rw [List.mem_filterMap]
 constructor
 ·rintro ⟨s, h1, h2⟩
  split at h2
  ·rename_i h3; cases h2; exact ⟨h1, rfl, h3⟩
  ·cases h2
 ·rintro ⟨h1, h2, h3⟩
  refine ⟨q.1, h1, ?_⟩
  rw [← h2, if_pos h3]
theorem KM {p : Ae} {m : Ah} {q : Af × Ah} : q ∈ HV p m ↔ q.1 ∈ EU p m ∧ q.2 = (A1 p m q.1).1 ∧ Bt p q.2 = true := Rw
theorem QI {p : Ae} {m : Ah} (hp : Bi p) (hm : BN p m) {q : Af × Ah} (h : q ∈ HV p m) : BN p q.2 ∧ Bt p q.2 = true := by
 obtain ⟨h1, h2, h3⟩ := KM.1 h
 exact ⟨by rw [h2]; exact Iw hp hm (G6 h1).2, h3⟩
theorem MC {p : Ae} (hp : Bi p) {s : Af} (h : s ∈ D4 p) : s.fKind ≤ 3 ∧ 1 ≤ Kx s ∧ Kx s ≤ 100 := by
 obtain ⟨h1, h2⟩ := Ly hp h
 obtain ⟨a1, a2, a3, a4, a5⟩ := GK h1
 obtain ⟨b1, b2, b3⟩ := Hu h2
 have hnv := hp.nv
 have hnt := hp.nt
 have hk : s.fKind ≤ 3 := by
  unfold D4 at h
  rcases List.mem_append.1 h with h | h
  ·rcases List.mem_append.1 h with h | h
   ·obtain ⟨j, x, hx, hk⟩ := Gd.1 h
    unfold HU at hk
    obtain ⟨v, hv, rfl⟩ := List.mem_map.1 hk
    exact (by decide : (1 : Int) ≤ 3)
   ·obtain ⟨v, hv, rfl⟩ := List.mem_map.1 h
    exact (by decide : (2 : Int) ≤ 3)
  ·obtain ⟨v, hv, rfl⟩ := List.mem_map.1 h
   exact (by decide : (3 : Int) ≤ 3)
 refine ⟨hk, ?_⟩
 unfold Kx
 by_cases h1 : s.fKind = 1
 ·rw [if_pos h1]
  have := b2 (by omega)
  have h3 := b3 h1
  have h4 := (Ha hp (i := s.fIndex.toNat) (by omega)).2
  omega
 ·rw [if_neg h1]
  by_cases h2 : s.fKind = 2
  ·rw [if_pos h2]
   have := b2 (by omega)
   omega
  ·rw [if_neg h2]
   have := b1 (by omega)
   omega
theorem T2 (i : Nat) (n : Int) : (HU i n).Pairwise fun a b => Kx a < Kx b := by
 unfold HU
 rw [List.pairwise_map]
 refine List.Pairwise.imp ?_ List.pairwise_lt_range
 intro a b h
 simp [Kx]; omega
theorem TE {p : Ae} (hp : Bi p) : (D4 p).Pairwise fun a b => Kx a < Kx b := by
 have hnv := hp.nv
 have hnt := hp.nt
 have e1 : ∀ (xs : List Int) (i : Nat), (∀ x, x ∈ xs → x ≤ 6) → (CG HU i xs).Pairwise fun a b => Kx a < Kx b := by
  intro xs
  induction xs with
  | nil => intro i _; exact List.Pairwise.nil
  | cons x xs ih =>
   intro i hx
   rw [CG, List.pairwise_append]
   refine ⟨T2 i x, ih (i + 1) fun y hy => hx y (List.mem_cons_of_mem _ hy), ?_⟩
   intro a ha b hb
   unfold HU at ha
   obtain ⟨v, hv, rfl⟩ := List.mem_map.1 ha
   obtain ⟨j, y, hy, hb⟩ := Gd.1 hb
   unfold HU at hb
   obtain ⟨w, hw, rfl⟩ := List.mem_map.1 hb
   have := hx x (by simp)
   have := List.mem_range.1 hv
   simp [Kx]; omega
 unfold D4
 rw [List.pairwise_append, List.pairwise_append]
 refine ⟨⟨e1 _ 0 fun x hx => (hp.ver x hx).2, ?_, ?_⟩, ?_, ?_⟩
 ·rw [List.pairwise_map]
  refine List.Pairwise.imp ?_ List.pairwise_lt_range
  intro a b h
  simp [Kx]; omega
 ·intro a ha b hb
  obtain ⟨w, hw, rfl⟩ := List.mem_map.1 hb
  obtain ⟨j, y, hy, ha⟩ := Gd.1 ha
  unfold HU at ha
  obtain ⟨v, hv, rfl⟩ := List.mem_map.1 ha
  have := List.mem_range.1 hv
  have := (hp.ver y (List.mem_of_getElem? hy)).2
  have := (List.getElem?_eq_some_iff.1 hy).1
  simp [Kx]; omega
 ·rw [List.pairwise_map]
  refine List.Pairwise.imp ?_ List.pairwise_lt_range
  intro a b h
  simp [Kx]; omega
 ·intro a ha b hb
  obtain ⟨w, hw, rfl⟩ := List.mem_map.1 hb
  have hw := List.mem_range.1 hw
  rcases List.mem_append.1 ha with ha | ha
  ·obtain ⟨j, y, hy, ha⟩ := Gd.1 ha
   unfold HU at ha
   obtain ⟨v, hv, rfl⟩ := List.mem_map.1 ha
   have := List.mem_range.1 hv
   have := (hp.ver y (List.mem_of_getElem? hy)).2
   have := (List.getElem?_eq_some_iff.1 hy).1
   simp [Kx]; omega
  ·obtain ⟨v, hv, rfl⟩ := List.mem_map.1 ha
   have := List.mem_range.1 hv
   simp [Kx]; omega
theorem VF {p : Ae} {m : Ah} {ss : List Af} (h : ss.Pairwise fun a b => Kx a < Kx b) : (N8 p m ss).Pairwise fun a b => Kx a.1 < Kx b.1 := by
 unfold N8
 rw [List.pairwise_filterMap]
 refine List.Pairwise.imp ?_ h
 intro a b hab x hx y hy
 split at hx
 ·cases hx
  split at hy
  ·cases hy; exact hab
  ·cases hy
 ·cases hx
theorem VQ {p : Ae} (hp : Bi p) (m : Ah) : (HV p m).Pairwise fun a b => Kx a.1 < Kx b.1 := VF ((TE hp).filter _)
theorem TZ {p : Ae} {s : Af} (hv : Fu s = true) (hx : EV p s = true) (hk : s.fKind ≠ 4) : s ∈ D4 p := by
 obtain ⟨a1, a2, a3, a4, a5⟩ := GK hv
 obtain ⟨b1, b2, b3⟩ := Hu hx
 obtain ⟨k, i, v⟩ := s
 simp only at *
 unfold D4
 obtain ⟨i, rfl⟩ := Int.eq_ofNat_of_zero_le a3
 by_cases h1 : k = 1
 ·subst h1
  have h2 := b2 (by decide)
  have h3 := b3 rfl
  obtain ⟨v, rfl⟩ := Int.eq_ofNat_of_zero_le a4
  refine List.mem_append_left _ (List.mem_append_left _ (Gd.2 ⟨i, p.fVersions.getD i 0, ?_, ?_⟩))
  ·rw [List.getD_eq_getElem?_getD]
   have hi : i < p.fVersions.length := by omega
   simp [hi]
  ·unfold HU
   refine List.mem_map.2 ⟨v, List.mem_range.2 ?_, by simp⟩
   simp only [Int.toNat_natCast] at h3
   omega
 ·have hv0 := a5 h1
  subst hv0
  by_cases h2 : k = 2
  ·subst h2
   have := b2 (by decide)
   exact List.mem_append_left _ (List.mem_append_right _ (List.mem_map.2 ⟨i, List.mem_range.2 (by omega), rfl⟩))
  ·have h3 : k = 3 := by omega
   subst h3
   have := b1 rfl
   exact List.mem_append_right _ (List.mem_map.2 ⟨i, List.mem_range.2 (by omega), rfl⟩)
theorem NL {p : Ae} {m x : Ah} {s : Af} : J8 p m s = some x → (s, x) ∈ HV p m := by
 intro h
 obtain ⟨h1, h2, h3, h4, h5⟩ := RS.1 h
 unfold J8 at h
 split at h
 ·rename_i h6
  cases h
  refine KM.2 ⟨?_, rfl, h6.2.2⟩
  unfold EU
  exact List.mem_filter.2 ⟨TZ h1 h2 h4, by simpa using h6.1⟩
 ·cases h
theorem RI {p : Ae} (hp : Bi p) {m x : Ah} {s : Af} (h : (s, x) ∈ HV p m) : J8 p m s = some x := by
 obtain ⟨h1, h2, h3⟩ := KM.1 h
 have h1 : s ∈ EU p m := h1
 obtain ⟨h4, h5⟩ := G6 h1
 have := (MC hp h4).1
 have h2 : x = (A1 p m s).1 := h2
 have h3 : Bt p x = true := h3
 unfold J8
 rw [if_pos ⟨h5, by omega, by rw [← h2]; exact h3⟩, h2]
theorem KN {p : Ae} (hp : Bi p) : ∀ {w : List Af} {m x : Ah}, LA p m w = some x ↔ Bfs.run (HV p) m w x
 | [], m, x => by simp only [LA, Bfs.run, Option.some.injEq]; exact eq_comm
 | s :: w, m, x => by
  simp only [LA, Bfs.run]
  constructor
  ·intro h
   cases hs : J8 p m s with
   | none => rw [hs] at h; cases h
   | some z => rw [hs] at h; exact ⟨z, NL hs, (KN hp).1 h⟩
  ·rintro ⟨z, h1, h2⟩
   rw [RI hp h1]
   exact (KN hp).2 h2
abbrev H6 := Bfs.Nd Ah Af
def Hn (n : H6) : AB := ⟨n.1, n.2.1, n.2.2⟩
def LP : Af := ⟨0, 0, 0⟩
theorem Sl {N : Nat} {p : Ae} {a b : Ah} (hN : N ≤ 1000000) (h20 : 100 ≤ N) (hp : Bi p) (ha : BN p a) (hb : BN p b) : D1 N a b = some (decide (a = b)) := by
 have hnv := hp.nv
 have hnt := hp.nt
 unfold D1
 rw [Pa hN (by rw [ha.base]; omega) (by rw [ha.next]; omega) (by rw [ha.held]; omega) (by rw [hb.held]; omega) (H0 ha) (H0 hb)]
 simp only [Option.bind_some]
 rw [Ts]
theorem PN {N : Nat} (hN : N ≤ 1000000) (h20 : 100 ≤ N) {p : Ae} (hp : Bi p) {x : Ah} (hx : BN p x) {l : List H6} (hl : l.length < N) (hA : ∀ n, n ∈ l → BN p n.1) :
  ∃ r, DC N (l.map Hn) x = some r ∧ decide (r < 0) = !(l.any fun n => decide (n.1 = x)) := by
 unfold DC
 have := Cm (Cc N (l.map Hn) x fun _ => some (-1)) l (some (-1)) (fun i n => if n.1 = x then some (i : Int) else none)
  (fun n i nd hnd => by
   have hi := (List.getElem?_eq_some_iff.1 hnd).1
   rw [Cc, AL (by rw [List.length_map]; omega), A2, List.getElem?_map, hnd]
   simp only [Option.map_some, Option.bind_some, Hn]
   have e := Sl hN h20 hp (hA nd (List.mem_of_getElem? hnd)) hx
   rw [show (Ah.mk nd.1.fBase nd.1.fNext nd.1.fHeld) = nd.1 from rfl, e, AM (by omega)]
   simp only [Option.bind_some]
   by_cases h : nd.1 = x
   ·rw [decide_eq_true h, if_pos h]; rfl
   ·rw [decide_eq_false h, if_neg h]; rfl)
  (fun n => by rw [Cc, AH (by simp)]) N 0 (Nat.zero_le _) (by omega)
 have e' : Cc N (l.map Hn) x (fun _ => some (-1)) N 0 = _ := this
 rw [e', List.drop_zero]
 cases hs : Dd (fun i (n : H6) => if n.1 = x then some (i : Int) else none) 0 l with
 | none =>
  refine ⟨_, rfl, ?_⟩
  have : (l.any fun n => decide (n.1 = x)) = false := by
   rw [List.any_eq_false]
   intro n hn
   obtain ⟨j, hj⟩ := List.mem_iff_getElem?.1 hn
   have := Eo hs j n hj
   split at this
   ·cases this
   ·rename_i h; simpa using h
  rw [this]; rfl
 | some r =>
  refine ⟨_, rfl, ?_⟩
  obtain ⟨j, n, hj, hr⟩ := DW hs
  split at hr
  ·rename_i h
   cases hr
   have : (l.any fun n => decide (n.1 = x)) = true := List.any_eq_true.2 ⟨n, List.mem_of_getElem? hj, decide_eq_true h⟩
   rw [this]
   exact decide_eq_false (by omega)
  ·cases hr
theorem P7 {i : Nat} {l : List H6} {q : Af × Ah} {k : Nat} {n : H6} (h : l[k]? = some n) : (Bfs.put i l q)[k]? = some n := by
 unfold Bfs.put
 split
 ·exact h
 ·exact Bfs.get_app_of h
theorem Ro {i : Nat} {l : List H6} {q : Af × Ah} {n : H6} (h : n ∈ Bfs.put i l q) : n ∈ l ∨ n.1 = q.2 := by
 unfold Bfs.put at h
 split at h
 ·exact .inl h
 ·rcases List.mem_append.1 h with h | h
  ·exact .inl h
  ·rw [List.mem_singleton.1 h]; exact .inr rfl
theorem Qj {p : Ae} {m : Ah} {s : Af} {ss : List Af} : N8 p m (s :: ss) = if Bt p (A1 p m s).1 = true then (s, (A1 p m s).1) :: N8 p m ss else N8 p m ss := by
 unfold N8
 rw [List.filterMap_cons]
 split <;> rename_i h
 ·split at h
  ·cases h
  ·rename_i h2; rw [if_neg h2]
 ·split at h
  ·rename_i h2; cases h; rw [if_pos h2]
  ·cases h
theorem II {p : Ae} {most i : Nat} : ∀ {qs : List (Af × Ah)} {l l' : List H6}, Bfs.inner most i qs l = some l' → (∀ q, q ∈ qs → BN p q.2 ∧ Bt p q.2 = true) → (∀ n, n ∈ l → BN p n.1 ∧ Bt p n.1 = true) → (∀ n, n ∈ l' → BN p n.1 ∧ Bt p n.1 = true) ∧ (∀ (k : Nat) n, l[k]? = some n → l'[k]? = some n)
 | [], l, l', h, _, hA => by cases h; exact ⟨hA, fun _ _ h => h⟩
 | q :: qs, l, l', h, hq, hA => by
  simp only [Bfs.inner] at h
  split at h
  ·cases h
  ·obtain ⟨h1, h2⟩ := II h (fun q hq' => hq q (List.mem_cons_of_mem _ hq')) (fun n hn => by
    rcases Ro hn with h | h
    ·exact hA n h
    ·rw [h]; exact hq q (by simp))
   exact ⟨h1, fun k n hn => h2 k n (P7 hn)⟩
theorem OD (N : Nat) (hN : N ≤ 1000000) (h20 : 100 ≤ N) {p : Ae} {m : Ah} (hp : Bi p) (hm : BN p m) {s : Af} (hs : s ∈ EU p m) : ∃ b, Cw N p m s = some ((A1 p m s).1, b) := by
 obtain ⟨h1, h2⟩ := G6 hs
 obtain ⟨h3, h4⟩ := Ly hp h1
 rw [KX N hN h20 hp hm h3 h4]
 unfold A1 at h2 ⊢
 rw [h3, h4, if_neg (by simp), if_neg (by simp)] at h2 ⊢
 cases h : EZ p m s with
 | none => rw [h] at h2; cases h2
 | some x => exact ⟨true, rfl⟩
theorem ID {N : Nat} (hN : N ≤ 1000000) (h20 : 100 ≤ N) {p : Ae} (hp : Bi p) {m : Ah} (hm : BN p m) {f : Int} {t : Af} {most i : Nat} (hmo : most ≤ 20000) {v1 : List AB × Int} (hv1 : v1.2 = (i : Int)) (ss : List Af) (hss : ∀ s, s ∈ ss → s ∈ EU p m) (hsl : ss.length ≤ 1000) (j : List AB → Option (List AB × Bool)) :
  ∀ (n k : Nat) (l : List H6), k ≤ ss.length → ss.length - k < n → l[i]? = some (m, f, t) → (∀ n, n ∈ l → BN p n.1 ∧ Bt p n.1 = true) → l.length ≤ most → (l.length < N ∧ most < N ∨ ∃ l', Bfs.inner most i (N8 p m (ss.drop k)) l = some l' ∧ l'.length < N) →
   BK N p (most : Int) v1 ss j n (l.map Hn, (k : Int)) = match Bfs.inner most i (N8 p m (ss.drop k)) l with
    | none => some ([], false)
    | some l' => j (l'.map Hn)
 | 0, k, l, _, h, _, _, _, _ => by omega
 | n + 1, k, l, hk, h, hi, hA, hlm, hfu => by
  by_cases h1 : k < ss.length
  ·have hs : ss[k]? = some ss[k] := by simp [h1]
   have hsm := hss _ (List.mem_of_getElem? hs)
   have hl1 : l.length < N := by
    rcases hfu with h | ⟨l', h, h2⟩
    ·exact h.1
    ·have hk := (II (p := p) h (fun q hq => by
      obtain ⟨g1, g2, g3⟩ := Rw.1 hq
      exact ⟨by rw [g2]; exact Iw hp hm (G6 (hss _ (List.mem_of_mem_drop g1))).2, g3⟩) hA).2
     by_cases h0 : l.length = 0
     ·omega
     ·have := hk (l.length - 1) l[l.length - 1] (by simp)
      have := (List.getElem?_eq_some_iff.1 this).1
      omega
   rw [BK, AL (by simp only; omega)]
   simp only [Bd, hv1, A2, List.getElem?_map, hi, hs, Option.map_some, Option.bind_some, Hn]
   obtain ⟨b, ea⟩ := OD N hN h20 hp hm hsm
   rw [show (Ah.mk m.fBase m.fNext m.fHeld) = m from rfl, ea]
   simp only [Option.bind_some]
   have hxo := Iw hp hm (G6 hsm).2
   rw [GR N p _ hN h20 hp hxo]
   simp only [Option.bind_some]
   rw [Gg hs, Qj] at hfu ⊢
   cases hr : Bt p (A1 p m ss[k]).1
   ·rw [hr] at hfu
    rw [Au, Au, if_neg (by simp), AH (by rw [List.length_map]; omega), AM (by omega)]
    rw [if_neg (by simp)] at hfu
    exact ID hN h20 hp hm hmo hv1 ss hss hsl j n (k + 1) l (by omega) (by omega) hi hA hlm hfu
   ·rw [hr] at hfu
    rw [AN, if_pos rfl]
    rw [if_pos rfl] at hfu
    obtain ⟨r, er, hr2⟩ := PN hN h20 hp hxo hl1 (fun n hn => (hA n hn).1)
    have er' : DC N (l.map fun n => AB.mk n.1 n.2.1 n.2.2) (A1 p m ss[k]).1 = some r := er
    have em : (l.map fun n : H6 => AB.mk n.1 n.2.1 n.2.2) = l.map Hn := rfl
    rw [← em, er']
    simp only [Option.bind_some]
    rw [hr2]
    have hput : Bfs.put i l (ss[k], (A1 p m ss[k]).1) = if (l.any fun n => decide (n.1 = (A1 p m ss[k]).1)) = true then l else l ++ [((A1 p m ss[k]).1, (i : Int), ss[k])] := rfl
    simp only [Bfs.inner] at hfu ⊢
    have hA2 : ∀ n, n ∈ Bfs.put i l (ss[k], (A1 p m ss[k]).1) → BN p n.1 ∧ Bt p n.1 = true := fun n hn => by
     rcases Ro hn with h | h
     ·exact hA n h
     ·rw [h]; exact ⟨hxo, hr⟩
    have hi2 : (Bfs.put i l (ss[k], (A1 p m ss[k]).1))[i]? = some (m, f, t) := P7 hi
    have main : (AZ (decide ((most : Int) < (((Bfs.put i l (ss[k], (A1 p m ss[k]).1)).map Hn).length : Int))) (some (([] : List AB), false)) (BK N p (most : Int) v1 ss j n ((Bfs.put i l (ss[k], (A1 p m ss[k]).1)).map Hn, (IntKind.wrap .i64 ((k : Int) + 1))))) =
      match (if most < (Bfs.put i l (ss[k], (A1 p m ss[k]).1)).length then none else Bfs.inner most i (N8 p m (ss.drop (k + 1))) (Bfs.put i l (ss[k], (A1 p m ss[k]).1))) with
      | none => some ([], false)
      | some l' => j (l'.map Hn) := by
     by_cases hb : most < (Bfs.put i l (ss[k], (A1 p m ss[k]).1)).length
     ·rw [if_pos hb, AL (by rw [List.length_map]; omega)]
     ·rw [if_neg hb] at hfu
      rw [if_neg hb, AH (by rw [List.length_map]; omega), AM (by omega)]
      exact ID hN h20 hp hm hmo hv1 ss hss hsl j n (k + 1) _ (by omega) (by omega) hi2 hA2 (by omega) (hfu.imp (fun h => ⟨by omega, h.2⟩) id)
    cases hin : (l.any fun n => decide (n.1 = (A1 p m ss[k]).1))
    ·rw [hin] at hput
     rw [Bool.not_false, AN, Az (by simp [Dv]; omega)]
     rw [if_neg (by simp)] at hput
     rw [hput, List.map_append] at main
     rw [hput]
     exact main
    ·rw [hin] at hput
     rw [Bool.not_true, Au]
     rw [if_pos rfl] at hput
     rw [hput] at main
     rw [hput]
     exact main
  ·have : k = ss.length := by omega
   subst this
   rw [BK, AH (by simp), List.drop_eq_nil_of_le (Nat.le_refl _)]
   rfl
end Go.Lift

/- The region of a mix: the reference's whole list. -/
namespace Go.Lift
open Go
theorem RC {p : Ae} {m : Ah} (hm : BN p m) (hr : Bt p m = true) : ∀ n, n ∈ ([(m, -1, LP)] : List H6) → BN p n.1 ∧ Bt p n.1 = true := fun n hn => by
 rw [List.mem_singleton.1 hn]; exact ⟨hm, hr⟩
theorem Og {p : Ae} (hp : Bi p) (m : Ah) : (EU p m).length ≤ 54 := Nat.le_trans (List.length_filter_le _ _) (Q1 hp)
theorem Jz {N : Nat} (hN : N ≤ 1000000) (h20 : 100 ≤ N) {p : Ae} (hv : BP p = 0) {most : Nat} (hmo : most ≤ 20000) (j : List AB → Option (List AB × Bool)) :
  ∀ (n i : Nat) (l : List H6), i ≤ l.length → (∀ n, n ∈ l → BN p n.1 ∧ Bt p n.1 = true) → l.length ≤ most → (most < N ∧ most < n + i ∨ ∃ l', Bfs.go (HV p) most n i l = some l' ∧ l'.length < N) →
   BJ N p (most : Int) j n (l.map Hn, (i : Int)) = match Bfs.go (HV p) most n i l with
    | none => some ([], false)
    | some l' => j (l'.map Hn)
 | 0, i, l, hi, _, hlm, hfu => by
  rcases hfu with h | ⟨l', h, _⟩
  ·omega
  ·cases h
 | n + 1, i, l, hi, hA, hlm, hfu => by
  obtain ⟨hp, _⟩ := CQ hv
  simp only [Bfs.go] at hfu ⊢
  rw [BJ]
  by_cases h1 : i < l.length
  ·obtain ⟨⟨m, f, t⟩, hx⟩ := Bfs.get_ex h1
   have hm := (hA _ (List.mem_of_getElem? hx)).1
   rw [hx] at hfu ⊢
   simp only at hfu ⊢
   rw [AL (by rw [List.length_map]; omega)]
   simp only [A2, List.getElem?_map, hx, Option.map_some, Option.bind_some, Hn]
   rw [show (Ah.mk m.fBase m.fNext m.fHeld) = m from rfl, O1 N hN h20 hv hm]
   simp only [Option.bind_some]
   have hgo : N8 p m ((EU p m).drop 0) = HV p m := rfl
   have hsl := Og hp m
   have e := ID hN h20 hp hm hmo (v1 := (l.map Hn, (i : Int))) rfl (EU p m) (fun s hs => hs) (by omega) (fun (v7 : (List AB)) =>
    BJ N p (most : Int) j n (v7, (IntKind.wrap .i64 ((i : Int) + 1)))) N 0 l (Nat.zero_le _) (by omega) hx hA hlm (by
     rcases hfu with ⟨g1, g2⟩ | ⟨l', h, hl'⟩
     ·exact .inl ⟨by omega, g1⟩
     ·right
      rw [hgo]
      cases hin : Bfs.inner most i (HV p m) l with
      | none => rw [hin] at h; cases h
      | some l1 =>
       rw [hin] at h
       refine ⟨l1, rfl, ?_⟩
       have : l1.length ≤ l'.length := by
        have : ∀ (n i : Nat) (l l' : List H6), Bfs.go (HV p) most n i l = some l' → l.length ≤ l'.length := by
         intro n
         induction n with
         | zero => intro i l l' h; cases h
         | succ n ih =>
          intro i l l' h
          simp only [Bfs.go] at h
          split at h
          ·cases h; exact Nat.le_refl _
          ·rename_i nd _
           cases hin : Bfs.inner most i (HV p nd.1) l with
           | none => rw [hin] at h; cases h
           | some l1 =>
            rw [hin] at h
            refine Nat.le_trans ?_ (ih _ _ _ h)
            have : ∀ (qs : List (Af × Ah)) (l l1 : List H6), Bfs.inner most i qs l = some l1 → l.length ≤ l1.length := by
             intro qs
             induction qs with
             | nil => intro l l1 h; cases h; exact Nat.le_refl _
             | cons q qs ih =>
              intro l l1 h
              simp only [Bfs.inner] at h
              split at h
              ·cases h
              ·refine Nat.le_trans ?_ (ih _ _ h)
               unfold Bfs.put; split
               ·exact Nat.le_refl _
               ·simp
            exact this _ _ _ hin
        exact this _ _ _ _ h
       omega)
   have e' : BK N p (most : Int) (l.map Hn, (i : Int)) (EU p m) (fun (v7 : (List AB)) => BJ N p (most : Int) j n (v7, (IntKind.wrap .i64 ((i : Int) + 1)))) N (l.map Hn, 0) = _ := e
   rw [e', hgo]
   cases hin : Bfs.inner most i (HV p m) l with
   | none => rfl
   | some l1 =>
    rw [hin] at hfu
    obtain ⟨k1, k2⟩ := II hin (fun q hq => QI hp hm hq) hA
    have := (List.getElem?_eq_some_iff.1 (k2 _ _ hx)).1
    simp only [Option.bind_some] at hfu ⊢
    rw [AM (by omega)]
    exact Jz hN h20 hv hmo j n (i + 1) l1 (by omega) k1 (Bfs.inner_len _ _ _ hlm hin) (hfu.imp (fun h => ⟨h.1, by omega⟩) id)
  ·have hi' : i = l.length := by omega
   subst hi'
   rw [List.getElem?_eq_none (Nat.le_refl _)]
   rw [AH (by simp)]
def HT (p : Ae) (m : Ah) (most n : Nat) : Option (List H6) := Bfs.go (HV p) most n 0 [(m, -1, LP)]
theorem K6 {N : Nat} (hN : N ≤ 1000000) (h20 : 100 ≤ N) {p : Ae} (hv : BP p = 0) {m : Ah} (hm : BN p m) (hr : Bt p m = true) {most : Nat} (hmo : most ≤ 20000) (h1 : 1 ≤ most) (hfu : most < N ∨ ∃ l', HT p m most N = some l' ∧ l'.length < N) :
  Cu N p m (most : Int) = some (match HT p m most N with
   | none => ([], false)
   | some l' => (l'.map Hn, true)) := by
 unfold Cu
 have e := Jz hN h20 hv hmo (fun (v2 : (List AB)) => some (v2, true)) N 0 [(m, -1, LP)] (Nat.zero_le _) (RC hm hr) h1 (hfu.imp (fun h => ⟨h, by omega⟩) id)
 have e' : BJ N p (most : Int) (fun (v2 : (List AB)) => some (v2, true)) N (([(AB.mk m ((-1)) ((Af.mk 0 0 0)))] : List AB), 0) = _ := e
 rw [e']
 unfold HT
 cases Bfs.go (HV p) most N 0 [(m, -1, LP)] <;> rfl
structure UA (p : Ae) (m : Ah) (l : List H6) (ws : List (List Af)) : Prop where
 inv : Bfs.Inv (HV p) Kx 100 m l.length [] l ws
 ok : ∀ (k : Nat) x f s, l[k]? = some (x, f, s) → BN p x ∧ Bt p x = true
theorem Vi {p : Ae} (hp : Bi p) {m : Ah} (hm : BN p m) (hr : Bt p m = true) {most n : Nat} {l : List H6} (h : HT p m most n = some l) : ∃ ws, UA p m l ws := by
 obtain ⟨ws, h1, h2⟩ := Bfs.inv_go (rk := Kx) (K := 100) (fun x => BN p x ∧ Bt p x = true) (fun x _ => VQ hp x) (fun x hx q hq => by
  refine ⟨?_, QI hp hx.1 hq⟩
  exact (MC hp (G6 (KM.1 hq).1).1).2) ⟨hm, hr⟩ n 0 [(m, -1, LP)] l [[]] (Nat.zero_le _) Bfs.inv_start (fun k x f s hk => by
   have := Bfs.lt_get hk
   simp at this; subst this
   cases hk; exact ⟨hm, hr⟩) h
 exact ⟨ws, h1, h2⟩
theorem T3 {p : Ae} (hp : Bi p) {m : Ah} {l : List H6} {ws : List (List Af)} (h : UA p m l ws) {k : Nat} {x : Ah} {f : Int} {s : Af} {w : List Af} (hx : l[k]? = some (x, f, s)) (hw : ws[k]? = some w) : LA p m w = some x :=
 (KN hp).2 (Bfs.way_run h.inv (k + 1) k (Nat.lt_succ_self k) hx hw)
theorem NH {p : Ae} (hp : Bi p) {m x : Ah} {l : List H6} {ws : List (List Af)} (h : UA p m l ws) {w : List Af} (hw : LA p m w = some x) : ∃ (k : Nat) (f : Int) (s : Af) (u : List Af), l[k]? = some (x, f, s) ∧ ws[k]? = some u ∧ Bfs.code Kx 100 u ≤ Bfs.code Kx 100 w :=
 Bfs.reach_node h.inv w.length rfl ((KN hp).1 hw)
theorem OE {p : Ae} {m : Ah} {l : List H6} {ws : List (List Af)} (h : UA p m l ws) : ∀ (n k : Nat) {w : List Af}, k < n → ws[k]? = some w → w.length ≤ k
 | 0, k, _, hk, _ => by omega
 | n + 1, k, w, hk, hw => by
  obtain ⟨⟨x, f, s⟩, hx⟩ := Bfs.get_ex (l := l) (k := k) (by rw [← h.inv.len]; exact Bfs.lt_get hw)
  rcases Nat.eq_zero_or_pos k with rfl | hk0
  ·rw [h.inv.root'] at hw; cases hw; exact Nat.le_refl _
  ·obtain ⟨j, y', g', t', w', e1, e2, e3, e4, e5, e6, e7⟩ := h.inv.par k _ _ _ hk0 hx
   rw [e6] at hw; cases hw
   have := OE h n j (by omega) e5
   simp; omega
theorem KF {p : Ae} {m : Ah} {l : List H6} {ws : List (List Af)} (h : UA p m l ws) (N : Nat) (j : List Af → Option (List Af)) : ∀ (n k : Nat) {w acc : List Af}, k < n → ws[k]? = some w → acc.length + k ≤ 20000 →
  C9 N (l.map Hn) j n ((k : Int), acc) = j (w ++ acc)
 | 0, k, _, _, hk, _, _ => by omega
 | n + 1, k, w, acc, hk, hw, ha => by
  obtain ⟨⟨x, f, s⟩, hx⟩ := Bfs.get_ex (l := l) (k := k) (by rw [← h.inv.len]; exact Bfs.lt_get hw)
  rw [C9]
  simp only [A2, List.getElem?_map, hx, Option.map_some, Option.bind_some, Hn]
  rcases Nat.eq_zero_or_pos k with rfl | hk0
  ·obtain ⟨s0, hs0⟩ := h.inv.root; rw [hs0] at hx; cases hx
   rw [h.inv.root'] at hw; cases hw
   rw [AH (by decide)]; rfl
  ·obtain ⟨i, y', g', t', w', e1, e2, e3, e4, e5, e6, e7⟩ := h.inv.par k _ _ _ hk0 hx
   rw [e6] at hw; cases hw
   subst e1
   rw [AL (Int.natCast_nonneg i), Az (by simp [Dv]; omega)]
   have := KF h N j n i (w := w') (acc := [Af.mk s.fKind s.fIndex s.fVersion] ++ acc) (by omega) e5 (by simp; omega)
   rw [this, List.append_assoc]
def IB (p : Ae) (l : List H6) : Option Nat := Dd (fun i (n : H6) => if FM p n.1 = true then some i else none) 0 l
theorem NY {p : Ae} {l : List H6} {k : Nat} (h : IB p l = some k) : (∃ x f s, l[k]? = some (x, f, s) ∧ FM p x = true) ∧ ∀ j x f s, j < k → l[j]? = some (x, f, s) → FM p x = false := by
 have : ∀ (xs : List H6) (i k : Nat), Dd (fun i (n : H6) => if FM p n.1 = true then some i else none) i xs = some (i + k) → (∃ x f s, xs[k]? = some (x, f, s) ∧ FM p x = true) ∧ ∀ j x f s, j < k → xs[j]? = some (x, f, s) → FM p x = false := by
  intro xs
  induction xs with
  | nil => intro i k h; cases h
  | cons n xs ih =>
   intro i k h
   rw [FL] at h
   cases hg : FM p n.1
   ·rw [hg] at h
    simp only [Bool.false_eq_true, if_false] at h
    cases k with
    | zero =>
     exfalso
     obtain ⟨j, x, _, hj⟩ := DW h
     split at hj
     ·have := Option.some.inj hj; omega
     ·cases hj
    | succ k =>
     obtain ⟨⟨x, f, s, h1, h2⟩, h3⟩ := ih (i + 1) k (by rw [show i + 1 + k = i + (k + 1) from by omega]; exact h)
     refine ⟨⟨x, f, s, by simpa using h1, h2⟩, ?_⟩
     intro j x f s hj hx
     cases j with
     | zero => simp at hx; subst hx; exact hg
     | succ j => exact h3 j x f s (by omega) (by simpa using hx)
   ·rw [hg] at h
    simp only [if_true, Option.some.injEq] at h
    have : k = 0 := by omega
    subst this
    exact ⟨⟨n.1, n.2.1, n.2.2, rfl, hg⟩, fun j _ _ _ hj => by omega⟩
 exact this l 0 k (by rw [Nat.zero_add]; exact h)
theorem RD {p : Ae} {l : List H6} (h : IB p l = none) {k : Nat} {x : Ah} {f : Int} {s : Af} (hx : l[k]? = some (x, f, s)) : FM p x = false := by
 have := Eo h k _ hx
 split at this
 ·cases this
 ·rename_i h; simpa using h
def KV (p : Ae) (l : List H6) (ws : List (List Af)) : List Af × Int := match IB p l with
 | none => ([], 14)
 | some k => (ws.getD k [], 0)
theorem Pv {N : Nat} (hN : N ≤ 1000000) (h20 : 100 ≤ N) {p : Ae} (hv : BP p = 0) {m : Ah} (hm : BN p m) (hr : Bt p m = true) {l : List H6} (hs : HT p m 20000 N = some l) (hl : l.length < N) {ws : List (List Af)} (h : UA p m l ws) :
  CH N p m = some (KV p l ws) := by
 obtain ⟨hp, _⟩ := CQ hv
 have hl2 : l.length ≤ 20000 := Bfs.go_len _ _ _ _ (by simp) hs
 unfold CH
 rw [Hi N p m hN (by omega), Fr hv hm]
 simp only [Option.bind_some, bne_self_eq_false, Au]
 rw [GR N p m hN h20 hp hm, hr]
 simp only [Option.bind_some, Bool.not_true, Au]
 have e := K6 hN h20 hv hm hr (most := 20000) (by omega) (by omega) (.inr ⟨l, hs, hl⟩)
 rw [hs] at e
 have e' : Cu N p m 20000 = some (l.map Hn, true) := e
 rw [e']
 simp only [Option.bind_some, Bool.not_true, Au]
 have := Cm (Ce N p (l.map Hn, true) fun _ => some (([] : List Af), 14)) l (some ([], 14)) (fun i n => (if FM p n.1 = true then some i else none).map fun k => (ws.getD k [], 0))
  (fun n i nd hnd => by
   have hi := (List.getElem?_eq_some_iff.1 hnd).1
   rw [Ce, AL (by simp only [List.length_map]; omega)]
   simp only [A2, List.getElem?_map, hnd, Option.map_some, Option.bind_some, Hn]
   have hok := (h.ok _ _ _ _ (show l[i]? = some (nd.1, nd.2.1, nd.2.2) from hnd)).1
   rw [show (Ah.mk nd.1.fBase nd.1.fNext nd.1.fHeld) = nd.1 from rfl, Pb N p nd.1 hN h20 (H0 hok), AM (by omega)]
   simp only [Option.bind_some]
   cases hg : FM p nd.1
   ·rfl
   ·rw [AN, if_pos rfl]
    obtain ⟨w, hw⟩ := Bfs.get_ex (l := ws) (k := i) (by rw [h.inv.len]; exact hi)
    have e2 := KF h N (fun v2 => some v2) N i (w := w) (acc := []) (by omega) hw (by simp; omega)
    unfold E5
    rw [e2, List.append_nil]
    simp only [Option.bind_some, Option.map_some, BD]
    rw [List.getD_eq_getElem?_getD, hw]; rfl)
  (fun n => by rw [Ce, AH (by simp)]) N 0 (Nat.zero_le _) (by omega)
 have e3 : Ce N p (l.map Hn, true) (fun _ => some (([] : List Af), 14)) N 0 = _ := this
 rw [e3, List.drop_zero, I7]
 unfold KV IB
 cases Dd (fun i (n : H6) => if FM p n.1 = true then some i else none) 0 l <;> rfl
end Go.Lift

/- The region of a mix: the program's list of nodes is the same. -/
namespace Go.Lift
open Go
def DN (n : AD) : H6 := (n.fM, n.fFrom, n.fBy)
def HN (x : Ah) : List (Ah × Int) → Option Int
 | [] => none
 | e :: r => if x = e.1 then some e.2 else HN x r
def JY (q : List (Ah × Int)) : List (ByteArray × Int) := q.map fun e => (Cp (JH e.1), e.2)
theorem Ux {p : Ae} (hp : Bi p) {x y : Ah} (hx : BN p x) (hy : BN p y) : (Cp (JH x) == Cp (JH y)) = decide (x = y) := by
 by_cases h : x = y
 ·rw [decide_eq_true h, h, OX]
 ·rw [decide_eq_false h]
  cases hb : Cp (JH x) == Cp (JH y)
  ·rfl
  ·exact absurd (TP hp hx hy hb) h
theorem Nf {p : Ae} (hp : Bi p) {x : Ah} (hx : BN p x) : ∀ {q : List (Ah × Int)}, (∀ e, e ∈ q → BN p e.1) → Jp (Cp (JH x)) (JY q) = HN x q
 | [], _ => rfl
 | e :: q, h => by
  have ih := Nf hp hx (q := q) fun e he => h e (List.mem_cons_of_mem _ he)
  show (if (Cp (JH x) == Cp (JH e.1)) = true then some e.2 else Jp (Cp (JH x)) (JY q)) = if x = e.1 then some e.2 else HN x q
  rw [Ux hp hx (h e (by simp)), ih]
  by_cases h : x = e.1
  ·rw [decide_eq_true h, if_pos rfl, if_pos h]
  ·rw [decide_eq_false h, if_neg (by simp), if_neg h]
theorem Jt (x y : Ah) (r : Int) : ∀ q : List (Ah × Int), HN x (q ++ [(y, r)]) = match HN x q with
  | some v => some v
  | none => if x = y then some r else none
 | [] => rfl
 | e :: q => by
  simp only [List.cons_append, HN]
  by_cases h : x = e.1
  ·rw [if_pos h, if_pos h]
  ·rw [if_neg h, if_neg h, Jt x y r q]
theorem Sd (q : List (Ah × Int)) (x : Ah) (r : Int) : JY (q ++ [(x, r)]) = JY q ++ [(Cp (JH x), r)] := by simp [JY]
structure Mc (p : Ae) (q : List (Ah × Int)) (l : List H6) : Prop where
 ok : ∀ e, e ∈ q → BN p e.1
 none : ∀ x, BN p x → HN x q = none → ∀ n, n ∈ l → n.1 ≠ x
 some : ∀ x r, BN p x → HN x q = some r → (r = -1 ∧ Bt p x = false) ∨ ∃ (j : Nat) (f : Int) (s : Af), r = (j : Int) ∧ l[j]? = some (x, f, s)
structure Ko (p : Ae) (i : Nat) (done : List (Af × Ah)) (pl : List AD) : Prop where
 to : ∀ (b : Nat) nd, pl[b]? = some nd → ∀ r, r ∈ nd.fNext → ∃ s y, ((b < i ∧ (s, y) ∈ HV p nd.fM) ∨ (b = i ∧ (s, y) ∈ done)) ∧ ∃ (a : Nat) (f : Int) (t : Af), r = (a : Int) ∧ (pl.map DN)[a]? = some (y, f, t)
 of : ∀ (b : Nat) nd, pl[b]? = some nd → ∀ s y, ((b < i ∧ (s, y) ∈ HV p nd.fM) ∨ (b = i ∧ (s, y) ∈ done)) → ∃ (a : Nat) (f : Int) (t : Af), ((a : Nat) : Int) ∈ nd.fNext ∧ (pl.map DN)[a]? = some (y, f, t)
def JV (pl : List AD) (i : Nat) (nd : AD) (r : Int) : List AD := if 0 ≤ r then pl.set i ⟨nd.fM, nd.fFrom, nd.fBy, nd.fNext ++ [r]⟩ else pl
theorem K4 {pl : List AD} {i : Nat} {nd : AD} {r : Int} (h : pl[i]? = some nd) : (JV pl i nd r).map DN = pl.map DN := by
 unfold JV
 split
 ·apply List.ext_getElem?
  intro k
  rw [List.getElem?_map, List.getElem?_map, List.getElem?_set]
  by_cases hk : i = k
  ·subst hk
   rw [if_pos rfl, if_pos (Bfs.lt_get h), h]; rfl
  ·rw [if_neg hk]
 ·rfl
theorem JM {pl : List AD} {i : Nat} {nd : AD} {r : Int} (h : pl[i]? = some nd) {b : Nat} {nb : AD} (hb : (JV pl i nd r)[b]? = some nb) : (b ≠ i ∧ pl[b]? = some nb) ∨ (b = i ∧ nb.fM = nd.fM ∧ nb.fFrom = nd.fFrom ∧ nb.fBy = nd.fBy ∧ nb.fNext = if 0 ≤ r then nd.fNext ++ [r] else nd.fNext) := by
 unfold JV at hb
 split at hb
 ·rename_i hr
  rw [List.getElem?_set] at hb
  by_cases hk : i = b
  ·subst hk
   rw [if_pos rfl, if_pos (Bfs.lt_get h)] at hb
   cases hb
   exact .inr ⟨rfl, rfl, rfl, rfl, by rw [if_pos hr]⟩
  ·rw [if_neg hk] at hb
   exact .inl ⟨fun e => hk e.symm, hb⟩
 ·rename_i hr
  by_cases hk : b = i
  ·subst hk; rw [h] at hb; cases hb
   exact .inr ⟨rfl, rfl, rfl, rfl, by rw [if_neg hr]⟩
  ·exact .inl ⟨hk, hb⟩
theorem PP {p : Ae} {i : Nat} {done : List (Af × Ah)} {pl pl2 : List AD} {nd : AD} {s : Af} {x : Ah} {a : Nat} {f : Int} {t : Af} (h : Ko p i done pl)
  (hkeep : ∀ (b : Nat) nb, pl2[b]? = some nb → pl[b]? = some nb ∨ (i < b ∧ nb.fNext = [])) (hk2 : ∀ (b : Nat) n, (pl.map DN)[b]? = some n → (pl2.map DN)[b]? = some n) (hi : pl2[i]? = some nd) (ha : (pl2.map DN)[a]? = some (x, f, t)) : Ko p i (done ++ [(s, x)]) (JV pl2 i nd (a : Int)) := by
 constructor
 ·intro b nb hb r hr
  rw [K4 hi]
  rcases JM hi hb with ⟨h1, h2⟩ | ⟨h1, h2, h3, h4, h5⟩
  ·rcases hkeep b nb h2 with h3 | ⟨h3, h4⟩
   ·obtain ⟨s', y, g1, a', f', t', g2, g3⟩ := h.to b nb h3 r hr
    refine ⟨s', y, ?_, a', f', t', g2, hk2 _ _ g3⟩
    rcases g1 with g1 | g1
    ·exact .inl g1
    ·exact absurd g1.1 h1
   ·rw [h4] at hr; cases hr
  ·subst h1
   rw [h5, if_pos (Int.natCast_nonneg a)] at hr
   rcases List.mem_append.1 hr with hr | hr
   ·rcases hkeep b nd hi with h6 | ⟨h6, _⟩
    ·obtain ⟨s', y, g1, a', f', t', g2, g3⟩ := h.to b nd h6 r hr
     refine ⟨s', y, ?_, a', f', t', g2, hk2 _ _ g3⟩
     rcases g1 with g1 | g1
     ·exact .inl ⟨g1.1, by rw [h2]; exact g1.2⟩
     ·exact .inr ⟨rfl, List.mem_append_left _ g1.2⟩
    ·omega
   ·rw [List.mem_singleton.1 hr]
    exact ⟨s, x, .inr ⟨rfl, by simp⟩, a, f, t, rfl, ha⟩
 ·intro b nb hb s' y hs
  rw [K4 hi]
  rcases JM hi hb with ⟨h1, h2⟩ | ⟨h1, h2, h3, h4, h5⟩
  ·rcases hkeep b nb h2 with h3 | ⟨h3, h4⟩
   ·obtain ⟨a', f', t', g2, g3⟩ := h.of b nb h3 s' y (by
     rcases hs with hs | hs
     ·exact .inl hs
     ·exact absurd hs.1 h1)
    exact ⟨a', f', t', g2, hk2 _ _ g3⟩
   ·rcases hs with hs | hs <;> omega
  ·subst h1
   rw [h5, if_pos (Int.natCast_nonneg a)]
   rcases hkeep b nd hi with h6 | ⟨h6, _⟩
   ·rcases hs with hs | ⟨_, hs⟩
    ·omega
    ·rcases List.mem_append.1 hs with hs | hs
     ·obtain ⟨a', f', t', g2, g3⟩ := h.of b nd h6 s' y (.inr ⟨rfl, hs⟩)
      exact ⟨a', f', t', List.mem_append_left _ g2, hk2 _ _ g3⟩
     ·cases List.mem_singleton.1 hs
      exact ⟨a, f, t, by simp, ha⟩
   ·omega
theorem zFS {N : Nat} (hN : N ≤ 1000000) (h20 : 100 ≤ N) {p : Ae} (hv : BP p = 0) {m : Ah} (hm : BN p m) {most i : Nat} (hmo : most ≤ 20000) {v2 : List AD × List (ByteArray × Int) × Int} (hv2 : v2.2.2 = (i : Int)) (ss : List Af) (e0 : Int) (hss : ∀ s, s ∈ ss → s ∈ EU p m) (hsl : ss.length ≤ 1000) (j : List AD × List (ByteArray × Int) → Option (List AD × Int)) :
  ∀ (n k : Nat) (pl : List AD) (q : List (Ah × Int)) (l' : List H6), k ≤ ss.length → ss.length - k < n → (∃ nd, pl[i]? = some nd ∧ nd.fM = m) → (∀ n, n ∈ pl.map DN → BN p n.1 ∧ Bt p n.1 = true) → pl.length ≤ most → Mc p q (pl.map DN) → Ko p i (N8 p m (ss.take k)) pl →
   (∃ nd, pl[i]? = some nd ∧ nd.fNext.length ≤ k) → Bfs.inner most i (N8 p m (ss.drop k)) (pl.map DN) = some l' →
   ∃ pl' q', Cf N p v2 (ss, e0) j n (pl, JY q, (k : Int)) = j (pl', JY q') ∧ pl'.map DN = l' ∧ Mc p q' l' ∧ Ko p i (N8 p m ss) pl' ∧ (∀ (b : Nat) nb, pl'[b]? = some nb → b ≠ i → pl[b]? = some nb ∨ nb.fNext = [])
 | 0, k, pl, q, l', _, h, _, _, _, _, _, _, _ => by omega
 | n + 1, k, pl, q, l', hk, h, hi, hA, hlm, hpl, hnx, hfl, hin => by
  obtain ⟨hp, _⟩ := CQ hv
  obtain ⟨nd, hnd, hndm⟩ := hi
  obtain ⟨nd', hnd', hfl⟩ := hfl
  rw [hnd] at hnd'; cases hnd'
  by_cases h1 : k < ss.length
  ·have hs : ss[k]? = some ss[k] := by simp [h1]
   have hsm := hss _ (List.mem_of_getElem? hs)
   have hstep := (G6 hsm).2
   have hxo := Iw hp hm hstep
   have hil := Bfs.lt_get hnd
   rw [Cf, AL (by simp only; omega)]
   simp only [Bd, hv2, A2, hnd, hs, Option.bind_some]
   rw [show (Ah.mk nd.fM.fBase nd.fM.fNext nd.fM.fHeld) = m from hndm, Ke N hN h20 (H0 hm), if_pos (Fr hv hm)]
   simp only [Option.bind_some]
   rw [hstep, bne_self_eq_false, Au, Tb N hN h20 hp hxo]
   simp only [Option.bind_some]
   rw [Nf hp hxo hpl.ok]
   have htk : ss.take (k + 1) = ss.take k ++ [ss[k]] := by rw [List.take_add_one, hs]; rfl
   have hgo : N8 p m (ss.take (k + 1)) = if Bt p (A1 p m ss[k]).1 = true then N8 p m (ss.take k) ++ [(ss[k], (A1 p m ss[k]).1)] else N8 p m (ss.take k) := by
    rw [htk]; unfold N8; rw [List.filterMap_append]
    cases hr : Bt p (A1 p m ss[k]).1 <;> simp [hr]
   rw [Gg hs, Qj] at hin
   -- what follows when the node's number is known
   have tail : ∀ (pl2 : List AD) (q2 : List (Ah × Int)) (r : Int) (nd2 : AD), pl2[i]? = some nd2 → nd2.fM = m → nd2.fNext.length ≤ k → pl2.length ≤ most →
     AZ (decide (0 ≤ r)) ((BZ pl2 (i : Int)).bind fun v26 => (Eg (v26.fNext.length + (([r] : List Int)).length ≤ Dv)).bind fun _ => (BZ pl2 (i : Int)).bind fun v28 =>
      AZ (decide ((20000 : Int) < ((pl2.set ((i : Int)).toNat (AD.mk (Ah.mk v28.fM.fBase v28.fM.fNext v28.fM.fHeld) v28.fFrom (Af.mk v28.fBy.fKind v28.fBy.fIndex v28.fBy.fVersion) (v26.fNext ++ ([r] : List Int)))).length : Int))) (some (([] : List AD), 3))
       (Cf N p v2 (ss, e0) j n (pl2.set ((i : Int)).toNat (AD.mk (Ah.mk v28.fM.fBase v28.fM.fNext v28.fM.fHeld) v28.fFrom (Af.mk v28.fBy.fKind v28.fBy.fIndex v28.fBy.fVersion) (v26.fNext ++ ([r] : List Int))), JY q2, (IntKind.wrap .i64 ((k : Int) + 1)))))
      (AZ (decide ((20000 : Int) < (pl2.length : Int))) (some (([] : List AD), 3)) (Cf N p v2 (ss, e0) j n (pl2, JY q2, (IntKind.wrap .i64 ((k : Int) + 1))))) =
     Cf N p v2 (ss, e0) j n (JV pl2 i nd2 r, JY q2, ((k + 1 : Nat) : Int)) := by
    intro pl2 q2 r nd2 h2 h3 h4 h5
    by_cases hr : 0 ≤ r
    ·rw [AL hr]
     simp only [A2, h2, Option.bind_some, Int.toNat_natCast]
     rw [Az (by simp [Dv]; omega), AH (by rw [List.length_set]; omega), AM (by omega)]
     unfold JV; rw [if_pos hr]
    ·rw [AH hr, AH (by omega), AM (by omega)]
     unfold JV; rw [if_neg hr]
   cases hlq : HN (A1 p m ss[k]).1 q with
   | some r =>
    simp only [Option.isSome_some, Bool.not_true, Au, Option.getD_some]
    have ht := tail pl q r nd hnd hndm hfl hlm
    simp only [A2, hnd, Option.bind_some] at ht
    rw [show (Ah.mk nd.fM.fBase nd.fM.fNext nd.fM.fHeld) = m from hndm] at ht
    rw [ht]
    rcases hpl.some _ _ hxo hlq with ⟨hr, hnr⟩ | ⟨a, f, t, hr, ha⟩
    ·subst hr
     rw [hnr, if_neg (by simp)] at hin
     rw [hnr, if_neg (by simp)] at hgo
     have hadd : JV pl i nd (-1) = pl := by unfold JV; rw [if_neg (by decide)]
     rw [hadd]
     exact zFS hN h20 hv hm hmo hv2 ss e0 hss hsl j n (k + 1) pl q l' (by omega) (by omega) ⟨nd, hnd, hndm⟩ hA hlm hpl (by rw [hgo]; exact hnx) ⟨nd, hnd, by omega⟩ hin
    ·subst hr
     have hrob : Bt p (A1 p m ss[k]).1 = true := (hA _ (List.mem_of_getElem? ha)).2
     rw [hrob, if_pos rfl] at hin hgo
     have hput : Bfs.put i (pl.map DN) (ss[k], (A1 p m ss[k]).1) = pl.map DN := by
      unfold Bfs.put
      rw [if_pos]
      exact List.any_eq_true.2 ⟨_, List.mem_of_getElem? ha, decide_eq_true rfl⟩
     simp only [Bfs.inner] at hin
     rw [hput, if_neg (by rw [List.length_map]; omega)] at hin
     have hpr := K4 (r := (a : Int)) hnd
     have hnx2 := PP (s := ss[k]) hnx (pl2 := pl) (fun b nb hb => .inl hb) (fun b n hb => hb) hnd ha
     obtain ⟨nd3, hnd3⟩ := Bfs.get_ex (l := JV pl i nd (a : Int)) (k := i) (by
      have := congrArg List.length hpr; simp only [List.length_map] at this; omega)
     obtain ⟨g1, g2⟩ | ⟨_, g2, g3, g4, g5⟩ := JM hnd hnd3
     ·exact absurd rfl g1
     obtain ⟨pl', q', r1, r2, r3, r4, r5⟩ := zFS hN h20 hv hm hmo hv2 ss e0 hss hsl j n (k + 1) (JV pl i nd (a : Int)) q l' (by omega) (by omega) ⟨nd3, hnd3, by rw [g2]; exact hndm⟩ (by rw [hpr]; exact hA) (by have := congrArg List.length hpr; simp only [List.length_map] at this; omega)  (by rw [hpr]; exact hpl) (by rw [hgo]; exact hnx2) ⟨nd3, hnd3, by rw [g5]; split <;> (try simp only [List.length_append, List.length_singleton]) <;> omega⟩ (by rw [hpr]; exact hin)
     refine ⟨pl', q', r1, r2, r3, r4, ?_⟩
     intro b nb hb hbi
     rcases r5 b nb hb hbi with h2 | h2
     ·rcases JM hnd h2 with ⟨_, h3⟩ | ⟨h3, _⟩
      ·exact .inl h3
      ·exact absurd h3 hbi
     ·exact .inr h2
   | none =>
    simp only [Option.isSome_none, Bool.not_false, AN]
    rw [Ii N p _ hN h20 (H0 hxo) (Fr hv hxo)]
    simp only [Option.bind_some, bne_self_eq_false, Au]
    have hms : ∀ r, KO (Cp (JH (A1 p m ss[k]).1)) r (JY q) = JY (q ++ [((A1 p m ss[k]).1, r)]) := fun r => by
     rw [Sd]; exact JN _ _ (by rw [Nf hp hxo hpl.ok, hlq])
    have hok2 : ∀ r e, e ∈ q ++ [((A1 p m ss[k]).1, r)] → BN p e.1 := fun r e he => by
     rcases List.mem_append.1 he with he | he
     ·exact hpl.ok e he
     ·rw [List.mem_singleton.1 he]; exact hxo
    cases hrob : Bt p (A1 p m ss[k]).1
    ·rw [Bool.not_false, AN]
     rw [hrob, if_neg (by simp)] at hin hgo
     rw [hms]
     have ht := tail pl (q ++ [((A1 p m ss[k]).1, -1)]) (-1) nd hnd hndm hfl hlm
     simp only [A2, hnd, Option.bind_some] at ht
     rw [show (Ah.mk nd.fM.fBase nd.fM.fNext nd.fM.fHeld) = m from hndm] at ht
     rw [ht]
     have hadd : JV pl i nd (-1) = pl := by unfold JV; rw [if_neg (by decide)]
     rw [hadd]
     refine zFS hN h20 hv hm hmo hv2 ss e0 hss hsl j n (k + 1) pl _ l' (by omega) (by omega) ⟨nd, hnd, hndm⟩ hA hlm ⟨hok2 (-1), ?_, ?_⟩ (by rw [hgo]; exact hnx) ⟨nd, hnd, by omega⟩ hin
     ·intro x hx hq
      rw [Jt] at hq
      cases hq2 : HN x q with
      | none => exact hpl.none x hx hq2
      | some v => rw [hq2] at hq; cases hq
     ·intro x r hx hq
      rw [Jt] at hq
      cases hq2 : HN x q with
      | none =>
       rw [hq2] at hq
       simp only at hq
       split at hq
       ·rename_i he
        cases hq; left; exact ⟨rfl, by rw [he]; exact hrob⟩
       ·cases hq
      | some v => rw [hq2] at hq; cases hq; exact hpl.some x _ hx hq2
    ·rw [Bool.not_true, Au]
     rw [hrob, if_pos rfl] at hin hgo
     rw [hms]
     have hnew : ((pl.map DN).any fun n => decide (n.1 = (A1 p m ss[k]).1)) = false := by
      rw [List.any_eq_false]
      intro n hn
      simpa using hpl.none _ hxo hlq n hn
     have hput : Bfs.put i (pl.map DN) (ss[k], (A1 p m ss[k]).1) = (pl ++ [AD.mk (A1 p m ss[k]).1 (i : Int) ss[k] []]).map DN := by
      unfold Bfs.put
      rw [hnew, if_neg (by simp), List.map_append]; rfl
     simp only [Bfs.inner] at hin
     rw [hput] at hin
     split at hin
     ·cases hin
     rename_i hmm
     rw [List.length_map, List.length_append, List.length_singleton] at hmm
     rw [Az (by simp [Dv]; omega)]
     have hnd2 : (pl ++ [AD.mk (A1 p m ss[k]).1 (i : Int) ss[k] []])[i]? = some nd := Bfs.get_app_of hnd
     have ht := tail (pl ++ [AD.mk (A1 p m ss[k]).1 (i : Int) ss[k] []]) (q ++ [((A1 p m ss[k]).1, (pl.length : Int))]) (pl.length : Int) nd hnd2 hndm hfl (by rw [List.length_append, List.length_singleton]; omega)
     simp only [A2] at ht
     rw [ht]
     have hpr := K4 (r := (pl.length : Int)) hnd2
     have hlast : ((pl ++ [AD.mk (A1 p m ss[k]).1 (i : Int) ss[k] []]).map DN)[pl.length]? = some ((A1 p m ss[k]).1, (i : Int), ss[k]) := by
      rw [List.getElem?_map, Bfs.get_app_new]; rfl
     have hold : ∀ (b : Nat) n, (pl.map DN)[b]? = some n → ((pl ++ [AD.mk (A1 p m ss[k]).1 (i : Int) ss[k] []]).map DN)[b]? = some n := fun b n hb => by
      rw [List.map_append]; exact Bfs.get_app_of hb
     have hkeep : ∀ (b : Nat) nb, (pl ++ [AD.mk (A1 p m ss[k]).1 (i : Int) ss[k] []])[b]? = some nb → pl[b]? = some nb ∨ (i < b ∧ nb.fNext = []) := fun b nb hb => by
      rcases Bfs.get_app hb with h2 | ⟨h2, h3⟩
      ·exact .inl h2
      ·exact .inr ⟨by omega, by rw [h3]⟩
     have hnx2 := PP (s := ss[k]) hnx hkeep hold hnd2 hlast
     have hpl2 : Mc p (q ++ [((A1 p m ss[k]).1, (pl.length : Int))]) ((pl ++ [AD.mk (A1 p m ss[k]).1 (i : Int) ss[k] []]).map DN) := by
      refine ⟨hok2 _, ?_, ?_⟩
      ·intro x hx hq n hn
       rw [Jt] at hq
       cases hq2 : HN x q with
       | none =>
        rw [hq2] at hq
        simp only at hq
        split at hq
        ·cases hq
        ·rename_i hne
         rw [List.map_append] at hn
         rcases List.mem_append.1 hn with hn | hn
         ·exact hpl.none x hx hq2 n hn
         ·simp at hn; subst hn
          exact fun e => hne e.symm
       | some v => rw [hq2] at hq; cases hq
      ·intro x r hx hq
       rw [Jt] at hq
       cases hq2 : HN x q with
       | none =>
        rw [hq2] at hq
        simp only at hq
        split at hq
        ·rename_i he
         cases hq
         exact .inr ⟨pl.length, _, _, rfl, by rw [he]; exact hlast⟩
        ·cases hq
       | some v =>
        rw [hq2] at hq; cases hq
        rcases hpl.some x _ hx hq2 with g | ⟨a, f, t, g1, g2⟩
        ·exact .inl g
        ·exact .inr ⟨a, f, t, g1, hold _ _ g2⟩
     obtain ⟨nd3, hnd3⟩ := Bfs.get_ex (l := JV (pl ++ [AD.mk (A1 p m ss[k]).1 (i : Int) ss[k] []]) i nd (pl.length : Int)) (k := i) (by
      have := congrArg List.length hpr; simp only [List.length_map, List.length_append, List.length_singleton] at this; omega)
     obtain ⟨g1, g2⟩ | ⟨_, g2, g3, g4, g5⟩ := JM hnd2 hnd3
     ·exact absurd rfl g1
     obtain ⟨pl', q', r1, r2, r3, r4, r5⟩ := zFS hN h20 hv hm hmo hv2 ss e0 hss hsl j n (k + 1) (JV (pl ++ [AD.mk (A1 p m ss[k]).1 (i : Int) ss[k] []]) i nd (pl.length : Int)) _ l' (by omega) (by omega) ⟨nd3, hnd3, by rw [g2]; exact hndm⟩ (by
       rw [hpr]
       intro n hn
       rw [List.map_append] at hn
       rcases List.mem_append.1 hn with hn | hn
       ·exact hA n hn
       ·simp at hn; subst hn; exact ⟨hxo, hrob⟩) (by have := congrArg List.length hpr; simp only [List.length_map, List.length_append, List.length_singleton] at this; omega)  (by rw [hpr]; exact hpl2) (by rw [hgo]; exact hnx2) ⟨nd3, hnd3, by rw [g5]; split <;> (try simp only [List.length_append, List.length_singleton]) <;> omega⟩ (by rw [hpr]; exact hin)
     refine ⟨pl', q', r1, r2, r3, r4, ?_⟩
     intro b nb hb hbi
     rcases r5 b nb hb hbi with h2 | h2
     ·rcases JM hnd2 h2 with ⟨_, h3⟩ | ⟨h3, _⟩
      ·rcases hkeep b nb h3 with h4 | ⟨_, h4⟩
       ·exact .inl h4
       ·exact .inr h4
      ·exact absurd h3 hbi
     ·exact .inr h2
  ·have : k = ss.length := by omega
   subst this
   rw [List.drop_eq_nil_of_le (Nat.le_refl _)] at hin
   have hin : some (pl.map DN) = some l' := hin
   cases hin
   rw [List.take_length] at hnx
   rw [Cf, AH (by simp)]
   exact ⟨pl, q, rfl, rfl, hpl, hnx, fun b nb hb _ => .inl hb⟩
end Go.Lift

