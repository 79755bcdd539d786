/- Lemmas for PlanFromSaid, which YtohibkdhajkmdaaFinP7 proves. -/
import Derived.Test.YtohibkdhajkmdaaDec
import Derived.KernelRfl
/- Plain words of the shallow programs. -/
namespace Go.Lift
theorem A1 {α : Type} (xs : List α) (i : Nat) : B0 xs (i : Int) = xs[i]? := by
 unfold B0; simp
theorem Cr {n : Int} (h0 : -9223372036854775808 ≤ n) (h1 : n ≤ 9223372036854775807) : IntKind.wrap .i64 n = n := by
 simp [IntKind.wrap, IntKind.signed, IntKind.bits]; omega
theorem AM {i : Nat} (h : i < 1000000) : IntKind.wrap .i64 ((i : Int) + 1) = ((i + 1 : Nat) : Int) := by
 rw [Cr (by omega) (by omega)]; simp
@[simp] theorem AP {α : Type} {a b : Option α} : AZ true a b = a := rfl
@[simp] theorem Av {α : Type} {a b : Option α} : AZ false a b = b := rfl
theorem AL {α : Type} {p : Prop} [Decidable p] {a b : Option α} (h : p) : AZ (decide p) a b = a := by simp [h]
theorem AH {α : Type} {p : Prop} [Decidable p] {a b : Option α} (h : ¬ p) : AZ (decide p) a b = b := by simp [h]
def Hh : List Int → List Int → Int
 | [], [] => 0
 | [], _ :: _ => -1
 | _ :: _, [] => 1
 | a :: as1, b :: bs => if a < b then -1 else if b < a then 1 else Hh as1 bs
theorem GH {α : Type} {xs : List α} {i : Nat} {x : α} (h : xs[i]? = some x) : xs.drop i = x :: xs.drop (i + 1) := by
 obtain ⟨hi, rfl⟩ := List.getElem?_eq_some_iff.1 h
 exact List.drop_eq_getElem_cons hi
theorem Q7 (N : Nat) (a b : List Int) (hb : a.length < 1000000) : ∀ (n i : Nat), i ≤ a.length → i ≤ b.length → a.length - i < n →
  CV N a b (fun _ => AZ (decide ((a.length : Int) < (b.length : Int))) (some (-1)) (AZ (decide ((b.length : Int) < (a.length : Int))) (some 1) (some 0))) n (i : Int) = some (Hh (a.drop i) (b.drop i))
 | 0, i, _, _, h => by omega
 | n + 1, i, hi, hj, h => by
  unfold CV
  simp only [Bs]
  by_cases h1 : i < a.length
  ·rw [AL (p := (i : Int) < (a.length : Int)) (by omega)]
   have ha : a[i]? = some a[i] := by simp [h1]
   rw [GH ha]
   by_cases h2 : i < b.length
   ·have hbb : b[i]? = some b[i] := by simp [h2]
    rw [show decide ((i : Int) < (b.length : Int)) = true from decide_eq_true (by omega), AP, A1, A1, ha, hbb, GH hbb]
    simp only [Option.bind_some, Hh]
    rw [AM (by omega), Q7 N a b hb n (i + 1) (by omega) (by omega) (by omega)]
    by_cases h3 : a[i] < b[i]
    ·simp [h3]
    ·by_cases h4 : b[i] < a[i]
     ·simp [h3, h4]
     ·simp [h3, h4]
   ·rw [show decide ((i : Int) < (b.length : Int)) = false from decide_eq_false (by omega), Av, AH (by omega), AL (by omega), List.drop_eq_nil_of_le (by omega : b.length ≤ i)]
    simp [Hh]
  ·rw [AH (p := (i : Int) < (a.length : Int)) (by omega), Av, List.drop_eq_nil_of_le (by omega : a.length ≤ i)]
   by_cases h2 : a.length < b.length
   ·rw [AL (by omega)]
    have hbb : b[i]? = some b[i] := by simp [show i < b.length from by omega]
    rw [GH hbb]; simp [Hh]
   ·rw [AH (by omega), AH (by omega), List.drop_eq_nil_of_le (by omega : b.length ≤ i)]
    simp [Hh]
theorem MC {N : Nat} {a b : List Int} (h : a.length < N) (hN : N ≤ 1000000) : CY N a b = some (Hh a b) := by
 have := Q7 N a b (by omega) N 0 (by omega) (by omega) (by omega)
 simpa [CY] using this
end Go.Lift

/- MixCompare: the order on mixes. -/
namespace Go.Lift
theorem Nz : ∀ a : List Int, Hh a a = 0
 | [] => rfl
 | a :: as1 => by simp [Hh, Nz as1]
theorem L7 : ∀ a b : List Int, Hh a b = 0 → a = b
 | [], [], _ => rfl
 | [], _ :: _, h => by simp [Hh] at h
 | _ :: _, [], h => by simp [Hh] at h
 | a :: as1, b :: bs, h => by
  unfold Hh at h
  split at h
  ·omega
  ·split at h
   ·omega
   ·rw [L7 as1 bs h, show a = b from by omega]
def U8 : List Int → Int
 | [] => 0
 | x :: xs => if x = 0 then U8 xs else x
theorem Wv (N : Nat) (a : List Int) (hb : a.length < 1000000) (hw : KA IT a) : ∀ (n i : Nat), i ≤ a.length → a.length - i < n →
  Cx N a (fun v => some v) n (a.take i, (i : Int)) = some a
 | 0, i, _, h => by omega
 | n + 1, i, hi, h => by
  unfold Cx
  by_cases h1 : i < a.length
  ·have ha : a[i]? = some a[i] := by simp [h1]
   rw [AL (by simpa using h1)]
   simp only
   rw [A1, ha]
   have hr : IntKind.wrap .i64 a[i] = a[i] := by
    have := hw a[i] (List.getElem_mem h1)
    unfold IT at this
    have h2 : 0 ≤ a[i] ∧ a[i] ≤ 255 := by simpa [Lit.wf, IntKind.min, IntKind.max, IntKind.signed, IntKind.bits] using this
    exact Cr (by omega) (by omega)
   simp only [Option.bind_some, hr]
   have hlen : (a.take i).length + ([a[i]] : List Int).length ≤ Dv := by
    simp [Dv]; omega
   rw [show D8 ((a.take i).length + ([a[i]] : List Int).length ≤ Dv) = some () from by unfold D8; rw [if_pos hlen]]
   simp only [Option.bind_some]
   rw [AM (by omega), show a.take i ++ [a[i]] = a.take (i + 1) from by rw [List.take_add_one, ha]; rfl]
   exact Wv N a hb hw n (i + 1) (by omega) (by omega)
  ·rw [AH (by simpa using h1)]
   simp only
   rw [List.take_of_length_le (by omega)]
theorem LH {N : Nat} {a : List Int} (h : a.length < N) (hN : N ≤ 1000000) (hw : KA IT a) : CW N a = some a := by
 have := Wv N a (by omega) hw N 0 (by omega) (by omega)
 simpa [CW] using this
def X7 (a : Ah) : Prop := a.fBase.length ≤ 8 ∧ a.fNext.length ≤ 8 ∧ a.fHeld.length ≤ 14
def Qr (a b : Ah) : Int := U8 [Hh a.fBase b.fBase, Hh a.fNext b.fNext, Hh a.fHeld b.fHeld]
theorem NT (a : Ah) : Qr a a = 0 := by unfold Qr; simp [Nz, U8]
end Go.Lift

/- The law MixCompare in plain words. -/
namespace Go.Lift
end Go.Lift

/- Search loops in plain words; the two tests of a problem give the same answer. -/
namespace Go.Lift
def Df {α R : Type} (f : Nat → α → Option R) : Nat → List α → Option R
 | _, [] => none
 | i, x :: xs => match f i x with
  | some r => some r
  | none => Df f (i + 1) xs
theorem FB {α R : Type} (f : Nat → α → Option R) (i : Nat) (x : α) (xs : List α) : Df f i (x :: xs) = match f i x with
  | some r => some r
  | none => Df f (i + 1) xs := rfl
def BD {R : Type} (a : Option R) (b : Option R) : Option R := match a with
 | some r => some r
 | none => b
theorem Cl {α R : Type} (L : Nat → Int → Option R) (xs : List α) (j : Option R) (f : Nat → α → Option R)
  (hs : ∀ (n i : Nat) (x : α), xs[i]? = some x → L (n + 1) (i : Int) = BD (f i x) (L n ((i + 1 : Nat) : Int))) (he : ∀ n : Nat, L (n + 1) (xs.length : Int) = j) :
  ∀ n i : Nat, i ≤ xs.length → xs.length - i < n → L n (i : Int) = BD (Df f i (xs.drop i)) j
 | 0, i, _, h => by omega
 | n + 1, i, hi, h => by
  by_cases h1 : i < xs.length
  ·have hx : xs[i]? = some xs[i] := by simp [h1]
   rw [hs n i _ hx, GH hx, Cl L xs j f hs he n (i + 1) (by omega) (by omega)]
   rw [FB]
   cases f i xs[i] <;> rfl
  ·have : i = xs.length := by omega
   subst this
   rw [he n, List.drop_eq_nil_of_le (Nat.le_refl _)]
   rfl
theorem NR (N : Nat) (k n : Int) : DG N k n = some (decide (0 ≤ k) && decide (k < n)) := by
 unfold DG
 simp only [Bs]
 by_cases h : 0 ≤ k
 ·rw [AL h]; simp [h]
 ·rw [AH h]; simp [h]
theorem Lh (N : Nat) (t : AF) : A6 N t = some (t.fKind == 3 || t.fKind == 4) := by
 unfold A6
 simp only [Bs]
 cases h : t.fKind == 3 <;> simp
def sq (l : List (List Bool)) (n m : Int) : Bool := decide ((l.length : Int) = n) && l.all fun r => decide ((r.length : Int) = m)
theorem Ml {α : Type} (p : α → Bool) {R : Type} (r : Nat → R) : ∀ (i : Nat) (xs : List α), (Df (fun i x => if p x then none else some (r i)) i xs).isNone = xs.all p
 | i, [] => rfl
 | i, x :: xs => by
  unfold Df
  cases h : p x <;> simp [h, Ml p r (i + 1) xs]
theorem NX (N : Nat) (l : List (List Bool)) (n m : Int) (h : n < (N : Int)) (hN : N ≤ 1000000) : Da N l n m = some (sq l n m) := by
 unfold Da sq
 by_cases h1 : (l.length : Int) = n
 ·subst h1
  simp only [bne_self_eq_false, Av, decide_true, Bool.true_and]
  have := Cl (Ci N l (l.length : Int) m (fun _ => some true)) l (some true) (fun _ r => if decide ((r.length : Int) = m) then none else some false)
   (fun n i x hx => by
    have hi := (List.getElem?_eq_some_iff.1 hx).1
    rw [Ci, AL (by omega), A1, hx]
    simp only [Option.bind_some]
    rw [AM (by omega)]
    by_cases h2 : (x.length : Int) = m
    ·simp [h2, BD]
    ·have : ((x.length : Int) != m) = true := by simpa using h2
     simp [h2, this, BD])
   (fun n => by rw [Ci, AH (by omega)]) N 0 (by omega) (by omega)
  simp only [Int.ofNat_zero, List.drop_zero] at this
  rw [this]
  have h3 := Ml (fun r : List Bool => decide ((r.length : Int) = m)) (fun _ => false) 0 l
  cases hsc : Df (fun (_ : Nat) (r : List Bool) => if decide ((r.length : Int) = m) = true then none else some false) 0 l with
  | none => rw [hsc] at h3; rw [← h3]; rfl
  | some b =>
   rw [hsc] at h3
   rw [← h3]
   have : ∀ (i : Nat) (xs : List (List Bool)) b, Df (fun (_ : Nat) (r : List Bool) => if decide ((r.length : Int) = m) = true then none else some false) i xs = some b → b = false := by
    intro i xs
    induction xs generalizing i with
    | nil => intro b hb; cases hb
    | cons x xs ih =>
     intro b hb
     unfold Df at hb
     split at hb
     ·rename_i r hr; cases hb; split at hr <;> simp at hr; exact hr
     ·exact ih _ b hb
   rw [this 0 l b hsc]; rfl
 ·have : ((l.length : Int) != n) = true := by simpa using h1
  simp [this, h1]
end Go.Lift

/- The tests of a table and of a problem: both implementations give one answer. -/
namespace Go.Lift
theorem NW (N : Nat) (l : List (List Bool)) (n m : Int) (h : n < (N : Int)) (hN : N ≤ 1000000) : EA N l n m = some (sq l n m) := by
 unfold EA sq
 simp only [Bs]
 by_cases h1 : (l.length : Int) = n
 ·subst h1
  simp only [beq_self_eq_true, AP, decide_true, Bool.true_and]
  have := Cl (Bm N l (fun x => DA N x m) (fun _ => some (-1))) l (some (-1)) (fun i r => if decide ((r.length : Int) = m) then none else some (i : Int))
   (fun n i x hx => by
    have hi := (List.getElem?_eq_some_iff.1 hx).1
    rw [Bm, AL (by omega), A1, hx]
    simp only [Option.bind_some, DA]
    rw [AM (by omega)]
    by_cases h2 : (x.length : Int) = m
    ·simp [h2, BD]
    ·have : ((x.length : Int) != m) = true := by simpa using h2
     simp [h2, this, BD])
   (fun n => by rw [Bm, AH (by omega)]) N 0 (by omega) (by omega)
  simp only [Int.ofNat_zero, List.drop_zero] at this
  unfold CJ C6
  rw [this]
  have h3 := Ml (fun r : List Bool => decide ((r.length : Int) = m)) (fun i : Nat => (i : Int)) 0 l
  cases hsc : Df (fun (i : Nat) (r : List Bool) => if decide ((r.length : Int) = m) = true then none else some (i : Int)) 0 l with
  | none => rw [hsc] at h3; rw [← h3]; rfl
  | some b =>
   rw [hsc] at h3
   rw [← h3]
   have : ∀ (i : Nat) (xs : List (List Bool)) b, Df (fun (i : Nat) (r : List Bool) => if decide ((r.length : Int) = m) = true then none else some (i : Int)) i xs = some b → 0 ≤ b := by
    intro i xs
    induction xs generalizing i with
    | nil => intro b hb; cases hb
    | cons x xs ih =>
     intro b hb
     rw [FB] at hb
     split at hb
     ·rename_i r hr
      cases hb
      split at hr
      ·cases hr
      ·cases hr; omega
     ·exact ih _ b hb
   have := this 0 l b hsc
   simp [BD, this]
 ·have : ((l.length : Int) == n) = false := by simpa using h1
  simp [this, h1]
end Go.Lift

/- The test of a table: both implementations give one answer. -/
namespace Go.Lift
def HR (l : List (List Bool)) : Option Int := Df (fun i row => if row.getD i false then none else some 1) 0 l
theorem O2 {row : List Bool} {i : Nat} (h : i < row.length) : B0 row (i : Int) = some (row.getD i false) := by
 rw [A1, List.getD_eq_getElem?_getD]; simp [h]
theorem T3 (N : Nat) (t : AF) (h : t.fRewrite.length < N) (hN : N ≤ 1000000) (hsq : ∀ row, row ∈ t.fRewrite → row.length = t.fRewrite.length) (j : Option Int) :
  BV N t (fun _ => j) N 0 = BD (HR t.fRewrite) j := by
 have := Cl (BV N t (fun _ => j)) t.fRewrite j (fun i row => if row.getD i false then none else some 1)
  (fun n i x hx => by
   have hi := (List.getElem?_eq_some_iff.1 hx).1
   have hl := hsq x (List.mem_of_getElem? hx)
   rw [BV, AL (by omega), A1, hx]
   simp only [Option.bind_some]
   rw [O2 (by omega), AM (by omega)]
   simp only [Option.bind_some]
   cases x.getD i false <;> rfl)
  (fun n => by rw [BV, AH (by omega)]) N 0 (by omega) (by omega)
 simpa [HR] using this
theorem N3 (N : Nat) (t : AF) (h : t.fRewrite.length < N) (hN : N ≤ 1000000) (hsq : ∀ row, row ∈ t.fRewrite → row.length = t.fRewrite.length) (j : Option Int) :
  CT N t (fun _ => j) N 0 = BD (HR t.fRewrite) j := by
 have := Cl (CT N t (fun _ => j)) t.fRewrite j (fun i row => if row.getD i false then none else some 1)
  (fun n i x hx => by
   have hi := (List.getElem?_eq_some_iff.1 hx).1
   have hl := hsq x (List.mem_of_getElem? hx)
   rw [CT, AL (by omega), A1, hx]
   simp only [Option.bind_some]
   rw [O2 (by omega), AM (by omega)]
   simp only [Option.bind_some]
   cases x.getD i false <;> rfl)
  (fun n => by rw [CT, AH (by omega)]) N 0 (by omega) (by omega)
 simpa [HR] using this
theorem L2 {l : List (List Bool)} {n m : Int} (h : sq l n m = true) : (l.length : Int) = n ∧ ∀ row, row ∈ l → (row.length : Int) = m := by
 unfold sq at h
 simp only [Bool.and_eq_true, decide_eq_true_eq, List.all_eq_true] at h
 exact h
def DI (p : Ae) (t : AF) : Int :=
 if t.fKind < 1 ∨ 4 < t.fKind ∨ (t.fAware = true ∧ (t.fKind = 3 ∨ t.fKind = 4)) then 1
 else if t.fFrom < 0 ∨ (p.fVersions.length : Int) ≤ t.fFrom ∨ t.fTo < 0 ∨ (p.fVersions.length : Int) ≤ t.fTo then 4
 else
  let f := p.fVersions.getD t.fFrom.toNat 0
  let g := p.fVersions.getD t.fTo.toNat 0
  if sq t.fOK f g = false then 6
  else if t.fKind = 4 then (if sq t.fRewrite f f = false then 6 else (HR t.fRewrite).getD 0)
  else if t.fRewrite.length = 0 then 0 else 6
theorem Ej {α : Type} {xs : List α} {i : Int} {d : α} (h0 : 0 ≤ i) (h1 : i < (xs.length : Int)) : B0 xs i = some (xs.getD i.toNat d) := by
 obtain ⟨k, rfl⟩ := Int.eq_ofNat_of_zero_le h0
 rw [A1, List.getD_eq_getElem?_getD, Int.toNat_natCast]
 simp [show k < xs.length from by omega]
theorem Tk {t : AF} (A B : Option Int) (hk : ¬ (t.fAware = true ∧ (t.fKind = 3 ∨ t.fKind = 4))) : AZ t.fAware (AZ (t.fKind == 3 || t.fKind == 4) A B) B = B := by
 cases ha : t.fAware
 ·rfl
 ·have : (t.fKind == 3 || t.fKind == 4) = false := by
   rw [Bool.or_eq_false_iff]
   constructor
   ·simp only [beq_eq_false_iff_ne]; intro h; exact hk ⟨ha, .inl h⟩
   ·simp only [beq_eq_false_iff_ne]; intro h; exact hk ⟨ha, .inr h⟩
  rw [this]; rfl
theorem I2 {p : Ae} {i : Int} (hv : ∀ v, v ∈ p.fVersions → 1 ≤ v ∧ v ≤ 6) (h0 : 0 ≤ i) (h1 : i < (p.fVersions.length : Int)) : 1 ≤ p.fVersions.getD i.toNat 0 ∧ p.fVersions.getD i.toNat 0 ≤ 6 := by
 refine hv _ ?_
 rw [List.getD_eq_getElem?_getD, List.getElem?_eq_getElem (by omega)]
 exact List.getElem_mem _
theorem RO (N : Nat) (p : Ae) (t : AF) (hN : N ≤ 1000000) (h6 : 7 ≤ N) (hv : ∀ v, v ∈ p.fVersions → 1 ≤ v ∧ v ≤ 6) : D0 N p t = some (DI p t) := by
 unfold D0 DI
 simp only [Bs, Lh, Option.bind_some]
 by_cases k1 : t.fKind < 1
 ·simp [k1]
 by_cases k2 : 4 < t.fKind
 ·simp [k1, k2]
 rw [AH k1, AH k2]
 by_cases hk : t.fAware = true ∧ (t.fKind = 3 ∨ t.fKind = 4)
 ·obtain ⟨ha, k | k⟩ := hk <;> simp [ha, k]
 rw [Av, Tk _ _ hk, if_neg (fun h => h.elim k1 fun h => h.elim k2 hk)]
 by_cases f1 : t.fFrom < 0
 ·simp [f1]
 by_cases f2 : (p.fVersions.length : Int) ≤ t.fFrom
 ·simp [f1, f2]
 by_cases f3 : t.fTo < 0
 ·simp [f1, f2, f3]
 by_cases f4 : (p.fVersions.length : Int) ≤ t.fTo
 ·simp [f1, f2, f3, f4]
 rw [AH f1, AH f2, AH f3, if_neg (fun h => h.elim f1 fun h => h.elim f2 fun h => h.elim f3 f4)]
 have hf := I2 hv (i := t.fFrom) (by omega) (by omega)
 rw [decide_eq_false f4, Av, Ej (d := 0) (by omega : 0 ≤ t.fFrom) (by omega), Ej (d := 0) (by omega : 0 ≤ t.fTo) (by omega)]
 simp only [Option.bind_some]
 generalize p.fVersions.getD t.fFrom.toNat 0 = f at *
 generalize p.fVersions.getD t.fTo.toNat 0 = g at *
 rw [NX N t.fOK f g (by omega) hN, NX N t.fRewrite f f (by omega) hN]
 simp only [Option.bind_some]
 cases hq : sq t.fOK f g
 ·rfl
 simp only [Bool.not_true, Av]
 by_cases k4 : t.fKind = 4
 ·have : (t.fKind != 4) = false := by simp [k4]
  rw [this, Av]
  simp only [k4, if_true]
  cases hr : sq t.fRewrite f f
  ·rfl
  ·have h7 := L2 hr
   simp only [Bool.not_true, Av]
   rw [T3 N t (by omega) hN (fun row hm => by have := h7.2 row hm; omega)]
   cases HR t.fRewrite <;> simp [BD]
 ·have : (t.fKind != 4) = true := by simpa using k4
  rw [this, AP]
  simp only [k4, if_false]
  by_cases hr : t.fRewrite.length = 0
  ·simp [hr]
  ·have : ((t.fRewrite.length : Int) != 0) = true := bne_iff_ne.2 (by omega)
   rw [this]; simp [hr]
theorem Tw (N : Nat) (k : Int) (a : Bool) : FP N k a = some (k == 1 || (k == 2 || ((k == 3 || k == 4) && !a))) := by
 unfold FP
 simp only [Bs]
 cases h1 : k == 1 <;> cases h2 : k == 2 <;> cases h3 : k == 3 <;> cases h4 : k == 4 <;> cases a <;> rfl
theorem M3 (N : Nat) (p : Ae) (t : AF) (hN : N ≤ 1000000) (h6 : 7 ≤ N) (hv : ∀ v, v ∈ p.fVersions → 1 ≤ v ∧ v ≤ 6) : Fr N p t = some (DI p t) := by
 unfold Fr DI
 simp only [Bs, Tw, NR, Option.bind_some]
 by_cases hb : t.fKind < 1 ∨ 4 < t.fKind ∨ (t.fAware = true ∧ (t.fKind = 3 ∨ t.fKind = 4))
 ·have : (t.fKind == 1 || (t.fKind == 2 || ((t.fKind == 3 || t.fKind == 4) && !t.fAware))) = false := by
   rcases hb with h | h | ⟨ha, h | h⟩
   ·rw [beq_eq_false_iff_ne.2 (by omega : t.fKind ≠ 1), beq_eq_false_iff_ne.2 (by omega : t.fKind ≠ 2), beq_eq_false_iff_ne.2 (by omega : t.fKind ≠ 3), beq_eq_false_iff_ne.2 (by omega : t.fKind ≠ 4)]; rfl
   ·rw [beq_eq_false_iff_ne.2 (by omega : t.fKind ≠ 1), beq_eq_false_iff_ne.2 (by omega : t.fKind ≠ 2), beq_eq_false_iff_ne.2 (by omega : t.fKind ≠ 3), beq_eq_false_iff_ne.2 (by omega : t.fKind ≠ 4)]; rfl
   ·simp [ha, h]
   ·simp [ha, h]
  rw [this, if_pos hb]; rfl
 ·have : (t.fKind == 1 || (t.fKind == 2 || ((t.fKind == 3 || t.fKind == 4) && !t.fAware))) = true := by
   have hk : t.fKind = 1 ∨ t.fKind = 2 ∨ t.fKind = 3 ∨ t.fKind = 4 := by
    have h1 : ¬ t.fKind < 1 := fun h => hb (.inl h)
    have h2 : ¬ 4 < t.fKind := fun h => hb (.inr (.inl h))
    omega
   rcases hk with h | h | h | h
   ·simp [h]
   ·simp [h]
   ·cases ha : t.fAware
    ·simp [h]
    ·exact (hb (.inr (.inr ⟨ha, .inl h⟩))).elim
   ·cases ha : t.fAware
    ·simp [h]
    ·exact (hb (.inr (.inr ⟨ha, .inr h⟩))).elim
  rw [this, if_neg hb]
  simp only [Bool.not_true, Av]
  by_cases f1 : t.fFrom < 0
  ·simp [f1, show ¬ (0 ≤ t.fFrom) from by omega]
  by_cases f2 : (p.fVersions.length : Int) ≤ t.fFrom
  ·simp [f2, show ¬ (t.fFrom < (p.fVersions.length : Int)) from by omega]
  by_cases f3 : t.fTo < 0
  ·simp [f3, show 0 ≤ t.fFrom from by omega, show t.fFrom < (p.fVersions.length : Int) from by omega, show ¬ (0 ≤ t.fTo) from by omega]
  by_cases f4 : (p.fVersions.length : Int) ≤ t.fTo
  ·simp [f4, show 0 ≤ t.fFrom from by omega, show t.fFrom < (p.fVersions.length : Int) from by omega, show ¬ (t.fTo < (p.fVersions.length : Int)) from by omega]
  rw [if_neg (fun h => h.elim f1 fun h => h.elim f2 fun h => h.elim f3 f4)]
  have hf := I2 hv (i := t.fFrom) (by omega) (by omega)
  have hg := I2 hv (i := t.fTo) (by omega) (by omega)
  rw [decide_eq_true (by omega : 0 ≤ t.fFrom), decide_eq_true (by omega : t.fFrom < (p.fVersions.length : Int)), decide_eq_true (by omega : 0 ≤ t.fTo), decide_eq_true (by omega : t.fTo < (p.fVersions.length : Int)), Ej (d := 0) (by omega : 0 ≤ t.fFrom) (by omega), Ej (d := 0) (by omega : 0 ≤ t.fTo) (by omega)]
  simp only [Bool.and_self, Bool.not_true, Av, Option.bind_some]
  generalize p.fVersions.getD t.fFrom.toNat 0 = f at *
  generalize p.fVersions.getD t.fTo.toNat 0 = g at *
  rw [NW N t.fOK f g (by omega) hN, NW N t.fRewrite f f (by omega) hN]
  simp only [Option.bind_some]
  cases hq : sq t.fOK f g
  ·rfl
  simp only [Bool.not_true, Av]
  by_cases k4 : t.fKind = 4
  ·simp only [k4, beq_self_eq_true, AP, if_true]
   cases hr : sq t.fRewrite f f
   ·rfl
   ·have h7 := L2 hr
    simp only [Bool.not_true, Av]
    rw [N3 N t (by omega) hN (fun row hm => by have := h7.2 row hm; omega)]
    cases HR t.fRewrite <;> simp [BD]
  ·have : (t.fKind == 4) = false := beq_eq_false_iff_ne.2 k4
   rw [this, Av]
   simp only [k4, if_false, Bool.not_false, AP]
   by_cases hr : t.fRewrite.length = 0
   ·rw [N3 N t (by omega) hN (fun row hm => by rw [List.eq_nil_of_length_eq_zero hr] at hm; cases hm), List.eq_nil_of_length_eq_zero hr]
    simp [HR, Df, BD]
   ·rw [decide_eq_true (by omega : 0 < (t.fRewrite.length : Int))]
    simp [hr]
end Go.Lift

/- The test of a problem: both implementations give one answer. -/
namespace Go.Lift
def Fi (p : Ae) (i : Nat) (v : Int) : Option Int :=
 if v < 1 ∨ 6 < v ∨ p.fNow.getD i 0 < 0 ∨ v ≤ p.fNow.getD i 0 ∨ p.fTarget.getD i 0 < 0 ∨ v ≤ p.fTarget.getD i 0 then some 7 else none
def K0 (p : Ae) (_ : Nat) (t : AF) : Option Int := if DI p t = 0 then none else some (DI p t)
def Dh (p : Ae) : Int :=
 if 6 < p.fVersions.length ∨ 12 < p.fTables.length then 3
 else if p.fNow.length ≠ p.fVersions.length ∨ p.fTarget.length ≠ p.fVersions.length then 6
 else ((BD (Df (Fi p) 0 p.fVersions) (Df (K0 p) 0 p.fTables)).getD 0)
theorem Eo {α R : Type} {f : Nat → α → Option R} : ∀ {i : Nat} {xs : List α}, Df f i xs = none → ∀ j x, xs[j]? = some x → f (i + j) x = none
 | _, [], _, j, x, hx => by simp at hx
 | i, y :: ys, h, j, x, hx => by
  rw [FB] at h
  split at h
  ·cases h
  ·rename_i h0
   cases j with
   | zero => simp at hx; subst hx; exact h0
   | succ j =>
    have := Eo h j x (by simpa using hx)
    rwa [show i + 1 + j = i + (j + 1) from by omega] at this
theorem MA {p : Ae} (h : Df (Fi p) 0 p.fVersions = none) : ∀ v, v ∈ p.fVersions → 1 ≤ v ∧ v ≤ 6 := by
 intro v hv
 obtain ⟨i, hi⟩ := List.mem_iff_getElem?.1 hv
 have := Eo h i v hi
 unfold Fi at this
 split at this
 ·cases this
 ·rename_i hn
  constructor
  ·exact Int.not_lt.1 fun h => hn (.inl h)
  ·exact Int.not_lt.1 fun h => hn (.inr (.inl h))
theorem CN {α : Type} {xs : List α} {i : Nat} {d : α} (h : i < xs.length) : B0 xs (i : Int) = some (xs.getD i d) := by
 rw [A1, List.getD_eq_getElem?_getD]; simp [h]
theorem Qf (N : Nat) (p : Ae) (hN : N ≤ 1000000) (h1 : p.fVersions.length < N) (h2 : p.fNow.length = p.fVersions.length) (h3 : p.fTarget.length = p.fVersions.length) (j : Option Int) :
  Bh N p (fun _ => j) N 0 = BD (Df (Fi p) 0 p.fVersions) j := by
 have := Cl (Bh N p (fun _ => j)) p.fVersions j (Fi p)
  (fun n i x hx => by
   have hi := (List.getElem?_eq_some_iff.1 hx).1
   rw [Bh, AL (by omega), A1, hx]
   simp only [Option.bind_some, Bs]
   rw [CN (d := 0) (by omega), CN (d := 0) (by omega), AM (by omega)]
   simp only [Option.bind_some]
   unfold Fi
   generalize p.fNow.getD i 0 = a
   generalize p.fTarget.getD i 0 = b
   by_cases k1 : x < 1 <;> by_cases k2 : 6 < x <;> by_cases k3 : a < 0 <;> by_cases k4 : x ≤ a <;> by_cases k5 : b < 0 <;> by_cases k6 : x ≤ b <;> simp [k1, k2, k3, k4, k5, k6, BD])
  (fun n => by rw [Bh, AH (by omega)]) N 0 (by omega) (by omega)
 simpa using this
theorem OL (N : Nat) (p : Ae) (hN : N ≤ 1000000) (h1 : p.fVersions.length < N) (h2 : p.fNow.length = p.fVersions.length) (h3 : p.fTarget.length = p.fVersions.length) (j : Option Int) :
  BR N p (fun _ => j) N 0 = BD (Df (Fi p) 0 p.fVersions) j := by
 have := Cl (BR N p (fun _ => j)) p.fVersions j (Fi p)
  (fun n i x hx => by
   have hi := (List.getElem?_eq_some_iff.1 hx).1
   rw [BR, AL (by omega), A1, hx]
   simp only [Option.bind_some, Bs, NR]
   rw [CN (d := 0) (by omega), CN (d := 0) (by omega), AM (by omega)]
   simp only [Option.bind_some]
   unfold Fi
   generalize p.fNow.getD i 0 = a
   generalize p.fTarget.getD i 0 = b
   have e1 : decide (0 ≤ a) = !decide (a < 0) := by rw [← decide_not]; congr 1; simp
   have e2 : decide (a < x) = !decide (x ≤ a) := by rw [← decide_not]; congr 1; simp
   have e3 : decide (0 ≤ b) = !decide (b < 0) := by rw [← decide_not]; congr 1; simp
   have e4 : decide (b < x) = !decide (x ≤ b) := by rw [← decide_not]; congr 1; simp
   rw [e1, e2, e3, e4]
   by_cases k1 : x < 1 <;> by_cases k2 : 6 < x <;> by_cases k3 : a < 0 <;> by_cases k4 : x ≤ a <;> by_cases k5 : b < 0 <;> by_cases k6 : x ≤ b <;> simp [k1, k2, k3, k4, k5, k6, BD])
  (fun n => by rw [BR, AH (by omega)]) N 0 (by omega) (by omega)
 simpa using this
theorem R1 (N : Nat) (p : Ae) (hN : N ≤ 1000000) (h6 : 7 ≤ N) (h1 : p.fTables.length < N) (hv : ∀ v, v ∈ p.fVersions → 1 ≤ v ∧ v ≤ 6) (j : Option Int) :
  Bb N p (fun _ => j) N 0 = BD (Df (K0 p) 0 p.fTables) j := by
 have := Cl (Bb N p (fun _ => j)) p.fTables j (K0 p)
  (fun n i x hx => by
   have hi := (List.getElem?_eq_some_iff.1 hx).1
   rw [Bb, AL (by omega), A1, hx]
   simp only [Option.bind_some]
   rw [RO N p x hN h6 hv, AM (by omega)]
   simp only [Option.bind_some]
   unfold K0
   by_cases k : DI p x = 0
   ·simp [k, BD]
   ·rw [bne_iff_ne.2 k, if_neg k]; rfl)
  (fun n => by rw [Bb, AH (by omega)]) N 0 (by omega) (by omega)
 simpa using this
theorem Ql (N : Nat) (p : Ae) (hN : N ≤ 1000000) (h6 : 7 ≤ N) (h1 : p.fTables.length < N) (hv : ∀ v, v ∈ p.fVersions → 1 ≤ v ∧ v ≤ 6) (j : Option Int) :
  BN N p (fun _ => j) N 0 = BD (Df (K0 p) 0 p.fTables) j := by
 have := Cl (BN N p (fun _ => j)) p.fTables j (K0 p)
  (fun n i x hx => by
   have hi := (List.getElem?_eq_some_iff.1 hx).1
   rw [BN, AL (by omega), A1, hx]
   simp only [Option.bind_some]
   rw [M3 N p x hN h6 hv, AM (by omega)]
   simp only [Option.bind_some]
   unfold K0
   by_cases k : DI p x = 0
   ·simp [k, BD]
   ·rw [bne_iff_ne.2 k, if_neg k]; rfl)
  (fun n => by rw [BN, AH (by omega)]) N 0 (by omega) (by omega)
 simpa using this
theorem Qh (N : Nat) (p : Ae) (hN : N ≤ 1000000) (h : 20 ≤ N) : CK N p = some (Dh p) := by
 unfold CK Dh
 simp only [Bs]
 by_cases k1 : 6 < p.fVersions.length
 ·rw [AL (by omega)]; simp [k1]
 rw [AH (by omega)]
 by_cases k2 : 12 < p.fTables.length
 ·rw [decide_eq_true (by omega : (12 : Int) < (p.fTables.length : Int))]; simp [k2]
 rw [decide_eq_false (by omega : ¬ (12 : Int) < (p.fTables.length : Int)), Av, if_neg (by omega)]
 by_cases k3 : p.fNow.length = p.fVersions.length
 ·by_cases k4 : p.fTarget.length = p.fVersions.length
  ·rw [k3, k4]
   simp only [bne_self_eq_false, Av, ne_eq, not_true_eq_false, or_self, if_false]
   rw [Qf N p hN (by omega) k3 k4]
   cases hs : Df (Fi p) 0 p.fVersions with
   | some r => rfl
   | none =>
    simp only [BD]
    rw [R1 N p hN (by omega) (by omega) (MA hs)]
    cases Df (K0 p) 0 p.fTables <;> rfl
  ·have : ((p.fTarget.length : Int) != (p.fVersions.length : Int)) = true := bne_iff_ne.2 (by omega)
   rw [this, k3]; simp [k4]
 ·have : ((p.fNow.length : Int) != (p.fVersions.length : Int)) = true := bne_iff_ne.2 (by omega)
  rw [this]; simp [k3]
theorem Oa (N : Nat) (p : Ae) (hN : N ≤ 1000000) (h : 20 ≤ N) : Dc N p = some (Dh p) := by
 unfold Dc Dh
 simp only [Bs]
 by_cases k1 : 6 < p.fVersions.length
 ·rw [AL (by omega)]; simp [k1]
 rw [AH (by omega)]
 by_cases k2 : 12 < p.fTables.length
 ·rw [decide_eq_true (by omega : (12 : Int) < (p.fTables.length : Int))]; simp [k2]
 rw [decide_eq_false (by omega : ¬ (12 : Int) < (p.fTables.length : Int)), Av, if_neg (by omega)]
 by_cases k3 : p.fNow.length = p.fVersions.length
 ·by_cases k4 : p.fTarget.length = p.fVersions.length
  ·rw [k3, k4]
   simp only [bne_self_eq_false, Av, ne_eq, not_true_eq_false, or_self, if_false]
   rw [OL N p hN (by omega) k3 k4]
   cases hs : Df (Fi p) 0 p.fVersions with
   | some r => rfl
   | none =>
    simp only [BD]
    rw [Ql N p hN (by omega) (by omega) (MA hs)]
    cases Df (K0 p) 0 p.fTables <;> rfl
  ·have : ((p.fTarget.length : Int) != (p.fVersions.length : Int)) = true := bne_iff_ne.2 (by omega)
   rw [this, k3]; simp [k4]
 ·have : ((p.fNow.length : Int) != (p.fVersions.length : Int)) = true := bne_iff_ne.2 (by omega)
  rw [this]; simp [k3]
end Go.Lift

/- The test of a mix: both implementations give one answer. -/
namespace Go.Lift
theorem Hx {n : Int} (h : IT n) : 0 ≤ n ∧ n ≤ 255 := by
 unfold IT at h
 simpa [Lit.wf, IntKind.min, IntKind.max, IntKind.signed, IntKind.bits] using h
theorem Nq : ∀ k : Fin 256, CX .u8 0 (k.val : Int) = 0 := by decide +kernel
theorem Ns : ∀ k : Fin 256, CX .u8 (k.val : Int) 0 = (k.val : Int) := by decide +kernel
theorem Sf {n : Int} (h : IT n) : CX .u8 0 n = 0 := by
 have := Hx h
 obtain ⟨k, rfl⟩ := Int.eq_ofNat_of_zero_le this.1
 exact Nq ⟨k, by omega⟩
theorem Sw {n : Int} (h : IT n) : CX .u8 n 0 = n := by
 have := Hx h
 obtain ⟨k, rfl⟩ := Int.eq_ofNat_of_zero_le this.1
 exact Ns ⟨k, by omega⟩
theorem DR {α R : Type} {f : Nat → α → Option R} : ∀ {i : Nat} {xs : List α} {r : R}, Df f i xs = some r → ∃ j x, xs[j]? = some x ∧ f (i + j) x = some r
 | _, [], _, h => by cases h
 | i, y :: ys, r, h => by
  rw [FB] at h
  split at h
  ·rename_i r' h0
   cases h
   exact ⟨0, y, rfl, h0⟩
  ·obtain ⟨j, x, h1, h2⟩ := DR h
   exact ⟨j + 1, x, by simpa using h1, by rwa [show i + (j + 1) = i + 1 + j from by omega]⟩
structure Bc (p : Ae) : Prop where
 nv : p.fVersions.length ≤ 6
 nt : p.fTables.length ≤ 12
 now : p.fNow.length = p.fVersions.length
 tgt : p.fTarget.length = p.fVersions.length
 ver : ∀ v, v ∈ p.fVersions → 1 ≤ v ∧ v ≤ 6
 tab : ∀ t, t ∈ p.fTables → DI p t = 0
theorem Qy (l : List (List Bool)) : (HR l).getD 0 = 0 ∨ (HR l).getD 0 = 1 := by
 cases h : HR l with
 | none => exact .inl rfl
 | some r =>
  obtain ⟨j, x, _, h⟩ := DR h
  split at h
  ·cases h
  ·cases h; exact .inr rfl
theorem Or (p : Ae) (t : AF) : DI p t = 0 ∨ DI p t = 1 ∨ DI p t = 4 ∨ DI p t = 6 := by
 unfold DI
 split
 ·exact .inr (.inl rfl)
 split
 ·exact .inr (.inr (.inl rfl))
 simp only
 split
 ·exact .inr (.inr (.inr rfl))
 split
 ·split
  ·exact .inr (.inr (.inr rfl))
  ·rcases Qy t.fRewrite with h | h
   ·exact .inl h
   ·exact .inr (.inl h)
 ·split
  ·exact .inl rfl
  ·exact .inr (.inr (.inr rfl))
theorem Hg (p : Ae) : (Dh p = 0 ∧ Bc p) ∨ (Dh p = 1 ∨ Dh p = 3 ∨ Dh p = 4 ∨ Dh p = 6 ∨ Dh p = 7) := by
 unfold Dh
 split
 ·simp
 rename_i k1
 split
 ·simp
 rename_i k2
 cases hs : Df (Fi p) 0 p.fVersions with
 | some r =>
  obtain ⟨j, x, _, h⟩ := DR hs
  unfold Fi at h
  split at h
  ·cases h; simp [BD]
  ·cases h
 | none =>
  cases ht : Df (K0 p) 0 p.fTables with
  | some r =>
   obtain ⟨j, t, _, h⟩ := DR ht
   unfold K0 at h
   split at h
   ·cases h
   ·rename_i hne
    cases h
    simp only [BD, Option.getD_some]
    right
    rcases Or p t with h | h | h | h
    ·exact (hne h).elim
    ·exact .inl h
    ·exact .inr (.inr (.inl h))
    ·exact .inr (.inr (.inr (.inl h)))
  | none =>
   left
   refine ⟨rfl, by omega, by omega, by omega, by omega, MA hs, fun t hm => ?_⟩
   obtain ⟨j, hj⟩ := List.mem_iff_getElem?.1 hm
   have := Eo ht j t hj
   unfold K0 at this
   split at this
   ·assumption
   ·cases this
end Go.Lift

/- The test of a mix: both implementations give one answer. -/
namespace Go.Lift
def FH (m : Ah) (s : Nat) : Int :=
 if 0 ≤ m.fNext.getD s 0 then Lg .u8 (Dz .u8 1 (m.fBase.getD s 0)) (Dz .u8 1 (m.fNext.getD s 0)) else Dz .u8 1 (m.fBase.getD s 0)
def Kk (m : Ah) (i : Nat) (v : Int) : Option Int :=
 if m.fBase.getD i 0 < 0 ∨ v ≤ m.fBase.getD i 0 ∨ m.fNext.getD i 0 < -1 ∨ v ≤ m.fNext.getD i 0 then some 7
 else if m.fBase.getD i 0 = m.fNext.getD i 0 then some 1 else none
def BX (t : AF) : Bool := t.fKind == 3 || t.fKind == 4
def Uk (p : Ae) (t : AF) : Int := IntKind.wrap .u8 (Dz .u8 1 (p.fVersions.getD t.fFrom.toNat 0) - 1)
def Ia (p : Ae) (m : Ah) (i : Nat) (t : AF) : Option Int :=
 if BX t = true then (if CX .u8 (FH m t.fFrom.toNat) (m.fHeld.getD i 0) ≠ 0 ∨ CX .u8 (m.fHeld.getD i 0) (Uk p t) ≠ 0 then some 1 else none)
 else if m.fHeld.getD i 0 ≠ 0 then some 1 else none
def EL (p : Ae) (m : Ah) : Int :=
 if Dh p ≠ 0 then Dh p
 else if m.fBase.length ≠ p.fVersions.length ∨ m.fNext.length ≠ p.fVersions.length ∨ m.fHeld.length ≠ p.fTables.length then 6
 else (BD (Df (Kk m) 0 p.fVersions) (Df (Ia p m) 0 p.fTables)).getD 0
theorem Ij {p : Ae} {t : AF} (h : DI p t = 0) : 0 ≤ t.fFrom ∧ t.fFrom < (p.fVersions.length : Int) ∧ 0 ≤ t.fTo ∧ t.fTo < (p.fVersions.length : Int) := by
 unfold DI at h
 split at h
 ·cases h
 ·split at h
  ·cases h
  ·omega
theorem Kg (N : Nat) (m : Ah) (s : Int) (h0 : 0 ≤ s) (h1 : s < (m.fBase.length : Int)) (h2 : s < (m.fNext.length : Int)) (hb : 0 ≤ m.fBase.getD s.toNat 0) : Er N m s = some (FH m s.toNat) := by
 unfold Er FH
 rw [Ej (d := 0) h0 h1, Ej (d := 0) h0 h2]
 simp only [Option.bind_some, Bs]
 rw [show D8 (0 ≤ m.fBase.getD s.toNat 0) = some () from by unfold D8; rw [if_pos hb]]
 simp only [Option.bind_some]
 by_cases h : 0 ≤ m.fNext.getD s.toNat 0
 ·rw [AL h, if_pos h, show D8 (0 ≤ m.fNext.getD s.toNat 0) = some () from by unfold D8; rw [if_pos h]]; rfl
 ·rw [AH h, if_neg h]
theorem HA (N : Nat) (m : Ah) (s : Int) (h0 : 0 ≤ s) (h1 : s < (m.fBase.length : Int)) (h2 : s < (m.fNext.length : Int)) (hb : 0 ≤ m.fBase.getD s.toNat 0) : BB N m s = some (FH m s.toNat) := by
 unfold BB FH
 rw [Ej (d := 0) h0 h1, Ej (d := 0) h0 h2]
 simp only [Option.bind_some, Bs]
 rw [show D8 (0 ≤ m.fBase.getD s.toNat 0) = some () from by unfold D8; rw [if_pos hb]]
 simp only [Option.bind_some]
 by_cases h : 0 ≤ m.fNext.getD s.toNat 0
 ·rw [AL h, if_pos h, show D8 (0 ≤ m.fNext.getD s.toNat 0) = some () from by unfold D8; rw [if_pos h]]; rfl
 ·rw [AH h, if_neg h]
theorem Ot (N : Nat) (p : Ae) (m : Ah) (hN : N ≤ 1000000) (h1 : p.fVersions.length < N) (h2 : m.fBase.length = p.fVersions.length) (h3 : m.fNext.length = p.fVersions.length) (j : Option Int) :
  DH N p m (fun _ => j) N 0 = BD (Df (Kk m) 0 p.fVersions) j := by
 have := Cl (DH N p m (fun _ => j)) p.fVersions j (Kk m)
  (fun n i x hx => by
   have hi := (List.getElem?_eq_some_iff.1 hx).1
   rw [DH, AL (by omega), A1, hx]
   simp only [Option.bind_some, Bs]
   rw [CN (d := 0) (by omega), CN (d := 0) (by omega), AM (by omega)]
   simp only [Option.bind_some]
   unfold Kk
   generalize m.fBase.getD i 0 = a
   generalize m.fNext.getD i 0 = b
   by_cases k7 : a = b
   ·subst k7
    by_cases k3 : a < 0 <;> by_cases k4 : x ≤ a <;> by_cases k5 : a < -1 <;> simp [k3, k4, k5, BD]
   ·have k8 : (a == b) = false := beq_eq_false_iff_ne.2 k7
    by_cases k3 : a < 0 <;> by_cases k4 : x ≤ a <;> by_cases k5 : b < -1 <;> by_cases k6 : x ≤ b <;> simp [k3, k4, k5, k6, k7, k8, BD])
  (fun n => by rw [DH, AH (by omega)]) N 0 (by omega) (by omega)
 simpa using this
theorem OF (N : Nat) (p : Ae) (m : Ah) (hN : N ≤ 1000000) (h1 : p.fVersions.length < N) (h2 : m.fBase.length = p.fVersions.length) (h3 : m.fNext.length = p.fVersions.length) (j : Option Int) :
  B1 N p m (fun _ => j) N 0 = BD (Df (Kk m) 0 p.fVersions) j := by
 have := Cl (B1 N p m (fun _ => j)) p.fVersions j (Kk m)
  (fun n i x hx => by
   have hi := (List.getElem?_eq_some_iff.1 hx).1
   rw [B1, AL (by omega), show B0 p.fVersions (i : Int) = some x from by rw [A1, hx]]
   simp only [Option.bind_some, Bs]
   rw [CN (d := 0) (by omega), CN (d := 0) (by omega), AM (by omega)]
   simp only [Option.bind_some]
   unfold Kk
   generalize m.fBase.getD i 0 = a
   generalize m.fNext.getD i 0 = b
   by_cases k7 : a = b
   ·subst k7
    by_cases k3 : a < 0 <;> by_cases k4 : x ≤ a <;> by_cases k5 : a < -1 <;> simp [k3, k4, k5, BD]
   ·have k8 : (a == b) = false := beq_eq_false_iff_ne.2 k7
    by_cases k3 : a < 0 <;> by_cases k4 : x ≤ a <;> by_cases k5 : b < -1 <;> by_cases k6 : x ≤ b <;> simp [k3, k4, k5, k6, k7, k8, BD])
  (fun n => by rw [B1, AH (by omega)]) N 0 (by omega) (by omega)
 simpa using this
end Go.Lift

/- The test of a mix, the whole: both implementations give one answer. -/
namespace Go.Lift
structure MixServ (p : Ae) (m : Ah) : Prop where
 base : m.fBase.length = p.fVersions.length
 next : m.fNext.length = p.fVersions.length
 held : m.fHeld.length = p.fTables.length
 b0 : ∀ i, i < p.fVersions.length → 0 ≤ m.fBase.getD i 0 ∧ m.fBase.getD i 0 < p.fVersions.getD i 0
 n0 : ∀ i, i < p.fVersions.length → -1 ≤ m.fNext.getD i 0 ∧ m.fNext.getD i 0 < p.fVersions.getD i 0
 ne : ∀ i, i < p.fVersions.length → m.fBase.getD i 0 ≠ m.fNext.getD i 0
theorem ON {p : Ae} {m : Ah} (h2 : m.fBase.length = p.fVersions.length) (h3 : m.fNext.length = p.fVersions.length) (h4 : m.fHeld.length = p.fTables.length) (h : Df (Kk m) 0 p.fVersions = none) : MixServ p m := by
 have key : ∀ i, i < p.fVersions.length → ¬ (m.fBase.getD i 0 < 0 ∨ p.fVersions.getD i 0 ≤ m.fBase.getD i 0 ∨ m.fNext.getD i 0 < -1 ∨ p.fVersions.getD i 0 ≤ m.fNext.getD i 0) ∧ ¬ m.fBase.getD i 0 = m.fNext.getD i 0 := by
  intro i hi
  have hx : p.fVersions[i]? = some (p.fVersions.getD i 0) := by rw [List.getD_eq_getElem?_getD]; simp [hi]
  have := Eo h i _ hx
  rw [Nat.zero_add] at this
  unfold Kk at this
  split at this
  ·cases this
  ·split at this
   ·cases this
   ·rename_i k1 k2; exact ⟨k1, k2⟩
 exact ⟨h2, h3, h4, fun i hi => by have := (key i hi).1; omega, fun i hi => by have := (key i hi).1; omega, fun i hi => (key i hi).2⟩
theorem PH {m : Ah} (hw : KA IT m.fHeld) {i : Nat} (h : i < m.fHeld.length) : IT (m.fHeld.getD i 0) := by
 refine hw _ ?_
 rw [List.getD_eq_getElem?_getD, List.getElem?_eq_getElem h]
 exact List.getElem_mem _
theorem JX (N : Nat) (t : AF) : EJ N t = some (BX t) := by
 unfold EJ BX
 simp only [Bs]
 cases h : t.fKind == 3 <;> simp
theorem Fd (N : Nat) (t : AF) : A6 N t = some (BX t) := Lh N t
theorem Qb (N : Nat) (p : Ae) (m : Ah) (hN : N ≤ 1000000) (h1 : p.fTables.length < N) (hp : Bc p) (hm : MixServ p m) (hw : KA IT m.fHeld) (j : Option Int) :
  Dp N p m (fun _ => j) N 0 = BD (Df (Ia p m) 0 p.fTables) j := by
 have := Cl (Dp N p m (fun _ => j)) p.fTables j (Ia p m)
  (fun n i x hx => by
   have hi := (List.getElem?_eq_some_iff.1 hx).1
   have hin := Ij (hp.tab x (List.mem_of_getElem? hx))
   have hheld := PH hw (show i < m.fHeld.length from by rw [hm.held]; exact hi)
   have hv := I2 hp.ver hin.1 hin.2.1
   rw [Dp, AL (by omega), A1, hx]
   simp only [Option.bind_some, Bs, JX]
   rw [Kg N m x.fFrom hin.1 (by rw [hm.base]; exact hin.2.1) (by rw [hm.next]; exact hin.2.1) (hm.b0 _ (by omega)).1, Ej (d := 0) hin.1 hin.2.1, CN (d := 0) (show i < m.fHeld.length from by rw [hm.held]; exact hi), AM (by omega)]
   simp only [Option.bind_some]
   rw [show D8 (0 ≤ p.fVersions.getD x.fFrom.toNat 0) = some () from by unfold D8; rw [if_pos (by omega)]]
   simp only [Option.bind_some]
   unfold Ia Uk
   rw [Sf hheld, Sw hheld]
   generalize CX .u8 (FH m x.fFrom.toNat) (m.fHeld.getD i 0) = A
   generalize CX .u8 (m.fHeld.getD i 0) (IntKind.wrap .u8 (Dz .u8 1 (p.fVersions.getD x.fFrom.toNat 0) - 1)) = B
   generalize m.fHeld.getD i 0 = H
   cases BX x
   ·simp only [Av, bne_self_eq_false]
    by_cases k : H = 0
    ·simp [k, BD]
    ·have : (H != 0) = true := bne_iff_ne.2 k
     simp [k, this, BD]
   ·simp only [AP]
    by_cases k : A = 0
    ·by_cases k2 : B = 0
     ·simp [k, k2, BD]
     ·have : (B != 0) = true := bne_iff_ne.2 k2
      simp [k, k2, this, BD]
    ·have : (A != 0) = true := bne_iff_ne.2 k
     simp [k, this, BD])
  (fun n => by rw [Dp, AH (by omega)]) N 0 (by omega) (by omega)
 simpa using this
theorem QI (N : Nat) (p : Ae) (m : Ah) (hN : N ≤ 1000000) (h1 : p.fTables.length < N) (hp : Bc p) (hm : MixServ p m) (j : Option Int) :
  BU N p m (fun _ => j) N 0 = BD (Df (Ia p m) 0 p.fTables) j := by
 have := Cl (BU N p m (fun _ => j)) p.fTables j (Ia p m)
  (fun n i x hx => by
   have hi := (List.getElem?_eq_some_iff.1 hx).1
   have hin := Ij (hp.tab x (List.mem_of_getElem? hx))
   have hv := I2 hp.ver hin.1 hin.2.1
   rw [BU, AL (by omega), A1, hx]
   simp only [Option.bind_some, Bs, Fd]
   rw [HA N m x.fFrom hin.1 (by rw [hm.base]; exact hin.2.1) (by rw [hm.next]; exact hin.2.1) (hm.b0 _ (by omega)).1, Ej (d := 0) hin.1 hin.2.1, CN (d := 0) (show i < m.fHeld.length from by rw [hm.held]; exact hi), AM (by omega)]
   simp only [Option.bind_some]
   rw [show D8 (0 ≤ p.fVersions.getD x.fFrom.toNat 0) = some () from by unfold D8; rw [if_pos (by omega)]]
   simp only [Option.bind_some]
   unfold Ia Uk
   generalize CX .u8 (FH m x.fFrom.toNat) (m.fHeld.getD i 0) = A
   generalize CX .u8 (m.fHeld.getD i 0) (IntKind.wrap .u8 (Dz .u8 1 (p.fVersions.getD x.fFrom.toNat 0) - 1)) = B
   generalize m.fHeld.getD i 0 = H
   cases BX x
   ·simp only [Bool.not_false, AP, Av]
    by_cases k : H = 0
    ·simp [k, BD]
    ·have : (H != 0) = true := bne_iff_ne.2 k
     simp [k, this, BD]
   ·simp only [Bool.not_true, Av, AP]
    by_cases k : A = 0
    ·by_cases k2 : B = 0
     ·simp [k, k2, BD]
     ·have : (B != 0) = true := bne_iff_ne.2 k2
      simp [k, k2, this, BD]
    ·have : (A != 0) = true := bne_iff_ne.2 k
     by_cases k2 : B = 0
     ·simp [k, k2, this, BD]
     ·have h5 : (B != 0) = true := bne_iff_ne.2 k2
      simp [k, h5, BD])
  (fun n => by rw [BU, AH (by omega)]) N 0 (by omega) (by omega)
 simpa using this
theorem Ho (N : Nat) (p : Ae) (m : Ah) (hN : N ≤ 1000000) (h : 20 ≤ N) (hw : KA IT m.fHeld) : EC N p m = some (EL p m) := by
 unfold EC EL
 rw [Oa N p hN h]
 simp only [Option.bind_some, Bs]
 by_cases k0 : Dh p = 0
 ·have hp : Bc p := by
   rcases Hg p with h | h
   ·exact h.2
   ·omega
  have hnv := hp.nv
  have hnt := hp.nt
  rw [k0]
  simp only [bne_self_eq_false, Av, ne_eq, not_true_eq_false, if_false]
  by_cases k1 : m.fBase.length = p.fVersions.length
  ·by_cases k2 : m.fNext.length = p.fVersions.length
   ·by_cases k3 : m.fHeld.length = p.fTables.length
    ·rw [k1, k2, k3]
     simp only [bne_self_eq_false, Av, not_true_eq_false, or_self, if_false]
     rw [Ot N p m hN (by omega) k1 k2]
     cases hs : Df (Kk m) 0 p.fVersions with
     | some r => rfl
     | none =>
      simp only [BD]
      rw [Qb N p m hN (by omega) hp (ON k1 k2 k3 hs) hw]
      cases Df (Ia p m) 0 p.fTables <;> rfl
    ·have : ((m.fHeld.length : Int) != (p.fTables.length : Int)) = true := bne_iff_ne.2 (by omega)
     rw [this, k1, k2]; simp [k3]
   ·have : ((m.fNext.length : Int) != (p.fVersions.length : Int)) = true := bne_iff_ne.2 (by omega)
    rw [this, k1]; simp [k2]
  ·have : ((m.fBase.length : Int) != (p.fVersions.length : Int)) = true := bne_iff_ne.2 (by omega)
   rw [this]; simp [k1]
 ·rw [bne_iff_ne.2 k0]; simp [k0]
theorem Gt (N : Nat) (p : Ae) (m : Ah) (hN : N ≤ 1000000) (h : 20 ≤ N) : Cu N p m = some (EL p m) := by
 unfold Cu EL
 rw [Qh N p hN h]
 simp only [Option.bind_some, Bs]
 by_cases k0 : Dh p = 0
 ·have hp : Bc p := by
   rcases Hg p with h | h
   ·exact h.2
   ·omega
  have hnv := hp.nv
  have hnt := hp.nt
  rw [k0]
  simp only [bne_self_eq_false, Av, ne_eq, not_true_eq_false, if_false]
  by_cases k1 : m.fBase.length = p.fVersions.length
  ·by_cases k2 : m.fNext.length = p.fVersions.length
   ·by_cases k3 : m.fHeld.length = p.fTables.length
    ·rw [k1, k2, k3]
     simp only [bne_self_eq_false, Av, not_true_eq_false, or_self, if_false]
     rw [OF N p m hN (by omega) k1 k2]
     cases hs : Df (Kk m) 0 p.fVersions with
     | some r => rfl
     | none =>
      simp only [BD]
      rw [QI N p m hN (by omega) hp (ON k1 k2 k3 hs)]
      cases Df (Ia p m) 0 p.fTables <;> rfl
    ·have : ((m.fHeld.length : Int) != (p.fTables.length : Int)) = true := bne_iff_ne.2 (by omega)
     rw [this, k1, k2]; simp [k3]
   ·have : ((m.fNext.length : Int) != (p.fVersions.length : Int)) = true := bne_iff_ne.2 (by omega)
    rw [this, k1]; simp [k2]
  ·have : ((m.fBase.length : Int) != (p.fVersions.length : Int)) = true := bne_iff_ne.2 (by omega)
   rw [this]; simp [k1]
 ·rw [bne_iff_ne.2 k0]; simp [k0]
end Go.Lift

/- Loops of the shallow programs as folds along lists. -/
namespace Go.Lift
@[simp] theorem Bf {α β : Type} (k : α) (f : α → β) : Bs k f = f k := rfl
@[simp] theorem Tc {p : Prop} [Decidable p] (h : p) : D8 p = some () := by unfold D8; rw [if_pos h]
theorem Az {β : Type} {p : Prop} [Decidable p] (h : p) (f : Unit → Option β) : (D8 p).bind f = f () := by rw [Tc h]; rfl
def CF {α β : Type} (g : Nat → α → List β) : Nat → List α → List β
 | _, [] => []
 | i, x :: xs => g i x ++ CF g (i + 1) xs
def G9 {α A : Type} (f : Nat → α → A → A) : Nat → List α → A → A
 | _, [], a => a
 | i, x :: xs, a => G9 f (i + 1) xs (f i x a)
theorem Le {α β : Type} (g : Nat → α → List β) : ∀ (i : Nat) (xs ys : List α), CF g i (xs ++ ys) = CF g i xs ++ CF g (i + xs.length) ys
 | i, [], ys => by simp [CF]
 | i, x :: xs, ys => by
  rw [List.cons_append, CF, CF, Le g (i + 1) xs ys, List.append_assoc, List.length_cons, Nat.add_assoc, Nat.add_comm 1]
theorem F5 {α β : Type} {g : Nat → α → List β} {y : β} : ∀ {i : Nat} {xs : List α}, y ∈ CF g i xs ↔ ∃ j x, xs[j]? = some x ∧ y ∈ g (i + j) x
 | _, [] => by simp [CF]
 | i, x :: xs => by
  rw [CF, List.mem_append, F5]
  constructor
  ·rintro (h | ⟨j, z, hz, h⟩)
   ·exact ⟨0, x, rfl, h⟩
   ·exact ⟨j + 1, z, by simpa using hz, by rwa [show i + (j + 1) = i + 1 + j from by omega]⟩
  ·rintro ⟨j, z, hz, h⟩
   cases j with
   | zero => simp at hz; subst hz; exact .inl h
   | succ j => exact .inr ⟨j, z, by simpa using hz, by rwa [show i + 1 + j = i + (j + 1) from by omega]⟩
theorem Fg {α β : Type} {g : Nat → α → List β} {c : Nat} : ∀ {i : Nat} {xs : List α}, (∀ j x, xs[j]? = some x → (g (i + j) x).length ≤ c) → (CF g i xs).length ≤ c * xs.length
 | _, [], _ => by simp [CF]
 | i, x :: xs, h => by
  have h1 := h 0 x rfl
  have h2 := Fg (g := g) (c := c) (i := i + 1) (xs := xs) fun j y hy => by
   have := h (j + 1) y (by simpa using hy)
   rwa [show i + (j + 1) = i + 1 + j from by omega] at this
  rw [CF, List.length_append, List.length_cons, Nat.mul_add]
  simp only [Nat.add_zero] at h1
  omega
theorem Hp {α A S R : Type} (L : Nat → S → Option R) (mk : A → Int → S) (xs : List α) (j : A → Option R) (f : Nat → α → A → A) (I : Nat → A → Prop)
  (hs : ∀ (n i : Nat) (x : α) (a : A), xs[i]? = some x → I i a → L (n + 1) (mk a (i : Int)) = L n (mk (f i x a) ((i + 1 : Nat) : Int)) ∧ I (i + 1) (f i x a))
  (he : ∀ (n : Nat) (a : A), I xs.length a → L (n + 1) (mk a (xs.length : Int)) = j a) :
  ∀ (n i : Nat) (a : A), i ≤ xs.length → xs.length - i < n → I i a → L n (mk a (i : Int)) = j (G9 f i (xs.drop i) a) ∧ I xs.length (G9 f i (xs.drop i) a)
 | 0, i, _, _, h, _ => by omega
 | n + 1, i, a, hi, h, ha => by
  by_cases h1 : i < xs.length
  ·have hx : xs[i]? = some xs[i] := by simp [h1]
   obtain ⟨e1, e2⟩ := hs n i _ a hx ha
   rw [e1, GH hx, G9]
   exact Hp L mk xs j f I hs he n (i + 1) _ (by omega) (by omega) e2
  ·have : i = xs.length := by omega
   subst this
   rw [List.drop_eq_nil_of_le (Nat.le_refl _), G9]
   exact ⟨he n a ha, ha⟩
theorem Mf {α β : Type} (g : Nat → α → List β) : ∀ (i : Nat) (xs : List α) (acc : List β), G9 (fun i x a => a ++ g i x) i xs acc = acc ++ CF g i xs
 | _, [], acc => by simp [G9, CF]
 | i, x :: xs, acc => by rw [G9, Mf g (i + 1) xs, CF, List.append_assoc]
theorem FE {α β S R : Type} (L : Nat → S → Option R) (mk : List β → Int → S) (xs : List α) (j : List β → Option R) (g : Nat → α → List β) (c B : Nat)
  (hg : ∀ i x, xs[i]? = some x → (g i x).length ≤ c)
  (hs : ∀ (n i : Nat) (x : α) (a : List β), xs[i]? = some x → a.length + (g i x).length ≤ B → L (n + 1) (mk a (i : Int)) = L n (mk (a ++ g i x) ((i + 1 : Nat) : Int)))
  (he : ∀ (n : Nat) (a : List β), L (n + 1) (mk a (xs.length : Int)) = j a) (n : Nat) (a : List β) (hn : xs.length < n) (ha : a.length + c * xs.length ≤ B) :
  L n (mk a 0) = j (a ++ CF g 0 xs) := by
 have := Hp L mk xs j (fun i x a => a ++ g i x) (fun i b => i ≤ xs.length ∧ b.length ≤ a.length + c * i)
  (fun n i x b hx hb => by
   have h1 := hg i x hx
   have hi := (List.getElem?_eq_some_iff.1 hx).1
   have h2 : c * (i + 1) ≤ c * xs.length := Nat.mul_le_mul_left c hi
   have h3 : c * (i + 1) = c * i + c := Nat.mul_succ c i
   refine ⟨hs n i x b hx (by have := hb.2; omega), hi, ?_⟩
   rw [List.length_append]
   have := hb.2
   omega)
  (fun n b _ => he n b) n 0 a (Nat.zero_le _) (by omega) ⟨Nat.zero_le _, by omega⟩
 have h2 := this.1
 rw [List.drop_zero, Mf] at h2
 exact h2
end Go.Lift

/- Sets as bits, the mixes that are valid, and the conflicts of a mix: both implementations give one answer. -/
namespace Go.Lift
def CP (s : Int) (v : Nat) : Bool := s.toNat.testBit v
def GI (m : Ah) (s v : Nat) : Bool := decide (m.fBase.getD s 0 = (v : Int)) || decide (m.fNext.getD s 0 = (v : Int))
theorem TL : ∀ (s : Fin 256) (v : Fin 8), EZ .u8 (E0 .u8 (s.val : Int) (v.val : Int)) 1 = if CP (s.val : Int) v.val then 1 else 0 := by decide +kernel
theorem Ol {s : Int} {v : Nat} (h0 : 0 ≤ s) (h1 : s ≤ 255) (hv : v < 8) : EZ .u8 (E0 .u8 s (v : Int)) 1 = if CP s v then 1 else 0 := by
 obtain ⟨k, rfl⟩ := Int.eq_ofNat_of_zero_le h0
 exact TL ⟨k, by omega⟩ ⟨v, hv⟩
theorem PX {s : Int} {v : Nat} (h0 : 0 ≤ s) (h1 : s ≤ 255) (hv : v < 8) : (EZ .u8 (E0 .u8 s (v : Int)) 1 == 0) = !CP s v := by
 rw [Ol h0 h1 hv]; cases CP s v <;> rfl
theorem PF {s : Int} {v : Nat} (h0 : 0 ≤ s) (h1 : s ≤ 255) (hv : v < 8) : (EZ .u8 (E0 .u8 s (v : Int)) 1 == 1) = CP s v := by
 rw [Ol h0 h1 hv]; cases CP s v <;> rfl
theorem JL {s : Int} {v : Nat} (h1 : s ≤ 255) (hv : 8 ≤ v) : CP s v = false := by
 unfold CP
 apply Nat.testBit_lt_two_pow
 have : (2 : Nat) ^ 8 ≤ 2 ^ v := Nat.pow_le_pow_right (by omega) hv
 omega
theorem L3 : ∀ (b : Fin 8) (v : Fin 8), CP (Dz .u8 1 (b.val : Int)) v.val = decide (b.val = v.val) ∧ 0 ≤ Dz .u8 1 (b.val : Int) ∧ Dz .u8 1 (b.val : Int) ≤ 255 := by decide +kernel
theorem TK : ∀ (b n : Fin 8) (v : Fin 8), CP (Lg .u8 (Dz .u8 1 (b.val : Int)) (Dz .u8 1 (n.val : Int))) v.val = (decide (b.val = v.val) || decide (n.val = v.val))
  ∧ 0 ≤ Lg .u8 (Dz .u8 1 (b.val : Int)) (Dz .u8 1 (n.val : Int)) ∧ Lg .u8 (Dz .u8 1 (b.val : Int)) (Dz .u8 1 (n.val : Int)) ≤ 255 := by decide +kernel
theorem P1 {m : Ah} {s : Nat} (hb0 : 0 ≤ m.fBase.getD s 0) (hb1 : m.fBase.getD s 0 < 8) (hn1 : m.fNext.getD s 0 < 8) :
  (∀ v, CP (FH m s) v = GI m s v) ∧ 0 ≤ FH m s ∧ FH m s ≤ 255 := by
 unfold FH GI
 obtain ⟨b, hb⟩ := Int.eq_ofNat_of_zero_le hb0
 rw [hb] at hb1 ⊢
 by_cases h : 0 ≤ m.fNext.getD s 0
 ·obtain ⟨n, hn⟩ := Int.eq_ofNat_of_zero_le h
  rw [hn] at hn1 ⊢
  rw [if_pos (by omega)]
  have h1 := TK ⟨b, by omega⟩ ⟨n, by omega⟩
  refine ⟨fun v => ?_, (h1 0).2⟩
  by_cases hv : v < 8
  ·rw [(h1 ⟨v, hv⟩).1]
   simp only [Int.ofNat_inj]
  ·rw [JL (h1 0).2.2 (by omega)]
   simp; omega
 ·rw [if_neg h]
  have h1 := L3 ⟨b, by omega⟩
  refine ⟨fun v => ?_, (h1 0).2⟩
  have h3 : decide (m.fNext.getD s 0 = (v : Int)) = false := decide_eq_false (by omega)
  rw [h3, Bool.or_false]
  by_cases hv : v < 8
  ·rw [(h1 ⟨v, hv⟩).1]
   simp only [Int.ofNat_inj]
  ·rw [JL (h1 0).2.2 (by omega)]
   simp; omega
theorem QZ {a : Nat} (h : a < 256) : (BitVec.ofInt 8 (a : Int)).toNat = a := by
 simp; omega
theorem My {a b : Int} (ha : 0 ≤ a ∧ a ≤ 255) (hb : 0 ≤ b ∧ b ≤ 255) : CX .u8 a b = 0 ↔ ∀ v, CP a v = true → CP b v = true := by
 obtain ⟨a, rfl⟩ := Int.eq_ofNat_of_zero_le ha.1
 obtain ⟨b, rfl⟩ := Int.eq_ofNat_of_zero_le hb.1
 have hA := QZ (a := a) (by omega)
 have hB := QZ (a := b) (by omega)
 unfold CX CP
 simp only [IntKind.bits, Int.toNat_natCast]
 have hx : ∀ x : BitVec 8, IntKind.wrap .u8 (x.toNat : Int) = (x.toNat : Int) := by
  intro x
  have := x.isLt
  simp [IntKind.wrap, IntKind.signed, IntKind.bits]
  omega
 rw [hx]
 constructor
 ·intro h v hv
  have h0 : (BitVec.ofInt 8 (a : Int) &&& ~~~BitVec.ofInt 8 (b : Int)) = (BitVec.ofNat 8 0) := by
   apply BitVec.eq_of_toNat_eq
   simp only [BitVec.toNat_ofNat, Nat.zero_mod]
   exact Int.ofNat_inj.1 h
  by_cases hv8 : v < 8
  ·have h1 : (BitVec.ofInt 8 (a : Int) &&& ~~~BitVec.ofInt 8 (b : Int)).getLsbD v = false := by rw [h0]; simp
   rw [BitVec.getLsbD_and, BitVec.getLsbD_not] at h1
   have e1 : (BitVec.ofInt 8 (a : Int)).getLsbD v = a.testBit v := by unfold BitVec.getLsbD; rw [hA]
   have e2 : (BitVec.ofInt 8 (b : Int)).getLsbD v = b.testBit v := by unfold BitVec.getLsbD; rw [hB]
   rw [e1, e2, hv] at h1
   simpa [hv8] using h1
  ·have := JL (s := (a : Int)) (v := v) (by omega) (by omega)
   unfold CP at this
   rw [Int.toNat_natCast, hv] at this
   cases this
 ·intro h
  have h0 : (BitVec.ofInt 8 (a : Int) &&& ~~~BitVec.ofInt 8 (b : Int)) = (BitVec.ofNat 8 0) := by
   apply BitVec.eq_of_getLsbD_eq
   intro i hi
   rw [BitVec.getLsbD_and, BitVec.getLsbD_not]
   have e1 : (BitVec.ofInt 8 (a : Int)).getLsbD i = a.testBit i := by unfold BitVec.getLsbD; rw [hA]
   have e2 : (BitVec.ofInt 8 (b : Int)).getLsbD i = b.testBit i := by unfold BitVec.getLsbD; rw [hB]
   rw [e1, e2]
   have := h i
   cases h3 : a.testBit i
   ·simp
   ·rw [this h3]; simp
  have h2 : ∀ x : BitVec 8, x = (BitVec.ofNat 8 0) → (x.toNat : Int) = 0 := fun x hx => by rw [hx]; rfl
  exact h2 _ h0
theorem Ts : ∀ n : Fin 9, (∀ v : Fin 8, CP (IntKind.wrap .u8 (Dz .u8 1 (n.val : Int) - 1)) v.val = decide (v.val < n.val)) ∧ 0 ≤ IntKind.wrap .u8 (Dz .u8 1 (n.val : Int) - 1) ∧ IntKind.wrap .u8 (Dz .u8 1 (n.val : Int) - 1) ≤ 255 := by decide +kernel
theorem QQ {n : Int} (h0 : 0 ≤ n) (h1 : n ≤ 8) : (∀ v, CP (IntKind.wrap .u8 (Dz .u8 1 n - 1)) v = decide ((v : Int) < n)) ∧ 0 ≤ IntKind.wrap .u8 (Dz .u8 1 n - 1) ∧ IntKind.wrap .u8 (Dz .u8 1 n - 1) ≤ 255 := by
 obtain ⟨n, rfl⟩ := Int.eq_ofNat_of_zero_le h0
 have h := Ts ⟨n, by omega⟩
 refine ⟨fun v => ?_, h.2⟩
 by_cases hv : v < 8
 ·rw [h.1 ⟨v, hv⟩]; simp
 ·rw [JL h.2.2 (by omega)]
  symm; apply decide_eq_false; omega
structure BO (p : Ae) (m : Ah) : Prop extends MixServ p m where
 range : ∀ i, i < p.fTables.length → 0 ≤ m.fHeld.getD i 0 ∧ m.fHeld.getD i 0 ≤ 255
 low : ∀ i t, p.fTables[i]? = some t → BX t = true → ∀ v, GI m t.fFrom.toNat v = true → CP (m.fHeld.getD i 0) v = true
 high : ∀ i t, p.fTables[i]? = some t → BX t = true → ∀ v, CP (m.fHeld.getD i 0) v = true → (v : Int) < p.fVersions.getD t.fFrom.toNat 0
 none : ∀ i t, p.fTables[i]? = some t → BX t = false → m.fHeld.getD i 0 = 0
theorem GD {p : Ae} (hp : Bc p) {i : Nat} (hi : i < p.fVersions.length) : 1 ≤ p.fVersions.getD i 0 ∧ p.fVersions.getD i 0 ≤ 6 := by
 have := I2 (i := (i : Int)) hp.ver (by omega) (by omega)
 simpa using this
theorem G5 {p : Ae} {m : Ah} (hp : Bc p) (hm : MixServ p m) {s : Nat} (hs : s < p.fVersions.length) :
  (∀ v, CP (FH m s) v = GI m s v) ∧ 0 ≤ FH m s ∧ FH m s ≤ 255 := by
 have h1 := hm.b0 s hs
 have h2 := hm.n0 s hs
 have h3 := GD hp hs
 exact P1 h1.1 (by omega) (by omega)
theorem Pi {p : Ae} {m : Ah} (hp : Bc p) (hm : MixServ p m) {i : Nat} {t : AF} (ht : p.fTables[i]? = some t) (hr : 0 ≤ m.fHeld.getD i 0 ∧ m.fHeld.getD i 0 ≤ 255) :
  Ia p m i t = none ↔ ((BX t = true → (∀ v, GI m t.fFrom.toNat v = true → CP (m.fHeld.getD i 0) v = true) ∧ (∀ v, CP (m.fHeld.getD i 0) v = true → (v : Int) < p.fVersions.getD t.fFrom.toNat 0)) ∧ (BX t = false → m.fHeld.getD i 0 = 0)) := by
 have hin := Ij (hp.tab t (List.mem_of_getElem? ht))
 have hrun := G5 hp hm (s := t.fFrom.toNat) (by omega)
 have hver := GD hp (i := t.fFrom.toNat) (by omega)
 have hall := QQ (n := p.fVersions.getD t.fFrom.toNat 0) (by omega) (by omega)
 unfold Ia Uk
 have e1 := My hrun.2 hr
 have e2 := My hr hall.2
 cases hst : BX t
 ·simp
 ·simp only [if_true, true_implies, Bool.true_eq_false, false_implies, and_true, ite_eq_right_iff, reduceCtorEq, imp_false, not_or, Decidable.not_not]
  rw [e1, e2]
  simp only [hrun.1, hall.1, decide_eq_true_eq]
theorem Ip {p : Ae} {m : Ah} (hw : KA IT m.fHeld) (h : EL p m = 0) : Bc p ∧ BO p m := by
 unfold EL at h
 split at h
 ·rename_i k; exact (k h).elim
 ·rename_i k0
  have hp : Bc p := by
   rcases Hg p with h | h
   ·exact h.2
   ·omega
  split at h
  ·cases h
  ·rename_i k1
   have b1 : m.fBase.length = p.fVersions.length := Decidable.not_not.1 fun h => k1 (.inl h)
   have b2 : m.fNext.length = p.fVersions.length := Decidable.not_not.1 fun h => k1 (.inr (.inl h))
   have b3 : m.fHeld.length = p.fTables.length := Decidable.not_not.1 fun h => k1 (.inr (.inr h))
   cases hs : Df (Kk m) 0 p.fVersions with
   | some r =>
    obtain ⟨j, x, _, he⟩ := DR hs
    rw [hs] at h
    unfold Kk at he
    simp only [BD, Option.getD_some] at h
    split at he
    ·cases he; cases h
    ·split at he
     ·cases he; cases h
     ·cases he
   | none =>
    have hm := ON b1 b2 b3 hs
    rw [hs] at h
    simp only [BD] at h
    cases ht : Df (Ia p m) 0 p.fTables with
    | some r =>
     obtain ⟨j, x, _, he⟩ := DR ht
     rw [ht] at h
     simp only [Option.getD_some] at h
     subst h
     unfold Ia at he
     split at he
     ·split at he <;> cases he
     ·split at he <;> cases he
    | none =>
     have hr : ∀ i, i < p.fTables.length → 0 ≤ m.fHeld.getD i 0 ∧ m.fHeld.getD i 0 ≤ 255 := fun i hi => Hx (PH hw (by omega))
     have key : ∀ i t, p.fTables[i]? = some t → _ := fun i t hi => (Pi hp hm hi (hr i (List.getElem?_eq_some_iff.1 hi).1)).1 (by have := Eo ht i t hi; rwa [Nat.zero_add] at this)
     exact ⟨hp, hm, hr, fun i t hi hst => ((key i t hi).1 hst).1, fun i t hi hst => ((key i t hi).1 hst).2, fun i t hi hst => (key i t hi).2 hst⟩
theorem EE {α R : Type} {f : Nat → α → Option R} : ∀ {i : Nat} {xs : List α}, (∀ j x, xs[j]? = some x → f (i + j) x = none) → Df f i xs = none
 | _, [], _ => rfl
 | i, y :: ys, h => by
  rw [FB, show f i y = none from h 0 y rfl]
  exact EE fun j x hx => by
   have := h (j + 1) x (by simpa using hx)
   rwa [show i + (j + 1) = i + 1 + j from by omega] at this
theorem Oz {p : Ae} (hp : Bc p) (hr : ∀ i, i < p.fVersions.length → 0 ≤ p.fNow.getD i 0 ∧ p.fNow.getD i 0 < p.fVersions.getD i 0 ∧ 0 ≤ p.fTarget.getD i 0 ∧ p.fTarget.getD i 0 < p.fVersions.getD i 0) : Dh p = 0 := by
 have := hp.nv
 have := hp.nt
 have := hp.now
 have := hp.tgt
 unfold Dh
 rw [if_neg (by omega), if_neg (by omega)]
 have h1 : Df (Fi p) 0 p.fVersions = none := EE fun j x hx => by
  have hj := (List.getElem?_eq_some_iff.1 hx).1
  have h1 := hr j hj
  have h2 := GD hp hj
  have e : p.fVersions.getD j 0 = x := by rw [List.getD_eq_getElem?_getD, hx]; rfl
  rw [e] at h1 h2
  unfold Fi
  rw [Nat.zero_add, if_neg (by omega)]
 have h2 : Df (K0 p) 0 p.fTables = none := EE fun j x hx => by
  unfold K0
  rw [if_pos (hp.tab x (List.mem_of_getElem? hx))]
 rw [h1, h2]; rfl
theorem Eg {p : Ae} (h : Dh p = 0) : Bc p ∧ ∀ i, i < p.fVersions.length → 0 ≤ p.fNow.getD i 0 ∧ p.fNow.getD i 0 < p.fVersions.getD i 0 ∧ 0 ≤ p.fTarget.getD i 0 ∧ p.fTarget.getD i 0 < p.fVersions.getD i 0 := by
 have hp : Bc p := by
  rcases Hg p with h | h
  ·exact h.2
  ·omega
 refine ⟨hp, fun i hi => ?_⟩
 have h1 := hp.nv
 have h2 := hp.nt
 have h3 := hp.now
 have h4 := hp.tgt
 unfold Dh at h
 rw [if_neg (by omega), if_neg (by omega)] at h
 cases hs : Df (Fi p) 0 p.fVersions with
 | some r =>
  obtain ⟨j, x, _, he⟩ := DR hs
  rw [hs] at h
  unfold Fi at he
  split at he
  ·cases he; cases h
  ·cases he
 | none =>
  have hx : p.fVersions[i]? = some (p.fVersions.getD i 0) := by rw [List.getD_eq_getElem?_getD]; simp [hi]
  have := Eo hs i _ hx
  rw [Nat.zero_add] at this
  unfold Fi at this
  split at this
  ·cases this
  ·rename_i hn; omega
theorem Gs {p : Ae} {m : Ah} (hv : Dh p = 0) (hm : BO p m) : EL p m = 0 := by
 obtain ⟨hp, _⟩ := Eg hv
 unfold EL
 rw [hv, if_neg (by simp), if_neg (by have := hm.base; have := hm.next; have := hm.held; omega)]
 have h1 : Df (Kk m) 0 p.fVersions = none := EE fun j x hx => by
  have hj := (List.getElem?_eq_some_iff.1 hx).1
  have e : p.fVersions.getD j 0 = x := by rw [List.getD_eq_getElem?_getD, hx]; rfl
  have h1 := hm.b0 j hj
  have h2 := hm.n0 j hj
  have h3 := hm.ne j hj
  rw [e] at h1 h2
  unfold Kk
  rw [Nat.zero_add, if_neg (by omega), if_neg h3]
 have h2 : Df (Ia p m) 0 p.fTables = none := EE fun j x hx => by
  have hj := (List.getElem?_eq_some_iff.1 hx).1
  rw [Nat.zero_add]
  exact (Pi hp hm.toMixServ hx (hm.range j hj)).2 ⟨fun hst => ⟨hm.low j x hx hst, hm.high j x hx hst⟩, fun hst => hm.none j x hx hst⟩
 rw [h1, h2]; rfl
end Go.Lift

/- The conflicts of a mix: both implementations give one answer. -/
namespace Go.Lift
def Me {α : Type} (g : Nat → α → Bool) : Nat → List α → Bool
 | _, [] => false
 | i, x :: xs => g i x || Me g (i + 1) xs
theorem Ki {α β : Type} (g : Nat → α → List β) (h : Nat → α → Bool) : ∀ (i : Nat) (xs : List α) (a : List β) (b : Bool),
  G9 (fun i x (s : List β × Bool) => (s.1 ++ g i x, s.2 || h i x)) i xs (a, b) = (a ++ CF g i xs, b || Me h i xs)
 | _, [], a, b => by simp [G9, CF, Me]
 | i, x :: xs, a, b => by rw [G9, Ki g h, CF, Me, List.append_assoc, Bool.or_assoc]
def gC (i u : Nat) (m : Ah) (t : AF) (v : Nat) (ok : Bool) : List An :=
 if GI m t.fTo.toNat v && (!ok && !t.fAware) then [⟨(i : Int), (u : Int), (v : Int)⟩] else []
def hC (m : Ah) (t : AF) (v : Nat) (ok : Bool) : Bool := GI m t.fTo.toNat v && ok
def IC (i : Nat) (m : Ah) (t : AF) (u : Nat) (row : List Bool) : List An :=
 CF (gC i u m t) 0 row ++ if t.fAware && !Me (hC m t) 0 row then [⟨(i : Int), (u : Int), -1⟩] else []
def Rw (m : Ah) (i : Nat) (t : AF) (u : Nat) : Bool := if BX t then CP (m.fHeld.getD i 0) u else GI m t.fFrom.toNat u
def IM (m : Ah) (i : Nat) (t : AF) : List An := CF (fun u row => if Rw m i t u then IC i m t u row else []) 0 t.fOK
def F3 (p : Ae) (m : Ah) : List An := CF (IM m) 0 p.fTables
structure MV (p : Ae) (t : AF) : Prop where
 kind : 1 ≤ t.fKind ∧ t.fKind ≤ 4
 aware : t.fAware = true → BX t = false
 from0 : 0 ≤ t.fFrom ∧ t.fFrom < (p.fVersions.length : Int)
 to0 : 0 ≤ t.fTo ∧ t.fTo < (p.fVersions.length : Int)
 okL : (t.fOK.length : Int) = p.fVersions.getD t.fFrom.toNat 0
 okR : ∀ row, row ∈ t.fOK → (row.length : Int) = p.fVersions.getD t.fTo.toNat 0
 reL : t.fKind = 4 → (t.fRewrite.length : Int) = p.fVersions.getD t.fFrom.toNat 0
 reR : ∀ row, row ∈ t.fRewrite → (row.length : Int) = p.fVersions.getD t.fFrom.toNat 0
 reD : t.fKind = 4 → HR t.fRewrite = none
 reN : t.fKind ≠ 4 → t.fRewrite = []
theorem JD {p : Ae} {t : AF} (h : DI p t = 0) : MV p t := by
 unfold DI at h
 split at h
 ·cases h
 rename_i h1
 split at h
 ·cases h
 rename_i h2
 simp only at h
 split at h
 ·cases h
 rename_i h3
 have h3 : sq t.fOK (p.fVersions.getD t.fFrom.toNat 0) (p.fVersions.getD t.fTo.toNat 0) = true := by simpa using h3
 have h3 := L2 h3
 have ha : t.fAware = true → BX t = false := by
  intro ha
  unfold BX
  rw [Bool.or_eq_false_iff, beq_eq_false_iff_ne, beq_eq_false_iff_ne]
  exact ⟨fun hk => h1 (.inr (.inr ⟨ha, .inl hk⟩)), fun hk => h1 (.inr (.inr ⟨ha, .inr hk⟩))⟩
 split at h
 ·rename_i h4
  split at h
  ·cases h
  rename_i h5
  have h5 : sq t.fRewrite (p.fVersions.getD t.fFrom.toNat 0) (p.fVersions.getD t.fFrom.toNat 0) = true := by simpa using h5
  have h5 := L2 h5
  refine ⟨by omega, ha, by omega, by omega, h3.1, h3.2, fun _ => h5.1, h5.2, fun _ => ?_, fun h => (h h4).elim⟩
  cases hd : HR t.fRewrite with
  | none => rfl
  | some r =>
   obtain ⟨j, x, _, hx⟩ := DR hd
   rw [hd] at h
   split at hx
   ·cases hx
   ·cases hx; cases h
 ·rename_i h4
  split at h
  ·rename_i h5
   have h5 := List.eq_nil_of_length_eq_zero h5
   refine ⟨by omega, ha, by omega, by omega, h3.1, h3.2, fun h => (h4 h).elim, fun row hr => ?_, fun h => (h4 h).elim, fun _ => h5⟩
   rw [h5] at hr; cases hr
  ·cases h
theorem JN {R : Type} (b : Bool) (acc : List An) (x : An) (j : List An → Option R) (h : acc.length + 1 ≤ Dv) :
  AZ b ((D8 (acc.length + ([x] : List An).length ≤ Dv)).bind fun _ => j (acc ++ [x])) (j acc) = j (acc ++ if b then [x] else []) := by
 cases b
 ·simp
 ·rw [AP, Az (by simpa using h)]; rfl
theorem Px (N : Nat) (m : Ah) (t : AF) (i u : Nat) (row : List Bool) (R : Int) (b1 b2 acc : List An) (j : List An × Bool → Option (List An))
  (hN : N ≤ 1000000) (h8 : 8 ≤ N) (hrow : row.length ≤ 6) (hacc : acc.length + 6 ≤ Dv) (hR0 : 0 ≤ R) (hR1 : R ≤ 255) (hRb : ∀ v, CP R v = GI m t.fTo.toNat v) :
  BS N (b1, (i : Int)) t R (b2, (u : Int)) row j N (acc, false, 0) = j (acc ++ CF (gC i u m t) 0 row, Me (hC m t) 0 row) := by
 have := Hp (A := List An × Bool) (BS N (b1, (i : Int)) t R (b2, (u : Int)) row j) (fun a k => (a.1, a.2, k)) row (fun a => j a) (fun v ok s => (s.1 ++ gC i u m t v ok, s.2 || hC m t v ok))
  (fun v a => v ≤ row.length ∧ a.1.length ≤ acc.length + v)
  (fun n v ok a hx ha => by
   have hv := (List.getElem?_eq_some_iff.1 hx).1
   obtain ⟨c, f⟩ := a
   simp only at ha
   refine ⟨?_, by omega, ?_⟩
   ·rw [BS]
    simp only [Bf]
    rw [AL (by omega), A1, hx]
    simp only [Option.bind_some]
    rw [Az (by omega), PX hR0 hR1 (by omega), hRb, AM (by omega), JN _ _ _ (fun l => BS N (b1, (i : Int)) t R (b2, (u : Int)) row j n (l, true, ((v + 1 : Nat) : Int))) (by omega)]
    unfold gC hC
    rw [JN _ _ _ (fun l => BS N (b1, (i : Int)) t R (b2, (u : Int)) row j n (l, ok, ((v + 1 : Nat) : Int))) (by omega)]
    cases GI m t.fTo.toNat v
    ·simp
    ·cases ok <;> cases f <;> cases t.fAware <;> simp
   ·simp only [gC, List.length_append]
    split <;> simp <;> omega)
  (fun n a _ => by
   rw [BS]
   simp only [Bf]
   rw [AH (by omega)]) N 0 (acc, false) (by omega) (by omega) ⟨by omega, by simp⟩
 have h2 := this.1
 rw [List.drop_zero, Ki, Bool.false_or] at h2
 exact h2
end Go.Lift

/- The conflicts of a mix: both implementations give one answer. -/
namespace Go.Lift
theorem L8 {p : Ae} {t : AF} (hp : Bc p) (ht : MV p t) : t.fOK.length ≤ 6 ∧ ∀ row, row ∈ t.fOK → row.length ≤ 6 := by
 have h1 := I2 hp.ver ht.from0.1 ht.from0.2
 have h2 := I2 hp.ver ht.to0.1 ht.to0.2
 have h3 := ht.okL
 exact ⟨by omega, fun row hr => by have := ht.okR row hr; omega⟩
theorem QH (i u : Nat) (m : Ah) (t : AF) (v : Nat) (ok : Bool) : (gC i u m t v ok).length ≤ 1 := by
 unfold gC; split <;> simp
theorem Qu (i : Nat) (m : Ah) (t : AF) (u : Nat) (row : List Bool) (h : row.length ≤ 6) : (IC i m t u row).length ≤ 7 := by
 unfold IC
 rw [List.length_append]
 have := Fg (g := gC i u m t) (c := 1) (i := 0) (xs := row) (fun j x _ => QH _ _ _ _ _ _)
 split <;> simp <;> omega
theorem QG (i : Nat) (m : Ah) (t : AF) (u : Nat) (row : List Bool) (h : row.length ≤ 6) : (if Rw m i t u = true then IC i m t u row else []).length ≤ 7 := by
 have := Qu i m t u row h
 split <;> simp <;> omega
theorem LT {p : Ae} {t : AF} (hp : Bc p) (ht : MV p t) (i : Nat) (m : Ah) : (IM m i t).length ≤ 42 := by
 have h1 := L8 hp ht
 have := Fg (g := fun u row => if Rw m i t u = true then IC i m t u row else []) (c := 7) (i := 0) (xs := t.fOK) (fun j x hx => QG i m t _ x (h1.2 x (List.mem_of_getElem? hx)))
 unfold IM
 omega
theorem K6 (N : Nat) (p : Ae) (m : Ah) (t : AF) (i : Nat) (W R : Int) (b1 acc : List An) (j : List An → Option (List An))
  (hN : N ≤ 1000000) (h8 : 8 ≤ N) (hp : Bc p) (ht : MV p t) (hacc : acc.length + 42 ≤ 10000) (hR0 : 0 ≤ R) (hR1 : R ≤ 255) (hRb : ∀ v, CP R v = GI m t.fTo.toNat v) (hW0 : 0 ≤ W) (hW1 : W ≤ 255) (hWb : ∀ v, CP W v = Rw m i t v) :
  Ch N (b1, (i : Int)) t R W j N (acc, 0) = j (acc ++ IM m i t) := by
 have hl := L8 hp ht
 exact FE (Ch N (b1, (i : Int)) t R W j) (fun a k => (a, k)) t.fOK j (fun u row => if Rw m i t u then IC i m t u row else []) 7 10000
  (fun u row hx => QG i m t u row (hl.2 row (List.mem_of_getElem? hx)))
  (fun n u row a hx ha => by
   have hu := (List.getElem?_eq_some_iff.1 hx).1
   have hrow := hl.2 row (List.mem_of_getElem? hx)
   rw [Ch]
   simp only [Bf]
   rw [AL (by omega), Az (by omega), PX hW0 hW1 (by omega), hWb, A1, hx]
   simp only [Option.bind_some]
   rw [Px N m t i u row R b1 a a _ hN h8 hrow (by unfold Dv; omega) hR0 hR1 hRb, AM (by omega)]
   cases hw : Rw m i t u
   ·simp
   ·simp only [Bool.not_true, Av, if_true, IC]
    have h1 := Fg (g := gC i u m t) (c := 1) (i := 0) (xs := row) (fun j x _ => QH _ _ _ _ _ _)
    have := JN (R := List An) (t.fAware && !Me (hC m t) 0 row) (a ++ CF (gC i u m t) 0 row) ⟨(i : Int), (u : Int), -1⟩ (fun l => Ch N (b1, (i : Int)) t R W j n (l, ((u + 1 : Nat) : Int))) (by rw [List.length_append]; unfold Dv; rw [hw, if_pos rfl] at ha; omega)
    rw [← List.append_assoc, ← this]
    cases t.fAware <;> cases Me (hC m t) 0 row <;> rfl)
  (fun n a => by
   rw [Ch]
   simp only [Bf]
   rw [AH (by omega)]) N acc (by omega) (by omega)
theorem PV (N : Nat) (p : Ae) (m : Ah) (t : AF) (i u : Nat) (row : List Bool) (b1 b2 acc : List An) (j : List An × Bool → Option (List An))
  (hN : N ≤ 1000000) (h8 : 8 ≤ N) (hp : Bc p) (hm : MixServ p m) (ht : MV p t) (hu : t.fOK[u]? = some row) (hacc : acc.length + 6 ≤ Dv) :
  Bl N p m (b1, (i : Int)) t (b2, (u : Int)) j N (acc, false, 0) = j (acc ++ CF (gC i u m t) 0 row, Me (hC m t) 0 row) := by
 have hrow := (L8 hp ht).2 row (List.mem_of_getElem? hu)
 have hR := G5 hp hm (s := t.fTo.toNat) (by have := ht.to0; omega)
 have hlen := ht.okR row (List.mem_of_getElem? hu)
 have hto := ht.to0
 have := Hp (A := List An × Bool) (Bl N p m (b1, (i : Int)) t (b2, (u : Int)) j) (fun a k => (a.1, a.2, k)) row (fun a => j a) (fun v ok s => (s.1 ++ gC i u m t v ok, s.2 || hC m t v ok))
  (fun v a => v ≤ row.length ∧ a.1.length ≤ acc.length + v)
  (fun n v ok a hx ha => by
   have hv := (List.getElem?_eq_some_iff.1 hx).1
   obtain ⟨c, f⟩ := a
   simp only at ha
   refine ⟨?_, by omega, ?_⟩
   ·rw [Bl]
    simp only [Bf]
    rw [Ej (d := 0) hto.1 hto.2, HA N m t.fTo hto.1 (by rw [hm.base]; exact hto.2) (by rw [hm.next]; exact hto.2) (hm.b0 _ (by omega)).1, A1, hu]
    simp only [Option.bind_some]
    unfold Ck
    rw [AL (by omega), A1, hx, Az (by omega), PF hR.2.1 hR.2.2 (by omega), hR.1]
    simp only [Option.bind_some]
    rw [AM (by omega), JN _ _ _ (fun l => Bl N p m (b1, (i : Int)) t (b2, (u : Int)) j n (l, true, ((v + 1 : Nat) : Int))) (by omega)]
    unfold gC hC
    rw [JN _ _ _ (fun l => Bl N p m (b1, (i : Int)) t (b2, (u : Int)) j n (l, ok, ((v + 1 : Nat) : Int))) (by omega)]
    cases GI m t.fTo.toNat v
    ·simp
    ·cases ok <;> cases f <;> cases t.fAware <;> simp
   ·simp only [gC, List.length_append]
    split <;> simp <;> omega)
  (fun n a _ => by
   rw [Bl]
   simp only [Bf]
   rw [Ej (d := 0) hto.1 hto.2]
   simp only [Option.bind_some]
   rw [AH (by omega)]) N 0 (acc, false) (by omega) (by omega) ⟨by omega, by simp⟩
 have h2 := this.1
 rw [List.drop_zero, Ki, Bool.false_or] at h2
 exact h2
theorem Lf (N : Nat) (p : Ae) (m : Ah) (t : AF) (i : Nat) (W : Int) (b1 acc : List An) (j : List An → Option (List An))
  (hN : N ≤ 1000000) (h8 : 8 ≤ N) (hp : Bc p) (hm : MixServ p m) (ht : MV p t) (hacc : acc.length + 42 ≤ 10000) (hW0 : 0 ≤ W) (hW1 : W ≤ 255) (hWb : ∀ v, CP W v = Rw m i t v) :
  BA N p m (b1, (i : Int)) t W j N (acc, 0) = j (acc ++ IM m i t) := by
 have hl := L8 hp ht
 have hfr := ht.from0
 have hok := ht.okL
 exact FE (BA N p m (b1, (i : Int)) t W j) (fun a k => (a, k)) t.fOK j (fun u row => if Rw m i t u then IC i m t u row else []) 7 10000
  (fun u row hx => QG i m t u row (hl.2 row (List.mem_of_getElem? hx)))
  (fun n u row a hx ha => by
   have hu := (List.getElem?_eq_some_iff.1 hx).1
   have hrow := hl.2 row (List.mem_of_getElem? hx)
   rw [BA]
   simp only [Bf]
   rw [Ej (d := 0) hfr.1 hfr.2]
   simp only [Option.bind_some]
   unfold Ck
   rw [AL (by omega), Az (by omega), PF hW0 hW1 (by omega), hWb]
   simp only [Option.bind_some]
   rw [PV N p m t i u row b1 a a _ hN h8 hp hm ht hx (by unfold Dv; omega), AM (by omega)]
   cases hw : Rw m i t u
   ·simp
   ·simp only [Bool.not_true, Av, if_true, IC]
    have h1 := Fg (g := gC i u m t) (c := 1) (i := 0) (xs := row) (fun j x _ => QH _ _ _ _ _ _)
    have := JN (R := List An) (t.fAware && !Me (hC m t) 0 row) (a ++ CF (gC i u m t) 0 row) ⟨(i : Int), (u : Int), -1⟩ (fun l => BA N p m (b1, (i : Int)) t W j n (l, ((u + 1 : Nat) : Int))) (by rw [List.length_append]; unfold Dv; rw [hw, if_pos rfl] at ha; omega)
    rw [← List.append_assoc, ← this]
    cases t.fAware <;> cases Me (hC m t) 0 row <;> rfl)
  (fun n a => by
   rw [BA]
   simp only [Bf]
   rw [Ej (d := 0) hfr.1 hfr.2]
   simp only [Option.bind_some]
   rw [AH (by omega)]) N acc (by omega) (by omega)
theorem Lx (N : Nat) (p : Ae) (m : Ah) (hN : N ≤ 1000000) (h20 : 20 ≤ N) (hp : Bc p) (hm : BO p m) : EW N p m = some (F3 p m) := by
 unfold EW
 have hnt := hp.nt
 rw [FE (C2 N p m _) (fun a k => (a, k)) p.fTables some (IM m) 42 9000
  (fun i t hx => LT hp (JD (hp.tab t (List.mem_of_getElem? hx))) i m)
  (fun n i t a hx ha => by
   have hi := (List.getElem?_eq_some_iff.1 hx).1
   have ht := JD (hp.tab t (List.mem_of_getElem? hx))
   have hto := ht.to0
   have hfr := ht.from0
   have hR := G5 hp hm.toMixServ (s := t.fTo.toNat) (by omega)
   have hF := G5 hp hm.toMixServ (s := t.fFrom.toNat) (by omega)
   have hH := hm.range i hi
   rw [C2]
   simp only [Bf]
   rw [AL (by omega), A1, hx]
   simp only [Option.bind_some, JX]
   rw [Kg N m t.fFrom hfr.1 (by rw [hm.base]; exact hfr.2) (by rw [hm.next]; exact hfr.2) (hm.b0 _ (by omega)).1, Kg N m t.fTo hto.1 (by rw [hm.base]; exact hto.2) (by rw [hm.next]; exact hto.2) (hm.b0 _ (by omega)).1, CN (d := 0) (by rw [hm.held]; exact hi), AM (by omega)]
   simp only [Option.bind_some]
   cases hs : BX t
   ·rw [Av, K6 N p m t i _ _ a a _ hN (by omega) hp ht (by omega) hR.2.1 hR.2.2 hR.1 hF.2.1 hF.2.2 (fun v => by unfold Rw; rw [hs, hF.1]; rfl)]
   ·rw [AP, K6 N p m t i _ _ a a _ hN (by omega) hp ht (by omega) hR.2.1 hR.2.2 hR.1 hH.1 hH.2 (fun v => by unfold Rw; rw [hs]; rfl)])
  (fun n a => by
   rw [C2]
   simp only [Bf]
   rw [AH (by omega)]) N [] (by omega) (by simp; omega)]
 rfl
theorem Lk (N : Nat) (p : Ae) (m : Ah) (hN : N ≤ 1000000) (h20 : 20 ≤ N) (hp : Bc p) (hm : BO p m) : D2 N p m = some (F3 p m) := by
 unfold D2
 have hnt := hp.nt
 rw [FE (Cp N p m _) (fun a k => (a, k)) p.fTables some (IM m) 42 9000
  (fun i t hx => LT hp (JD (hp.tab t (List.mem_of_getElem? hx))) i m)
  (fun n i t a hx ha => by
   have hi := (List.getElem?_eq_some_iff.1 hx).1
   have ht := JD (hp.tab t (List.mem_of_getElem? hx))
   have hto := ht.to0
   have hfr := ht.from0
   have hF := G5 hp hm.toMixServ (s := t.fFrom.toNat) (by omega)
   have hH := hm.range i hi
   rw [Cp]
   simp only [Bf]
   rw [AL (by omega), A1, hx]
   simp only [Option.bind_some, Fd]
   rw [HA N m t.fFrom hfr.1 (by rw [hm.base]; exact hfr.2) (by rw [hm.next]; exact hfr.2) (hm.b0 _ (by omega)).1, CN (d := 0) (by rw [hm.held]; exact hi), AM (by omega)]
   simp only [Option.bind_some]
   cases hs : BX t
   ·rw [Av, Lf N p m t i _ a a _ hN (by omega) hp hm.toMixServ ht (by omega) hF.2.1 hF.2.2 (fun v => by unfold Rw; rw [hs, hF.1]; rfl)]
   ·rw [AP, Lf N p m t i _ a a _ hN (by omega) hp hm.toMixServ ht (by omega) hH.1 hH.2 (fun v => by unfold Rw; rw [hs]; rfl)])
  (fun n a => by
   rw [Cp]
   simp only [Bf]
   rw [AH (by omega)]) N [] (by omega) (by simp; omega)]
 rfl
end Go.Lift

/- The drafts: what the recipes give is a valid problem and a valid mix. -/
namespace Go.Lift
theorem EF {A S R : Type} (L : Nat → S → Option R) (mk : A → Int → S) (len : Nat) (j : A → Option R) (I : Nat → A → Prop)
  (hs : ∀ (n i : Nat) (a : A), i < len → I i a → ∃ a', L (n + 1) (mk a (i : Int)) = L n (mk a' ((i + 1 : Nat) : Int)) ∧ I (i + 1) a')
  (he : ∀ (n : Nat) (a : A), I len a → L (n + 1) (mk a (len : Int)) = j a) :
  ∀ (n i : Nat) (a : A), i ≤ len → len - i < n → I i a → ∃ a', L n (mk a (i : Int)) = j a' ∧ I len a'
 | 0, i, _, _, h, _ => by omega
 | n + 1, i, a, hi, h, ha => by
  by_cases h1 : i < len
  ·obtain ⟨a', e1, e2⟩ := hs n i a h1 ha
   rw [e1]
   exact EF L mk len j I hs he n (i + 1) _ (by omega) (by omega) e2
  ·have : i = len := by omega
   subst this
   exact ⟨a, he n a ha, ha⟩
theorem HZ {α : Type} {xs ys : List α} {i : Nat} {d : α} (h : i < xs.length) : (xs ++ ys).getD i d = xs.getD i d := by
 rw [List.getD_eq_getElem?_getD, List.getD_eq_getElem?_getD, List.getElem?_append_left h]
theorem HY {α : Type} {xs : List α} {y : α} {i : Nat} {d : α} (h : i = xs.length) : (xs ++ [y]).getD i d = y := by
 subst h; rw [List.getD_eq_getElem?_getD, List.getElem?_append_right (Nat.le_refl _)]; simp
theorem Fs {α : Type} {P : Nat → α → Prop} {xs : List α} {y : α} {d : α} {n : Nat} (hn : xs.length = n) (h : ∀ k, k < n → P k (xs.getD k d)) (hy : P n y) : ∀ k, k < n + 1 → P k ((xs ++ [y]).getD k d) := by
 intro k hk
 by_cases h1 : k < n
 ·rw [HZ (by omega)]; exact h k h1
 ·have : k = n := by omega
  subst this
  rw [HY hn.symm]; exact hy
theorem Q3 (x : BitVec 8) : IntKind.wrap .u8 (x.toNat : Int) = (x.toNat : Int) := by
 have := x.isLt
 simp [IntKind.wrap, IntKind.signed, IntKind.bits]
 omega
theorem Ss {a : Int} (h : 0 ≤ a ∧ a ≤ 255) : IntKind.wrap .u8 a = a := by
 simp [IntKind.wrap, IntKind.signed, IntKind.bits]
 omega
theorem IN {a : Nat} (h : a < 256) (i : Nat) : (BitVec.ofInt 8 (a : Int)).toNat.testBit i = a.testBit i := by rw [QZ h]
theorem Uh {a b : Int} (ha : 0 ≤ a ∧ a ≤ 255) (hb : 0 ≤ b ∧ b ≤ 255) : (∀ v, CP (Lg .u8 a b) v = (CP a v || CP b v)) ∧ 0 ≤ Lg .u8 a b ∧ Lg .u8 a b ≤ 255 := by
 obtain ⟨a, rfl⟩ := Int.eq_ofNat_of_zero_le ha.1
 obtain ⟨b, rfl⟩ := Int.eq_ofNat_of_zero_le hb.1
 have e : Lg .u8 (a : Int) (b : Int) = ((BitVec.ofInt 8 (a : Int) ||| BitVec.ofInt 8 (b : Int)).toNat : Int) := Q3 _
 have hlt := (BitVec.ofInt 8 (a : Int) ||| BitVec.ofInt 8 (b : Int)).isLt
 rw [e]
 refine ⟨fun v => ?_, by omega, by omega⟩
 unfold CP
 simp only [Int.toNat_natCast, BitVec.toNat_or, Nat.testBit_or]
 rw [IN (by omega), IN (by omega)]
theorem Sb {a b : Int} (ha : 0 ≤ a ∧ a ≤ 255) (hb : 0 ≤ b ∧ b ≤ 255) : (∀ v, CP (EZ .u8 a b) v = (CP a v && CP b v)) ∧ 0 ≤ EZ .u8 a b ∧ EZ .u8 a b ≤ 255 := by
 obtain ⟨a, rfl⟩ := Int.eq_ofNat_of_zero_le ha.1
 obtain ⟨b, rfl⟩ := Int.eq_ofNat_of_zero_le hb.1
 have e : EZ .u8 (a : Int) (b : Int) = ((BitVec.ofInt 8 (a : Int) &&& BitVec.ofInt 8 (b : Int)).toNat : Int) := Q3 _
 have hlt := (BitVec.ofInt 8 (a : Int) &&& BitVec.ofInt 8 (b : Int)).isLt
 rw [e]
 refine ⟨fun v => ?_, by omega, by omega⟩
 unfold CP
 simp only [Int.toNat_natCast, BitVec.toNat_and, Nat.testBit_and]
 rw [IN (by omega), IN (by omega)]
theorem J7 {l : List Int} (hw : KA IT l) (i : Nat) : 0 ≤ l.getD i 0 ∧ l.getD i 0 ≤ 255 := by
 by_cases h : i < l.length
 ·have : l.getD i 0 ∈ l := by rw [List.getD_eq_getElem?_getD, List.getElem?_eq_getElem h]; exact List.getElem_mem _
  exact Hx (hw _ this)
 ·rw [List.getD_eq_getElem?_getD, List.getElem?_eq_none (by omega)]
  exact ⟨by decide, by decide⟩
theorem Lw (N : Nat) {l : List Int} (hw : KA IT l) (i : Nat) : C0 N l (i : Int) = some (l.getD i 0) := by
 unfold C0
 have h2 := J7 hw i
 by_cases h : i < l.length
 ·rw [AL (by omega), CN (d := 0) h]
  simp only [Option.bind_some]
  rw [Cr (by omega) (by omega)]
 ·rw [AH (by omega), List.getD_eq_getElem?_getD, List.getElem?_eq_none (by omega)]; rfl
theorem NP (N : Nat) {l : List Int} (hw : KA IT l) (i : Nat) : DD N l (i : Int) = some (l.getD i 0) := by
 unfold DD
 have h2 := J7 hw i
 by_cases h : i < l.length
 ·rw [AL (by omega), CN (d := 0) h]
  simp only [Option.bind_some]
  rw [Cr (by omega) (by omega)]
 ·rw [AH (by omega), List.getD_eq_getElem?_getD, List.getElem?_eq_none (by omega)]; rfl
def US (n b : Int) : Int := Int.tmod b n
def UH (n b k : Int) : Int := if 0 < Int.tmod k n then Int.tmod (Int.tmod b n + Int.tmod k n) n else -1
theorem Eu {a n : Int} (ha : 0 ≤ a) (hn : 0 < n) : 0 ≤ Int.tmod a n ∧ Int.tmod a n < n := ⟨Int.tmod_nonneg n ha, Int.tmod_lt_of_pos a hn⟩
theorem SI {n b k : Int} (hn : 0 < n) (hb : 0 ≤ b) (hk : 0 ≤ k) : (0 ≤ US n b ∧ US n b < n) ∧ (-1 ≤ UH n b k ∧ UH n b k < n) ∧ US n b ≠ UH n b k := by
 unfold US UH
 have h1 := Eu hb hn
 have h2 := Eu hk hn
 split
 ·rename_i h
  have h3 := Eu (a := Int.tmod b n + Int.tmod k n) (by omega) hn
  refine ⟨h1, by omega, fun he => ?_⟩
  generalize Int.tmod b n = x at *
  generalize Int.tmod k n = y at *
  rw [Int.tmod_eq_emod_of_nonneg (by omega)] at he
  by_cases hxy : x + y < n
  ·rw [Int.emod_eq_of_lt (by omega) hxy] at he; omega
  ·have : (x + y) % n = x + y - n := by
    rw [← Int.emod_eq_of_lt (show 0 ≤ x + y - n by omega) (show x + y - n < n by omega)]
    simp
   omega
 ·exact ⟨h1, by omega, by omega⟩
structure Ww (p : Ae) (x : BJ) (m : Ah) : Prop where
 bl : m.fBase.length = p.fVersions.length
 nl : m.fNext.length = p.fVersions.length
 hl : m.fHeld.length = p.fTables.length
 b : ∀ k, k < p.fVersions.length → m.fBase.getD k 0 = US (p.fVersions.getD k 0) (x.fBase.getD k 0)
 n : ∀ k, k < p.fVersions.length → m.fNext.getD k 0 = UH (p.fVersions.getD k 0) (x.fBase.getD k 0) (x.fNext.getD k 0)
 r : ∀ k, k < p.fTables.length → 0 ≤ m.fHeld.getD k 0 ∧ m.fHeld.getD k 0 ≤ 255
 s : ∀ k t, p.fTables[k]? = some t → BX t = true → ∀ v, CP (m.fHeld.getD k 0) v = (GI m t.fFrom.toNat v || (CP (x.fHeld.getD k 0) v && decide ((v : Int) < p.fVersions.getD t.fFrom.toNat 0)))
 z : ∀ k t, p.fTables[k]? = some t → BX t = false → m.fHeld.getD k 0 = 0
def R2 (p : Ae) (x : BJ) (bs ns : List Int) (k : Nat) (y : Int) : Prop :=
 ∀ t, p.fTables[k]? = some t → BX t = true → ∀ v, CP y v = (GI ⟨bs, ns, []⟩ t.fFrom.toNat v || (CP (x.fHeld.getD k 0) v && decide ((v : Int) < p.fVersions.getD t.fFrom.toNat 0)))
def SS (p : Ae) (k : Nat) (y : Int) : Prop := ∀ t, p.fTables[k]? = some t → BX t = false → y = 0
theorem XX (N : Nat) (p : Ae) (x : BJ) (hN : N ≤ 1000000) (h20 : 20 ≤ N) (hp : Bc p) (hw : ED x) : ∃ m, Eb N p x = some m ∧ Ww p x m ∧ BO p m := by
 obtain ⟨w1, w2, w3, _⟩ := hw
 have hnv := hp.nv
 have hnt := hp.nt
 unfold Eb
 obtain ⟨⟨bs, ns⟩, e, h1, h2, h3, h4⟩ := EF (A := List Int × List Int) (Cv N p x fun v2 => Bk N p x v2 (fun v15 => some (Ah.mk v2.1 v2.2 v15)) N ([], 0)) (fun a k => (a.1, a.2, k)) p.fVersions.length
  (fun v2 => Bk N p x v2 (fun v15 => some (Ah.mk v2.1 v2.2 v15)) N ([], 0))
  (fun i a => a.1.length = i ∧ a.2.length = i ∧ (∀ k, k < i → a.1.getD k 0 = US (p.fVersions.getD k 0) (x.fBase.getD k 0)) ∧ (∀ k, k < i → a.2.getD k 0 = UH (p.fVersions.getD k 0) (x.fBase.getD k 0) (x.fNext.getD k 0)))
  (fun n i a hi ha => by
   obtain ⟨bs, ns⟩ := a
   obtain ⟨h1, h2, h3, h4⟩ := ha
   simp only at h1 h2 h3 h4
   have hv := GD hp hi
   have hb := J7 w1 i
   have hk := J7 w2 i
   have m1 := Eu (n := p.fVersions.getD i 0) hb.1 (by omega)
   have m2 := Eu (n := p.fVersions.getD i 0) hk.1 (by omega)
   refine ⟨(bs ++ [US (p.fVersions.getD i 0) (x.fBase.getD i 0)], ns ++ [UH (p.fVersions.getD i 0) (x.fBase.getD i 0) (x.fNext.getD i 0)]), ?_, ?_⟩
   ·rw [Cv]
    simp only [Bf]
    rw [AL (by omega), CN (d := 0) hi, Lw N w1, Lw N w2]
    simp only [Option.bind_some]
    rw [Az (by omega), AM (by omega), Cr (n := _ + _) (by omega) (by omega)]
    simp only [Az (show p.fVersions.getD i 0 ≠ 0 by omega)]
    have l1 : bs.length + ([Int.tmod (x.fBase.getD i 0) (p.fVersions.getD i 0)] : List Int).length ≤ Dv := by rw [h1]; unfold Dv; simp; omega
    have l2 : ∀ y : Int, ns.length + ([y] : List Int).length ≤ Dv := by intro y; rw [h2]; unfold Dv; simp; omega
    simp only [Az l1, Az (l2 _)]
    unfold US UH
    by_cases h : 0 < Int.tmod (x.fNext.getD i 0) (p.fVersions.getD i 0)
    ·rw [AL h, if_pos h]
    ·rw [AH h, if_neg h]
   ·refine ⟨by simp [h1], by simp [h2], Fs (P := fun k y => y = _) h1 h3 rfl, Fs (P := fun k y => y = _) h2 h4 rfl⟩)
  (fun n a _ => by
   rw [Cv]
   simp only [Bf]
   rw [AH (by omega)]) N 0 ([], []) (Nat.zero_le _) (by omega) ⟨rfl, rfl, fun k hk => by omega, fun k hk => by omega⟩
 simp only at h1 h2 h3 h4
 have e' : Cv N p x (fun v2 => Bk N p x v2 (fun v15 => some (Ah.mk v2.1 v2.2 v15)) N ([], 0)) N ([], [], 0) = _ := e
 rw [e']
 have hrng : ∀ k, k < p.fVersions.length → (0 ≤ bs.getD k 0 ∧ bs.getD k 0 < p.fVersions.getD k 0) ∧ (-1 ≤ ns.getD k 0 ∧ ns.getD k 0 < p.fVersions.getD k 0) ∧ bs.getD k 0 ≠ ns.getD k 0 := by
  intro k hk
  rw [h3 k hk, h4 k hk]
  exact SI (by have := GD hp hk; omega) (J7 w1 k).1 (J7 w2 k).1
 obtain ⟨hs, e2, g1, g2, g3, g4⟩ := EF (A := List Int) (Bk N p x (bs, ns) (fun v15 => some (Ah.mk bs ns v15))) (fun a k => (a, k)) p.fTables.length (fun v15 => some (Ah.mk bs ns v15))
  (fun i a => a.length = i ∧ (∀ k, k < i → 0 ≤ a.getD k 0 ∧ a.getD k 0 ≤ 255) ∧
   (∀ k, k < i → R2 p x bs ns k (a.getD k 0)) ∧
   (∀ k, k < i → SS p k (a.getD k 0)))
  (fun n i a hi ha => by
   obtain ⟨k1, k2, k3, k4⟩ := ha
   have hx : p.fTables[i]? = some p.fTables[i] := by simp [hi]
   generalize p.fTables[i] = t at hx
   have ht := JD (hp.tab t (List.mem_of_getElem? hx))
   have hfr := ht.from0
   have hv := GD hp (i := t.fFrom.toNat) (by omega)
   have hr := hrng t.fFrom.toNat (by omega)
   have hrun := P1 (m := ⟨bs, ns, a⟩) (s := t.fFrom.toNat) hr.1.1 (show bs.getD _ 0 < 8 by omega) (show ns.getD _ 0 < 8 by omega)
   have hall := QQ (n := p.fVersions.getD t.fFrom.toNat 0) (by omega) (by omega)
   have hh := J7 w3 i
   have e1 := Sb hh hall.2
   have e2 := Uh hrun.2 e1.2
   cases hst : BX t
   ·refine ⟨a ++ [0], ?_, by simp [k1], Fs (P := fun _ y => 0 ≤ y ∧ y ≤ 255) k1 k2 (by omega), Fs (P := R2 p x bs ns) k1 k3 (fun t' ht' hs' => by rw [hx] at ht'; cases ht'; rw [hst] at hs'; cases hs'), Fs (P := SS p) k1 k4 (fun _ _ _ => rfl)⟩
    rw [Bk]
    simp only [Bf]
    rw [AL (by omega), A1, hx]
    simp only [Option.bind_some, Fd, hst, Av]
    rw [Az (by rw [k1]; unfold Dv; simp; omega), AM (by omega)]
   ·refine ⟨a ++ [Lg .u8 (FH ⟨bs, ns, a⟩ t.fFrom.toNat) (EZ .u8 (x.fHeld.getD i 0) (IntKind.wrap .u8 (Dz .u8 1 (p.fVersions.getD t.fFrom.toNat 0) - 1)))], ?_, by simp [k1], Fs (P := fun _ y => 0 ≤ y ∧ y ≤ 255) k1 k2 e2.2, Fs (P := R2 p x bs ns) k1 k3 (fun t' ht' _ v => by
      rw [hx] at ht'; cases ht'
      rw [e2.1, e1.1, hall.1, hrun.1]; rfl), Fs (P := SS p) k1 k4 (fun t' ht' hs' => by rw [hx] at ht'; cases ht'; rw [hst] at hs'; cases hs')⟩
    rw [Bk]
    simp only [Bf]
    rw [AL (by omega), A1, hx]
    simp only [Option.bind_some, Fd, hst, AP]
    rw [Ej (d := 0) hfr.1 hfr.2]
    simp only [Option.bind_some]
    rw [Az (by omega), HA N ⟨bs, ns, a⟩ t.fFrom hfr.1 (show _ < (bs.length : Int) by omega) (show _ < (ns.length : Int) by omega) hr.1.1, Lw N w3]
    simp only [Option.bind_some]
    rw [Az (by rw [k1]; unfold Dv; simp; omega), AM (by omega), Ss hh])
  (fun n a _ => by
   rw [Bk]
   simp only [Bf]
   rw [AH (by omega)]) N 0 [] (Nat.zero_le _) (by omega) ⟨rfl, fun k hk => by omega, fun k hk => by omega, fun k hk => by omega⟩
 have e2' : Bk N p x (bs, ns) (fun v15 => some (Ah.mk bs ns v15)) N ([], 0) = _ := e2
 refine ⟨⟨bs, ns, hs⟩, e2', ⟨h1, h2, g1, h3, h4, g2, fun k t ht hst => g3 k (List.getElem?_eq_some_iff.1 ht).1 t ht hst, fun k t ht hst => g4 k (List.getElem?_eq_some_iff.1 ht).1 t ht hst⟩, ?_⟩
 refine ⟨⟨h1, h2, g1, fun i hi => (hrng i hi).1, fun i hi => (hrng i hi).2.1, fun i hi => (hrng i hi).2.2⟩, g2, ?_, ?_, fun k t ht hst => g4 k (List.getElem?_eq_some_iff.1 ht).1 t ht hst⟩
 ·intro k t ht hst v hv
  rw [g3 k (List.getElem?_eq_some_iff.1 ht).1 t ht hst v]
  rw [show GI ⟨bs, ns, []⟩ t.fFrom.toNat v = true from hv]; rfl
 ·intro k t ht hst v hv
  have hin := (JD (hp.tab t (List.mem_of_getElem? ht))).from0
  have hr := hrng t.fFrom.toNat (by omega)
  have hv : CP (hs.getD k 0) v = true := hv
  rw [g3 k (List.getElem?_eq_some_iff.1 ht).1 t ht hst v] at hv
  simp only [Bool.or_eq_true, Bool.and_eq_true, decide_eq_true_eq, GI] at hv
  rcases hv with (h | h) | h
  ·omega
  ·omega
  ·exact h.2
end Go.Lift

/- The drafts of problems: what the recipe gives is a valid problem. -/
namespace Go.Lift
theorem UK {l : List (List Bool)} {n m : Int} (h1 : (l.length : Int) = n) (h2 : ∀ row, row ∈ l → (row.length : Int) = m) : sq l n m = true := by
 unfold sq
 simp only [Bool.and_eq_true, decide_eq_true_eq, List.all_eq_true]
 exact ⟨h1, h2⟩
theorem Vb {p : Ae} {t : AF} (h : MV p t) : DI p t = 0 := by
 have hk := h.kind
 have hf := h.from0
 have ht := h.to0
 unfold DI
 rw [if_neg, if_neg (by omega)]
 ·simp only [UK h.okL h.okR]
  rw [if_neg (by simp)]
  by_cases h4 : t.fKind = 4
  ·rw [if_pos h4, UK (h.reL h4) h.reR, if_neg (by simp), h.reD h4]; rfl
  ·rw [if_neg h4, h.reN h4]; rfl
 ·rintro (h1 | h1 | ⟨h1, h2⟩)
  ·omega
  ·omega
  ·have := h.aware h1
   unfold BX at this
   rw [Bool.or_eq_false_iff, beq_eq_false_iff_ne, beq_eq_false_iff_ne] at this
   omega
theorem Sc (N : Nat) (m bad : Int) (diag : Bool) (i : Nat) (acc : List (List Bool)) {R : Type} (j : List Bool → Option (List (List Bool))) (hN : N ≤ 1000000) (h20 : 20 ≤ N) (hm : 0 ≤ m ∧ m ≤ 6) (hi : i < 6) :
  ∃ row, Cf N m bad diag (acc, (i : Int)) j N ([], 0) = j row ∧ (row.length : Int) = m ∧ (diag = true → (i : Int) < m → row.getD i false = true) := by
 obtain ⟨M, rfl⟩ := Int.eq_ofNat_of_zero_le hm.1
 obtain ⟨row, e, h1, h2⟩ := EF (A := List Bool) (Cf N (M : Int) bad diag (acc, (i : Int)) j) (fun a k => (a, k)) M j
  (fun k a => a.length = k ∧ ∀ q, q < k → diag = true → q = i → a.getD q false = true)
  (fun n k a hk ha => by
   refine ⟨a ++ [(diag && decide (i = k)) || (Int.tmod (E0 .u16 bad ((3 * i + k : Nat) : Int)) 2 == 0)], ?_, by simp [ha.1], Fs (P := fun q y => diag = true → q = i → y = true) ha.1 ha.2 (fun h1 h2 => by simp [h1, h2])⟩
   rw [Cf]
   simp only [Bf]
   rw [AL (by omega), AM (by omega), Cr (n := 3 * (i : Int)) (by omega) (by omega), Cr (n := 3 * (i : Int) + (k : Int)) (by omega) (by omega)]
   have l1 : ∀ y : Bool, a.length + ([y] : List Bool).length ≤ Dv := by intro y; rw [ha.1]; unfold Dv; simp; omega
   simp only [Az (l1 _), Az (show (0 : Int) ≤ 3 * (i : Int) + (k : Int) by omega)]
   have e1 : ((3 * i + k : Nat) : Int) = 3 * (i : Int) + (k : Int) := by omega
   rw [e1]
   have e2 : (((i : Nat) : Int) == ((k : Nat) : Int)) = decide (i = k) := by
    by_cases h : i = k
    ·simp [h]
    ·rw [decide_eq_false h]; exact beq_eq_false_iff_ne.2 (by omega)
   rw [e2]
   cases diag <;> cases decide (i = k) <;> rfl)
  (fun n a _ => by
   rw [Cf]
   simp only [Bf]
   rw [AH (by omega)]) N 0 [] (Nat.zero_le _) (by omega) ⟨rfl, fun q hq => by omega⟩
 exact ⟨row, e, by omega, fun hd hlt => h2 i (by omega) hd rfl⟩
theorem Rn (N : Nat) (n m bad : Int) (diag : Bool) (hN : N ≤ 1000000) (h20 : 20 ≤ N) (hn : 0 ≤ n ∧ n ≤ 6) (hm : 0 ≤ m ∧ m ≤ 6) :
  ∃ l, DC N n m bad diag = some l ∧ (l.length : Int) = n ∧ (∀ row, row ∈ l → (row.length : Int) = m) ∧ (diag = true → n = m → HR l = none) := by
 obtain ⟨M, rfl⟩ := Int.eq_ofNat_of_zero_le hn.1
 unfold DC
 obtain ⟨l, e, h1, h2⟩ := EF (A := List (List Bool)) (Cb N (M : Int) m bad diag (fun v => some v)) (fun a k => (a, k)) M some
  (fun k a => a.length = k ∧ ∀ q, q < k → (((a.getD q []).length : Nat) : Int) = m ∧ (diag = true → (q : Int) < m → (a.getD q []).getD q false = true))
  (fun n k a hk ha => by
   obtain ⟨row, e, h1, h2⟩ := Sc (R := Unit) N m bad diag k a (fun (v5 : List Bool) =>
    (D8 (a.length + (([v5] : List (List Bool))).length ≤ Dv)).bind fun _ =>
    Cb N (M : Int) m bad diag (fun v => some v) n (a ++ (([v5] : List (List Bool))), (IntKind.wrap .i64 ((k : Int) + 1)))) hN h20 hm (by omega)
   refine ⟨a ++ [row], ?_, by simp [ha.1], Fs (P := fun q y => ((y.length : Nat) : Int) = m ∧ (diag = true → (q : Int) < m → y.getD q false = true)) ha.1 ha.2 ⟨h1, h2⟩⟩
   rw [Cb]
   simp only [Bf]
   rw [AL (by omega), e, Az (by rw [ha.1]; unfold Dv; simp; omega), AM (by omega)])
  (fun n a _ => by
   rw [Cb]
   simp only [Bf]
   rw [AH (by omega)]) N 0 [] (Nat.zero_le _) (by omega) ⟨rfl, fun q hq => by omega⟩
 have key : ∀ q row, l[q]? = some row → l.getD q [] = row := fun q row hq => by rw [List.getD_eq_getElem?_getD, hq]; rfl
 refine ⟨l, e, by omega, fun row hr => ?_, fun hd hnm => ?_⟩
 ·obtain ⟨q, hq⟩ := List.mem_iff_getElem?.1 hr
  have := (h2 q (by have := (List.getElem?_eq_some_iff.1 hq).1; omega)).1
  rwa [key q row hq] at this
 ·unfold HR
  refine EE fun q row hq => ?_
  have hlt := (List.getElem?_eq_some_iff.1 hq).1
  have := (h2 q (by omega)).2 hd (by omega)
  rw [key q row hq] at this
  rw [Nat.zero_add, this]; rfl
structure S3 (p : Ae) : Prop where
 valid : Dh p = 0
 nv : p.fVersions.length ≤ 3
 nt : p.fTables.length ≤ 4
 v3 : ∀ v, v ∈ p.fVersions → v ≤ 3
theorem Rx {p q : Ae} (h : p.fVersions = q.fVersions) (t : AF) : DI p t = DI q t := by
 unfold DI; rw [h]
theorem XL (N : Nat) (d : B8) (hN : N ≤ 1000000) (h20 : 20 ≤ N) (hw : EB d) : ∃ p ok, D9 N d = some (p, ok) ∧ (ok = true → S3 p) := by
 obtain ⟨w1, w2, w3, w4, _⟩ := hw
 unfold D9
 simp only [Bf]
 by_cases k1 : 3 < d.fVersions.length
 ·rw [AL (by omega)]; exact ⟨_, false, rfl, fun h => by cases h⟩
 by_cases k2 : 4 < d.fLinks.length
 ·rw [AH (by omega), decide_eq_true (by omega : (4 : Int) < (d.fLinks.length : Int))]; exact ⟨_, false, rfl, fun h => by cases h⟩
 rw [AH (by omega), decide_eq_false (by omega : ¬ (4 : Int) < (d.fLinks.length : Int)), Av]
 obtain ⟨⟨vs, ns, ts⟩, e, h1, h2, h3, h4⟩ := EF (A := List Int × List Int × List Int) (Ct N d fun v5 => Bw N d v5 (fun v16 => some (Ae.mk v5.1 v5.2.1 v5.2.2 v16, true)) N ([], 0)) (fun a k => (a.1, a.2.1, a.2.2, k)) d.fVersions.length
  (fun v5 => Bw N d v5 (fun v16 => some (Ae.mk v5.1 v5.2.1 v5.2.2 v16, true)) N ([], 0))
  (fun i a => a.1.length = i ∧ a.2.1.length = i ∧ a.2.2.length = i ∧ (∀ k, k < i → (1 ≤ a.1.getD k 0 ∧ a.1.getD k 0 ≤ 3) ∧ (0 ≤ a.2.1.getD k 0 ∧ a.2.1.getD k 0 < a.1.getD k 0) ∧ (0 ≤ a.2.2.getD k 0 ∧ a.2.2.getD k 0 < a.1.getD k 0)))
  (fun n i a hi ha => by
   obtain ⟨vs, ns, ts⟩ := a
   obtain ⟨h1, h2, h3, h4⟩ := ha
   simp only at h1 h2 h3 h4
   have hv := J7 w1 i
   have hb := J7 w2 i
   have hk := J7 w3 i
   have hm := Eu (n := 3) hv.1 (by omega)
   obtain ⟨v, hvd⟩ : ∃ v, v = 1 + Int.tmod (d.fVersions.getD i 0) 3 := ⟨_, rfl⟩
   have m1 := Eu (n := v) hb.1 (by omega)
   have m2 := Eu (n := v) hk.1 (by omega)
   refine ⟨(vs ++ [v], ns ++ [Int.tmod (d.fNow.getD i 0) v], ts ++ [Int.tmod (d.fTarget.getD i 0) v]), ?_, by simp [h1], by simp [h2], by simp [h3], ?_⟩
   ·rw [Ct]
    simp only [Bf]
    rw [AL (by omega), CN (d := 0) hi, NP N w2, NP N w3]
    simp only [Option.bind_some]
    rw [Cr (n := Int.tmod _ _) (by omega) (by omega), Cr (n := 1 + _) (by omega) (by omega), ← hvd, AM (by omega)]
    have l1 : ∀ y : Int, vs.length + ([y] : List Int).length ≤ Dv := by intro y; rw [h1]; unfold Dv; simp; omega
    have l2 : ∀ y : Int, ns.length + ([y] : List Int).length ≤ Dv := by intro y; rw [h2]; unfold Dv; simp; omega
    have l3 : ∀ y : Int, ts.length + ([y] : List Int).length ≤ Dv := by intro y; rw [h3]; unfold Dv; simp; omega
    simp only [Az (l1 _), Az (l2 _), Az (l3 _), Az (show v ≠ 0 by omega)]
   ·intro k hk
    simp only
    by_cases hki : k < i
    ·rw [HZ (by omega), HZ (by omega), HZ (by omega)]; exact h4 k hki
    ·have : k = i := by omega
     subst this
     rw [HY h1.symm, HY h2.symm, HY h3.symm]
     omega)
  (fun n a _ => by
   rw [Ct]
   simp only [Bf]
   rw [AH (by omega)]) N 0 ([], [], []) (Nat.zero_le _) (by omega) ⟨rfl, rfl, rfl, fun k hk => by omega⟩
 simp only at h1 h2 h3 h4
 have e' : Ct N d (fun v5 => Bw N d v5 (fun v16 => some (Ae.mk v5.1 v5.2.1 v5.2.2 v16, true)) N ([], 0)) N ([], [], [], 0) = _ := e
 rw [e']
 have hvs : ∀ v, v ∈ vs → 1 ≤ v ∧ v ≤ 3 := by
  intro v hv
  obtain ⟨q, hq⟩ := List.mem_iff_getElem?.1 hv
  have := (h4 q (by have := (List.getElem?_eq_some_iff.1 hq).1; omega)).1
  rwa [List.getD_eq_getElem?_getD, hq] at this
 have fin : ∀ tabs : List AF, tabs.length ≤ 4 → (∀ t, t ∈ tabs → DI ⟨vs, ns, ts, []⟩ t = 0) → S3 ⟨vs, ns, ts, tabs⟩ := by
  intro tabs ht h
  have hp : Bc ⟨vs, ns, ts, tabs⟩ := ⟨show vs.length ≤ 6 by omega, show tabs.length ≤ 12 by omega, show ns.length = vs.length by omega, show ts.length = vs.length by omega, fun v hv => by have := hvs v hv; omega, fun t ht => by rw [← h t ht]; exact Rx rfl t⟩
  exact ⟨Oz hp fun i hi => by have := h4 i (by have : i < vs.length := hi; omega); simp only; omega, show vs.length ≤ 3 by omega, ht, fun v hv => (hvs v hv).2⟩
 by_cases k3 : vs.length = 0
 ·refine ⟨_, true, ?_, fun _ => fin [] (by simp) (fun t ht => by cases ht)⟩
  obtain ⟨M, rfl⟩ : ∃ M, N = M + 1 := ⟨N - 1, by omega⟩
  rw [Bw]
  simp only [Bf]
  rw [k3]
  by_cases k4 : (0 : Int) < (d.fLinks.length : Int)
  ·rw [AL k4]; rfl
  ·rw [AH k4]; rfl
 obtain ⟨tabs, e2, g1, g2⟩ := EF (A := List AF) (Bw N d (vs, ns, ts) (fun v16 => some (Ae.mk vs ns ts v16, true))) (fun a k => (a, k)) d.fLinks.length (fun v16 => some (Ae.mk vs ns ts v16, true))
  (fun i a => a.length = i ∧ ∀ t, t ∈ a → DI ⟨vs, ns, ts, []⟩ t = 0)
  (fun n i a hi ha => by
   have hx : d.fLinks[i]? = some d.fLinks[i] := by simp [hi]
   generalize d.fLinks[i] = l at hx
   obtain ⟨u1, u2, u3, _, u5, u6, _⟩ := w4 l (List.mem_of_getElem? hx)
   have u1 := Hx u1
   have u2 := Hx u2
   have u3 := Hx u3
   have mk := Eu (n := 4) u1.1 (by omega)
   have hL : (0 : Int) < (vs.length : Int) := by omega
   have mf := Eu (n := (vs.length : Int)) u2.1 hL
   have mt := Eu (n := (vs.length : Int)) u3.1 hL
   rw [Bw]
   simp only [Bf]
   rw [AL (by omega), decide_eq_true hL, AP, A1, hx]
   simp only [Option.bind_some]
   rw [Az (by omega), Az (by omega), Cr (n := l.fFrom) (by omega) (by omega), Cr (n := l.fTo) (by omega) (by omega), Cr (n := Int.tmod l.fKind 4) (by omega) (by omega), Cr (n := 1 + _) (by omega) (by omega), AM (by omega)]
   simp only [Lh, Option.bind_some]
   rw [Ej (d := 0) mf.1 mf.2, Ej (d := 0) mt.1 mt.2]
   simp only [Option.bind_some]
   have hA : ∀ q : Int, 0 ≤ q → q < (vs.length : Int) → 1 ≤ vs.getD q.toNat 0 ∧ vs.getD q.toNat 0 ≤ 3 := fun q h0 h1 => (h4 q.toNat (by omega)).1
   have hf := hA _ mf.1 mf.2
   have ht := hA _ mt.1 mt.2
   obtain ⟨A, eA, a1, a2, _⟩ := Rn N (vs.getD (Int.tmod l.fFrom (vs.length : Int)).toNat 0) (vs.getD (Int.tmod l.fTo (vs.length : Int)).toNat 0) l.fBad false hN h20 (by omega) (by omega)
   obtain ⟨B, eB, b1, b2, b3⟩ := Rn N (vs.getD (Int.tmod l.fFrom (vs.length : Int)).toNat 0) (vs.getD (Int.tmod l.fFrom (vs.length : Int)).toNat 0) l.fLost true hN h20 (by omega) (by omega)
   rw [eA, eB]
   simp only [Option.bind_some]
   have l1 : ∀ y : AF, a.length + ([y] : List AF).length ≤ Dv := by intro y; rw [ha.1]; unfold Dv; simp; omega
   simp only [Az (l1 _)]
   obtain ⟨kd, hkd⟩ : ∃ kd, kd = 1 + Int.tmod l.fKind 4 := ⟨_, rfl⟩
   rw [← hkd]
   have fin2 : ∀ (aw : Bool) (re : List (List Bool)), (aw = true → (kd == 3 || kd == 4) = false) → ((kd = 4 → re = B) ∧ (kd ≠ 4 → re = [])) →
     DI ⟨vs, ns, ts, []⟩ (AF.mk kd (Int.tmod l.fFrom (vs.length : Int)) (Int.tmod l.fTo (vs.length : Int)) aw A re) = 0 := by
    intro aw re haw hre
    refine Vb ⟨show 1 ≤ kd ∧ kd ≤ 4 by omega, haw, mf, mt, a1, a2, fun h => by rw [hre.1 h]; exact b1, fun row hr => ?_, fun h => by rw [hre.1 h]; exact b3 rfl rfl, fun h => hre.2 h⟩
    by_cases h4 : kd = 4
    ·simp only at hr; rw [hre.1 h4] at hr; exact b2 row hr
    ·simp only at hr; rw [hre.2 h4] at hr; cases hr
   have app : ∀ t, DI ⟨vs, ns, ts, []⟩ t = 0 → (a ++ [t]).length = i + 1 ∧ ∀ t', t' ∈ a ++ [t] → DI ⟨vs, ns, ts, []⟩ t' = 0 := by
    intro t ht
    refine ⟨by simp [ha.1], fun t' ht' => ?_⟩
    rcases List.mem_append.1 ht' with h | h
    ·exact ha.2 t' h
    ·rw [List.mem_singleton.1 h]; exact ht
   by_cases h4 : kd = 4
   ·have e4 : (kd == 4) = true := beq_iff_eq.2 h4
    have hre : (kd = 4 → B = B) ∧ (kd ≠ 4 → B = []) := ⟨fun _ => rfl, fun h => (h h4).elim⟩
    rw [e4]
    simp only [AP, Bool.or_true, Bool.not_true]
    cases l.fAware
    ·exact ⟨_, rfl, app _ (fin2 false B (fun h => by cases h) hre)⟩
    ·exact ⟨_, rfl, app _ (fin2 false B (fun h => by cases h) hre)⟩
   ·have e4 : (kd == 4) = false := beq_eq_false_iff_ne.2 h4
    have hre : (kd = 4 → ([] : List (List Bool)) = B) ∧ (kd ≠ 4 → ([] : List (List Bool)) = []) := ⟨fun h => (h4 h).elim, fun _ => rfl⟩
    rw [e4]
    simp only [Av, Bool.or_false]
    cases l.fAware
    ·exact ⟨_, rfl, app _ (fin2 false [] (fun h => by cases h) hre)⟩
    ·cases e3 : kd == 3
     ·exact ⟨_, rfl, app _ (fin2 true [] (fun _ => by rw [e3, e4]; rfl) hre)⟩
     ·exact ⟨_, rfl, app _ (fin2 false [] (fun h => by cases h) hre)⟩)
  (fun n a _ => by
   rw [Bw]
   simp only [Bf]
   rw [AH (by omega), Av]) N 0 [] (Nat.zero_le _) (by omega) ⟨rfl, fun t ht => by cases ht⟩
 exact ⟨_, true, e2, fun _ => fin tabs (by omega) g2⟩
end Go.Lift

/- The mixes that result from aborts: both implementations give one list. -/
namespace Go.Lift
def Hk : List Int → Nat → Nat
 | [], _ => 0
 | _, 0 => 0
 | n :: ns, q + 1 => (if 0 ≤ n then 1 else 0) + Hk ns q
theorem HK (l : List Int) : Hk l 0 = 0 := by cases l <;> rfl
theorem Gk : ∀ (l : List Int) (q : Nat), q < l.length → Hk l (q + 1) = Hk l q + if 0 ≤ l.getD q 0 then 1 else 0
 | [], q, h => by simp at h
 | n :: ns, 0, _ => by simp [Hk, HK]
 | n :: ns, q + 1, h => by
  rw [Hk, Gk ns q (by simpa using h), Hk, List.getD_cons_succ, Nat.add_assoc]
theorem Md (l : List Int) {a b : Nat} (h : a ≤ b) (hb : b ≤ l.length) : Hk l a ≤ Hk l b := by
 induction b with
 | zero => rw [Nat.le_zero.1 h]; exact Nat.le_refl _
 | succ b ih =>
  by_cases h1 : a = b + 1
  ·rw [h1]; exact Nat.le_refl _
  ·have := ih (by omega) (by omega)
   rw [Gk l b (by omega)]; omega
theorem I9 (l : List Int) : ∀ q, q ≤ l.length → Hk l q ≤ q
 | 0, _ => by rw [HK]; exact Nat.le_refl _
 | q + 1, h => by
  have := I9 l q (by omega)
  rw [Gk l q h]
  split <;> omega
def Ln (l : List Int) (k q : Nat) : Int := if 0 ≤ l.getD q 0 ∧ k.testBit (Hk l q) = true then -1 else l.getD q 0
def Tn (l : List Int) (k : Nat) : List Int := (List.range l.length).map (Ln l k)
def Vs (m : Ah) (k : Nat) : Ah := ⟨m.fBase, Tn m.fNext k, m.fHeld⟩
def Fl (m : Ah) : List Ah := (List.range (2 ^ Hk m.fNext m.fNext.length)).map (Vs m)
theorem La (l : List Int) (k : Nat) : (Tn l k).length = l.length := by simp [Tn]
theorem Oi (l : List Int) (k q : Nat) (h : q < l.length) : (Tn l k).getD q 0 = Ln l k q := by
 unfold Tn; rw [List.getD_eq_getElem?_getD, List.getElem?_map, List.getElem?_range h]; rfl
theorem EI {l1 l2 : List Int} (h1 : l1.length = l2.length) (h : ∀ q, q < l1.length → l1.getD q 0 = l2.getD q 0) : l1 = l2 := by
 apply List.ext_getElem h1
 intro q h2 h3
 have := h q h2
 rw [List.getD_eq_getElem?_getD, List.getD_eq_getElem?_getD, List.getElem?_eq_getElem h2, List.getElem?_eq_getElem h3] at this
 exact this
theorem Rb : ∀ (k : Fin 64) (b : Fin 7), EZ .i64 (E0 .i64 (k.val : Int) (b.val : Int)) 1 = (if k.val.testBit b.val then 1 else 0) ∧ Int.tmod (E0 .i64 (k.val : Int) (b.val : Int)) 2 = (if k.val.testBit b.val then 1 else 0) := by decide +kernel
theorem T4 : ∀ n : Fin 7, Dz .i64 1 (n.val : Int) = ((2 ^ n.val : Nat) : Int) := by decide +kernel
structure Nm (m x : Ah) : Prop where
 base : x.fBase = m.fBase
 held : x.fHeld = m.fHeld
 len : x.fNext.length = m.fNext.length
 next : ∀ q, q < m.fNext.length → x.fNext.getD q 0 = m.fNext.getD q 0 ∨ (0 ≤ m.fNext.getD q 0 ∧ x.fNext.getD q 0 = -1)
theorem Nm.refl (m : Ah) : Nm m m := ⟨rfl, rfl, rfl, fun _ _ => .inl rfl⟩
theorem Nm.trans {a b c : Ah} (h1 : Nm a b) (h2 : Nm b c) : Nm a c :=
 ⟨h2.base.trans h1.base, h2.held.trans h1.held, h2.len.trans h1.len, fun q hq => by
  have e1 := h1.next q hq
  have e2 := h2.next q (by rw [h1.len]; exact hq)
  omega⟩
theorem R3 (m : Ah) (k : Nat) : Nm m (Vs m k) :=
 ⟨rfl, rfl, La _ _, fun q hq => by
  show (Tn m.fNext k).getD q 0 = _ ∨ _ ∧ (Tn m.fNext k).getD q 0 = _
  rw [Oi _ _ _ hq]; unfold Ln
  split
  ·rename_i h; exact .inr ⟨h.1, rfl⟩
  ·exact .inl rfl⟩
theorem Rd : ∀ (l x : List Int), x.length = l.length → (∀ q, q < l.length → x.getD q 0 = l.getD q 0 ∨ (0 ≤ l.getD q 0 ∧ x.getD q 0 = -1)) → ∃ k, k < 2 ^ Hk l l.length ∧ ∀ q, q < l.length → x.getD q 0 = Ln l k q
 | [], x, h, _ => ⟨0, by simp [Hk], fun q hq => by simp at hq⟩
 | n :: ns, [], h, _ => by simp at h
 | n :: ns, y :: ys, h, hq => by
  obtain ⟨k, hk, hk2⟩ := Rd ns ys (by simpa using h) (fun q hq' => by have := hq (q + 1) (by simpa using hq'); simpa using this)
  have h0 := hq 0 (by simp)
  simp only [List.getD_cons_zero] at h0
  by_cases hn : 0 ≤ n
  ·refine ⟨2 * k + if y = n then 0 else 1, ?_, ?_⟩
   ·rw [List.length_cons, Hk, if_pos hn, Nat.pow_add]
    split <;> omega
   ·intro q hq'
    cases q with
    | zero =>
     simp only [List.getD_cons_zero, Ln, HK]
     by_cases hy : y = n
     ·simp [hy]
     ·rw [if_neg hy, if_pos ⟨hn, by simp⟩]; omega
    | succ q =>
     have := hk2 q (by simpa using hq')
     simp only [List.getD_cons_succ, Ln, Hk, if_pos hn] at this ⊢
     rw [this, Nat.add_comm 1, Nat.testBit_succ]
     have : (2 * k + if y = n then 0 else 1) / 2 = k := by split <;> omega
     rw [this]
  ·refine ⟨k, ?_, ?_⟩
   ·rw [List.length_cons, Hk, if_neg hn, Nat.zero_add]; exact hk
   ·intro q hq'
    cases q with
    | zero =>
     simp only [List.getD_cons_zero, Ln, HK]
     rw [if_neg (fun h => hn h.1)]
     omega
    | succ q =>
     have := hk2 q (by simpa using hq')
     simp only [List.getD_cons_succ, Ln, Hk, if_neg hn, Nat.zero_add] at this ⊢
     exact this
theorem MO {m x : Ah} : x ∈ Fl m ↔ Nm m x := by
 unfold Fl
 rw [List.mem_map]
 constructor
 ·rintro ⟨k, _, rfl⟩; exact R3 m k
 ·intro h
  obtain ⟨k, hk, hq⟩ := Rd m.fNext x.fNext h.len h.next
  refine ⟨k, List.mem_range.2 hk, ?_⟩
  have : Tn m.fNext k = x.fNext := EI (by rw [La, h.len]) fun q hq' => by
   rw [La] at hq'
   rw [Oi _ _ _ hq', hq q hq']
  unfold Vs
  rw [this, ← h.base, ← h.held]
theorem VL {m x : Ah} (h : Nm m x) {s : Nat} (hs : s < m.fNext.length) {v : Nat} (hv : GI x s v = true) : GI m s v = true := by
 unfold GI at hv ⊢
 rw [h.base] at hv
 have := h.next s hs
 simp only [Bool.or_eq_true, decide_eq_true_eq] at hv ⊢
 omega
theorem Uz {p : Ae} {m x : Ah} (hp : Bc p) (hm : BO p m) (h : Nm m x) : BO p x := by
 refine ⟨⟨by rw [h.base]; exact hm.base, by rw [h.len]; exact hm.next, by rw [h.held]; exact hm.held, fun i hi => by rw [h.base]; exact hm.b0 i hi, fun i hi => ?_, fun i hi => ?_⟩, fun i hi => by rw [h.held]; exact hm.range i hi, fun i t ht hs v hv => ?_, fun i t ht hs v hv => ?_, fun i t ht hs => by rw [h.held]; exact hm.none i t ht hs⟩
 ·have h1 := hm.n0 i hi
  have h2 := h.next i (by rw [hm.next]; exact hi)
  have h3 := GD hp hi
  omega
 ·have h1 := hm.ne i hi
  have h2 := h.next i (by rw [hm.next]; exact hi)
  have h3 := hm.b0 i hi
  rw [h.base]
  omega
 ·have hin := (JD (hp.tab t (List.mem_of_getElem? ht))).from0
  rw [h.held]
  exact hm.low i t ht hs v (VL h (by rw [hm.next]; omega) hv)
 ·rw [h.held] at hv
  exact hm.high i t ht hs v hv
theorem JJ (N : Nat) (l : List Int) (h : l.length ≤ Dv) : BH N l = some l := by
 unfold BH
 rw [Az (by simpa using h)]; rfl
theorem NK (N : Nat) (l : List Int) (h : l.length ≤ Dv) : BP N l = some l := by
 unfold BP
 rw [Az (by simpa using h)]; rfl
theorem HC {l : List Int} {i q : Nat} {y : Int} (hi : i < l.length) : (l.set i y).getD q 0 = if q = i then y else l.getD q 0 := by
 rw [List.getD_eq_getElem?_getD, List.getD_eq_getElem?_getD, List.getElem?_set]
 by_cases h : i = q
 ·subst h; simp [hi]
 ·rw [if_neg h, if_neg (fun e => h e.symm)]
theorem T1 {l : List Int} {a b : Nat} (ha : a < l.length) (hb : b < l.length) (h1 : 0 ≤ l.getD a 0) (h2 : 0 ≤ l.getD b 0) (h : Hk l a = Hk l b) : a = b := by
 rcases Nat.lt_trichotomy a b with h3 | h3 | h3
 ·have := Md l (a := a + 1) (b := b) h3 (by omega)
  rw [Gk l a ha, if_pos h1] at this; omega
 ·exact h3
 ·have := Md l (a := b + 1) (b := a) h3 (by omega)
  rw [Gk l b hb, if_pos h2] at this; omega
structure S6 (l : List Int) (o : List Int) : Prop where
 len : o.length = Hk l l.length
 at_ : ∀ b, b < o.length → ∃ i : Nat, o.getD b 0 = (i : Int) ∧ i < l.length ∧ 0 ≤ l.getD i 0 ∧ Hk l i = b
theorem P8 (N : Nat) (l o : List Int) (k : Nat) (acc : List Ah) (hN : N ≤ 1000000) (h20 : 20 ≤ N) (hl : l.length ≤ 6) (ho : S6 l o) (hk : k < 64) (j : List Int → Option (List Ah × Int)) :
  CL N o (acc, (k : Int)) j N (l, 0) = j (Tn l k) := by
 have hol := I9 l l.length (Nat.le_refl _)
 have hoL := ho.len
 obtain ⟨x, e, h1, h2⟩ := EF (A := List Int) (CL N o (acc, (k : Int)) j) (fun a k => (a, k)) o.length j
  (fun b a => a.length = l.length ∧ ∀ q, q < l.length → a.getD q 0 = if 0 ≤ l.getD q 0 ∧ Hk l q < b ∧ k.testBit (Hk l q) = true then -1 else l.getD q 0)
  (fun n b a hb ha => by
   obtain ⟨i, hi1, hi2, hi3, hi4⟩ := ho.at_ b hb
   have hbit := Rb ⟨k, hk⟩ ⟨b, by omega⟩
   rw [CL]
   simp only [Bf]
   rw [AL (by omega), CN (d := 0) hb]
   simp only [Option.bind_some]
   rw [Az (by omega), hi1, hbit.1, CN (d := 0) (show i < a.length by rw [ha.1]; exact hi2), AM (by omega)]
   simp only [Option.bind_some, Int.toNat_natCast]
   cases hkb : k.testBit b
   ·refine ⟨a, rfl, ha.1, fun q hq => ?_⟩
    rw [ha.2 q hq]
    by_cases hqb : Hk l q = b
    ·rw [hqb, hkb]; simp
    ·by_cases h3 : Hk l q < b
     ·have : Hk l q < b + 1 := by omega
      simp [h3, this]
     ·have : ¬ Hk l q < b + 1 := by omega
      simp [h3, this]
   ·refine ⟨a.set i (-1), rfl, by simp [ha.1], fun q hq => ?_⟩
    rw [HC (by rw [ha.1]; exact hi2), ha.2 q hq]
    by_cases hqi : q = i
    ·subst hqi
     rw [if_pos rfl, if_pos ⟨hi3, by omega, by rw [hi4]; exact hkb⟩]
    ·rw [if_neg hqi]
     by_cases h0 : 0 ≤ l.getD q 0
     ·have hne : Hk l q ≠ b := fun h => hqi (T1 hq hi2 h0 hi3 (by omega))
      by_cases h3 : Hk l q < b
      ·have : Hk l q < b + 1 := by omega
       simp [h3, this]
      ·have : ¬ Hk l q < b + 1 := by omega
       simp [h3, this]
     ·rw [if_neg (fun h => h0 h.1), if_neg (fun h => h0 h.1)])
  (fun n a _ => by
   rw [CL]
   simp only [Bf]
   rw [AH (by omega)]) N 0 l (Nat.zero_le _) (by omega) ⟨rfl, fun q hq => by simp⟩
 have e' : CL N o (acc, (k : Int)) j N (l, 0) = j x := e
 rw [e']
 congr 1
 refine EI (by rw [La, h1]) fun q hq => ?_
 rw [h1] at hq
 rw [h2 q hq, Oi _ _ _ hq, Ln]
 by_cases h0 : 0 ≤ l.getD q 0
 ·have h3 := Md l (a := q + 1) (b := l.length) hq (Nat.le_refl _)
  rw [Gk l q hq, if_pos h0] at h3
  have : Hk l q < o.length := by omega
  simp [this]
 ·rw [if_neg (fun h => h0 h.1), if_neg (fun h => h0 h.1)]
theorem Pw (N : Nat) (m : Ah) (k : Nat) (acc : List Ah) (hN : N ≤ 1000000) (h20 : 20 ≤ N) (hl : m.fNext.length ≤ 6) (hk : k < 64) (j : List Int → Option (List Ah)) :
  BQ N m (acc, (k : Int)) j N (m.fNext, 0, 0) = j (Tn m.fNext k) := by
 obtain ⟨⟨x, pl⟩, e, h1, h2, h3⟩ := EF (A := List Int × Nat) (BQ N m (acc, (k : Int)) j) (fun a k => (a.1, (a.2 : Int), k)) m.fNext.length (fun a => j a.1)
  (fun i a => a.2 = Hk m.fNext i ∧ a.1.length = m.fNext.length ∧ ∀ q, q < m.fNext.length → a.1.getD q 0 = if q < i then Ln m.fNext k q else m.fNext.getD q 0)
  (fun n i a hi ha => by
   obtain ⟨a, pl⟩ := a
   obtain ⟨a1, a2, a3⟩ := ha
   simp only at a1 a2 a3
   have hple := I9 m.fNext i (by omega)
   have hbit := Rb ⟨k, hk⟩ ⟨pl, by omega⟩
   have hs := Gk m.fNext i hi
   rw [BQ]
   simp only [Bf]
   rw [AL (by omega), CN (d := 0) hi]
   simp only [Option.bind_some]
   rw [AM (by omega)]
   by_cases h0 : m.fNext.getD i 0 < 0
   ·rw [AL h0]
    refine ⟨(a, pl), rfl, by simp only; rw [hs, if_neg (by omega), a1]; rfl, a2, fun q hq => ?_⟩
    simp only
    rw [a3 q hq]
    by_cases hqi : q = i
    ·subst hqi
     rw [if_neg (by omega), if_pos (by omega), Ln, if_neg (by omega)]
    ·by_cases h4 : q < i
     ·rw [if_pos h4, if_pos (by omega)]
     ·rw [if_neg h4, if_neg (by omega)]
   ·rw [AH h0, Az (by omega), CN (d := 0) (show i < a.length by omega), hbit.2, AM (by omega)]
    simp only [Option.bind_some, Int.toNat_natCast]
    cases hkb : k.testBit pl
    ·refine ⟨(a, pl + 1), rfl, by simp only; rw [hs, if_pos (by omega), a1], a2, fun q hq => ?_⟩
     simp only
     rw [a3 q hq]
     by_cases hqi : q = i
     ·subst hqi
      rw [if_neg (by omega), if_pos (by omega), Ln, ← a1, hkb]; simp
     ·by_cases h4 : q < i
      ·rw [if_pos h4, if_pos (by omega)]
      ·rw [if_neg h4, if_neg (by omega)]
    ·refine ⟨(a.set i (-1), pl + 1), rfl, by simp only; rw [hs, if_pos (by omega), a1], by simp [a2], fun q hq => ?_⟩
     simp only
     rw [HC (by omega), a3 q hq]
     by_cases hqi : q = i
     ·subst hqi
      rw [if_pos rfl, if_pos (by omega), Ln, ← a1, if_pos ⟨by omega, hkb⟩]
     ·rw [if_neg hqi]
      by_cases h4 : q < i
      ·rw [if_pos h4, if_pos (by omega)]
      ·rw [if_neg h4, if_neg (by omega)])
  (fun n a _ => by
   rw [BQ]
   simp only [Bf]
   rw [AH (by omega)]) N 0 (m.fNext, 0) (Nat.zero_le _) (by omega) ⟨(HK _).symm, rfl, fun q hq => by simp⟩
 have e' : BQ N m (acc, (k : Int)) j N (m.fNext, 0, 0) = j x := e
 rw [e']
 congr 1
 simp only at h2 h3
 refine EI (by rw [La, h2]) fun q hq => ?_
 rw [h2] at hq
 rw [h3 q hq, if_pos hq, Oi _ _ _ hq]
end Go.Lift

/- Aborts, the first mix that is to blame, and robustness: both implementations give one answer. -/
namespace Go.Lift
theorem SN (N : Nat) (m : Ah) (hN : N ≤ 1000000) (h20 : 20 ≤ N) (hl : m.fNext.length ≤ 6) (j : List Int → Option (List Ah × Int)) :
  ∃ o, Dq N m j N ([], 0) = j o ∧ S6 m.fNext o := by
 obtain ⟨o, e, h1, h2⟩ := EF (A := List Int) (Dq N m j) (fun a k => (a, k)) m.fNext.length j
  (fun i o => o.length = Hk m.fNext i ∧ ∀ b, b < o.length → ∃ q : Nat, o.getD b 0 = (q : Int) ∧ q < m.fNext.length ∧ 0 ≤ m.fNext.getD q 0 ∧ Hk m.fNext q = b)
  (fun n i o hi ho => by
   have hple := I9 m.fNext i (by omega)
   have hs := Gk m.fNext i hi
   rw [Dq]
   simp only [Bf]
   rw [AL (by omega), CN (d := 0) hi]
   simp only [Option.bind_some]
   rw [AM (by omega)]
   by_cases h0 : 0 ≤ m.fNext.getD i 0
   ·rw [AL h0, Az (by rw [ho.1]; unfold Dv; simp; omega)]
    refine ⟨o ++ [(i : Int)], rfl, by rw [hs, if_pos h0, ← ho.1]; simp, ?_⟩
    rw [List.length_append]
    exact Fs (P := fun b y => ∃ q : Nat, y = (q : Int) ∧ q < m.fNext.length ∧ 0 ≤ m.fNext.getD q 0 ∧ Hk m.fNext q = b) rfl ho.2 ⟨i, rfl, hi, h0, ho.1.symm⟩
   ·rw [AH h0]
    exact ⟨o, rfl, by rw [hs, if_neg h0, ho.1]; rfl, ho.2⟩)
  (fun n a _ => by
   rw [Dq]
   simp only [Bf]
   rw [AH (by omega)]) N 0 [] (Nat.zero_le _) (by omega) ⟨(HK _).symm, fun b hb => by simp at hb⟩
 exact ⟨o, e, h1, h2⟩
theorem Kh {n : Nat} (h : n ≤ 6) : 2 ^ n ≤ 64 := Nat.pow_le_pow_right (n := 2) (by omega) h
theorem L4 {n : Nat} (h : n ≤ 6) : Dz .i64 1 (n : Int) = ((2 ^ n : Nat) : Int) := T4 ⟨n, by omega⟩
theorem Jb {β : Type} (f : Nat → β) (n : Nat) : (List.range (n + 1)).map f = (List.range n).map f ++ [f n] := by
 rw [List.range_succ, List.map_append]; rfl
theorem Nb (N : Nat) (p : Ae) (m : Ah) (hN : N ≤ 1000000) (h20 : 100 ≤ N) (hw : KA IT m.fHeld) (hv : EL p m = 0) : FO N p m = some (Fl m, 0) := by
 obtain ⟨hp, hm⟩ := Ip hw hv
 have hnv := hp.nv
 have hnt := hp.nt
 have hl : m.fNext.length ≤ 6 := by rw [hm.next]; omega
 unfold FO
 rw [Ho N p m hN (by omega) hw, hv]
 simp only [Option.bind_some, bne_self_eq_false, Av]
 obtain ⟨o, e, ho⟩ := SN N m hN (by omega) hl (fun (v4 : (List Int)) =>
   (D8 (0 ≤ (v4.length : Int))).bind fun _ =>
   CI N m v4 (fun (v12 : (List Ah)) =>
    some (v12, 0)) N (([] : List Ah), 0))
 rw [e, Az (by omega)]
 have hoL := ho.len
 have hol := I9 m.fNext m.fNext.length (Nat.le_refl _)
 have hpow := Kh (show Hk m.fNext m.fNext.length ≤ 6 by omega)
 obtain ⟨a, e2, h1⟩ := EF (A := List Ah) (CI N m o fun v12 => some (v12, 0)) (fun a k => (a, k)) (2 ^ Hk m.fNext m.fNext.length) (fun v12 => some (v12, 0))
  (fun i a => a = (List.range i).map (Vs m))
  (fun n i a hi ha => by
   refine ⟨a ++ [Vs m i], ?_, by rw [Jb, ha]⟩
   have hal : a.length = i := by rw [ha]; simp
   rw [CI]
   rw [hoL, L4 (n := Hk m.fNext m.fNext.length) (by omega), AL (by omega), JJ N m.fBase (by have := hm.base; unfold Dv; omega), JJ N m.fNext (by unfold Dv; omega), NK N m.fHeld (by have := hm.held; unfold Dv; omega)]
   simp only [Option.bind_some]
   rw [P8 N m.fNext o i a hN (by omega) hl ho (by omega), Az (by rw [hal]; unfold Dv; simp; omega), AM (by omega)]
   rfl)
  (fun n a _ => by
   rw [CI]
   rw [hoL, L4 (n := Hk m.fNext m.fNext.length) (by omega), AH (by simp)]) N 0 [] (Nat.zero_le _) (by omega) rfl
 have e2' : CI N m o (fun v12 => some (v12, 0)) N ([], 0) = some (a, 0) := e2
 rw [e2', h1]; rfl
theorem Qo (N : Nat) (m : Ah) (h1 : m.fBase.length ≤ Dv) (h2 : m.fNext.length ≤ Dv) (h3 : m.fHeld.length ≤ Dv) : DN N m = some m := by
 unfold DN
 rw [Az (by simpa using h1), Az (by simpa using h2), Az (by simpa using h3)]; rfl
theorem QJ (N : Nat) (m : Ah) (hN : N ≤ 1000000) (h20 : 100 ≤ N) (h1 : m.fBase.length ≤ 100) (hl : m.fNext.length ≤ 6) (h3 : m.fHeld.length ≤ 100) : DU N m = some (Fl m) := by
 unfold DU
 obtain ⟨c, e, hc⟩ := EF (A := Nat) (Cm N m (fun (v2 : Int) =>
  Bv N m v2 (fun (v8 : (List Ah)) => some v8) N (([] : List Ah), 0))) (fun a k => ((a : Int), k)) m.fNext.length (fun a => Bv N m (a : Int) (fun (v8 : (List Ah)) => some v8) N (([] : List Ah), 0))
  (fun i a => a = Hk m.fNext i)
  (fun n i a hi ha => by
   have hple := I9 m.fNext i (by omega)
   have hs := Gk m.fNext i hi
   rw [Cm]
   simp only [Bf]
   rw [AL (by omega), CN (d := 0) hi]
   simp only [Option.bind_some]
   rw [AM (by omega), AM (by omega)]
   by_cases h0 : 0 ≤ m.fNext.getD i 0
   ·rw [AL h0]
    exact ⟨a + 1, rfl, by rw [hs, if_pos h0, ha]⟩
   ·rw [AH h0]
    exact ⟨a, rfl, by rw [hs, if_neg h0, ha]; rfl⟩)
  (fun n a _ => by
   rw [Cm]
   simp only [Bf]
   rw [AH (by omega)]) N 0 0 (Nat.zero_le _) (by omega) (HK _).symm
 have e' : Cm N m (fun (v2 : Int) => Bv N m v2 (fun (v8 : (List Ah)) => some v8) N (([] : List Ah), 0)) N (0, 0) = _ := e
 rw [e', hc]
 have hol := I9 m.fNext m.fNext.length (Nat.le_refl _)
 have hpow := Kh (show Hk m.fNext m.fNext.length ≤ 6 by omega)
 obtain ⟨a, e2, h1⟩ := EF (A := List Ah) (Bv N m (Hk m.fNext m.fNext.length : Int) fun v8 => some v8) (fun a k => (a, k)) (2 ^ Hk m.fNext m.fNext.length) some
  (fun i a => a = (List.range i).map (Vs m))
  (fun n i a hi ha => by
   refine ⟨a ++ [Vs m i], ?_, by rw [Jb, ha]⟩
   have hal : a.length = i := by rw [ha]; simp
   rw [Bv]
   rw [Az (by omega), L4 (n := Hk m.fNext m.fNext.length) (by omega), AL (by omega), Qo N m (by unfold Dv; omega) (by unfold Dv; omega) (by unfold Dv; omega)]
   simp only [Option.bind_some]
   rw [Pw N m i a hN (by omega) hl (by omega), Az (by rw [hal]; unfold Dv; simp; omega), AM (by omega)]
   rfl)
  (fun n a _ => by
   rw [Bv]
   rw [Az (by omega), L4 (n := Hk m.fNext m.fNext.length) (by omega), AH (by simp)]) N 0 [] (Nat.zero_le _) (by omega) rfl
 have e2' : Bv N m (Hk m.fNext m.fNext.length : Int) (fun v8 => some v8) N ([], 0) = some a := e2
 rw [e2', h1]; rfl
theorem Qx (N : Nat) (p : Ae) (m : Ah) (hN : N ≤ 1000000) (h20 : 100 ≤ N) (hp : Bc p) (hm : BO p m) : DU N m = some (Fl m) := by
 have := hp.nv
 have := hp.nt
 exact QJ N m hN h20 (by rw [hm.base]; omega) (by rw [hm.next]; omega) (by rw [hm.held]; omega)
theorem I4 {p : Ae} {m : Ah} (hm : BO p m) : KA IT m.fHeld := by
 intro x hx
 obtain ⟨q, hq⟩ := List.mem_iff_getElem?.1 hx
 have h1 := (List.getElem?_eq_some_iff.1 hq).1
 have := hm.range q (by rw [← hm.held]; exact h1)
 rw [List.getD_eq_getElem?_getD, hq] at this
 unfold IT
 simp only [Option.getD_some] at this
 simp [Lit.wf, IntKind.min, IntKind.max, IntKind.signed, IntKind.bits]
 omega
def Kc (p : Ae) (x : Ah) : Option (Ah × An) := match F3 p x with
 | [] => none
 | c :: _ => some (x, c)
def MF (p : Ae) (m : Ah) : Option (Ah × An) := Df (fun _ x => Kc p x) 0 (Fl m)
def Gq : Ah := ⟨[], [], []⟩
def Tb : An := ⟨0, 0, 0⟩
def QB (p : Ae) (m : Ah) : Ah × An × Int := match MF p m with
 | some (x, c) => (x, c, 0)
 | none => (Gq, Tb, 15)
def BW (p : Ae) (m : Ah) : Bool := (MF p m).isNone
theorem MY {m : Ah} (hl : m.fNext.length ≤ 6) : (Fl m).length ≤ 64 := by
 unfold Fl
 have hol := I9 m.fNext m.fNext.length (Nat.le_refl _)
 have hpow := Kh (show Hk m.fNext m.fNext.length ≤ 6 by omega)
 simpa using hpow
theorem Jh {α R R' : Type} (f : Nat → α → Option R) (g : R → R') : ∀ (i : Nat) (xs : List α), Df (fun i x => (f i x).map g) i xs = (Df f i xs).map g
 | _, [] => rfl
 | i, x :: xs => by
  rw [FB, FB]
  cases f i x
  ·exact Jh f g (i + 1) xs
  ·rfl
theorem On (N : Nat) (p : Ae) (m : Ah) (hN : N ≤ 1000000) (h20 : 100 ≤ N) (hw : KA IT m.fHeld) (hv : EL p m = 0) : Fa N p m = some (QB p m) := by
 obtain ⟨hp, hm⟩ := Ip hw hv
 have hnv := hp.nv
 unfold Fa
 rw [Nb N p m hN h20 hw hv]
 simp only [Option.bind_some, bne_self_eq_false, Av]
 have hal := MY (m := m) (by rw [hm.next]; omega)
 have := Cl (Eh N p (Fl m, 0) fun _ => some (Gq, Tb, 15)) (Fl m) (some (Gq, Tb, 15)) (fun _ x => (Kc p x).map fun y => (y.1, y.2, 0))
  (fun n i x hx => by
   have hi := (List.getElem?_eq_some_iff.1 hx).1
   have hx2 := Uz hp hm (MO.1 (List.mem_of_getElem? hx))
   rw [Eh, AL (by simp only; omega)]
   simp only [A1, hx, Option.bind_some]
   rw [Lx N p x hN (by omega) hp hx2, AM (by omega)]
   simp only [Option.bind_some, Kc]
   cases F3 p x with
   | nil => rfl
   | cons c cs => rw [AL (by simp only [List.length_cons]; omega)]; rfl)
  (fun n => by rw [Eh, AH (by simp)]) N 0 (Nat.zero_le _) (by omega)
 rw [List.drop_zero, Jh] at this
 exact this.trans (by
  unfold QB MF
  cases Df (fun _ x => Kc p x) 0 (Fl m) <;> rfl)
theorem Ib (N : Nat) (p : Ae) (m : Ah) (hN : N ≤ 1000000) (h20 : 100 ≤ N) (hw : KA IT m.fHeld) (hv : EL p m = 0) : Fe N p m = some (BW p m, 0) := by
 unfold Fe
 rw [On N p m hN h20 hw hv]
 unfold BW QB
 cases MF p m <;> rfl
theorem P9 (N : Nat) (p : Ae) (m : Ah) (hN : N ≤ 1000000) (h20 : 100 ≤ N) (hp : Bc p) (hm : BO p m) : DP N p m = some (F3 p m).isEmpty := by
 unfold DP
 rw [Lk N p m hN (by omega) hp hm]
 simp only [Option.bind_some]
 cases F3 p m with
 | nil => rfl
 | cons c cs =>
  rw [beq_eq_false_iff_ne.2 (by simp only [List.length_cons]; omega)]; rfl
theorem GO (N : Nat) (p : Ae) (m : Ah) (hN : N ≤ 1000000) (h20 : 100 ≤ N) (hp : Bc p) (hm : BO p m) : Cq N p m = some (BW p m) := by
 have hnv := hp.nv
 unfold Cq
 rw [Qx N p m hN h20 hp hm]
 simp only [Option.bind_some]
 have hal := MY (m := m) (by rw [hm.next]; omega)
 have := Cl (BZ N p (Fl m) fun _ => some true) (Fl m) (some true) (fun _ x => (Kc p x).map fun _ => false)
  (fun n i x hx => by
   have hi := (List.getElem?_eq_some_iff.1 hx).1
   have hx2 := Uz hp hm (MO.1 (List.mem_of_getElem? hx))
   rw [BZ, AL (by omega)]
   simp only [A1, hx, Option.bind_some]
   rw [P9 N p x hN h20 hp hx2, AM (by omega)]
   simp only [Option.bind_some, Kc]
   cases F3 p x with
   | nil => rfl
   | cons c cs => rfl)
  (fun n => by rw [BZ, AH (by simp)]) N 0 (Nat.zero_le _) (by omega)
 rw [List.drop_zero, Jh] at this
 refine Eq.trans this ?_
 unfold BW MF
 cases Df (fun _ x => Kc p x) 0 (Fl m) <;> rfl
end Go.Lift

/- The laws of the mixes in plain words: MixConflicts, MixAborts, MixAborted, MixGoal, MixValid. -/
namespace Go.Lift
theorem PK {N : Nat} {a b : Ah} (hN : N ≤ 1000000) (h1 : a.fBase.length < N) (h2 : a.fNext.length < N) (h3 : a.fHeld.length < N) (h4 : b.fHeld.length < N) (wa : KA IT a.fHeld) (wb : KA IT b.fHeld) : Dx N a b = some (Qr a b) := by
 unfold Dx
 rw [MC h1 hN, MC h2 hN, LH h3 hN wa, LH h4 hN wb]
 simp only [Option.bind_some]
 rw [MC h3 hN]
 unfold Qr U8
 by_cases h1 : Hh a.fBase b.fBase = 0
 ·simp only [h1, U8]
  by_cases h2 : Hh a.fNext b.fNext = 0
  ·simp only [h2]
   by_cases h3 : Hh a.fHeld b.fHeld = 0 <;> simp [h3]
  ·have : (Hh a.fNext b.fNext != 0) = true := by simpa using h2
   simp [h2, this]
 ·have : (Hh a.fBase b.fBase != 0) = true := by simpa using h1
  simp [h1, this]
theorem Sa (d : B8) (x : BJ) (wd : EB d) (wx : ED x) :
  ∃ p ok, D9 1000 d = some (p, ok) ∧ (ok = true → S3 p ∧ Bc p ∧ ∃ m, Eb 1000 p x = some m ∧ Ww p x m ∧ BO p m ∧ EL p m = 0 ∧ KA IT m.fHeld) := by
 obtain ⟨p, ok, e, h⟩ := XL 1000 d (by omega) (by omega) wd
 refine ⟨p, ok, e, fun hk => ?_⟩
 have hg := h hk
 have hp := (Eg hg.valid).1
 obtain ⟨m, e2, hi, ho⟩ := XX 1000 p x (by omega) (by omega) hp wx
 exact ⟨hg, hp, m, e2, hi, ho, Gs hg.valid ho, I4 ho⟩
end Go.Lift

/- The laws of the mixes in plain words: MixGoal, MixValid. -/
namespace Go.Lift
theorem OB (N : Nat) (a b : List Int) (hN : N ≤ 1000000) (h : a.length < N) : Dn N a b = some (a == b) := by
 unfold Dn
 by_cases hl : a.length = b.length
 ·rw [hl, bne_self_eq_false, Av]
  have := Cl (BY N a b fun _ => some true) a (some true) (fun i x => if x = b.getD i 0 then none else some false)
   (fun n i x hx => by
    have hi := (List.getElem?_eq_some_iff.1 hx).1
    rw [BY, AL (by omega), A1, hx, CN (d := 0) (by omega)]
    simp only [Option.bind_some]
    rw [AM (by omega)]
    by_cases h : x = b.getD i 0
    ·rw [if_pos h, h, bne_self_eq_false]; rfl
    ·rw [if_neg h, bne_iff_ne.2 h]; rfl)
   (fun n => by rw [BY, AH (by simp)]) N 0 (Nat.zero_le _) (by omega)
  refine this.trans ?_
  rw [List.drop_zero]
  cases hs : Df (fun i x => if x = b.getD i 0 then none else some false) 0 a with
  | none =>
   have : a = b := EI hl fun q hq => by
    have hx : a[q]? = some (a.getD q 0) := by rw [List.getD_eq_getElem?_getD]; simp [hq]
    have := Eo hs q _ hx
    rw [Nat.zero_add] at this
    split at this
    ·assumption
    ·cases this
   rw [this, beq_self_eq_true]; rfl
  | some r =>
   obtain ⟨j, x, hx, hf⟩ := DR hs
   rw [Nat.zero_add] at hf
   split at hf
   ·cases hf
   ·rename_i hne
    cases hf
    have : (a == b) = false := beq_eq_false_iff_ne.2 fun e => hne (by rw [← e, List.getD_eq_getElem?_getD, hx]; rfl)
    rw [this]; rfl
 ·have h1 : ((a.length : Int) != (b.length : Int)) = true := bne_iff_ne.2 (by omega)
  have h2 : (a == b) = false := beq_eq_false_iff_ne.2 fun e => hl (by rw [e])
  rw [h1, h2]; rfl
theorem OQ (N : Nat) (a : List Int) (f : Int → Option Bool) (g : Int → Bool) (hN : N ≤ 1000000) (h : a.length < N) (hf : ∀ x, x ∈ a → f x = some (g x)) : Co N a f = some (a.any g) := by
 unfold Co Dt
 have := Cl (Bg N a f fun _ => some (-1)) a (some (-1)) (fun i x => if g x then some (i : Int) else none)
  (fun n i x hx => by
   have hi := (List.getElem?_eq_some_iff.1 hx).1
   rw [Bg, AL (by omega), A1, hx]
   simp only [Option.bind_some]
   rw [hf x (List.mem_of_getElem? hx), AM (by omega)]
   simp only [Option.bind_some]
   cases g x <;> rfl)
  (fun n => by rw [Bg, AH (by simp)]) N 0 (Nat.zero_le _) (by omega)
 have e : Bg N a f (fun _ => some (-1)) N 0 = _ := this
 rw [e, List.drop_zero]
 cases hs : Df (fun i x => if g x then some (i : Int) else none) 0 a with
 | none =>
  have : a.any g = false := by
   rw [List.any_eq_false]
   intro x hx
   obtain ⟨j, hj⟩ := List.mem_iff_getElem?.1 hx
   have := Eo hs j x hj
   intro hg
   rw [hg] at this; cases this
  rw [this]; rfl
 | some r =>
  obtain ⟨j, x, hx, hf⟩ := DR hs
  split at hf
  ·rename_i hg
   cases hf
   have : a.any g = true := List.any_eq_true.2 ⟨x, List.mem_of_getElem? hx, hg⟩
   rw [this]
   simp only [BD, Option.bind_some]
   rw [decide_eq_true (by omega)]
  ·cases hf
def Gv (p : Ae) (m : Ah) : Bool := EL p m == 0 && (m.fBase == p.fTarget && m.fNext.all (fun n => decide (n < 0)))
theorem PD (N : Nat) (p : Ae) (m : Ah) (hN : N ≤ 1000000) (h20 : 100 ≤ N) (hw : KA IT m.fHeld) : F7 N p m = some (Gv p m) := by
 unfold F7 Gv
 rw [Ho N p m hN (by omega) hw]
 simp only [Bf, Option.bind_some]
 by_cases hv : EL p m = 0
 ·obtain ⟨hp, hm⟩ := Ip hw hv
  have := hp.nv
  rw [hv, OB N _ _ hN (by rw [hm.base]; omega), OQ N m.fNext (fun x => FK N x) (fun n => decide (0 ≤ n)) hN (by rw [hm.next]; omega) (fun x _ => rfl)]
  simp only [Option.bind_some, beq_self_eq_true, AP, Bool.true_and]
  have : m.fNext.all (fun n => decide (n < 0)) = !m.fNext.any (fun n => decide (0 ≤ n)) := by
   rw [List.not_any_eq_all_not]
   congr 1; funext n
   by_cases h : 0 ≤ n
   ·rw [decide_eq_true h, decide_eq_false (by omega)]; rfl
   ·rw [decide_eq_false h, decide_eq_true (by omega)]; rfl
  rw [this]
  cases m.fBase == p.fTarget <;> simp
 ·rw [beq_eq_false_iff_ne.2 hv]; rfl
theorem Pd (N : Nat) (p : Ae) (m : Ah) (hN : N ≤ 1000000) (h20 : 100 ≤ N) (hw : KA IT m.fHeld) : Ek N p m = some (Gv p m) := by
 unfold Ek Gv
 rw [Gt N p m hN (by omega)]
 simp only [Option.bind_some]
 by_cases hv : EL p m = 0
 ·obtain ⟨hp, hm⟩ := Ip hw hv
  have h1 := hp.nv
  have h2 := hp.tgt
  have h3 := hm.base
  have h4 := hm.next
  rw [hv]
  simp only [bne_self_eq_false, Av, beq_self_eq_true, Bool.true_and]
  have := Cl (CA N p m fun _ => some true) m.fBase (some true) (fun i x => if 0 ≤ m.fNext.getD i 0 ∨ x ≠ p.fTarget.getD i 0 then some false else none)
   (fun n i x hx => by
    have hi := (List.getElem?_eq_some_iff.1 hx).1
    rw [CA, AL (by omega)]
    simp only [Bf]
    rw [show B0 m.fBase (i : Int) = some x from by rw [A1, hx], CN (d := 0) (by omega), CN (d := 0) (by omega)]
    simp only [Option.bind_some]
    rw [AM (by omega)]
    by_cases k1 : 0 ≤ m.fNext.getD i 0
    ·rw [AL k1, if_pos (.inl k1)]; rfl
    ·rw [AH k1]
     by_cases k2 : x = p.fTarget.getD i 0
     ·rw [if_neg (fun h => h.elim k1 (fun h => h k2)), k2, bne_self_eq_false]; rfl
     ·rw [if_pos (.inr k2), bne_iff_ne.2 k2]; rfl)
   (fun n => by rw [CA, AH (by simp)]) N 0 (Nat.zero_le _) (by omega)
  refine this.trans ?_
  rw [List.drop_zero]
  cases hs : Df (fun i x => if 0 ≤ m.fNext.getD i 0 ∨ x ≠ p.fTarget.getD i 0 then some false else none) 0 m.fBase with
  | none =>
   have key : ∀ q, q < m.fBase.length → m.fBase.getD q 0 = p.fTarget.getD q 0 ∧ ¬ 0 ≤ m.fNext.getD q 0 := by
    intro q hq
    have hx : m.fBase[q]? = some (m.fBase.getD q 0) := by rw [List.getD_eq_getElem?_getD]; simp [hq]
    have := Eo hs q _ hx
    rw [Nat.zero_add] at this
    split at this
    ·cases this
    ·rename_i h; exact ⟨Decidable.not_not.1 fun h' => h (.inr h'), fun h' => h (.inl h')⟩
   have e1 : m.fBase = p.fTarget := EI (by omega) fun q hq => (key q hq).1
   have e2 : m.fNext.all (fun n => decide (n < 0)) = true := by
    rw [List.all_eq_true]
    intro n hn
    obtain ⟨q, hq⟩ := List.mem_iff_getElem?.1 hn
    have hl := (List.getElem?_eq_some_iff.1 hq).1
    have := (key q (by omega)).2
    rw [List.getD_eq_getElem?_getD, hq] at this
    simp only [Option.getD_some] at this
    simp only [decide_eq_true_eq]
    omega
   rw [e2, e1]; simp [BD]
  | some r =>
   obtain ⟨j, x, hx, hf⟩ := DR hs
   rw [Nat.zero_add] at hf
   have hj := (List.getElem?_eq_some_iff.1 hx).1
   split at hf
   ·rename_i h
    cases hf
    have : (m.fBase == p.fTarget && m.fNext.all (fun n => decide (n < 0))) = false := by
     rw [Bool.and_eq_false_iff]
     rcases h with h | h
     ·right
      rw [List.all_eq_false]
      refine ⟨m.fNext.getD j 0, ?_, ?_⟩
      ·rw [List.getD_eq_getElem?_getD, List.getElem?_eq_getElem (by omega)]; exact List.getElem_mem _
      ·simp only [decide_eq_true_eq]; omega
     ·left
      exact beq_eq_false_iff_ne.2 fun e => h (by rw [← e, List.getD_eq_getElem?_getD, hx]; rfl)
    rw [this]; rfl
   ·cases hf
 ·rw [bne_iff_ne.2 hv, beq_eq_false_iff_ne.2 hv]; rfl
end Go.Lift

/- The first mix in plain words, and the law MixStart. -/
namespace Go.Lift
open Go
end Go.Lift

/- Bits of sets of versions: or, and-not, the lowest bit. -/
namespace Go.Lift
open Go
theorem LI (x : BitVec 8) : IntKind.wrap .u8 (x.toNat : Int) = (x.toNat : Int) := by
 have := x.isLt
 simp [IntKind.wrap, IntKind.signed, IntKind.bits]
 omega
theorem Pg (x : BitVec 8) : 0 ≤ (x.toNat : Int) ∧ (x.toNat : Int) ≤ 255 := by
 have := x.isLt
 omega
theorem R4 (x : BitVec 8) (v : Nat) : CP (x.toNat : Int) v = x.getLsbD v := by
 unfold CP; rw [Int.toNat_natCast]; rfl
theorem Oo {a : Int} (ha : 0 ≤ a ∧ a ≤ 255) (v : Nat) : (BitVec.ofInt 8 a).getLsbD v = CP a v := by
 obtain ⟨a, rfl⟩ := Int.eq_ofNat_of_zero_le ha.1
 unfold BitVec.getLsbD CP
 rw [QZ (by omega), Int.toNat_natCast]
theorem Qz {a b : Int} (ha : 0 ≤ a ∧ a ≤ 255) (hb : 0 ≤ b ∧ b ≤ 255) : (∀ v, CP (CX .u8 a b) v = (CP a v && !CP b v)) ∧ 0 ≤ CX .u8 a b ∧ CX .u8 a b ≤ 255 := by
 have e : CX .u8 a b = ((BitVec.ofInt 8 a &&& ~~~BitVec.ofInt 8 b).toNat : Int) := LI (BitVec.ofInt 8 a &&& ~~~BitVec.ofInt 8 b)
 rw [e]
 refine ⟨fun v => ?_, Pg _⟩
 rw [R4, BitVec.getLsbD_and, BitVec.getLsbD_not, Oo ha, Oo hb]
 by_cases h : v < 8
 ·simp [h]
 ·rw [JL ha.2 (by omega)]; simp
theorem QC {a b : Int} (ha : 0 ≤ a ∧ a ≤ 255) (hb : 0 ≤ b ∧ b ≤ 255) : (∀ v, CP (Lg .u8 a b) v = (CP a v || CP b v)) ∧ 0 ≤ Lg .u8 a b ∧ Lg .u8 a b ≤ 255 := by
 have e : Lg .u8 a b = ((BitVec.ofInt 8 a ||| BitVec.ofInt 8 b).toNat : Int) := LI (BitVec.ofInt 8 a ||| BitVec.ofInt 8 b)
 rw [e]
 refine ⟨fun v => ?_, Pg _⟩
 rw [R4, BitVec.getLsbD_or, Oo ha, Oo hb]
theorem Ua {b : Nat} (hb : b < 8) : (∀ v, CP (Dz .u8 1 (b : Int)) v = decide (b = v)) ∧ 0 ≤ Dz .u8 1 (b : Int) ∧ Dz .u8 1 (b : Int) ≤ 255 := by
 refine ⟨fun v => ?_, (L3 ⟨b, hb⟩ ⟨0, by omega⟩).2⟩
 by_cases h : v < 8
 ·exact (L3 ⟨b, hb⟩ ⟨v, h⟩).1
 ·rw [JL (L3 ⟨b, hb⟩ ⟨0, by omega⟩).2.2 (by omega)]
  symm; apply decide_eq_false; omega
theorem S4 (N : Nat) {s : Int} {v : Nat} (hs : 0 ≤ s ∧ s ≤ 255) (hv : v < 8) : Ck N s (v : Int) = some (CP s v) := by
 unfold Ck
 rw [Az (by omega), Ol hs.1 hs.2 hv]
 cases CP s v <;> rfl
def UE (v : Nat) : Nat := ((List.range 8).find? fun u => v.testBit u).getD 8
def Wo (v : Nat) : Nat := ((List.range 8).filter fun u => v.testBit u).length
theorem VO : ∀ v : Fin 256, CM 0 (v.val : Int) = some (UE v.val : Int) := by decide +kernel
theorem Wt (N : Nat) {v : Nat} (h : v < 256) : CM N (v : Int) = some (UE v : Int) := VO ⟨v, h⟩
theorem Uc : ∀ v : Fin 256, v.val ≠ 0 → UE v.val < 8 ∧ CP (v.val : Int) (UE v.val) = true ∧ 0 ≤ EZ .u8 (v.val : Int) (IntKind.wrap .u8 ((v.val : Int) - 1)) ∧ EZ .u8 (v.val : Int) (IntKind.wrap .u8 ((v.val : Int) - 1)) ≤ 255 ∧
  Wo (EZ .u8 (v.val : Int) (IntKind.wrap .u8 ((v.val : Int) - 1))).toNat + 1 = Wo v.val ∧
  ∀ u : Fin 8, CP (EZ .u8 (v.val : Int) (IntKind.wrap .u8 ((v.val : Int) - 1))) u.val = (CP (v.val : Int) u.val && decide (u.val ≠ UE v.val)) := by decide +kernel
theorem Wu (v : Nat) : Wo v ≤ 8 := by
 have := List.length_filter_le (fun u => v.testBit u) (List.range 8)
 simpa [Wo] using this
theorem PU (N : Nat) (t : AF) (b : Int) (rw_ : Nat → Bool) : ∀ (k n v : Nat), Wo v ≤ k → k < n → v < 256 →
  (∀ u, u < 8 → CP (v : Int) u = true → ∃ row, B0 t.fRewrite (u : Int) = some row ∧ B0 row b = some (rw_ u)) →
  Db N t b (fun _ => some true) n (v : Int) = some ((List.range 8).all fun u => !CP (v : Int) u || rw_ u)
 | k, 0, v, _, h, _, _ => by omega
 | k, n + 1, v, hk, hn, hv, hr => by
  rw [Db]
  by_cases h0 : v = 0
  ·subst h0
   have : (((0 : Nat) : Int) != 0) = false := rfl
   rw [this, Av]
   congr 1
  ·have h1 : ((v : Int) != 0) = true := bne_iff_ne.2 (by omega)
   obtain ⟨l1, l2, l3, l4, l5, l6⟩ := Uc ⟨v, hv⟩ h0
   simp only at l1 l2 l3 l4 l5 l6
   obtain ⟨row, e1, e2⟩ := hr _ l1 l2
   rw [h1, AP, Wt N hv]
   simp only [Option.bind_some, e1, e2]
   obtain ⟨w, hw⟩ := Int.eq_ofNat_of_zero_le l3
   rw [hw] at l4 l5 l6 ⊢
   rw [Int.toNat_natCast] at l5
   cases hq : rw_ (UE v)
   ·rw [Bool.not_false, AP]
    congr 1
    symm
    rw [List.all_eq_false]
    exact ⟨UE v, by simpa using l1, by rw [l2, hq]; simp⟩
   ·rw [Bool.not_true, Av]
    match k, hk with
    | 0, hk => exfalso; omega
    | k + 1, hk =>
    rw [PU N t b rw_ k n w (by omega) (by omega) (by omega) (fun u hu hb => hr u hu (by have := l6 ⟨u, hu⟩; simp only at this; rw [hb] at this; simpa using (Bool.and_eq_true_iff.1 this.symm).1))]
    congr 1
    rw [Bool.eq_iff_iff, List.all_eq_true, List.all_eq_true]
    refine ⟨fun h u hu => ?_, fun h u hu => ?_⟩
    ·have hu8 : u < 8 := by simpa using hu
     have h3 := h u hu
     have h4 := l6 ⟨u, hu8⟩
     simp only at h4
     rw [h4] at h3
     by_cases e : u = UE v
     ·rw [e, hq]; simp
     ·simpa [e] using h3
    ·have hu8 : u < 8 := by simpa using hu
     have h3 := h u hu
     have h4 := l6 ⟨u, hu8⟩
     simp only at h4
     rw [h4]
     cases hb : CP (v : Int) u
     ·simp
     ·rw [hb] at h3; simp at h3; simp [h3]
end Go.Lift

/- Steps: both implementations give one answer. -/
namespace Go.Lift
open Go
theorem Pr (N : Nat) (m : Ah) (s : Int) (h0 : 0 ≤ s) (h1 : s < (m.fBase.length : Int)) (h2 : s < (m.fNext.length : Int)) (hb : 0 ≤ m.fBase.getD s.toNat 0) : Fc N m s = some (FH m s.toNat) := by
 unfold Fc FH
 rw [Ej (d := 0) h0 h1, Ej (d := 0) h0 h2]
 simp only [Option.bind_some, Bs]
 rw [show D8 (0 ≤ m.fBase.getD s.toNat 0) = some () from by unfold D8; rw [if_pos hb]]
 simp only [Option.bind_some]
 by_cases h : 0 ≤ m.fNext.getD s.toNat 0
 ·rw [AL h, if_pos h, show D8 (0 ≤ m.fNext.getD s.toNat 0) = some () from by unfold D8; rw [if_pos h]]; rfl
 ·rw [AH h, if_neg h]
theorem Jc (N : Nat) (t : AF) : ET N t = some (BX t) := by
 unfold ET BX
 simp only [Bs]
 cases h : t.fKind == 3 <;> simp
def Ft (s : Af) : Bool := decide (1 ≤ s.fKind ∧ s.fKind ≤ 4 ∧ 0 ≤ s.fIndex ∧ 0 ≤ s.fVersion) && (s.fKind == 1 || s.fVersion == 0)
def EV (p : Ae) (s : Af) : Bool :=
 if s.fKind = 3 then decide (s.fIndex < (p.fTables.length : Int)) else decide (s.fIndex < (p.fVersions.length : Int)) && (s.fKind != 1 || decide (s.fVersion < p.fVersions.getD s.fIndex.toNat 0))
theorem Nj (N : Nat) (s : Af) : zFS N s = some (Ft s) := by
 unfold zFS Ft R0
 simp only [Bs]
 by_cases h1 : (if s.fVersion < s.fIndex then s.fVersion else s.fIndex) < 0
 ·rw [AL h1, AP, decide_eq_false (by split at h1 <;> omega)]; rfl
 ·rw [AH h1]
  by_cases h2 : s.fKind < 1
  ·rw [AL h2, AP, decide_eq_false (by omega)]; rfl
  ·rw [AH h2]
   by_cases h3 : 4 < s.fKind
   ·rw [decide_eq_true h3, AP, decide_eq_false (by omega)]; rfl
   ·rw [decide_eq_false h3, Av, decide_eq_true (by split at h1 <;> omega), Bool.true_and]
    cases h4 : s.fKind == 1 <;> simp
theorem Og (N : Nat) (s : Af) : D7 N s = some (Ft s) := by
 unfold D7 Ft
 simp only [Bs]
 by_cases h1 : 1 ≤ s.fKind
 ·rw [AL h1]
  by_cases h2 : s.fKind ≤ 4
  ·rw [AL h2]
   by_cases h3 : 0 ≤ s.fIndex
   ·rw [AL h3]
    by_cases h4 : 0 ≤ s.fVersion
    ·rw [AL h4, decide_eq_true (by omega), Bool.true_and]
     cases h5 : s.fKind == 1 <;> simp
    ·rw [AH h4, decide_eq_false (by omega)]; rfl
   ·rw [AH h3, decide_eq_false (by omega)]; rfl
  ·rw [AH h2, decide_eq_false (by omega)]; rfl
 ·rw [AH h1, decide_eq_false (by omega)]; rfl
theorem M5 (N : Nat) (p : Ae) (s : Af) (hv : Ft s = true) : Fu N p s = some (EV p s) := by
 have h0 : 0 ≤ s.fIndex := by
  unfold Ft at hv
  rw [Bool.and_eq_true, decide_eq_true_iff] at hv
  exact hv.1.2.2.1
 unfold Fu EV
 simp only [Bs]
 by_cases h1 : s.fKind = 3
 ·rw [if_pos h1, beq_iff_eq.2 h1, AP]
 ·rw [if_neg h1, beq_eq_false_iff_ne.2 h1, Av]
  by_cases h2 : s.fIndex < (p.fVersions.length : Int)
  ·rw [AL h2, decide_eq_true h2, Bool.true_and]
   cases h3 : s.fKind != 1
   ·rw [Av, Ej (d := 0) h0 h2, Bool.false_or]; rfl
   ·rw [AP]; rfl
  ·rw [AH h2, decide_eq_false h2]; rfl
def Ri (s : Af) (t : AF) : Bool := t.fFrom == s.fIndex && BX t
def RV (s : Af) (i : Nat) (t : AF) (a : List Int) : List Int := if Ri s t = true then a.set i (Lg .u8 (a.getD i 0) (Dz .u8 1 s.fVersion)) else a
def HO (p : Ae) (s : Af) (held : List Int) : List Int := G9 (RV s) 0 p.fTables held
theorem LZ {R : Type} (N : Nat) (p : Ae) (s : Af) (held : List Int) (hv : 0 ≤ s.fVersion) (hl : held.length = p.fTables.length) (h12 : p.fTables.length < N) (hN : N ≤ 1000000) (j : List Int → Option (Bool × List Int × List Int)) :
  Do N p s j N (held, 0) = j (HO p s held) ∧ (HO p s held).length = p.fTables.length := by
 have := Hp (Do N p s j) (fun a i => (a, i)) p.fTables j (RV s) (fun i a => a.length = p.fTables.length)
  (fun n i x a hx ha => by
   have hi := (List.getElem?_eq_some_iff.1 hx).1
   rw [Do, AL (by simp only; omega)]
   simp only [Bf, A1, hx, Option.bind_some, Jc, AM (show i < 1000000 by omega)]
   have e2 : a[i]? = some (a.getD i 0) := by rw [List.getD_eq_getElem?_getD]; simp [show i < a.length from by omega]
   unfold RV Ri
   cases h1 : x.fFrom == s.fIndex
   ·rw [Av, Av, Bool.false_and, if_neg (by simp)]; exact ⟨rfl, ha⟩
   ·rw [AP, Bool.true_and]
    cases h2 : BX x
    ·rw [Av, if_neg (by simp)]; exact ⟨rfl, ha⟩
    ·rw [AP, e2, if_pos rfl]
     simp only [Option.bind_some]
     rw [Az hv]
     exact ⟨rfl, by simpa using ha⟩)
  (fun n a ha => by rw [Do, AH (by simp)]) N 0 held (Nat.zero_le _) (by omega) hl
 rw [List.drop_zero] at this
 exact this
theorem ML (N : Nat) (p : Ae) (s : Af) (held : List Int) (hv : 0 ≤ s.fVersion) (hl : held.length = p.fTables.length) (h12 : p.fTables.length < N) (hN : N ≤ 1000000) (j : List Int → Option (Ah × Bool)) :
  BT N p s j N (held, 0) = j (HO p s held) := by
 have := Hp (BT N p s j) (fun a i => (a, i)) p.fTables j (RV s) (fun i a => a.length = p.fTables.length)
  (fun n i x a hx ha => by
   have hi := (List.getElem?_eq_some_iff.1 hx).1
   rw [BT, AL (by simp only; omega)]
   simp only [Bf, A1, hx, Option.bind_some, Fd, AM (show i < 1000000 by omega)]
   have e2 : a[i]? = some (a.getD i 0) := by rw [List.getD_eq_getElem?_getD]; simp [show i < a.length from by omega]
   unfold RV Ri
   cases h1 : x.fFrom == s.fIndex
   ·rw [Av, Av, Bool.false_and, if_neg (by simp)]; exact ⟨rfl, ha⟩
   ·rw [AP, Bool.true_and]
    cases h2 : BX x
    ·rw [Av, if_neg (by simp)]; exact ⟨rfl, ha⟩
    ·rw [AP, e2, if_pos rfl]
     simp only [Option.bind_some]
     rw [Az hv]
     exact ⟨rfl, by simpa using ha⟩)
  (fun n a ha => by rw [BT, AH (by simp)]) N 0 held (Nat.zero_le _) (by omega) hl
 rw [List.drop_zero] at this
 exact this.1
def J3 (m : Ah) (t : AF) (u : Nat) : Bool := (t.fRewrite.getD u []).getD (m.fBase.getD t.fFrom.toNat 0).toNat false
def MZ (m : Ah) (i : Nat) (t : AF) (u : Nat) : Bool := CP (m.fHeld.getD i 0) u && !GI m t.fFrom.toNat u
def G7 (p : Ae) (m : Ah) (i : Nat) (t : AF) : Bool := t.fKind == 4 && (List.range 8).any fun u => MZ m i t u && !J3 m t u
def EX (p : Ae) (m : Ah) (s : Af) : Option Ah :=
 let i := s.fIndex.toNat
 if s.fKind = 1 then (if 0 ≤ m.fNext.getD i 0 ∨ m.fBase.getD i 0 = s.fVersion then none else some ⟨m.fBase, m.fNext.set i s.fVersion, HO p s m.fHeld⟩)
 else if s.fKind = 3 then match p.fTables[i]? with
  | none => none
  | some t => if BX t = false ∨ m.fHeld.getD i 0 = FH m t.fFrom.toNat ∨ G7 p m i t = true then none else some ⟨m.fBase, m.fNext, m.fHeld.set i (FH m t.fFrom.toNat)⟩
 else if m.fNext.getD i 0 < 0 then none
 else some ⟨if s.fKind = 2 then m.fBase.set i (m.fNext.getD i 0) else m.fBase, m.fNext.set i (-1), m.fHeld⟩
def A4 (p : Ae) (m : Ah) (s : Af) : Ah × Int :=
 if Ft s = false then (Gq, 1) else if EV p s = false then (Gq, 4) else match EX p m s with
  | none => (Gq, 11)
  | some x => (x, 0)
end Go.Lift

/- Steps: clearing, and the whole of Apply. -/
namespace Go.Lift
open Go
section clear
variable {p : Ae} {m : Ah} {i : Nat} {t : AF}
theorem SJ (hp : Bc p) (hm : BO p m) (ht : p.fTables[i]? = some t) (hs : BX t = true) {u : Nat} (h : CP (m.fHeld.getD i 0) u = true) : (u : Int) < p.fVersions.getD t.fFrom.toNat 0 ∧ u < 6 ∧ t.fFrom.toNat < p.fVersions.length := by
 have h1 := hm.high i t ht hs u h
 have hin := Ij (hp.tab t (List.mem_of_getElem? ht))
 have h2 := GD hp (i := t.fFrom.toNat) (by omega)
 exact ⟨h1, by omega, by omega⟩
theorem SQ (hp : Bc p) (hm : BO p m) (ht : p.fTables[i]? = some t) (hs : BX t = true) (h4 : t.fKind = 4) {u : Nat} (h : CP (m.fHeld.getD i 0) u = true) :
  B0 t.fRewrite (u : Int) = some (t.fRewrite.getD u []) ∧ B0 (t.fRewrite.getD u []) (m.fBase.getD t.fFrom.toNat 0) = some (J3 m t u) := by
 have hT := JD (hp.tab t (List.mem_of_getElem? ht))
 obtain ⟨h1, h2, h3⟩ := SJ hp hm ht hs h
 have hl := hT.reL h4
 have e : t.fRewrite[u]? = some (t.fRewrite.getD u []) := by rw [List.getD_eq_getElem?_getD]; simp [show u < t.fRewrite.length from by omega]
 have hr := hT.reR _ (List.mem_of_getElem? e)
 have hb := hm.b0 t.fFrom.toNat h3
 refine ⟨by rw [A1, e], ?_⟩
 unfold J3
 obtain ⟨b, hb'⟩ := Int.eq_ofNat_of_zero_le hb.1
 rw [hb'] at hb ⊢
 rw [Int.toNat_natCast]
 exact CN (by omega)
theorem M9 (N : Nat) (hN : N ≤ 1000000) (h20 : 100 ≤ N) (hp : Bc p) (hm : BO p m) (ht : p.fTables[i]? = some t) :
  FR N p m (i : Int) = some (if BX t = false ∨ m.fHeld.getD i 0 = FH m t.fFrom.toNat ∨ G7 p m i t = true then (false, m.fHeld) else (true, m.fHeld.set i (FH m t.fFrom.toNat))) := by
 have hi := (List.getElem?_eq_some_iff.1 ht).1
 have hin := Ij (hp.tab t (List.mem_of_getElem? ht))
 have hb := hm.base
 have hnx := hm.next
 have hh := hm.held
 have hr := G5 hp hm.toMixServ (s := t.fFrom.toNat) (by omega)
 have hrg := hm.range i hi
 have eh : B0 m.fHeld (i : Int) = some (m.fHeld.getD i 0) := CN (by omega)
 unfold FR
 simp only [Bf, A1, ht, Option.bind_some, Jc]
 have eh' : m.fHeld[i]? = some (m.fHeld.getD i 0) := by rw [← A1, eh]
 cases hs : BX t
 ·rw [Bool.not_false, AP, if_pos (.inl rfl)]
 ·rw [Bool.not_true, Av, Pr N m _ hin.1 (by omega) (by omega) (hm.b0 _ (by omega)).1]
  simp only [Option.bind_some, eh']
  by_cases h1 : m.fHeld.getD i 0 = FH m t.fFrom.toNat
  ·rw [beq_iff_eq.2 h1, AP, AP, if_pos (.inr (.inl h1))]
  ·rw [beq_eq_false_iff_ne.2 h1, Av]
   by_cases h4 : t.fKind = 4
   ·rw [beq_iff_eq.2 h4, AP, Ej (d := 0) hin.1 (by omega)]
    simp only [Option.bind_some]
    obtain ⟨a1, a2, a3⟩ := Qz hrg hr.2
    obtain ⟨w, hw⟩ := Int.eq_ofNat_of_zero_le a2
    unfold E5
    rw [hw] at a1 a3 ⊢
    rw [PU N t _ (J3 m t) 8 N w (Wu _) (by omega) (by omega) (fun u hu hbu => by
     have := a1 u; rw [hbu] at this
     exact ⟨_, SQ hp hm ht hs h4 (Bool.and_eq_true_iff.1 this.symm).1⟩)]
    simp only [Option.bind_some]
    have e : (!(List.range 8).all fun u => !CP (w : Int) u || J3 m t u) = G7 p m i t := by
     unfold G7
     rw [beq_iff_eq.2 h4, Bool.true_and, List.not_all_eq_any_not]
     congr 1
     funext u
     rw [a1 u, hr.1 u]
     unfold MZ
     cases CP (m.fHeld.getD i 0) u <;> cases GI m t.fFrom.toNat u <;> cases J3 m t u <;> rfl
    rw [e]
    cases hst : G7 p m i t
    ·rw [Av, if_neg (by rintro (h | h | h); cases h; exact h1 h; cases h)]; rfl
    ·rw [AP, if_pos (.inr (.inr rfl))]
   ·have e : G7 p m i t = false := by unfold G7; rw [beq_eq_false_iff_ne.2 h4]; rfl
    rw [beq_eq_false_iff_ne.2 h4, Av, Av, e, if_neg (by rintro (h | h | h); cases h; exact h1 h; cases h)]; rfl
theorem Mo (N : Nat) (hN : N ≤ 1000000) (h20 : 100 ≤ N) (hp : Bc p) (hm : BO p m) (ht : p.fTables[i]? = some t) (hs : BX t = true) (s : Af) (hsi : s.fIndex = (i : Int)) (j : Option (Ah × Bool)) :
  Bz N p m s t (FH m t.fFrom.toNat) (fun _ => j) N 0 = if G7 p m i t = true then some (Gq, false) else j := by
 have hi := (List.getElem?_eq_some_iff.1 ht).1
 have hin := Ij (hp.tab t (List.mem_of_getElem? ht))
 have hb := hm.base
 have hh := hm.held
 have hr := G5 hp hm.toMixServ (s := t.fFrom.toNat) (by omega)
 have hrg := hm.range i hi
 have hver := GD hp (i := t.fFrom.toNat) (by omega)
 obtain ⟨nv, hnv⟩ := Int.eq_ofNat_of_zero_le (show 0 ≤ p.fVersions.getD t.fFrom.toNat 0 by omega)
 have eh' : m.fHeld[i]? = some (m.fHeld.getD i 0) := by rw [List.getD_eq_getElem?_getD]; simp [show i < m.fHeld.length from by omega]
 have := Cl (Bz N p m s t (FH m t.fFrom.toNat) fun _ => j) (List.range nv) j (fun u _ => if (MZ m i t u && (t.fKind == 4 && !J3 m t u)) = true then some (Gq, false) else none)
  (fun n u x hx => by
   have hu : u < nv := by
    have := (List.getElem?_eq_some_iff.1 hx).1
    simpa using this
   rw [Bz, Ej (d := 0) hin.1 (by omega), hnv]
   simp only [Option.bind_some]
   rw [AL (by omega)]
   simp only [Bf, hsi, A1, eh', Option.bind_some]
   rw [S4 N hrg (by omega), AM (by omega)]
   simp only [Option.bind_some]
   cases h1 : CP (m.fHeld.getD i 0) u
   ·have e : MZ m i t u = false := by unfold MZ; rw [h1]; rfl
    rw [Av, Av, Av, e]; rfl
   ·rw [AP, S4 N hr.2 (by omega), hr.1 u]
    simp only [Option.bind_some]
    have e : MZ m i t u = !GI m t.fFrom.toNat u := by unfold MZ; rw [h1]; rfl
    rw [← e]
    cases h2 : MZ m i t u
    ·rw [Av, Av]; rfl
    ·rw [AP]
     by_cases h4 : t.fKind = 4
     ·obtain ⟨e1, e2⟩ := SQ hp hm ht hs h4 h1
      rw [A1] at e1
      rw [beq_iff_eq.2 h4, AP, e1, Ej (d := 0) hin.1 (by omega)]
      simp only [Option.bind_some]
      rw [e2]
      simp only [Option.bind_some]
      cases J3 m t u <;> rfl
     ·rw [beq_eq_false_iff_ne.2 h4, Av, Av]; rfl)
  (fun n => by
   rw [Bz, Ej (d := 0) hin.1 (by omega), hnv]
   simp only [Option.bind_some, List.length_range]
   rw [AH (by omega)]) N 0 (Nat.zero_le _) (by simp; omega)
 have e0 : Bz N p m s t (FH m t.fFrom.toNat) (fun _ => j) N 0 = _ := this
 rw [e0, List.drop_zero]
 by_cases hst : G7 p m i t = true
 ·rw [if_pos hst]
  unfold G7 at hst
  rw [Bool.and_eq_true, List.any_eq_true] at hst
  obtain ⟨h4, u, hu, h5⟩ := hst
  rw [Bool.and_eq_true] at h5
  have h6 : CP (m.fHeld.getD i 0) u = true := by have := h5.1; unfold MZ at this; exact (Bool.and_eq_true_iff.1 this).1
  have h7 := SJ hp hm ht hs h6
  cases hsc : Df (fun u (_ : Nat) => if (MZ m i t u && (t.fKind == 4 && !J3 m t u)) = true then some (Gq, false) else none) 0 (List.range nv) with
  | some r =>
   obtain ⟨q, x, hx, hf⟩ := DR hsc
   split at hf
   ·cases hf; rfl
   ·cases hf
  | none =>
   exfalso
   have hx : (List.range nv)[u]? = some u := List.getElem?_range (by omega)
   have := Eo hsc u u hx
   rw [Nat.zero_add, h5.1, h4, h5.2] at this
   cases this
 ·rw [if_neg hst]
  have : Df (fun u (_ : Nat) => if (MZ m i t u && (t.fKind == 4 && !J3 m t u)) = true then some (Gq, false) else none) 0 (List.range nv) = none := EE fun q x hx => by
   rw [Nat.zero_add]
   split
   ·rename_i h5
    exfalso; apply hst
    rw [Bool.and_eq_true, Bool.and_eq_true] at h5
    unfold G7
    rw [h5.2.1, Bool.true_and, List.any_eq_true]
    have hq : q < nv := by
     have := (List.getElem?_eq_some_iff.1 hx).1
     simpa using this
    exact ⟨q, List.mem_range.2 (by omega), by rw [h5.1, h5.2.2]; rfl⟩
   ·rfl
  rw [this]; rfl
end clear
end Go.Lift

/- Apply: both implementations give applyP; a step leads from a valid mix to a valid mix. -/
namespace Go.Lift
open Go
theorem GC {s : Af} (h : Ft s = true) : 1 ≤ s.fKind ∧ s.fKind ≤ 4 ∧ 0 ≤ s.fIndex ∧ 0 ≤ s.fVersion ∧ (s.fKind ≠ 1 → s.fVersion = 0) := by
 unfold Ft at h
 rw [Bool.and_eq_true, decide_eq_true_iff, Bool.or_eq_true, beq_iff_eq, beq_iff_eq] at h
 exact ⟨h.1.1, h.1.2.1, h.1.2.2.1, h.1.2.2.2, fun hk => h.2.elim (fun e => (hk e).elim) id⟩
theorem Ht {p : Ae} {s : Af} (h : EV p s = true) : (s.fKind = 3 → s.fIndex < (p.fTables.length : Int)) ∧ (s.fKind ≠ 3 → s.fIndex < (p.fVersions.length : Int)) ∧ (s.fKind = 1 → s.fVersion < p.fVersions.getD s.fIndex.toNat 0) := by
 unfold EV at h
 split at h
 ·rename_i hk
  rw [decide_eq_true_iff] at h
  exact ⟨fun _ => h, fun hn => (hn hk).elim, fun h1 => by omega⟩
 ·rename_i hk
  rw [Bool.and_eq_true, decide_eq_true_iff, Bool.or_eq_true, decide_eq_true_iff, bne_iff_ne] at h
  exact ⟨fun h3 => (hk h3).elim, fun _ => h.1, fun h1 => h.2.elim (fun hn => (hn h1).elim) id⟩
theorem RD (N : Nat) {p : Ae} {m : Ah} (hp : Bc p) (hm : BO p m) : Fq N m = some m := by
 have hnv := hp.nv
 have hnt := hp.nt
 have h1 := hm.base
 have h2 := hm.next
 have h3 := hm.held
 unfold Fq
 rw [JJ N _ (by simp only [Dv]; omega), JJ N _ (by simp only [Dv]; omega), NK N _ (by simp only [Dv]; omega)]
 rfl
theorem JZ (N : Nat) (hN : N ≤ 1000000) (h20 : 100 ≤ N) {p : Ae} {m : Ah} (hp : Bc p) (hm : BO p m) {s : Af} (hv : Ft s = true) (hx : EV p s = true) :
  ∃ o, EG N p m s = some (o, (EX p m s).isSome) ∧ ∀ x, EX p m s = some x → o = x := by
 obtain ⟨k1, k4, i0, v0, vk⟩ := GC hv
 obtain ⟨x3, xn, x1⟩ := Ht hx
 have hnv := hp.nv
 have hnt := hp.nt
 have hb := hm.base
 have hn := hm.next
 have hh := hm.held
 obtain ⟨i, hi⟩ := Int.eq_ofNat_of_zero_le i0
 unfold EG EX
 rw [RD N hp hm]
 simp only [Option.bind_some, Bf]
 by_cases hk1 : s.fKind = 1
 ·have hi1 : (i : Int) < p.fVersions.length := by have := xn (by omega); omega
  rw [beq_iff_eq.2 hk1, AP, if_pos hk1]
  unfold GN
  simp only [Bf, hi, Int.toNat_natCast]
  rw [CN (d := 0) (show i < m.fNext.length by omega)]
  simp only [Option.bind_some]
  by_cases c1 : 0 ≤ m.fNext.getD i 0
  ·rw [AL c1, AP, if_pos (.inl c1)]
   exact ⟨_, rfl, fun x hx => by cases hx⟩
  ·rw [AH c1, CN (d := 0) (show i < m.fBase.length by omega)]
   simp only [Option.bind_some]
   by_cases c2 : m.fBase.getD i 0 = s.fVersion
   ·rw [beq_iff_eq.2 c2, AP, if_pos (.inr c2)]
    exact ⟨_, rfl, fun x hx => by cases hx⟩
   ·rw [beq_eq_false_iff_ne.2 c2, Av, (LZ (R := Unit) N p s m.fHeld v0 hh (by omega) hN _).1, if_neg (by rintro (h | h); exact c1 h; exact c2 h)]
    exact ⟨_, rfl, fun x hx => by cases hx; rfl⟩
 ·rw [beq_eq_false_iff_ne.2 hk1, Av, if_neg hk1]
  by_cases hk3 : s.fKind = 3
  ·have hi3 : i < p.fTables.length := by have := x3 hk3; omega
   have ht : p.fTables[i]? = some p.fTables[i] := by simp [hi3]
   rw [beq_iff_eq.2 hk3, AP, if_pos hk3, hi, M9 N hN h20 hp hm ht]
   simp only [Option.bind_some, Int.toNat_natCast, ht]
   split
   ·exact ⟨_, rfl, fun x hx => by cases hx⟩
   ·exact ⟨_, rfl, fun x hx => by cases hx; rfl⟩
  ·have hi1 : (i : Int) < p.fVersions.length := by have := xn hk3; omega
   rw [beq_eq_false_iff_ne.2 hk3, Av, if_neg hk3, hi, CN (d := 0) (show i < m.fNext.length by omega)]
   simp only [Option.bind_some, Int.toNat_natCast]
   by_cases c1 : m.fNext.getD i 0 < 0
   ·rw [AL c1, if_pos c1]
    exact ⟨_, rfl, fun x hx => by cases hx⟩
   ·rw [AH c1, if_neg c1]
    by_cases hk2 : s.fKind = 2
    ·rw [beq_iff_eq.2 hk2, AP, CN (d := 0) (show i < m.fBase.length by omega), if_pos hk2]
     exact ⟨_, rfl, fun x hx => by cases hx; rfl⟩
    ·rw [beq_eq_false_iff_ne.2 hk2, Av, if_neg hk2]
     exact ⟨_, rfl, fun x hx => by cases hx; rfl⟩
theorem Nf (N : Nat) (hN : N ≤ 1000000) (h20 : 100 ≤ N) {p : Ae} {m : Ah} (hp : Bc p) (hm : BO p m) (s : Af) : FM N p m s = some (A4 p m s) := by
 unfold FM A4
 rw [Nj]
 simp only [Option.bind_some]
 cases hv : Ft s
 ·rw [Bool.not_false, AP, if_pos rfl]; rfl
 ·rw [Bool.not_true, Av, if_neg (by simp), M5 N p s hv]
  simp only [Option.bind_some]
  cases hx : EV p s
  ·rw [Bool.not_false, AP, if_pos rfl]; rfl
  ·rw [Bool.not_true, Av, if_neg (by simp)]
   obtain ⟨o, e, ho⟩ := JZ N hN h20 hp hm hv hx
   rw [e]
   simp only [Option.bind_some]
   cases ha : EX p m s with
   | none => rfl
   | some x => rw [ho x ha]; rfl
theorem KN (N : Nat) (hN : N ≤ 1000000) (h20 : 100 ≤ N) {p : Ae} {m : Ah} (hp : Bc p) (hm : BO p m) {s : Af} (hv : Ft s = true) (hx : EV p s = true) :
  Cw N p m s = some (match EX p m s with | none => (Gq, false) | some x => (x, true)) := by
 obtain ⟨k1, k4, i0, v0, vk⟩ := GC hv
 obtain ⟨x3, xn, x1⟩ := Ht hx
 have hnv := hp.nv
 have hnt := hp.nt
 have hb := hm.base
 have hn := hm.next
 have hh := hm.held
 obtain ⟨i, hi⟩ := Int.eq_ofNat_of_zero_le i0
 unfold Cw EX
 rw [Az (by simp [Dv]; omega), Az (by simp [Dv]; omega), Az (by simp [Dv]; omega)]
 simp only [Option.bind_some, Bf, List.nil_append]
 by_cases hk1 : s.fKind = 1
 ·have hi1 : (i : Int) < p.fVersions.length := by have := xn (by omega); omega
  rw [beq_iff_eq.2 hk1, AP, if_pos hk1]
  simp only [hi, Int.toNat_natCast]
  rw [CN (d := 0) (show i < m.fNext.length by omega)]
  simp only [Option.bind_some]
  by_cases c1 : 0 ≤ m.fNext.getD i 0
  ·rw [AL c1, AP, if_pos (.inl c1)]; rfl
  ·rw [AH c1, CN (d := 0) (show i < m.fBase.length by omega)]
   simp only [Option.bind_some]
   by_cases c2 : m.fBase.getD i 0 = s.fVersion
   ·rw [beq_iff_eq.2 c2.symm, AP, if_pos (.inr c2)]; rfl
   ·rw [beq_eq_false_iff_ne.2 (fun h => c2 h.symm), Av, ML N p s m.fHeld v0 hh (by omega) hN _, if_neg (by rintro (h | h); exact c1 h; exact c2 h)]
 ·rw [beq_eq_false_iff_ne.2 hk1, Av, if_neg hk1]
  by_cases hk3 : s.fKind = 3
  ·have hi3 : i < p.fTables.length := by have := x3 hk3; omega
   have ht : p.fTables[i]? = some p.fTables[i] := by simp [hi3]
   have hin := Ij (hp.tab _ (List.mem_of_getElem? ht))
   have eh' : B0 m.fHeld (i : Int) = some (m.fHeld.getD i 0) := CN (by omega)
   rw [beq_eq_false_iff_ne.2 (show s.fKind ≠ 2 by omega), Av, beq_iff_eq.2 hk3, AP, if_pos hk3, hi, A1, ht]
   simp only [Option.bind_some, Fd, Int.toNat_natCast, ht]
   cases hs : BX p.fTables[i]
   ·rw [Bool.not_false, AP, if_pos (.inl rfl)]; rfl
   ·rw [Bool.not_true, Av, HA N m _ hin.1 (by omega) (by omega) (hm.b0 _ (by omega)).1, eh']
    simp only [Option.bind_some]
    by_cases h1 : m.fHeld.getD i 0 = FH m (p.fTables[i]).fFrom.toNat
    ·rw [beq_iff_eq.2 h1, AP, if_pos (.inr (.inl h1))]; rfl
    ·rw [beq_eq_false_iff_ne.2 h1, Av]
     rw [Mo N hN h20 hp hm ht hs s hi]
     cases hst : G7 p m i p.fTables[i]
     ·rw [if_neg (by simp), if_neg (by rintro (h | h | h); cases h; exact h1 h; cases h)]
     ·rw [if_pos rfl, if_pos (.inr (.inr rfl))]
  ·have hi1 : (i : Int) < p.fVersions.length := by have := xn hk3; omega
   rw [if_neg hk3, hi, CN (d := 0) (show i < m.fNext.length by omega)]
   simp only [Option.bind_some, Int.toNat_natCast]
   by_cases hk2 : s.fKind = 2
   ·rw [beq_iff_eq.2 hk2, AP, if_pos hk2]
    by_cases c1 : m.fNext.getD i 0 < 0
    ·rw [AL c1, if_pos c1]; rfl
    ·rw [AH c1, if_neg c1, CN (d := 0) (show i < m.fBase.length by omega)]; rfl
   ·rw [beq_eq_false_iff_ne.2 hk2, Av, beq_eq_false_iff_ne.2 hk3, Av, if_neg hk2]
    by_cases c1 : m.fNext.getD i 0 < 0
    ·rw [AL c1, if_pos c1]; rfl
    ·rw [AH c1, if_neg c1]
end Go.Lift

/- A step leads from a valid mix to a valid mix; Apply of both implementations. -/
namespace Go.Lift
open Go
theorem PP (s : Af) : ∀ (xs : List AF) (i : Nat) (a : List Int), i + xs.length ≤ a.length → (G9 (RV s) i xs a).length = a.length ∧ ∀ q, (G9 (RV s) i xs a).getD q 0 = match (if i ≤ q then xs[q - i]? else none) with
  | some t => if Ri s t = true then Lg .u8 (a.getD q 0) (Dz .u8 1 s.fVersion) else a.getD q 0
  | none => a.getD q 0
 | [], i, a, _ => by
  refine ⟨rfl, fun q => ?_⟩
  split
  ·rename_i h; split at h
   ·simp at h
   ·cases h
  ·rfl
 | x :: xs, i, a, hl => by
  have hl' : i + (xs.length + 1) ≤ a.length := by simpa using hl
  have ha : (RV s i x a).length = a.length := by unfold RV; split <;> simp
  obtain ⟨ih1, ih2⟩ := PP s xs (i + 1) (RV s i x a) (by omega)
  refine ⟨by rw [G9, ih1, ha], fun q => ?_⟩
  rw [G9, ih2 q]
  have hu : (RV s i x a).getD q 0 = if q = i ∧ Ri s x = true then Lg .u8 (a.getD q 0) (Dz .u8 1 s.fVersion) else a.getD q 0 := by
   unfold RV
   by_cases hc : Ri s x = true
   ·rw [if_pos hc, HC (by omega)]
    by_cases hq : q = i
    ·subst hq; rw [if_pos rfl, if_pos ⟨rfl, hc⟩]
    ·rw [if_neg hq, if_neg (fun h => hq h.1)]
   ·rw [if_neg hc, if_neg (fun h => hc h.2)]
  by_cases h1 : i + 1 ≤ q
  ·rw [if_pos h1, if_pos (show i ≤ q by omega), hu, if_neg (by omega)]
   rw [show (x :: xs)[q - i]? = xs[q - (i + 1)]? from by rw [show q - i = (q - (i + 1)) + 1 from by omega, List.getElem?_cons_succ]]
  ·rw [if_neg h1]
   by_cases h2 : q = i
   ·subst h2
    rw [if_pos (Nat.le_refl _), Nat.sub_self, hu]
    simp
   ·rw [if_neg (show ¬ i ≤ q by omega), hu, if_neg (by omega)]
theorem RL {p : Ae} {s : Af} {held : List Int} (hl : held.length = p.fTables.length) : (HO p s held).length = p.fTables.length ∧ ∀ q t, p.fTables[q]? = some t → (HO p s held).getD q 0 = if Ri s t = true then Lg .u8 (held.getD q 0) (Dz .u8 1 s.fVersion) else held.getD q 0 := by
 obtain ⟨h1, h2⟩ := PP s p.fTables 0 held (by omega)
 refine ⟨h1.trans hl, fun q t ht => ?_⟩
 have := h2 q
 rw [if_pos (Nat.zero_le _), Nat.sub_zero, ht] at this
 exact this
theorem Mt {m : Ah} {s v : Nat} : GI m s v = true ↔ m.fBase.getD s 0 = (v : Int) ∨ m.fNext.getD s 0 = (v : Int) := by
 unfold GI; rw [Bool.or_eq_true, decide_eq_true_iff, decide_eq_true_iff]
theorem Ta {p : Ae} {m x : Ah} (hp : Bc p) (hm : BO p m) {s : Af} (hv : Ft s = true) (hx : EV p s = true) (h : EX p m s = some x) : BO p x := by
 obtain ⟨k1, k4, i0, v0, vk⟩ := GC hv
 obtain ⟨x3, xn, x1⟩ := Ht hx
 obtain ⟨i, hi⟩ := Int.eq_ofNat_of_zero_le i0
 have hb := hm.base
 have hn := hm.next
 have hh := hm.held
 unfold EX at h
 simp only [hi, Int.toNat_natCast] at h
 rw [hi, Int.toNat_natCast] at x1
 split at h
 ·rename_i hk1
  have hi1 : i < p.fVersions.length := by have := xn (by omega); omega
  have hx1 := x1 hk1
  have hvi := GD hp hi1
  split at h
  ·cases h
  rename_i hc
  cases h
  obtain ⟨u1, u2⟩ := RL (s := s) hh
  obtain ⟨b, hbv⟩ := Int.eq_ofNat_of_zero_le v0
  have hob := Ua (b := b) (by omega)
  have hN : ∀ q, (m.fNext.set i s.fVersion).getD q 0 = if q = i then s.fVersion else m.fNext.getD q 0 := fun q => HC (by omega)
  refine { base := hb, next := by simpa using hn, held := u1, b0 := hm.b0, n0 := fun q hq => ?_, ne := fun q hq => ?_, range := fun q hq => ?_, low := fun q t ht hs v hr => ?_, high := fun q t ht hs v hbit => ?_, none := fun q t ht hs => ?_ }
  ·show -1 ≤ (m.fNext.set i s.fVersion).getD q 0 ∧ (m.fNext.set i s.fVersion).getD q 0 < _
   rw [hN q]
   split
   ·rename_i e; subst e; omega
   ·exact hm.n0 q hq
  ·show m.fBase.getD q 0 ≠ (m.fNext.set i s.fVersion).getD q 0
   rw [hN q]
   split
   ·rename_i e; subst e; exact fun h => hc (.inr h)
   ·exact hm.ne q hq
  ·have ht : p.fTables[q]? = some p.fTables[q] := by simp [hq]
   show 0 ≤ (HO p s m.fHeld).getD q 0 ∧ (HO p s m.fHeld).getD q 0 ≤ 255
   rw [u2 q _ ht, hbv]
   split
   ·exact (QC (hm.range q hq) hob.2).2
   ·exact hm.range q hq
  ·have hq := (List.getElem?_eq_some_iff.1 ht).1
   show CP ((HO p s m.fHeld).getD q 0) v = true
   have hin := Ij (hp.tab t (List.mem_of_getElem? ht))
   rw [Mt] at hr
   have hr : m.fBase.getD t.fFrom.toNat 0 = (v : Int) ∨ (m.fNext.set i s.fVersion).getD t.fFrom.toNat 0 = (v : Int) := hr
   rw [hN] at hr
   rw [u2 q t ht, hbv]
   have hlow := hm.low q t ht hs v
   rw [Mt] at hlow
   by_cases hf : t.fFrom.toNat = i
   ·have hup : Ri s t = true := by unfold Ri; rw [hs, Bool.and_true, beq_iff_eq, hi]; omega
    rw [if_pos hup, (QC (hm.range q hq) hob.2).1, hob.1 v, Bool.or_eq_true, decide_eq_true_iff]
    rw [if_pos hf] at hr
    rcases hr with h | h
    ·exact .inl (hlow (.inl h))
    ·right; omega
   ·rw [if_neg hf] at hr
    have hup : Ri s t = false := by unfold Ri; rw [hs, Bool.and_true, beq_eq_false_iff_ne, hi]; omega
    rw [hup, if_neg (by simp)]
    exact hlow hr
  ·have hq := (List.getElem?_eq_some_iff.1 ht).1
   have hbit : CP ((HO p s m.fHeld).getD q 0) v = true := hbit
   have hin := Ij (hp.tab t (List.mem_of_getElem? ht))
   rw [u2 q t ht, hbv] at hbit
   split at hbit
   ·rename_i hup
    rw [(QC (hm.range q hq) hob.2).1, hob.1 v, Bool.or_eq_true, decide_eq_true_iff] at hbit
    rcases hbit with h | h
    ·exact hm.high q t ht hs v h
    ·unfold Ri at hup
     rw [hs, Bool.and_true, beq_iff_eq, hi] at hup
     rw [hup, Int.toNat_natCast]; omega
   ·exact hm.high q t ht hs v hbit
  ·show (HO p s m.fHeld).getD q 0 = 0
   have hup : Ri s t = false := by unfold Ri; rw [hs, Bool.and_false]
   rw [u2 q t ht, hup, if_neg (by simp)]
   exact hm.none q t ht hs
 ·rename_i hk1
  split at h
  ·rename_i hk3
   have hi3 : i < p.fTables.length := by have := x3 hk3; omega
   have ht0 : p.fTables[i]? = some p.fTables[i] := by simp [hi3]
   rw [ht0] at h
   simp only at h
   split at h
   ·cases h
   rename_i hc
   cases h
   have hin0 := Ij (hp.tab _ (List.mem_of_getElem? ht0))
   have hr0 := G5 hp hm.toMixServ (s := (p.fTables[i]).fFrom.toNat) (by omega)
   have hs0 : BX p.fTables[i] = true := by
    cases hs : BX p.fTables[i]
    ·exact (hc (.inl hs)).elim
    ·rfl
   have hH : ∀ q, (m.fHeld.set i (FH m (p.fTables[i]).fFrom.toNat)).getD q 0 = if q = i then FH m (p.fTables[i]).fFrom.toNat else m.fHeld.getD q 0 := fun q => HC (by omega)
   refine { base := hb, next := hn, held := by simpa using hh, b0 := hm.b0, n0 := hm.n0, ne := hm.ne, range := fun q hq => ?_, low := fun q t ht hs v hr => ?_, high := fun q t ht hs v hbit => ?_, none := fun q t ht hs => ?_ }
   ·show 0 ≤ (m.fHeld.set i (FH m (p.fTables[i]).fFrom.toNat)).getD q 0 ∧ (m.fHeld.set i (FH m (p.fTables[i]).fFrom.toNat)).getD q 0 ≤ 255
    rw [hH q]
    split
    ·exact hr0.2
    ·exact hm.range q hq
   ·show CP ((m.fHeld.set i (FH m (p.fTables[i]).fFrom.toNat)).getD q 0) v = true
    have hr : GI m t.fFrom.toNat v = true := hr
    rw [hH q]
    split
    ·rename_i e; subst e
     rw [ht0] at ht; cases ht
     rw [hr0.1]; exact hr
    ·exact hm.low q t ht hs v hr
   ·have hbit : CP ((m.fHeld.set i (FH m (p.fTables[i]).fFrom.toNat)).getD q 0) v = true := hbit
    rw [hH q] at hbit
    split at hbit
    ·rename_i e; subst e
     rw [ht0] at ht; cases ht
     rw [hr0.1] at hbit
     exact hm.high q _ ht0 hs0 v (hm.low q _ ht0 hs0 v hbit)
    ·exact hm.high q t ht hs v hbit
   ·show (m.fHeld.set i (FH m (p.fTables[i]).fFrom.toNat)).getD q 0 = 0
    rw [hH q, if_neg (fun e => by subst e; rw [ht0] at ht; cases ht; rw [hs0] at hs; cases hs)]
    exact hm.none q t ht hs
  ·rename_i hk3
   have hi1 : i < p.fVersions.length := by have := xn hk3; omega
   have hvi := GD hp hi1
   split at h
   ·cases h
   rename_i hc
   cases h
   have hN : ∀ q, (m.fNext.set i (-1)).getD q 0 = if q = i then -1 else m.fNext.getD q 0 := fun q => HC (by omega)
   have hB : ∀ q, (if s.fKind = 2 then m.fBase.set i (m.fNext.getD i 0) else m.fBase).getD q 0 = if s.fKind = 2 ∧ q = i then m.fNext.getD i 0 else m.fBase.getD q 0 := fun q => by
    by_cases hk2 : s.fKind = 2
    ·rw [if_pos hk2, HC (by omega)]
     by_cases e : q = i
     ·rw [if_pos e, if_pos ⟨hk2, e⟩]
     ·rw [if_neg e, if_neg (fun h => e h.2)]
    ·rw [if_neg hk2, if_neg (fun h => hk2 h.1)]
   have hrun : ∀ q v, GI ⟨if s.fKind = 2 then m.fBase.set i (m.fNext.getD i 0) else m.fBase, m.fNext.set i (-1), m.fHeld⟩ q v = true → GI m q v = true := fun q v hr => by
    rw [Mt] at hr ⊢
    simp only [hN q, hB q] at hr
    by_cases e : q = i
    ·subst e
     rw [if_pos rfl] at hr
     by_cases hk2 : s.fKind = 2
     ·rw [if_pos ⟨hk2, rfl⟩] at hr; omega
     ·rw [if_neg (fun h => hk2 h.1)] at hr; omega
    ·rw [if_neg e, if_neg (fun h => e h.2)] at hr; exact hr
   refine { base := by simp only; split <;> simp [hb], next := by simpa using hn, held := hh, b0 := fun q hq => ?_, n0 := fun q hq => ?_, ne := fun q hq => ?_, range := hm.range, low := fun q t ht hs v hr => hm.low q t ht hs v (hrun _ _ hr), high := hm.high, none := hm.none }
   ·simp only [hB q]
    split
    ·rename_i e; obtain ⟨_, e⟩ := e; subst e
     have := hm.n0 q hq
     omega
    ·exact hm.b0 q hq
   ·simp only [hN q]
    split
    ·rename_i e; subst e; omega
    ·exact hm.n0 q hq
   ·simp only [hB q, hN q]
    have h1 := hm.b0 q hq
    by_cases e : q = i
    ·rw [if_pos e]
     split
     ·rename_i e2; obtain ⟨_, e2⟩ := e2; subst e2; omega
     ·omega
    ·rw [if_neg e, if_neg (fun h => e h.2)]; exact hm.ne q hq
theorem Of (N : Nat) (hN : N ≤ 1000000) (h20 : 100 ≤ N) {p : Ae} {m : Ah} (hw : KA IT m.fHeld) (s : Af) : D3 N p m s = some (if EL p m = 0 then A4 p m s else (Gq, EL p m)) := by
 unfold D3 A4
 rw [Gt N p m hN (by omega)]
 simp only [Option.bind_some, Bf]
 by_cases hval : EL p m = 0
 ·obtain ⟨hp, hm⟩ := Ip hw hval
  rw [if_pos hval, hval, bne_self_eq_false, Av, Og]
  simp only [Option.bind_some]
  cases hv : Ft s
  ·rw [Bool.not_false, AP, if_pos rfl]; rfl
  ·rw [Bool.not_true, Av, if_neg (by simp)]
   obtain ⟨k1, k4, i0, v0, vk⟩ := GC hv
   have key : ∀ b : Bool, EV p s = b → (if b = false then (Gq, (4 : Int)) else match EX p m s with | none => (Gq, 11) | some x => (x, 0)) = (if b = false then (Gq, (4 : Int)) else match EX p m s with | none => (Gq, 11) | some x => (x, 0)) := fun _ _ => rfl
   have tail : EV p s = true → ((Cw N p m s).bind fun v15 => AZ (!v15.2) (some (Ah.mk [] [] [], (11 : Int))) (some (v15.1, 0))) = some (match EX p m s with | none => (Gq, 11) | some x => (x, 0)) := fun hx => by
    rw [KN N hN h20 hp hm hv hx]
    cases EX p m s <;> rfl
   have zz : (Ah.mk [] [] [], (4 : Int)) = (Gq, 4) := rfl
   by_cases hk3 : s.fKind = 3
   ·rw [beq_iff_eq.2 hk3, AP, show (s.fKind != 3) = false from by rw [hk3]; rfl]
    have hX : EV p s = decide (s.fIndex < (p.fTables.length : Int)) := by unfold EV; rw [if_pos hk3]
    by_cases c : (p.fTables.length : Int) ≤ s.fIndex
    ·rw [AL c, AP, hX, decide_eq_false (by omega), if_pos rfl]; rfl
    ·have hx : EV p s = true := by rw [hX, decide_eq_true (by omega)]
     rw [AH c, Av, Av, beq_eq_false_iff_ne.2 (show s.fKind ≠ 1 by omega), Av, Av, hx, if_neg (by simp)]
     exact tail hx
   ·rw [beq_eq_false_iff_ne.2 hk3, Av, bne_iff_ne.2 hk3, AP]
    have hX : EV p s = (decide (s.fIndex < (p.fVersions.length : Int)) && (s.fKind != 1 || decide (s.fVersion < p.fVersions.getD s.fIndex.toNat 0))) := by unfold EV; rw [if_neg hk3]
    by_cases c : (p.fVersions.length : Int) ≤ s.fIndex
    ·rw [decide_eq_true c, AP, hX, decide_eq_false (show ¬ s.fIndex < (p.fVersions.length : Int) by omega), Bool.false_and, if_pos rfl]; rfl
    ·rw [decide_eq_false c, Av]
     by_cases hk1 : s.fKind = 1
     ·rw [beq_iff_eq.2 hk1, AP, Ej (d := 0) i0 (by omega)]
      simp only [Option.bind_some]
      by_cases c2 : p.fVersions.getD s.fIndex.toNat 0 ≤ s.fVersion
      ·rw [decide_eq_true c2, AP, hX, decide_eq_false (show ¬ s.fVersion < p.fVersions.getD s.fIndex.toNat 0 by omega), show (s.fKind != 1) = false from by rw [hk1]; rfl, Bool.false_or, Bool.and_false, if_pos rfl]; rfl
      ·have hx : EV p s = true := by rw [hX, decide_eq_true (by omega), decide_eq_true (by omega), Bool.or_true]; rfl
       rw [decide_eq_false c2, Av, hx, if_neg (by simp)]
       exact tail hx
     ·have hx : EV p s = true := by rw [hX, decide_eq_true (by omega), bne_iff_ne.2 hk1]; rfl
      rw [beq_eq_false_iff_ne.2 hk1, Av, Av, hx, if_neg (by simp)]
      exact tail hx
 ·rw [if_neg hval, bne_iff_ne.2 hval, AP]; rfl
theorem M8 (N : Nat) (hN : N ≤ 1000000) (h20 : 100 ≤ N) {p : Ae} {m : Ah} (hw : KA IT m.fHeld) (s : Af) : Ff N p m s = some (if EL p m = 0 then A4 p m s else (Gq, EL p m)) := by
 unfold Ff
 rw [Ho N p m hN (by omega) hw]
 simp only [Option.bind_some]
 by_cases hval : EL p m = 0
 ·obtain ⟨hp, hm⟩ := Ip hw hval
  rw [if_pos hval, hval, bne_self_eq_false, Av, Nf N hN h20 hp hm s]; rfl
 ·rw [if_neg hval, bne_iff_ne.2 hval, AP]; rfl
theorem JF {p : Ae} {m : Ah} (hp : Bc p) (hm : BO p m) {s : Af} (h : (A4 p m s).2 = 0) : BO p (A4 p m s).1 := by
 unfold A4 at h ⊢
 split at h
 ·cases h
 rename_i h1
 rw [if_neg h1]
 split at h
 ·cases h
 rename_i h2
 rw [if_neg h2]
 cases ha : EX p m s with
 | none => rw [ha] at h; cases h
 | some x => exact Ta hp hm (by simpa using h1) (by simpa using h2) ha
end Go.Lift

/- Failure and Check: both implementations give one answer; the laws PlanCheck and PlanFailure. -/
namespace Go.Lift
open Go
section
variable {N : Nat} {p : Ae} {l : List Af}
end
theorem Oy : DY 1000 = some true := by show _ = _; kernel_rfl
end Go.Lift

/- The law PlanErrors in plain words. -/
namespace Go.Lift
open Go
end Go.Lift

/- Trim: both implementations give one list. -/
namespace Go.Lift
open Go
end Go.Lift

/- A plan without a step: what can be left out. -/
namespace Go.Lift
open Go
def KS (p : Ae) (m : Ah) (s : Af) : Option Ah := if (A4 p m s).2 = 0 ∧ s.fKind ≠ 4 ∧ BW p (A4 p m s).1 = true then some (A4 p m s).1 else none
def MD (p : Ae) : Ah → List Af → Option Ah
 | m, [] => some m
 | m, s :: l => (KS p m s).bind fun x => MD p x l
def LJ (p : Ae) (m : Ah) (l : List Af) : Bool := match MD p m l with
 | some x => Gv p x
 | none => false
theorem RT {p : Ae} {m x : Ah} {s : Af} : KS p m s = some x ↔ Ft s = true ∧ EV p s = true ∧ EX p m s = some x ∧ s.fKind ≠ 4 ∧ BW p x = true := by
 unfold KS A4
 cases h1 : Ft s
 ·simp
 cases h2 : EV p s
 ·simp
 cases h3 : EX p m s with
 | none => simp
 | some y =>
  simp only [Bool.true_eq_false, if_false, true_and, Option.some.injEq]
  constructor
  ·intro h
   split at h
   ·rename_i hc; cases h; exact ⟨rfl, hc.1, hc.2⟩
   ·cases h
  ·rintro ⟨rfl, h4, h5⟩
   rw [if_pos ⟨h4, h5⟩]
structure VS (p : Ae) (m x : Ah) : Prop where
 base : m.fBase = x.fBase
 next : m.fNext = x.fNext
 held : ∀ i, i < p.fTables.length → ∀ v, CP (m.fHeld.getD i 0) v = true → CP (x.fHeld.getD i 0) v = true
theorem VS.refl (p : Ae) (m : Ah) : VS p m m := ⟨rfl, rfl, fun _ _ _ h => h⟩
theorem VS.trans {p : Ae} {a b c : Ah} (h : VS p a b) (g : VS p b c) : VS p a c := ⟨h.base.trans g.base, h.next.trans g.next, fun i hi v hv => g.held i hi v (h.held i hi v hv)⟩
end Go.Lift

/- A step between two mixes; openings and closings; the law PlanTrim. -/
namespace Go.Lift
open Go
theorem NG {p : Ae} {m : Ah} {l : List Af} (h : LJ p m l = true) : ∃ x, MD p m l = some x ∧ Gv p x = true := by
 unfold LJ at h
 cases hr : MD p m l with
 | none => rw [hr] at h; cases h
 | some x => rw [hr] at h; exact ⟨x, rfl, h⟩
end Go.Lift

/- The law PlanTrim in plain words. -/
namespace Go.Lift
open Go
theorem LK (N : Nat) (l : List Af) (hN : N ≤ 1000000) (h : l.length < N) : DE N l l = some true := by
 unfold DE
 rw [bne_self_eq_false, Av]
 have := Cl (CC N l l fun _ => some true) l (some true) (fun _ _ => none)
  (fun n i x hx => by
   have hi := (List.getElem?_eq_some_iff.1 hx).1
   rw [CC, AL (by omega), A1, hx]
   simp only [Option.bind_some, beq_self_eq_true, Bool.and_true, Bool.not_true, Av]
   rw [AM (by omega)]; rfl)
  (fun n => by rw [CC, AH (by simp)]) N 0 (Nat.zero_le _) (by omega)
 refine this.trans ?_
 rw [EE fun j x hx => rfl]; rfl
end Go.Lift

/- The keys of mixes. -/
namespace Go.Lift
open Go
def Fk (m : Ah) (i : Nat) (b : Int) : List Int := [IntKind.wrap .u8 b, IntKind.wrap .u8 (IntKind.wrap .i64 (m.fNext.getD i 0 + 1))]
def Jy (m : Ah) : List Int := CF (Fk m) 0 m.fBase ++ m.fHeld
theorem SM (N : Nat) (hN : N ≤ 1000000) (h20 : 100 ≤ N) {p : Ae} {m : Ah} (hp : Bc p) (hm : BO p m) : F8 N m = some (Cn (Jy m)) := by
 have hnv := hp.nv
 have hnt := hp.nt
 have hb := hm.base
 have hn := hm.next
 have hh := hm.held
 unfold F8
 have e1 : IntKind.wrap .i64 (2 * (m.fBase.length : Int)) = 2 * (m.fBase.length : Int) := Cr (by omega) (by omega)
 rw [e1, Cr (n := 2 * (m.fBase.length : Int) + (m.fHeld.length : Int)) (by omega) (by omega), Az ⟨Int.le_refl 0, by omega, by simp only [Dv]; omega⟩]
 have l1 := FE (DZ N m fun v3 => Dg N m (fun v9 => some (Cn v9)) N (v3, 0)) (fun a i => (a, i)) m.fBase (fun v3 => Dg N m (fun v9 => some (Cn v9)) N (v3, 0)) (Fk m) 2 100
  (fun i x hx => by simp [Fk])
  (fun n i x a hx hl => by
   have hi := (List.getElem?_eq_some_iff.1 hx).1
   rw [DZ, AL (by simp only; omega)]
   simp only [A1, hx, Option.bind_some, AM (show i < 1000000 by omega)]
   have e2 : m.fNext[i]? = some (m.fNext.getD i 0) := by rw [List.getD_eq_getElem?_getD]; simp [show i < m.fNext.length by omega]
   rw [e2]
   simp only [Option.bind_some]
   rw [Az (by simp [Dv]; simp [Fk] at hl; omega)]
   rfl)
  (fun n a => by rw [DZ, AH (by simp)]) N [] (by omega) (by simp; omega)
 have l1' : DZ N m (fun v3 => Dg N m (fun v9 => some (Cn v9)) N (v3, 0)) N (List.replicate (0 : Int).toNat (0 : Int), 0) = _ := l1
 rw [l1', List.nil_append]
 have hfl : (CF (Fk m) 0 m.fBase).length ≤ 2 * m.fBase.length := Fg fun j x hx => by simp [Fk]
 have l2 := FE (Dg N m fun v9 => some (Cn v9)) (fun a i => (a, i)) m.fHeld (fun v9 => some (Cn v9)) (fun _ x => [x]) 1 100
  (fun i x hx => by simp)
  (fun n i x a hx hl => by
   have hi := (List.getElem?_eq_some_iff.1 hx).1
   rw [Dg, AL (by simp only; omega)]
   simp only [A1, hx, Option.bind_some, AM (show i < 1000000 by omega)]
   rw [Az (by simp [Dv]; simp at hl; omega)])
  (fun n a => by rw [Dg, AH (by simp)]) N (CF (Fk m) 0 m.fBase) (by omega) (by omega)
 have e3 : ∀ (i : Nat) (l : List Int), CF (fun _ (x : Int) => [x]) i l = l := by
  intro i l
  induction l generalizing i with
  | nil => rfl
  | cons x l ih => rw [CF, ih]; rfl
 refine l2.trans ?_
 rw [e3]; rfl
end Go.Lift

/- Keys tell mixes. -/
namespace Go.Lift
open Go
theorem QF (xs : List Int) : ∀ b : ByteArray, (xs.foldl (fun s n => s.push (UInt8.ofNat n.toNat)) b).data.toList = b.data.toList ++ xs.map fun n => UInt8.ofNat n.toNat := by
 induction xs with
 | nil => intro b; simp
 | cons x xs ih => intro b; rw [List.foldl_cons, ih]; simp [ByteArray.push]
theorem Lc (xs : List Int) : (Cn xs).data.toList = xs.map fun n => UInt8.ofNat n.toNat := by
 unfold Cn
 rw [QF]; rfl
theorem Vn {a b : Int} (ha : 0 ≤ a ∧ a ≤ 255) (hb : 0 ≤ b ∧ b ≤ 255) (h : UInt8.ofNat a.toNat = UInt8.ofNat b.toNat) : a = b := by
 have := congrArg UInt8.toNat h
 simp at this
 omega
theorem MM : ∀ {xs ys : List Int}, (∀ x, x ∈ xs → 0 ≤ x ∧ x ≤ 255) → (∀ x, x ∈ ys → 0 ≤ x ∧ x ≤ 255) → (xs.map fun n => UInt8.ofNat n.toNat) = (ys.map fun n => UInt8.ofNat n.toNat) → xs = ys
 | [], [], _, _, _ => rfl
 | [], _ :: _, _, _, h => by cases h
 | _ :: _, [], _, _, h => by cases h
 | x :: xs, y :: ys, hx, hy, h => by
  rw [List.map_cons, List.map_cons, List.cons.injEq] at h
  rw [Vn (hx x (by simp)) (hy y (by simp)) h.1, MM (fun z hz => hx z (List.mem_cons_of_mem _ hz)) (fun z hz => hy z (List.mem_cons_of_mem _ hz)) h.2]
theorem Pn {xs ys : List Int} (hx : ∀ x, x ∈ xs → 0 ≤ x ∧ x ≤ 255) (hy : ∀ x, x ∈ ys → 0 ≤ x ∧ x ≤ 255) (h : (Cn xs == Cn ys) = true) : xs = ys := by
 rw [Ig, beq_iff_eq] at h
 have h := congrArg Array.toList h
 rw [Lc, Lc] at h
 exact MM hx hy h
theorem OZ (xs : List Int) : (Cn xs == Cn xs) = true := by rw [Ig]; simp
theorem NJ {α β : Type} {g h : Nat → α → List β} {c : Nat} : ∀ {i : Nat} {xs ys : List α}, xs.length = ys.length → (∀ i x, (g i x).length = c) → (∀ i x, (h i x).length = c) → CF g i xs = CF h i ys → ∀ j x y, xs[j]? = some x → ys[j]? = some y → g (i + j) x = h (i + j) y
 | i, [], ys, _, _, _, _, j, x, y, hx, _ => by simp at hx
 | i, x :: xs, [], hl, _, _, _, _, _, _, _, _ => by simp at hl
 | i, x :: xs, y :: ys, hl, hg, hh, e, j, x', y', hx, hy => by
  rw [CF, CF] at e
  have e1 := List.append_inj e ((hg i x).trans (hh i y).symm)
  cases j with
  | zero => simp at hx hy; subst hx; subst hy; exact e1.1
  | succ j =>
   have := NJ (i := i + 1) (by simpa using hl) hg hh e1.2 j x' y' (by simpa using hx) (by simpa using hy)
   rwa [show i + 1 + j = i + (j + 1) from by omega] at this
theorem Nw {p : Ae} {m : Ah} (hp : Bc p) (hm : BO p m) : ∀ x, x ∈ Jy m → 0 ≤ x ∧ x ≤ 255 := by
 intro x hx
 unfold Jy at hx
 rcases List.mem_append.1 hx with h | h
 ·obtain ⟨j, b, hb, hk⟩ := F5.1 h
  have hw : ∀ n : Int, 0 ≤ IntKind.wrap .u8 n ∧ IntKind.wrap .u8 n ≤ 255 := fun n => by
   simp [IntKind.wrap, IntKind.signed, IntKind.bits]; omega
  unfold Fk at hk
  rcases List.mem_cons.1 hk with e | e
  ·subst e; exact hw _
  ·rcases List.mem_cons.1 e with e | e
   ·subst e; exact hw _
   ·cases e
 ·obtain ⟨j, hj⟩ := List.mem_iff_getElem?.1 h
  have hl := (List.getElem?_eq_some_iff.1 hj).1
  have := hm.range j (by rw [← hm.held]; exact hl)
  rw [List.getD_eq_getElem?_getD, hj] at this
  exact this
theorem GS {n : Int} (h : 0 ≤ n ∧ n ≤ 255) : IntKind.wrap .u8 n = n := by
 simp [IntKind.wrap, IntKind.signed, IntKind.bits]; omega
theorem T6 {p : Ae} {m x : Ah} (hp : Bc p) (hm : BO p m) (hx : BO p x) (h : (Cn (Jy m) == Cn (Jy x)) = true) : m = x := by
 have e := Pn (Nw hp hm) (Nw hp hx) h
 unfold Jy at e
 have hbl : m.fBase.length = x.fBase.length := hm.base.trans hx.base.symm
 have hfl : ∀ y : Ah, (CF (Fk y) 0 y.fBase).length = 2 * y.fBase.length := fun y => by
  have : ∀ (i : Nat) (l : List Int), (CF (Fk y) i l).length = 2 * l.length := by
   intro i l
   induction l generalizing i with
   | nil => rfl
   | cons b l ih => rw [CF, List.length_append, ih, List.length_cons]; simp [Fk]; omega
  exact this 0 _
 obtain ⟨e1, e2⟩ := List.append_inj e (by rw [hfl, hfl, hbl])
 have key : ∀ j, j < p.fVersions.length → m.fBase.getD j 0 = x.fBase.getD j 0 ∧ m.fNext.getD j 0 = x.fNext.getD j 0 := fun j hj => by
  have h1 : m.fBase[j]? = some (m.fBase.getD j 0) := by rw [List.getD_eq_getElem?_getD]; simp [hm.base, hj]
  have h2 : x.fBase[j]? = some (x.fBase.getD j 0) := by rw [List.getD_eq_getElem?_getD]; simp [hx.base, hj]
  have h3 := NJ (c := 2) hbl (fun _ _ => by simp [Fk]) (fun _ _ => by simp [Fk]) e1 j _ _ h1 h2
  rw [Nat.zero_add] at h3
  have v := GD hp hj
  have b1 := hm.b0 j hj
  have b2 := hx.b0 j hj
  have n1 := hm.n0 j hj
  have n2 := hx.n0 j hj
  unfold Fk at h3
  rw [Cr (n := m.fNext.getD j 0 + 1) (by omega) (by omega), Cr (n := x.fNext.getD j 0 + 1) (by omega) (by omega), GS (n := m.fBase.getD j 0) (by omega), GS (n := x.fBase.getD j 0) (by omega), GS (n := m.fNext.getD j 0 + 1) (by omega), GS (n := x.fNext.getD j 0 + 1) (by omega), List.cons.injEq, List.cons.injEq] at h3
  exact ⟨h3.1, by omega⟩
 have hB : m.fBase = x.fBase := EI hbl fun q hq => (key q (by rw [← hm.base]; exact hq)).1
 have hN : m.fNext = x.fNext := EI (hm.next.trans hx.next.symm) fun q hq => (key q (by rw [← hm.next]; exact hq)).2
 cases m; cases x
 simp only at hB hN e2
 rw [hB, hN, e2]
end Go.Lift

/- The possible steps of a mix, in order: both implementations. -/
namespace Go.Lift
open Go
def HS (i : Nat) (n : Int) : List Af := (List.range n.toNat).map fun v => ⟨1, (i : Int), ((v : Nat) : Int), ⟩
def D5 (p : Ae) : List Af := CF HS 0 p.fVersions ++ ((List.range p.fVersions.length).map fun i => (⟨2, ((i : Nat) : Int), 0⟩ : Af)) ++ ((List.range p.fTables.length).map fun i => (⟨3, ((i : Nat) : Int), 0⟩ : Af))
def ER (p : Ae) (m : Ah) : List Af := (D5 p).filter fun s => (A4 p m s).2 == 0
theorem QS {p : Ae} (hp : Bc p) : (D5 p).length ≤ 54 := by
 have h1 : (CF HS 0 p.fVersions).length ≤ 6 * p.fVersions.length := Fg fun j x hx => by
  have := hp.ver x (List.mem_of_getElem? hx)
  simp [HS]; omega
 have := hp.nv
 have := hp.nt
 unfold D5
 simp only [List.length_append, List.length_map, List.length_range]
 omega
theorem Pz (N : Nat) (hN : N ≤ 1000000) (h20 : 100 ≤ N) {p : Ae} (hp : Bc p) : GU N p = some (D5 p) := by
 have hnv := hp.nv
 have hnt := hp.nt
 unfold GU
 have l1 := FE (CR N p fun v2 => Cd N p (fun v10 => Br N p (fun v14 => some v14) N (v10, 0)) N (v2, 0)) (fun a i => (a, i)) p.fVersions (fun v2 => Cd N p (fun v10 => Br N p (fun v14 => some v14) N (v10, 0)) N (v2, 0)) HS 6 100
  (fun i x hx => by have := hp.ver x (List.mem_of_getElem? hx); simp [HS]; omega)
  (fun n i x a hx hl => by
   have hi := (List.getElem?_eq_some_iff.1 hx).1
   have hx6 := hp.ver x (List.mem_of_getElem? hx)
   obtain ⟨k, hk⟩ := Int.eq_ofNat_of_zero_le (show 0 ≤ x by omega)
   rw [CR, AL (by simp only; omega)]
   simp only [A1, hx, Option.bind_some, AM (show i < 1000000 by omega)]
   subst hk
   obtain ⟨a', e, ha⟩ := EF (DW N (a, (i : Int)) (k : Int) fun v6 => CR N p (fun v2 => Cd N p (fun v10 => Br N p (fun v14 => some v14) N (v10, 0)) N (v2, 0)) n (v6, ((i + 1 : Nat) : Int))) (fun b v => (b, v)) k (fun v6 => CR N p (fun v2 => Cd N p (fun v10 => Br N p (fun v14 => some v14) N (v10, 0)) N (v2, 0)) n (v6, ((i + 1 : Nat) : Int)))
    (fun v b => b = a ++ (List.range v).map fun v => (⟨1, (i : Int), ((v : Nat) : Int)⟩ : Af))
    (fun n v b hv hb => by
     subst hb
     rw [DW, AL (by simp only; omega), Az (by simp [Dv]; simp [HS] at hl; omega), AM (by omega)]
     exact ⟨_, rfl, by rw [List.range_succ, List.map_append, List.append_assoc]; rfl⟩)
    (fun n b hb => by rw [DW, AH (by simp)]) N 0 a (Nat.zero_le _) (by omega) (by simp)
   have e' : DW N (a, (i : Int)) (k : Int) (fun v6 => CR N p (fun v2 => Cd N p (fun v10 => Br N p (fun v14 => some v14) N (v10, 0)) N (v2, 0)) n (v6, ((i + 1 : Nat) : Int))) N (a, 0) = _ := e
   rw [e', ha]; rfl)
  (fun n a => by rw [CR, AH (by simp)]) N [] (by omega) (by simp; omega)
 have l1' : CR N p (fun v2 => Cd N p (fun v10 => Br N p (fun v14 => some v14) N (v10, 0)) N (v2, 0)) N (([] : List Af), 0) = _ := l1
 rw [l1', List.nil_append]
 have hA : (CF HS 0 p.fVersions).length ≤ 6 * p.fVersions.length := Fg fun j x hx => by
  have := hp.ver x (List.mem_of_getElem? hx)
  simp [HS]; omega
 generalize hAe : CF HS 0 p.fVersions = A at hA
 obtain ⟨b', e2, hb⟩ := EF (Cd N p fun v10 => Br N p (fun v14 => some v14) N (v10, 0)) (fun b v => (b, v)) p.fVersions.length (fun v10 => Br N p (fun v14 => some v14) N (v10, 0))
  (fun v b => b = A ++ (List.range v).map fun i => (⟨2, ((i : Nat) : Int), 0⟩ : Af))
  (fun n v b hv hb => by
   subst hb
   rw [Cd, AL (by simp only; omega), Az (by simp [Dv]; omega), AM (by omega)]
   exact ⟨_, rfl, by rw [List.range_succ, List.map_append, List.append_assoc]; rfl⟩)
  (fun n b hb => by rw [Cd, AH (by simp)]) N 0 A (Nat.zero_le _) (by omega) (by simp)
 have e2' : Cd N p (fun v10 => Br N p (fun v14 => some v14) N (v10, 0)) N (A, 0) = _ := e2
 rw [e2', hb]
 generalize hBe : A ++ (List.range p.fVersions.length).map (fun i => (⟨2, ((i : Nat) : Int), 0⟩ : Af)) = B
 have hB : B.length ≤ 50 := by rw [← hBe]; simp; omega
 obtain ⟨c', e3, hc⟩ := EF (Br N p fun v14 => some v14) (fun b v => (b, v)) p.fTables.length (fun v14 => some v14)
  (fun v b => b = B ++ (List.range v).map fun i => (⟨3, ((i : Nat) : Int), 0⟩ : Af))
  (fun n v b hv hb => by
   subst hb
   rw [Br, AL (by simp only; omega), Az (by simp [Dv]; omega), AM (by omega)]
   exact ⟨_, rfl, by rw [List.range_succ, List.map_append, List.append_assoc]; rfl⟩)
  (fun n b hb => by rw [Br, AH (by simp)]) N 0 B (Nat.zero_le _) (by omega) (by simp)
 have e3' : Br N p (fun v14 => some v14) N (B, 0) = _ := e3
 rw [e3', hc, ← hBe, ← hAe]; rfl
end Go.Lift

/- Enabled: the possible steps. -/
namespace Go.Lift
open Go
theorem Lu {p : Ae} (hp : Bc p) {s : Af} (h : s ∈ D5 p) : Ft s = true ∧ EV p s = true := by
 have hnv := hp.nv
 unfold D5 at h
 rcases List.mem_append.1 h with h | h
 ·rcases List.mem_append.1 h with h | h
  ·obtain ⟨j, x, hx, hk⟩ := F5.1 h
   rw [Nat.zero_add] at hk
   unfold HS at hk
   obtain ⟨v, hv, rfl⟩ := List.mem_map.1 hk
   have hx6 := hp.ver x (List.mem_of_getElem? hx)
   have hv := List.mem_range.1 hv
   have hj := (List.getElem?_eq_some_iff.1 hx).1
   refine ⟨by unfold Ft; simp, ?_⟩
   unfold EV
   have e : p.fVersions.getD j 0 = x := by rw [List.getD_eq_getElem?_getD, hx]; rfl
   simp only
   rw [if_neg (by omega), decide_eq_true (by omega), Int.toNat_natCast, e, decide_eq_true (by omega), Bool.or_true]; rfl
  ·obtain ⟨v, hv, rfl⟩ := List.mem_map.1 h
   have hv := List.mem_range.1 hv
   refine ⟨by unfold Ft; simp, ?_⟩
   unfold EV
   simp only
   rw [if_neg (by omega), decide_eq_true (by omega)]; rfl
 ·obtain ⟨v, hv, rfl⟩ := List.mem_map.1 h
  have hv := List.mem_range.1 hv
  refine ⟨by unfold Ft; simp, ?_⟩
  unfold EV
  simp only
  rw [if_pos trivial, decide_eq_true (by omega)]
theorem Se {p : Ae} {m : Ah} {s : Af} (hv : Ft s = true) (hx : EV p s = true) : ((A4 p m s).2 == 0) = (EX p m s).isSome := by
 unfold A4
 rw [hv, hx, if_neg (by simp), if_neg (by simp)]
 cases EX p m s <;> rfl
theorem O4 (N : Nat) (hN : N ≤ 1000000) (h20 : 100 ≤ N) {p : Ae} {m : Ah} (hp : Bc p) (hm : BO p m) {s : Af} (h : s ∈ D5 p) :
  C3 N s p.fVersions p.fNow p.fTarget p.fTables m.fBase m.fNext m.fHeld = some (!((A4 p m s).2 == 0)) := by
 obtain ⟨hv, hx⟩ := Lu hp h
 unfold C3
 obtain ⟨o, e, _⟩ := JZ N hN h20 hp hm hv hx
 have e' : EG N ⟨p.fVersions, p.fNow, p.fTarget, p.fTables⟩ ⟨m.fBase, m.fNext, m.fHeld⟩ s = some (o, (EX p m s).isSome) := e
 rw [e', Se hv hx]; rfl
theorem Qv (N : Nat) (hN : N ≤ 1000000) (a : List Af) (f : Af → Option Bool) (g : Af → Bool) (h : a.length < N) (hf : ∀ x, x ∈ a → f x = some (g x)) :
  BI N a f = some ((Df (fun i x => if g x = true then some (i : Int) else none) 0 a).getD (-1)) := by
 unfold BI
 have := Cl (A2 N a f fun _ => some (-1)) a (some (-1)) (fun i x => if g x = true then some (i : Int) else none)
  (fun n i x hx => by
   have hi := (List.getElem?_eq_some_iff.1 hx).1
   rw [A2, AL (by omega), A1, hx]
   simp only [Option.bind_some]
   rw [hf x (List.mem_of_getElem? hx), AM (by omega)]
   simp only [Option.bind_some]
   cases g x <;> rfl)
  (fun n => by rw [A2, AH (by simp)]) N 0 (Nat.zero_le _) (by omega)
 refine this.trans ?_
 rw [List.drop_zero]
 cases Df (fun i x => if g x = true then some (i : Int) else none) 0 a <;> rfl
end Go.Lift

/- Enabled gives the possible steps. -/
namespace Go.Lift
open Go
theorem Nl {α : Type} {l : List α} {i : Nat} {v : α} (h : i < l.length) : (l.set i v).take (i + 1) = l.take i ++ [v] := by
 rw [List.take_add_one, List.take_set_of_le (Nat.le_refl i)]
 congr 1
 simp [h]
theorem PS (N : Nat) (hN : N ≤ 1000000) (a : List Af) (f : Af → Option Bool) (g : Af → Bool) (h : a.length < N) (h9 : a.length ≤ 1000) (hf : ∀ x, x ∈ a → f x = some (g x)) :
  ∃ X n, BE N a f = some (n, X) ∧ n ≤ X.length ∧ X.take n = a.filter fun x => !g x := by
 unfold BE
 rw [Qv N hN a f g h hf]
 simp only [Option.bind_some]
 cases hs : Df (fun i x => if g x = true then some (i : Int) else none) 0 a with
 | none =>
  refine ⟨a, a.length, rfl, Nat.le_refl _, ?_⟩
  rw [List.take_length]
  symm
  rw [List.filter_eq_self]
  intro x hx
  obtain ⟨j, hj⟩ := List.mem_iff_getElem?.1 hx
  have := Eo hs j x hj
  cases hg : g x
  ·rfl
  ·rw [hg] at this; cases this
 | some r =>
  obtain ⟨j, x, hx, hr⟩ := DR hs
  rw [Nat.zero_add] at hr
  split at hr
  ·rename_i hg
   cases hr
   have hj := (List.getElem?_eq_some_iff.1 hx).1
   have e0 : ((some (j : Int)).getD (-1) == (-1 : Int)) = false := beq_eq_false_iff_ne.2 (by simp only [Option.getD_some]; omega)
   rw [e0, Av]
   simp only [Option.getD_some]
   rw [AM (by omega)]
   -- what lies before the first that goes is kept
   have hpre : (a.take (j + 1)).filter (fun x => !g x) = a.take j := by
    rw [List.take_add_one, hx, List.filter_append]
    have h1 : (a.take j).filter (fun x => !g x) = a.take j := by
     rw [List.filter_eq_self]
     intro y hy
     obtain ⟨q, hq⟩ := List.mem_iff_getElem?.1 hy
     have hql := (List.getElem?_eq_some_iff.1 hq).1
     simp at hql
     rw [List.getElem?_take_of_lt (by omega)] at hq
     cases hgy : g y
     ·rfl
     ·exfalso
      have : ∀ (xs : List Af) (i j q : Nat) (y : Af), Df (fun i x => if g x = true then some (i : Int) else none) i xs = some ((i + j : Nat) : Int) → q < j → xs[q]? = some y → g y = true → False := by
       intro xs
       induction xs with
       | nil => intro i j q y _ _ hq; simp at hq
       | cons z zs ih =>
        intro i j q y hs hqj hq hgy
        rw [FB] at hs
        cases hz : g z
        ·rw [hz] at hs
         cases q with
         | zero => simp at hq; subst hq; rw [hz] at hgy; cases hgy
         | succ q =>
          cases j with
          | zero => omega
          | succ j => exact ih (i + 1) j q y (by rw [show i + 1 + j = i + (j + 1) from by omega]; exact hs) (by omega) (by simpa using hq) hgy
        ·rw [hz] at hs
         have hs : (some (i : Int)) = some ((i + j : Nat) : Int) := hs
         have := Option.some.inj hs
         omega
      exact this a 0 j q y (by rw [Nat.zero_add]; exact hs) (by omega) hq hgy
    rw [h1]
    simp [hg]
   obtain ⟨b, e, hb⟩ := EF (AX N f fun v4 => (D8 ((0 : Int) ≤ v4.2 ∧ (v4.2).toNat ≤ v4.1.length ∧ v4.1.length ≤ v4.1.length)).bind fun _ =>
     (D8 ((0 : Int) ≤ v4.2 ∧ 0 ≤ (v4.2).toNat ∧ (v4.2).toNat ≤ (Il v4.1 ((v4.2).toNat) (List.replicate ((v4.1.length - (v4.2).toNat)) ((Af.mk 0 0 0)))).length)).bind fun _ =>
     some ((v4.2).toNat, Il v4.1 ((v4.2).toNat) (List.replicate ((v4.1.length - (v4.2).toNat)) ((Af.mk 0 0 0)))))
    (fun (b : List Af × Nat) i => (b.1, ((b.2 : Nat) : Int), i)) a.length (fun b => (D8 ((0 : Int) ≤ ((b.2 : Nat) : Int) ∧ (((b.2 : Nat) : Int)).toNat ≤ b.1.length ∧ b.1.length ≤ b.1.length)).bind fun _ =>
     (D8 ((0 : Int) ≤ ((b.2 : Nat) : Int) ∧ 0 ≤ (((b.2 : Nat) : Int)).toNat ∧ (((b.2 : Nat) : Int)).toNat ≤ (Il b.1 ((((b.2 : Nat) : Int)).toNat) (List.replicate ((b.1.length - (((b.2 : Nat) : Int)).toNat)) ((Af.mk 0 0 0)))).length)).bind fun _ =>
     some ((((b.2 : Nat) : Int)).toNat, Il b.1 ((((b.2 : Nat) : Int)).toNat) (List.replicate ((b.1.length - (((b.2 : Nat) : Int)).toNat)) ((Af.mk 0 0 0)))))
    (fun i b => b.1.length = a.length ∧ b.2 ≤ i ∧ b.1.drop i = a.drop i ∧ b.1.take b.2 = (a.take i).filter fun x => !g x)
    (fun n i b hi hb => by
     obtain ⟨b1, b2, b3, b4⟩ := hb
     rw [AX, AL (by simp only; omega)]
     have hai : a[i]? = some a[i] := by simp [hi]
     have hbi : b.1[i]? = some a[i] := by
      have := congrArg (fun l => l[0]?) b3
      simp only [List.getElem?_drop, Nat.add_zero] at this
      rw [this, hai]
     simp only [Bf, A1, hbi, Option.bind_some]
     rw [hf a[i] (List.getElem_mem hi), AM (i := i) (by omega)]
     simp only [Option.bind_some]
     have hnext : b.1.drop (i + 1) = a.drop (i + 1) := by
      have := congrArg (List.drop 1) b3
      rwa [List.drop_drop, List.drop_drop] at this
     cases hgi : g a[i]
     ·rw [Bool.not_false, AP]
      have hbj : b.1[b.2]? = some b.1[b.2] := by simp [show b.2 < b.1.length from by omega]
      rw [hbj, AM (i := b.2) (by omega)]
      refine ⟨(b.1.set b.2 a[i], b.2 + 1), rfl, by simpa using b1, by simp only; omega, ?_, ?_⟩
      ·simp only
       rw [List.drop_set_of_lt (by omega), hnext]
      ·simp only
       rw [Nl (by omega), b4, List.take_add_one, hai, List.filter_append]
       simp [hgi]
     ·rw [Bool.not_true, Av]
      refine ⟨b, rfl, b1, by omega, hnext, ?_⟩
      rw [b4, List.take_add_one, hai, List.filter_append]
      simp [hgi])
    (fun n b hb => by rw [AX, AH (by simp [hb.1])]) N (j + 1) (a, j) (by omega) (by omega) ⟨rfl, by simp only; omega, rfl, hpre.symm⟩
   obtain ⟨b1, b2, b3, b4⟩ := hb
   have e' : AX N f (fun v4 => (D8 ((0 : Int) ≤ v4.2 ∧ (v4.2).toNat ≤ v4.1.length ∧ v4.1.length ≤ v4.1.length)).bind fun _ =>
     (D8 ((0 : Int) ≤ v4.2 ∧ 0 ≤ (v4.2).toNat ∧ (v4.2).toNat ≤ (Il v4.1 ((v4.2).toNat) (List.replicate ((v4.1.length - (v4.2).toNat)) ((Af.mk 0 0 0)))).length)).bind fun _ =>
     some ((v4.2).toNat, Il v4.1 ((v4.2).toNat) (List.replicate ((v4.1.length - (v4.2).toNat)) ((Af.mk 0 0 0))))) N (a, (j : Int), ((j + 1 : Nat) : Int)) = _ := e
   rw [e']
   have hsl : (Il b.1 b.2 (List.replicate (b.1.length - b.2) (Af.mk 0 0 0))).length = b.1.length := IK (by rw [List.length_replicate]; omega)
   simp only [Int.toNat_natCast]
   rw [Az ⟨by omega, by omega, Nat.le_refl _⟩, Az ⟨by omega, by omega, by rw [hsl]; omega⟩]
   refine ⟨_, _, rfl, by rw [hsl]; omega, ?_⟩
   unfold Il
   rw [List.append_assoc, List.take_append_of_le_length (by simp; omega), List.take_take, Nat.min_self, b4, List.take_length]
  ·cases hr
theorem Qs (N : Nat) (hN : N ≤ 1000000) (h20 : 100 ≤ N) {p : Ae} {m : Ah} (hv : Dh p = 0) (hm : BO p m) : Fb N p m = some (ER p m, 0) := by
 obtain ⟨hp, _⟩ := Eg hv
 unfold Fb
 rw [Ho N p m hN (by omega) (I4 hm), Gs hv hm]
 simp only [Option.bind_some, bne_self_eq_false, Av]
 rw [Pz N hN h20 hp]
 simp only [Option.bind_some]
 have hl := QS hp
 obtain ⟨X, n, e, h1, h2⟩ := PS N hN (D5 p) (fun x => C3 N x p.fVersions p.fNow p.fTarget p.fTables m.fBase m.fNext m.fHeld) (fun s => !((A4 p m s).2 == 0)) (by omega) (by omega) (fun x hx => O4 N hN h20 hp hm hx)
 rw [e]
 simp only [Option.bind_some]
 rw [Az h1, h2]
 unfold ER
 simp
end Go.Lift

/- The reference's list of possible steps is the same. -/
namespace Go.Lift
open Go
theorem GT {β : Type} (g : Nat → List β) : ∀ n : Nat, CF (fun i (_ : Nat) => g i) 0 (List.range n) = (List.range n).flatMap g
 | 0 => rfl
 | n + 1 => by rw [List.range_succ, Le, GT g n, List.flatMap_append]; simp [CF]
def Tm (p : Ae) (m : Ah) (s : Af) : Bool := (A4 p m s).2 == 0
def gS (p : Ae) (m : Ah) (k : Int) (i v : Nat) : List Af := if Tm p m ⟨k, (i : Int), (v : Int)⟩ = true then [⟨k, (i : Int), (v : Int)⟩] else []
def bS (p : Ae) (m : Ah) (k : Int) (i : Nat) : List Af := (List.range 6).flatMap (gS p m k i)
def Qm (p : Ae) : Nat := max p.fVersions.length p.fTables.length
def kS (p : Ae) (m : Ah) (k : Int) : List Af := (List.range (Qm p)).flatMap (bS p m k)
theorem Jm {β : Type} (f : Nat → β) (q : β → Bool) : ∀ n : Nat, ((List.range n).flatMap fun v => if q (f v) = true then [f v] else []) = ((List.range n).map f).filter q
 | 0 => rfl
 | n + 1 => by
  rw [List.range_succ, List.flatMap_append, Jm f q n, List.map_append, List.filter_append]
  cases h : q (f n) <;> simp [h]
theorem JB {β : Type} (g : Nat → List β) (a : Nat) (h : ∀ v, a ≤ v → g v = []) : ∀ n, a ≤ n → (List.range n).flatMap g = (List.range a).flatMap g
 | 0, hn => by rw [Nat.le_zero.1 hn]
 | n + 1, hn => by
  by_cases h1 : a = n + 1
  ·rw [h1]
  ·rw [List.range_succ, List.flatMap_append, JB g a h n (by omega)]
   simp [h n (by omega)]
theorem R9 (p : Ae) (m : Ah) (k : Int) (i v : Nat) : (gS p m k i v).length ≤ 1 := by unfold gS; split <;> simp
theorem RZ (p : Ae) (m : Ah) (k : Int) (i : Nat) : (bS p m k i).length ≤ 6 := by
 unfold bS
 rw [← GT]
 have := Fg (g := fun i' (_ : Nat) => gS p m k i i') (c := 1) (i := 0) (xs := List.range 6) fun j x _ => R9 p m k i _
 simpa using this
theorem U4 {p : Ae} (hp : Bc p) (m : Ah) (k : Int) : (kS p m k).length ≤ 72 := by
 have h1 := hp.nv
 have h2 := hp.nt
 unfold kS
 rw [← GT]
 have := Fg (g := fun i' (_ : Nat) => bS p m k i') (c := 6) (i := 0) (xs := List.range (Qm p)) fun j x _ => RZ p m k _
 simp only [List.length_range] at this
 have h3 : Qm p ≤ 12 := by unfold Qm; omega
 omega
theorem VC {p : Ae} {m : Ah} {s : Af} (h : Tm p m s = true) : Ft s = true ∧ EV p s = true := by
 unfold Tm A4 at h
 split at h
 ·cases h
 ·rename_i h1
  split at h
  ·cases h
  ·rename_i h2
   exact ⟨by simpa using h1, by simpa using h2⟩
theorem KK {p : Ae} {m : Ah} {k : Int} {i v : Nat} (h : Tm p m ⟨k, (i : Int), (v : Int)⟩ = true) : (k = 3 → i < p.fTables.length) ∧ (k ≠ 3 → i < p.fVersions.length) ∧ (k = 1 → (v : Int) < p.fVersions.getD i 0) ∧ (k ≠ 1 → v = 0) := by
 obtain ⟨h1, h2⟩ := VC h
 obtain ⟨a1, a2, a3, a4, a5⟩ := GC h1
 obtain ⟨b1, b2, b3⟩ := Ht h2
 simp only [Int.toNat_natCast] at *
 exact ⟨fun e => by have := b1 e; omega, fun e => by have := b2 e; omega, b3, fun e => by have := a5 e; omega⟩
theorem SU {p : Ae} (hp : Bc p) (m : Ah) : kS p m 1 ++ kS p m 2 ++ kS p m 3 = ER p m := by
 have hnv := hp.nv
 have hnt := hp.nt
 unfold ER D5
 rw [List.filter_append, List.filter_append]
 have e1 : kS p m 1 = (CF HS 0 p.fVersions).filter fun s => (A4 p m s).2 == 0 := by
  unfold kS
  rw [JB (bS p m 1) p.fVersions.length (fun i hi => by
   unfold bS
   rw [List.flatMap_eq_nil_iff]
   intro v _
   unfold gS
   rw [if_neg]
   intro h
   have := (KK h).2.1 (by decide)
   omega) (Qm p) (by unfold Qm; omega)]
  have e : ∀ (xs : List Int) (i : Nat), (∀ j x, xs[j]? = some x → 1 ≤ x ∧ x ≤ 6 ∧ p.fVersions.getD (i + j) 0 = x) → ((List.range xs.length).flatMap fun j => bS p m 1 (i + j)) = (CF HS i xs).filter fun s => (A4 p m s).2 == 0 := by
   intro xs
   induction xs with
   | nil => intro i _; rfl
   | cons x xs ih =>
    intro i hx
    rw [List.length_cons, List.range_succ_eq_map, List.flatMap_cons, List.flatMap_map, CF, List.filter_append]
    have ih' := ih (i + 1) (fun j y hy => by
     have := hx (j + 1) y (by simpa using hy)
     rw [show i + 1 + j = i + (j + 1) from by omega]; exact this)
    have hx0 := hx 0 x rfl
    rw [Nat.add_zero] at hx0
    congr 1
    ·rw [Nat.add_zero]
     unfold bS HS
     rw [JB (gS p m 1 i) x.toNat (fun v hv => by
      unfold gS
      rw [if_neg]
      intro h
      have := (KK h).2.2.1 rfl
      rw [hx0.2.2] at this
      omega) 6 (by omega)]
     exact Jm (fun v => (⟨1, (i : Int), ((v : Nat) : Int)⟩ : Af)) (Tm p m) x.toNat
    ·rw [← ih']
     congr 1
     funext j
     rw [show i + (j + 1) = i + 1 + j from by omega]
  have := e p.fVersions 0 (fun j x hx => by
   have h1 := hp.ver x (List.mem_of_getElem? hx)
   refine ⟨h1.1, h1.2, ?_⟩
   rw [Nat.zero_add, List.getD_eq_getElem?_getD, hx]; rfl)
  simp only [Nat.zero_add] at this
  exact this
 have e23 : ∀ (k : Int) (n : Nat), k ≠ 1 → n ≤ Qm p → (∀ i v, Tm p m ⟨k, ((i : Nat) : Int), ((v : Nat) : Int)⟩ = true → i < n) → kS p m k = (((List.range n).map fun i => (⟨k, ((i : Nat) : Int), 0⟩ : Af)).filter fun s => (A4 p m s).2 == 0) := by
  intro k n hk hn hi
  unfold kS
  rw [JB (bS p m k) n (fun i hi' => by
   unfold bS
   rw [List.flatMap_eq_nil_iff]
   intro v _
   unfold gS
   rw [if_neg]
   intro h
   have := hi i v h
   omega) (Qm p) hn]
  show _ = List.filter (Tm p m) _
  rw [← Jm (fun i => (⟨k, ((i : Nat) : Int), 0⟩ : Af)) (Tm p m) n]
  congr 1
  funext i
  unfold bS
  rw [JB (gS p m k i) 1 (fun v hv => by
   unfold gS
   rw [if_neg]
   intro h
   have := (KK h).2.2.2 hk
   omega) 6 (by omega)]
  simp [gS]
 rw [e1, e23 2 p.fVersions.length (by decide) (by unfold Qm; omega) (fun i v h => (KK h).2.1 (by decide)), e23 3 p.fTables.length (by decide) (by unfold Qm; omega) (fun i v h => (KK h).1 rfl)]
theorem PN (a b : Nat) : RE (a : Int) (b : Int) = ((max a b : Nat) : Int) := by
 unfold RE
 omega
theorem Od (N : Nat) (hN : N ≤ 1000000) (h20 : 100 ≤ N) {p : Ae} {m : Ah} (hv : Dh p = 0) (hm : BO p m) : DX N p m = some (ER p m) := by
 obtain ⟨hp, _⟩ := Eg hv
 have hnv := hp.nv
 have hnt := hp.nt
 have hmx : Qm p ≤ 12 := by unfold Qm; omega
 unfold DX
 have hmix := Gs hv hm
 -- one number
 have inn : ∀ (k : Int) (c0 a : List Af) (i : Nat) (d0 : List Af) (j : List Af → Option (List Af)), a.length ≤ 1000 →
   B2 N p m (c0, k) (d0, (i : Int)) j N (a, 0) = j (a ++ bS p m k i) := by
  intro k c0 a i d0 j ha
  have := FE (B2 N p m (c0, k) (d0, (i : Int)) j) (fun a i => (a, i)) (List.range 6) j (fun v _ => gS p m k i v) 1 2000
   (fun v x _ => R9 _ _ _ _ _)
   (fun n v x a hx hl => by
    have hi := (List.getElem?_eq_some_iff.1 hx).1
    simp only [List.length_range] at hi
    rw [B2, AL (by simp only; omega)]
    simp only [Bf]
    rw [Of N hN h20 (I4 hm), if_pos hmix]
    simp only [Option.bind_some, AM (show v < 1000000 by omega)]
    unfold gS Tm
    cases hq : (A4 p m ⟨k, (i : Int), (v : Int)⟩).2 == 0
    ·rw [Av, if_neg (by simp), List.append_nil]
    ·rw [AP, if_pos rfl, Az (by simp [Dv]; unfold gS Tm at hl; rw [hq] at hl; simp at hl; omega)])
   (fun n a => by rw [B2, AH (by simp)]) N a (by simp; omega) (by simp; omega)
  rw [GT] at this
  exact this
 have mid : ∀ (k : Int) (c0 a : List Af) (j : List Af → Option (List Af)), a.length ≤ 500 →
   B3 N p m (c0, k) j N (a, 0) = j (a ++ kS p m k) := by
  intro k c0 a j ha
  have := FE (B3 N p m (c0, k) j) (fun a i => (a, i)) (List.range (Qm p)) j (fun i _ => bS p m k i) 6 900
   (fun v x _ => RZ _ _ _ _)
   (fun n i x a hx hl => by
    have hi := (List.getElem?_eq_some_iff.1 hx).1
    simp only [List.length_range] at hi
    rw [B3, AL (by simp only; rw [PN]; unfold Qm at hi; omega)]
    rw [inn k c0 a i a _ (by omega)]
    simp only [AM (show i < 1000000 by omega)])
   (fun n a => by rw [B3, AH (by simp [PN, Qm])]) N a (by simp; omega) (by simp; omega)
  rw [GT] at this
  exact this
 have hk := U4 hp m
 have go : ∀ (k : Int) (n : Nat) (a : List Af), k ≤ 3 → 1 ≤ k → a.length ≤ 300 → Bt N p m (fun v2 => some v2) (n + 1) (a, k) = Bt N p m (fun v2 => some v2) n (a ++ kS p m k, k + 1) := by
  intro k n a h1 h2 ha
  rw [Bt, AL h1]
  rw [mid k a a _ (by omega), Cr (by omega) (by omega)]
 obtain ⟨N', hN'⟩ : ∃ q, N = q + 4 := ⟨N - 4, by omega⟩
 have e0 : Bt N p m (fun v2 => some v2) N ([], 1) = Bt N p m (fun v2 => some v2) (N' + 4) ([], 1) := by rw [hN']
 rw [e0, go 1 (N' + 3) [] (by decide) (by decide) (by simp), List.nil_append]
 rw [show (1 : Int) + 1 = 2 from rfl, go 2 (N' + 2) _ (by decide) (by decide) (by have := hk 1; omega)]
 rw [show (2 : Int) + 1 = 3 from rfl, go 3 (N' + 1) _ (by decide) (by decide) (by have h1 := hk 1; have h2 := hk 2; rw [List.length_append]; omega)]
 rw [Bt, AH (by simp), SU hp]
end Go.Lift

/- Breadth-first search in plain Lean: the ways that it finds are the least ones, by length and then by the ranks of their steps. No condition. -/
namespace Go.Lift
namespace Bfs
section
variable {α σ : Type}
def code (rk : σ → Nat) (K : Nat) (w : List σ) : Nat := w.foldl (fun c s => c * K + rk s) 0
theorem Hu (rk : σ → Nat) (K : Nat) (w : List σ) (s : σ) : code rk K (w ++ [s]) = code rk K w * K + rk s := by
 simp [code]
theorem Pb (rk : σ → Nat) (K : Nat) : code rk K ([] : List σ) = 0 := rfl
def Dig (rk : σ → Nat) (K : Nat) (w : List σ) : Prop := ∀ s, s ∈ w → 1 ≤ rk s ∧ rk s ≤ K
theorem Dig.snoc {rk : σ → Nat} {K : Nat} {w : List σ} {s : σ} (h : Dig rk K w) (hs : 1 ≤ rk s ∧ rk s ≤ K) : Dig rk K (w ++ [s]) := by
 intro x hx; rcases List.mem_append.1 hx with h1 | h1
 ·exact h x h1
 ·rw [List.mem_singleton.1 h1]; exact hs
theorem Ro {c d K a b : Nat} (h : c < d) (_ : 1 ≤ b) (ha : a ≤ K) : c * K + a < d * K + b := by
 have : c * K + K ≤ d * K := by rw [← Nat.succ_mul]; exact Nat.mul_le_mul_right K h
 omega
theorem TH {c d K a : Nat} (h : c ≤ d) : c * K + a ≤ d * K + a := Nat.add_le_add_right (Nat.mul_le_mul_right K h) a
theorem list_snoc {β : Type} (l : List β) : l = [] ∨ ∃ u s, l = u ++ [s] := by
 cases h : l.reverse with
 | nil => exact .inl (List.reverse_eq_nil_iff.1 h)
 | cons s r => exact .inr ⟨r.reverse, s, by rw [← List.reverse_cons, ← h, List.reverse_reverse]⟩
abbrev Nd (α σ : Type) := α × Int × σ
def put [DecidableEq α] (i : Nat) (l : List (Nd α σ)) (q : σ × α) : List (Nd α σ) := if (l.any fun n => decide (n.1 = q.2)) = true then l else l ++ [(q.2, (i : Int), q.1)]
def inner [DecidableEq α] (most i : Nat) : List (σ × α) → List (Nd α σ) → Option (List (Nd α σ))
 | [], l => some l
 | q :: qs, l => if most < (put i l q).length then none else inner most i qs (put i l q)
def go [DecidableEq α] (nxt : α → List (σ × α)) (most : Nat) : Nat → Nat → List (Nd α σ) → Option (List (Nd α σ))
 | 0, _, _ => none
 | n + 1, i, l => match l[i]? with
  | none => some l
  | some nd => (inner most i (nxt nd.1) l).bind fun l' => go nxt most n (i + 1) l'
structure Inv (nxt : α → List (σ × α)) (rk : σ → Nat) (K : Nat) (root : α) (i : Nat) (done : List (σ × α)) (l : List (Nd α σ)) (ws : List (List σ)) : Prop where
 len : ws.length = l.length
 root : ∃ s, l[0]? = some (root, -1, s)
 root' : ws[0]? = some []
 par : ∀ (k : Nat) x f s, 0 < k → l[k]? = some (x, f, s) → ∃ (j : Nat) (y : α) (g : Int) (t : σ) (w : List σ), f = (j : Int) ∧ j < k ∧ l[j]? = some (y, g, t) ∧ (s, x) ∈ nxt y ∧ ws[j]? = some w ∧ ws[k]? = some (w ++ [s]) ∧ (j < i ∨ (j = i ∧ (s, x) ∈ done))
 nodup : ∀ (a b : Nat) x f s g t, l[a]? = some (x, f, s) → l[b]? = some (x, g, t) → a = b
 inc : ∀ (a b : Nat) u w, ws[a]? = some u → ws[b]? = some w → a < b → code rk K u < code rk K w
 dig : ∀ (k : Nat) w, ws[k]? = some w → Dig rk K w
 closed : ∀ (j : Nat) x f s w, l[j]? = some (x, f, s) → ws[j]? = some w → ∀ q, (j < i ∧ q ∈ nxt x) ∨ (j = i ∧ q ∈ done) → ∃ (k : Nat) (f' : Int) (s' : σ) (w' : List σ), l[k]? = some (q.2, f', s') ∧ ws[k]? = some w' ∧ code rk K w' ≤ code rk K (w ++ [q.1])
theorem get_app {β : Type} {l : List β} {y x : β} {k : Nat} (h : (l ++ [y])[k]? = some x) : l[k]? = some x ∨ (k = l.length ∧ x = y) := by
 rcases Nat.lt_trichotomy k l.length with h1 | h1 | h1
 ·rw [List.getElem?_append_left h1] at h; exact .inl h
 ·subst h1; simp at h; exact .inr ⟨rfl, h.symm⟩
 ·rw [List.getElem?_eq_none (by simp; omega)] at h; cases h
theorem get_app_of {β : Type} {l : List β} {y x : β} {k : Nat} (h : l[k]? = some x) : (l ++ [y])[k]? = some x := by
 rw [List.getElem?_append_left ((List.getElem?_eq_some_iff.1 h).1)]; exact h
theorem get_app_new {β : Type} {l : List β} {y : β} : (l ++ [y])[l.length]? = some y := by simp
theorem lt_get {β : Type} {l : List β} {k : Nat} {x : β} (h : l[k]? = some x) : k < l.length := (List.getElem?_eq_some_iff.1 h).1
theorem get_ex {β : Type} {l : List β} {k : Nat} (h : k < l.length) : ∃ x, l[k]? = some x := ⟨l[k], List.getElem?_eq_getElem h⟩
theorem Ty [DecidableEq α] {nxt : α → List (σ × α)} {rk : σ → Nat} {K : Nat} {root : α} {i : Nat} {done : List (σ × α)} {l : List (Nd α σ)} {ws : List (List σ)} {x : α} {f : Int} {s : σ} {q : σ × α}
  (hI : Inv nxt rk K root i done l ws) (hx : l[i]? = some (x, f, s)) (hq : q ∈ nxt x) (hd : ∀ r, r ∈ done → rk r.1 < rk q.1) (hr : 1 ≤ rk q.1 ∧ rk q.1 ≤ K) :
  ∃ ws', Inv nxt rk K root i (done ++ [q]) (put i l q) ws' ∧ (∀ (k : Nat) w, ws[k]? = some w → ws'[k]? = some w) ∧ (∀ (k : Nat) n, l[k]? = some n → (put i l q)[k]? = some n) := by
 obtain ⟨w0, hw0⟩ := get_ex (l := ws) (k := i) (by rw [hI.len]; exact lt_get hx)
 unfold put
 by_cases hin : (l.any fun n => decide (n.1 = q.2)) = true
 ·rw [if_pos hin]
  refine ⟨ws, ⟨hI.len, hI.root, hI.root', ?_, hI.nodup, hI.inc, hI.dig, ?_⟩, fun _ _ h => h, fun _ _ h => h⟩
  ·intro k y g t hk hy
   obtain ⟨j, y', g', t', w, h1, h2, h3, h4, h5, h6, h7⟩ := hI.par k y g t hk hy
   exact ⟨j, y', g', t', w, h1, h2, h3, h4, h5, h6, h7.imp id fun h => ⟨h.1, List.mem_append_left _ h.2⟩⟩
  ·intro j y g t w hy hw r hr'
   by_cases hold : (j < i ∧ r ∈ nxt y) ∨ (j = i ∧ r ∈ done)
   ·exact hI.closed j y g t w hy hw r hold
   ·have hjr : j = i ∧ r = q := by
     rcases hr' with h | ⟨h1, h2⟩
     ·exact absurd (.inl h) hold
     ·rcases List.mem_append.1 h2 with h3 | h3
      ·exact absurd (.inr ⟨h1, h3⟩) hold
      ·exact ⟨h1, List.mem_singleton.1 h3⟩
    obtain ⟨rfl, rfl⟩ := hjr
    rw [hw0] at hw; cases hw
    obtain ⟨n, hn1, hn2⟩ := List.any_eq_true.1 hin
    obtain ⟨k, hk⟩ := List.mem_iff_getElem?.1 hn1
    obtain ⟨nx, nf, ns⟩ := n
    have hn2 : nx = r.2 := of_decide_eq_true hn2
    subst hn2
    obtain ⟨wk, hwk⟩ := get_ex (l := ws) (k := k) (by rw [hI.len]; exact lt_get hk)
    refine ⟨k, nf, ns, wk, hk, hwk, ?_⟩
    rw [Hu]
    rcases Nat.eq_zero_or_pos k with rfl | hk0
    ·rw [hI.root'] at hwk; cases hwk; rw [Pb]; omega
    ·obtain ⟨j', y', g', t', w, h1, h2, h3, h4, h5, h6, h7⟩ := hI.par k _ _ _ hk0 hk
     rw [h6] at hwk; cases hwk
     rw [Hu]
     have hdg : 1 ≤ rk ns ∧ rk ns ≤ K := hI.dig k _ h6 ns (by simp)
     rcases h7 with h7 | ⟨h7, h8⟩
     ·exact Nat.le_of_lt (Ro (hI.inc _ _ _ _ h5 hw0 h7) hr.1 hdg.2)
     ·subst h7; rw [hw0] at h5; cases h5
      have := hd _ h8
      simp only at this; omega
 ·rw [if_neg hin]
  have hnew : ∀ (k : Nat) y g t, l[k]? = some (y, g, t) → y ≠ q.2 := fun k y g t hy e => hin (List.any_eq_true.2 ⟨_, List.mem_of_getElem? hy, decide_eq_true e⟩)
  have hbig : ∀ (k : Nat) u, ws[k]? = some u → code rk K u < code rk K (w0 ++ [q.1]) := by
   intro k u hu
   rw [Hu]
   obtain ⟨⟨nx, nf, ns⟩, hk⟩ := get_ex (l := l) (k := k) (by rw [← hI.len]; exact lt_get hu)
   rcases Nat.eq_zero_or_pos k with rfl | hk0
   ·rw [hI.root'] at hu; cases hu; rw [Pb]; omega
   ·obtain ⟨j', y', g', t', w, h1, h2, h3, h4, h5, h6, h7⟩ := hI.par k _ _ _ hk0 hk
    rw [h6] at hu; cases hu
    rw [Hu]
    have hdg : 1 ≤ rk ns ∧ rk ns ≤ K := hI.dig k _ h6 ns (by simp)
    rcases h7 with h7 | ⟨h7, h8⟩
    ·exact Ro (hI.inc _ _ _ _ h5 hw0 h7) hr.1 hdg.2
    ·subst h7; rw [hw0] at h5; cases h5
     have := hd _ h8
     simp only at this; omega
  refine ⟨ws ++ [w0 ++ [q.1]], ⟨by simp [hI.len], ?_, get_app_of hI.root', ?_, ?_, ?_, ?_, ?_⟩, fun _ _ h => get_app_of h, fun _ _ h => get_app_of h⟩
  ·obtain ⟨s0, hs0⟩ := hI.root; exact ⟨s0, get_app_of hs0⟩
  ·intro k y g t hk hy
   rcases get_app hy with hy | ⟨hk1, hy⟩
   ·obtain ⟨j, y', g', t', w, h1, h2, h3, h4, h5, h6, h7⟩ := hI.par k y g t hk hy
    exact ⟨j, y', g', t', w, h1, h2, get_app_of h3, h4, get_app_of h5, get_app_of h6, h7.imp id fun h => ⟨h.1, List.mem_append_left _ h.2⟩⟩
   ·cases hy
    refine ⟨i, x, f, s, w0, rfl, by rw [hk1]; exact lt_get hx, get_app_of hx, hq, get_app_of hw0, by rw [hk1, ← hI.len]; exact get_app_new, .inr ⟨rfl, by simp⟩⟩
  ·intro a b y g t g' t' ha hb
   rcases get_app ha with ha | ⟨ha1, ha⟩ <;> rcases get_app hb with hb | ⟨hb1, hb⟩
   ·exact hI.nodup a b y g t g' t' ha hb
   ·cases hb; exact absurd rfl (hnew _ _ _ _ ha)
   ·cases ha; exact absurd rfl (hnew _ _ _ _ hb)
   ·omega
  ·intro a b u w ha hb hab
   rcases get_app ha with ha | ⟨ha1, ha⟩ <;> rcases get_app hb with hb | ⟨hb1, hb⟩
   ·exact hI.inc a b u w ha hb hab
   ·rw [hb]; exact hbig _ _ ha
   ·have := lt_get hb; omega
   ·omega
  ·intro k w hw
   rcases get_app hw with hw | ⟨hw1, hw⟩
   ·exact hI.dig k w hw
   ·rw [hw]; exact (hI.dig _ _ hw0).snoc hr
  ·intro j y g t w hy hw r hr'
   rcases get_app hy with hy1 | ⟨hy1, hy2⟩
   ·have hw1 : ws[j]? = some w := by
     rcases get_app hw with h | ⟨h, _⟩
     ·exact h
     ·have := lt_get hy1; rw [← hI.len] at this; omega
    by_cases hold : (j < i ∧ r ∈ nxt y) ∨ (j = i ∧ r ∈ done)
    ·obtain ⟨k, f', s', w', h1, h2, h3⟩ := hI.closed j y g t w hy1 hw1 r hold
     exact ⟨k, f', s', w', get_app_of h1, get_app_of h2, h3⟩
    ·have hjr : j = i ∧ r = q := by
      rcases hr' with h | ⟨h1, h2⟩
      ·exact absurd (.inl h) hold
      ·rcases List.mem_append.1 h2 with h3 | h3
       ·exact absurd (.inr ⟨h1, h3⟩) hold
       ·exact ⟨h1, List.mem_singleton.1 h3⟩
     obtain ⟨rfl, rfl⟩ := hjr
     rw [hw0] at hw1; cases hw1
     exact ⟨l.length, _, _, _, get_app_new, by rw [← hI.len]; exact get_app_new, Nat.le_refl _⟩
   ·have := lt_get hx
    rcases hr' with h | h <;> omega
theorem NM [DecidableEq α] {nxt : α → List (σ × α)} {rk : σ → Nat} {K : Nat} {root : α} {i most : Nat} {x : α} {f : Int} {s : σ} (hP : (nxt x).Pairwise fun a b => rk a.1 < rk b.1) (hD : ∀ q, q ∈ nxt x → 1 ≤ rk q.1 ∧ rk q.1 ≤ K) :
  ∀ (qs done : List (σ × α)) (l l' : List (Nd α σ)) (ws : List (List σ)), done ++ qs = nxt x → Inv nxt rk K root i done l ws → l[i]? = some (x, f, s) → inner most i qs l = some l' →
   ∃ ws', Inv nxt rk K root i (nxt x) l' ws' ∧ (∀ (k : Nat) w, ws[k]? = some w → ws'[k]? = some w) ∧ (∀ (k : Nat) n, l[k]? = some n → l'[k]? = some n)
 | [], done, l, l', ws, he, hI, hx, h => by
  cases h; rw [List.append_nil] at he; subst he; exact ⟨ws, hI, fun _ _ h => h, fun _ _ h => h⟩
 | q :: qs, done, l, l', ws, he, hI, hx, h => by
  have hqm : q ∈ nxt x := by rw [← he]; simp
  have hlt : ∀ r, r ∈ done → rk r.1 < rk q.1 := fun r hr => by
   rw [← he] at hP
   exact (List.pairwise_append.1 hP).2.2 r hr q (by simp)
  obtain ⟨ws1, h1, h2, h3⟩ := Ty hI hx hqm hlt (hD q hqm)
  simp only [inner] at h
  split at h
  ·cases h
  ·obtain ⟨ws2, g1, g2, g3⟩ := NM hP hD qs (done ++ [q]) _ l' ws1 (by rw [List.append_assoc]; exact he) h1 (h3 _ _ hx) h
   exact ⟨ws2, g1, fun k w hw => g2 k w (h2 k w hw), fun k n hn => g3 k n (h3 k n hn)⟩
theorem Sz {nxt : α → List (σ × α)} {rk : σ → Nat} {K : Nat} {root : α} {i : Nat} {x : α} {f : Int} {s : σ} {l : List (Nd α σ)} {ws : List (List σ)} (h : Inv nxt rk K root i (nxt x) l ws) (hx : l[i]? = some (x, f, s)) : Inv nxt rk K root (i + 1) [] l ws := by
 refine ⟨h.len, h.root, h.root', ?_, h.nodup, h.inc, h.dig, ?_⟩
 ·intro k y g t hk hy
  obtain ⟨j, y', g', t', w, h1, h2, h3, h4, h5, h6, h7⟩ := h.par k y g t hk hy
  exact ⟨j, y', g', t', w, h1, h2, h3, h4, h5, h6, .inl (by rcases h7 with h7 | h7 <;> omega)⟩
 ·intro j y g t w hy hw r hr
  rcases hr with ⟨h1, h2⟩ | ⟨_, h2⟩
  ·refine h.closed j y g t w hy hw r ?_
   by_cases hj : j < i
   ·exact .inl ⟨hj, h2⟩
   ·have : j = i := by omega
    subst this; rw [hx] at hy; cases hy; exact .inr ⟨rfl, h2⟩
  ·cases h2
theorem inv_go [DecidableEq α] {nxt : α → List (σ × α)} {rk : σ → Nat} {K : Nat} {root : α} {most : Nat} (P : α → Prop) (hP : ∀ x, P x → (nxt x).Pairwise fun a b => rk a.1 < rk b.1) (hD : ∀ x, P x → ∀ q, q ∈ nxt x → (1 ≤ rk q.1 ∧ rk q.1 ≤ K) ∧ P q.2) (hroot : P root) :
  ∀ (n i : Nat) (l l' : List (Nd α σ)) (ws : List (List σ)), i ≤ l.length → Inv nxt rk K root i [] l ws → (∀ (k : Nat) x f s, l[k]? = some (x, f, s) → P x) → go nxt most n i l = some l' → ∃ ws', Inv nxt rk K root l'.length [] l' ws' ∧ (∀ (k : Nat) x f s, l'[k]? = some (x, f, s) → P x)
 | 0, i, l, l', ws, _, _, _, h => by cases h
 | n + 1, i, l, l', ws, hi, hI, hA, h => by
  simp only [go] at h
  split at h
  ·rename_i hn
   cases h
   have : i = l.length := by
    have := List.getElem?_eq_none_iff.1 hn; omega
   subst this
   exact ⟨ws, hI, hA⟩
  ·rename_i nd hn
   obtain ⟨x, f, s⟩ := nd
   cases hin : inner most i (nxt x) l with
   | none => rw [hin] at h; cases h
   | some l1 =>
    rw [hin] at h
    have hx := hA _ _ _ _ hn
    obtain ⟨ws1, h1, h2, h3⟩ := NM (hP x hx) (fun q hq => (hD x hx q hq).1) (nxt x) [] l l1 ws rfl hI hn hin
    have hA1 : ∀ (k : Nat) y g t, l1[k]? = some (y, g, t) → P y := fun k y g t hy => by
     rcases Nat.eq_zero_or_pos k with rfl | hk
     ·obtain ⟨s0, hs0⟩ := h1.root; rw [hs0] at hy; cases hy; exact hroot
     ·obtain ⟨j, y', g', t', w, e1, e2, e3, e4, e5, e6, e7⟩ := h1.par k y g t hk hy
      have hj : P y' := by
       have hjl : j < l.length := by rcases e7 with h | h <;> have := lt_get hn <;> omega
       obtain ⟨⟨z, zf, zs⟩, hz⟩ := get_ex hjl
       have := h3 _ _ hz
       rw [e3] at this; cases this
       exact hA _ _ _ _ hz
      exact (hD y' hj _ e4).2
    exact inv_go P hP hD hroot n (i + 1) l1 l' ws1 (by have := lt_get (h3 _ _ hn); omega) (Sz h1 (h3 _ _ hn)) hA1 h
theorem inv_start {nxt : α → List (σ × α)} {rk : σ → Nat} {K : Nat} {root : α} {s : σ} : Inv nxt rk K root 0 [] [(root, -1, s)] [[]] := by
 refine ⟨rfl, ⟨s, rfl⟩, rfl, ?_, ?_, ?_, ?_, ?_⟩
 ·intro k x f s hk h; rw [List.getElem?_eq_none (by simp; omega)] at h; cases h
 ·intro a b x f s g t ha hb; have := lt_get ha; have := lt_get hb; simp at *; omega
 ·intro a b u w ha hb hab; have := lt_get hb; simp at this; omega
 ·intro k w hw
  have := lt_get hw; simp at this; subst this; simp at hw; subst hw
  intro s hs; cases hs
 ·intro j x f s w _ _ q h
  rcases h with h | h
  ·omega
  ·cases h.2
def run (nxt : α → List (σ × α)) (x : α) : List σ → α → Prop
 | [], y => y = x
 | s :: w, y => ∃ z, (s, z) ∈ nxt x ∧ run nxt z w y
theorem E8 {nxt : α → List (σ × α)} : ∀ {u w : List σ} {x y : α}, run nxt x (u ++ w) y ↔ ∃ z, run nxt x u z ∧ run nxt z w y
 | [], w, x, y => by simp [run]
 | s :: u, w, x, y => by
  simp only [List.cons_append, run]
  constructor
  ·rintro ⟨z, h1, h2⟩
   obtain ⟨z', h3, h4⟩ := E8.1 h2
   exact ⟨z', ⟨z, h1, h3⟩, h4⟩
  ·rintro ⟨z', ⟨z, h1, h3⟩, h4⟩
   exact ⟨z, h1, E8.2 ⟨z', h3, h4⟩⟩
theorem way_run {nxt : α → List (σ × α)} {rk : σ → Nat} {K : Nat} {root : α} {i : Nat} {l : List (Nd α σ)} {ws : List (List σ)} (h : Inv nxt rk K root i [] l ws) : ∀ (n k : Nat) {x : α} {f : Int} {s : σ} {w : List σ}, k < n → l[k]? = some (x, f, s) → ws[k]? = some w → run nxt root w x
 | 0, k, _, _, _, _, hk, _, _ => by omega
 | n + 1, k, x, f, s, w, hk, hx, hw => by
  rcases Nat.eq_zero_or_pos k with rfl | hk0
  ·obtain ⟨s0, hs0⟩ := h.root; rw [hs0] at hx; cases hx
   rw [h.root'] at hw; cases hw; rfl
  ·obtain ⟨j, y', g', t', w', e1, e2, e3, e4, e5, e6, e7⟩ := h.par k _ _ _ hk0 hx
   rw [e6] at hw; cases hw
   exact E8.2 ⟨y', way_run h n j (by omega) e3 e5, x, e4, rfl⟩
theorem reach_node {nxt : α → List (σ × α)} {rk : σ → Nat} {K : Nat} {root : α} {l : List (Nd α σ)} {ws : List (List σ)} (h : Inv nxt rk K root l.length [] l ws) : ∀ (n : Nat) {w : List σ} {y : α}, w.length = n → run nxt root w y → ∃ (k : Nat) (f : Int) (s : σ) (u : List σ), l[k]? = some (y, f, s) ∧ ws[k]? = some u ∧ code rk K u ≤ code rk K w
 | 0, w, y, hn, hr => by
  rw [List.length_eq_zero_iff.1 hn] at hr ⊢
  simp only [run] at hr; subst hr
  obtain ⟨s, hs⟩ := h.root
  exact ⟨0, _, _, _, hs, h.root', Nat.le_refl _⟩
 | n + 1, w, y, hn, hr => by
  rcases list_snoc w with rfl | ⟨w', s, rfl⟩
  ·simp at hn
  obtain ⟨z, h1, h2⟩ := E8.1 hr
  simp only [run] at h2
  obtain ⟨z', h2, rfl⟩ := h2
  simp only [List.length_append, List.length_singleton] at hn
  obtain ⟨k, f, t, u, g1, g2, g3⟩ := reach_node h n (by omega) h1
  obtain ⟨k', f', s', u', e1, e2, e3⟩ := h.closed k z f t u g1 g2 (s, y) (.inl ⟨lt_get g1, h2⟩)
  refine ⟨k', f', s', u', e1, e2, Nat.le_trans e3 ?_⟩
  rw [Hu, Hu]
  exact TH g3
theorem MS [DecidableEq α] {most more i : Nat} (hm : most ≤ more) : ∀ (qs : List (σ × α)) (l l' : List (Nd α σ)), inner most i qs l = some l' → inner more i qs l = some l'
 | [], l, l', h => h
 | q :: qs, l, l', h => by
  simp only [inner] at h ⊢
  split at h
  ·cases h
  ·rw [if_neg (by omega)]; exact MS hm qs _ _ h
theorem go_more [DecidableEq α] {nxt : α → List (σ × α)} {most more : Nat} (hm : most ≤ more) : ∀ (n m i : Nat) (l l' : List (Nd α σ)), n ≤ m → go nxt most n i l = some l' → go nxt more m i l = some l'
 | 0, m, i, l, l', _, h => by cases h
 | n + 1, m, i, l, l', hnm, h => by
  obtain ⟨m, rfl⟩ : ∃ k, m = k + 1 := ⟨m - 1, by omega⟩
  simp only [go] at h ⊢
  cases hl : l[i]? with
  | none => rw [hl] at h; exact h
  | some nd =>
   rw [hl] at h
   simp only at h ⊢
   cases hin : inner most i (nxt nd.1) l with
   | none => rw [hin] at h; cases h
   | some l1 =>
    rw [hin] at h
    rw [MS hm _ _ _ hin]
    exact go_more hm n m (i + 1) l1 l' (by omega) h
theorem inner_len [DecidableEq α] {most i : Nat} : ∀ (qs : List (σ × α)) (l l' : List (Nd α σ)), l.length ≤ most → inner most i qs l = some l' → l'.length ≤ most
 | [], l, l', h0, h => by cases h; exact h0
 | q :: qs, l, l', h0, h => by
  simp only [inner] at h
  split at h
  ·cases h
  ·exact inner_len qs _ _ (by omega) h
theorem go_len [DecidableEq α] {nxt : α → List (σ × α)} {most : Nat} : ∀ (n i : Nat) (l l' : List (Nd α σ)), l.length ≤ most → go nxt most n i l = some l' → l'.length ≤ most
 | 0, i, l, l', _, h => by cases h
 | n + 1, i, l, l', h0, h => by
  simp only [go] at h
  split at h
  ·cases h; exact h0
  ·rename_i nd hn
   cases hin : inner most i (nxt nd.1) l with
   | none => rw [hin] at h; cases h
   | some l1 => rw [hin] at h; exact go_len n (i + 1) l1 l' (inner_len _ _ _ h0 hin) h
end
end Bfs
end Go.Lift

/- The region of a mix: the reference's list of nodes is the breadth-first search. -/
namespace Go.Lift
open Go
theorem PM : ∀ {l : List Int}, U8 l = 0 → ∀ x, x ∈ l → x = 0
 | [], _, x, hx => by cases hx
 | y :: ys, h, x, hx => by
  unfold U8 at h
  split at h
  ·rename_i hy
   rcases List.mem_cons.1 hx with rfl | hx
   ·exact hy
   ·exact PM h x hx
  ·rename_i hy; exact absurd h hy
theorem NQ {a b : Ah} (h : Qr a b = 0) : a = b := by
 have := PM h
 have h1 := L7 _ _ (this (Hh a.fBase b.fBase) (by simp))
 have h2 := L7 _ _ (this (Hh a.fNext b.fNext) (by simp))
 have h3 := L7 _ _ (this (Hh a.fHeld b.fHeld) (by simp))
 cases a; cases b; simp only at h1 h2 h3; subst h1; subst h2; subst h3; rfl
instance XN : DecidableEq Ah := fun a b => if h : Qr a b = 0 then isTrue (NQ h) else isFalse (fun e => h (by rw [e]; exact NT b))
theorem SR (a b : Ah) : (Qr a b == 0) = decide (a = b) := by
 by_cases h : a = b
 ·rw [decide_eq_true h, h, NT]; rfl
 ·rw [decide_eq_false h]
  exact beq_eq_false_iff_ne.2 fun e => h (NQ e)
def NZ (p : Ae) (m : Ah) (ss : List Af) : List (Af × Ah) := ss.filterMap fun s => if BW p (A4 p m s).1 = true then some (s, (A4 p m s).1) else none
def HU (p : Ae) (m : Ah) : List (Af × Ah) := NZ p m (ER p m)
def Kq (s : Af) : Nat := if s.fKind = 1 then 1 + 8 * s.fIndex.toNat + s.fVersion.toNat else if s.fKind = 2 then 60 + s.fIndex.toNat else 70 + s.fIndex.toNat
theorem GV {p : Ae} {m : Ah} {s : Af} (h : s ∈ ER p m) : s ∈ D5 p ∧ (A4 p m s).2 = 0 := by
 unfold ER at h
 have := List.mem_filter.1 h
 exact ⟨this.1, by simpa using this.2⟩
theorem Q4 {p : Ae} {m : Ah} {ss : List Af} {q : Af × Ah} : q ∈ NZ p m ss ↔ q.1 ∈ ss ∧ q.2 = (A4 p m q.1).1 ∧ BW p q.2 = true := by
 unfold NZ
 rw [List.mem_filterMap]
 constructor
 ·rintro ⟨s, h1, h2⟩
  split at h2
  ·rename_i h3; cases h2; exact ⟨h1, rfl, h3⟩
  ·cases h2
 ·rintro ⟨h1, h2, h3⟩
  refine ⟨q.1, h1, ?_⟩
  rw [← h2, if_pos h3]
theorem Ky {p : Ae} {m : Ah} {q : Af × Ah} : q ∈ HU p m ↔ q.1 ∈ ER p m ∧ q.2 = (A4 p m q.1).1 ∧ BW p q.2 = true := Q4
theorem Qa {p : Ae} {m : Ah} (hp : Bc p) (hm : BO p m) {q : Af × Ah} (h : q ∈ HU p m) : BO p q.2 ∧ BW p q.2 = true := by
 obtain ⟨h1, h2, h3⟩ := Ky.1 h
 exact ⟨by rw [h2]; exact JF hp hm (GV h1).2, h3⟩
theorem MB {p : Ae} (hp : Bc p) {s : Af} (h : s ∈ D5 p) : s.fKind ≤ 3 ∧ 1 ≤ Kq s ∧ Kq s ≤ 100 := by
 obtain ⟨h1, h2⟩ := Lu hp h
 obtain ⟨a1, a2, a3, a4, a5⟩ := GC h1
 obtain ⟨b1, b2, b3⟩ := Ht h2
 have hnv := hp.nv
 have hnt := hp.nt
 have hk : s.fKind ≤ 3 := by
  unfold D5 at h
  rcases List.mem_append.1 h with h | h
  ·rcases List.mem_append.1 h with h | h
   ·obtain ⟨j, x, hx, hk⟩ := F5.1 h
    unfold HS at hk
    obtain ⟨v, hv, rfl⟩ := List.mem_map.1 hk
    exact (by decide : (1 : Int) ≤ 3)
   ·obtain ⟨v, hv, rfl⟩ := List.mem_map.1 h
    exact (by decide : (2 : Int) ≤ 3)
  ·obtain ⟨v, hv, rfl⟩ := List.mem_map.1 h
   exact (by decide : (3 : Int) ≤ 3)
 refine ⟨hk, ?_⟩
 unfold Kq
 by_cases h1 : s.fKind = 1
 ·rw [if_pos h1]
  have := b2 (by omega)
  have h3 := b3 h1
  have h4 := (GD hp (i := s.fIndex.toNat) (by omega)).2
  omega
 ·rw [if_neg h1]
  by_cases h2 : s.fKind = 2
  ·rw [if_pos h2]
   have := b2 (by omega)
   omega
  ·rw [if_neg h2]
   have := b1 (by omega)
   omega
theorem Tp (i : Nat) (n : Int) : (HS i n).Pairwise fun a b => Kq a < Kq b := by
 unfold HS
 rw [List.pairwise_map]
 refine List.Pairwise.imp ?_ List.pairwise_lt_range
 intro a b h
 simp [Kq]; omega
theorem Tz {p : Ae} (hp : Bc p) : (D5 p).Pairwise fun a b => Kq a < Kq b := by
 have hnv := hp.nv
 have hnt := hp.nt
 have e1 : ∀ (xs : List Int) (i : Nat), (∀ x, x ∈ xs → x ≤ 6) → (CF HS i xs).Pairwise fun a b => Kq a < Kq b := by
  intro xs
  induction xs with
  | nil => intro i _; exact List.Pairwise.nil
  | cons x xs ih =>
   intro i hx
   rw [CF, List.pairwise_append]
   refine ⟨Tp i x, ih (i + 1) fun y hy => hx y (List.mem_cons_of_mem _ hy), ?_⟩
   intro a ha b hb
   unfold HS at ha
   obtain ⟨v, hv, rfl⟩ := List.mem_map.1 ha
   obtain ⟨j, y, hy, hb⟩ := F5.1 hb
   unfold HS at hb
   obtain ⟨w, hw, rfl⟩ := List.mem_map.1 hb
   have := hx x (by simp)
   have := List.mem_range.1 hv
   simp [Kq]; omega
 unfold D5
 rw [List.pairwise_append, List.pairwise_append]
 refine ⟨⟨e1 _ 0 fun x hx => (hp.ver x hx).2, ?_, ?_⟩, ?_, ?_⟩
 ·rw [List.pairwise_map]
  refine List.Pairwise.imp ?_ List.pairwise_lt_range
  intro a b h
  simp [Kq]; omega
 ·intro a ha b hb
  obtain ⟨w, hw, rfl⟩ := List.mem_map.1 hb
  obtain ⟨j, y, hy, ha⟩ := F5.1 ha
  unfold HS at ha
  obtain ⟨v, hv, rfl⟩ := List.mem_map.1 ha
  have := List.mem_range.1 hv
  have := (hp.ver y (List.mem_of_getElem? hy)).2
  have := (List.getElem?_eq_some_iff.1 hy).1
  simp [Kq]; omega
 ·rw [List.pairwise_map]
  refine List.Pairwise.imp ?_ List.pairwise_lt_range
  intro a b h
  simp [Kq]; omega
 ·intro a ha b hb
  obtain ⟨w, hw, rfl⟩ := List.mem_map.1 hb
  have hw := List.mem_range.1 hw
  rcases List.mem_append.1 ha with ha | ha
  ·obtain ⟨j, y, hy, ha⟩ := F5.1 ha
   unfold HS at ha
   obtain ⟨v, hv, rfl⟩ := List.mem_map.1 ha
   have := List.mem_range.1 hv
   have := (hp.ver y (List.mem_of_getElem? hy)).2
   have := (List.getElem?_eq_some_iff.1 hy).1
   simp [Kq]; omega
  ·obtain ⟨v, hv, rfl⟩ := List.mem_map.1 ha
   have := List.mem_range.1 hv
   simp [Kq]; omega
theorem VP {p : Ae} {m : Ah} {ss : List Af} (h : ss.Pairwise fun a b => Kq a < Kq b) : (NZ p m ss).Pairwise fun a b => Kq a.1 < Kq b.1 := by
 unfold NZ
 rw [List.pairwise_filterMap]
 refine List.Pairwise.imp ?_ h
 intro a b hab x hx y hy
 split at hx
 ·cases hx
  split at hy
  ·cases hy; exact hab
  ·cases hy
 ·cases hx
theorem VG {p : Ae} (hp : Bc p) (m : Ah) : (HU p m).Pairwise fun a b => Kq a.1 < Kq b.1 := VP ((Tz hp).filter _)
theorem T7 {p : Ae} {s : Af} (hv : Ft s = true) (hx : EV p s = true) (hk : s.fKind ≠ 4) : s ∈ D5 p := by
 obtain ⟨a1, a2, a3, a4, a5⟩ := GC hv
 obtain ⟨b1, b2, b3⟩ := Ht hx
 obtain ⟨k, i, v⟩ := s
 simp only at *
 unfold D5
 obtain ⟨i, rfl⟩ := Int.eq_ofNat_of_zero_le a3
 by_cases h1 : k = 1
 ·subst h1
  have h2 := b2 (by decide)
  have h3 := b3 rfl
  obtain ⟨v, rfl⟩ := Int.eq_ofNat_of_zero_le a4
  refine List.mem_append_left _ (List.mem_append_left _ (F5.2 ⟨i, p.fVersions.getD i 0, ?_, ?_⟩))
  ·rw [List.getD_eq_getElem?_getD]
   have hi : i < p.fVersions.length := by omega
   simp [hi]
  ·unfold HS
   refine List.mem_map.2 ⟨v, List.mem_range.2 ?_, by simp⟩
   simp only [Int.toNat_natCast] at h3
   omega
 ·have hv0 := a5 h1
  subst hv0
  by_cases h2 : k = 2
  ·subst h2
   have := b2 (by decide)
   exact List.mem_append_left _ (List.mem_append_right _ (List.mem_map.2 ⟨i, List.mem_range.2 (by omega), rfl⟩))
  ·have h3 : k = 3 := by omega
   subst h3
   have := b1 rfl
   exact List.mem_append_right _ (List.mem_map.2 ⟨i, List.mem_range.2 (by omega), rfl⟩)
theorem N2 {p : Ae} {m x : Ah} {s : Af} : KS p m s = some x → (s, x) ∈ HU p m := by
 intro h
 obtain ⟨h1, h2, h3, h4, h5⟩ := RT.1 h
 unfold KS at h
 split at h
 ·rename_i h6
  cases h
  refine Ky.2 ⟨?_, rfl, h6.2.2⟩
  unfold ER
  exact List.mem_filter.2 ⟨T7 h1 h2 h4, by simpa using h6.1⟩
 ·cases h
theorem RN {p : Ae} (hp : Bc p) {m x : Ah} {s : Af} (h : (s, x) ∈ HU p m) : KS p m s = some x := by
 obtain ⟨h1, h2, h3⟩ := Ky.1 h
 have h1 : s ∈ ER p m := h1
 obtain ⟨h4, h5⟩ := GV h1
 have := (MB hp h4).1
 have h2 : x = (A4 p m s).1 := h2
 have h3 : BW p x = true := h3
 unfold KS
 rw [if_pos ⟨h5, by omega, by rw [← h2]; exact h3⟩, h2]
theorem Lb {p : Ae} (hp : Bc p) : ∀ {w : List Af} {m x : Ah}, MD p m w = some x ↔ Bfs.run (HU p) m w x
 | [], m, x => by simp only [MD, Bfs.run, Option.some.injEq]; exact eq_comm
 | s :: w, m, x => by
  simp only [MD, Bfs.run]
  constructor
  ·intro h
   cases hs : KS p m s with
   | none => rw [hs] at h; cases h
   | some z => rw [hs] at h; exact ⟨z, N2 hs, (Lb hp).1 h⟩
  ·rintro ⟨z, h1, h2⟩
   rw [RN hp h1]
   exact (Lb hp).2 h2
abbrev H8 := Bfs.Nd Ah Af
def Hj (n : H8) : AA := ⟨n.1, n.2.1, n.2.2⟩
def LL : Af := ⟨0, 0, 0⟩
theorem Sg {N : Nat} {p : Ae} {a b : Ah} (hN : N ≤ 1000000) (h20 : 100 ≤ N) (hp : Bc p) (ha : BO p a) (hb : BO p b) : D6 N a b = some (decide (a = b)) := by
 have hnv := hp.nv
 have hnt := hp.nt
 unfold D6
 rw [PK hN (by rw [ha.base]; omega) (by rw [ha.next]; omega) (by rw [ha.held]; omega) (by rw [hb.held]; omega) (I4 ha) (I4 hb)]
 simp only [Option.bind_some]
 rw [SR]
theorem PW {N : Nat} (hN : N ≤ 1000000) (h20 : 100 ≤ N) {p : Ae} (hp : Bc p) {x : Ah} (hx : BO p x) {l : List H8} (hl : l.length < N) (hA : ∀ n, n ∈ l → BO p n.1) :
  ∃ r, DF N (l.map Hj) x = some r ∧ decide (r < 0) = !(l.any fun n => decide (n.1 = x)) := by
 unfold DF
 have := Cl (Cg N (l.map Hj) x fun _ => some (-1)) l (some (-1)) (fun i n => if n.1 = x then some (i : Int) else none)
  (fun n i nd hnd => by
   have hi := (List.getElem?_eq_some_iff.1 hnd).1
   rw [Cg, AL (by rw [List.length_map]; omega), A1, List.getElem?_map, hnd]
   simp only [Option.map_some, Option.bind_some, Hj]
   have e := Sg hN h20 hp (hA nd (List.mem_of_getElem? hnd)) hx
   rw [show (Ah.mk nd.1.fBase nd.1.fNext nd.1.fHeld) = nd.1 from rfl, e, AM (by omega)]
   simp only [Option.bind_some]
   by_cases h : nd.1 = x
   ·rw [decide_eq_true h, if_pos h]; rfl
   ·rw [decide_eq_false h, if_neg h]; rfl)
  (fun n => by rw [Cg, AH (by simp)]) N 0 (Nat.zero_le _) (by omega)
 have e' : Cg N (l.map Hj) x (fun _ => some (-1)) N 0 = _ := this
 rw [e', List.drop_zero]
 cases hs : Df (fun i (n : H8) => if n.1 = x then some (i : Int) else none) 0 l with
 | none =>
  refine ⟨_, rfl, ?_⟩
  have : (l.any fun n => decide (n.1 = x)) = false := by
   rw [List.any_eq_false]
   intro n hn
   obtain ⟨j, hj⟩ := List.mem_iff_getElem?.1 hn
   have := Eo hs j n hj
   split at this
   ·cases this
   ·rename_i h; simpa using h
  rw [this]; rfl
 | some r =>
  refine ⟨_, rfl, ?_⟩
  obtain ⟨j, n, hj, hr⟩ := DR hs
  split at hr
  ·rename_i h
   cases hr
   have : (l.any fun n => decide (n.1 = x)) = true := List.any_eq_true.2 ⟨n, List.mem_of_getElem? hj, decide_eq_true h⟩
   rw [this]
   exact decide_eq_false (by omega)
  ·cases hr
theorem O3 {i : Nat} {l : List H8} {q : Af × Ah} {k : Nat} {n : H8} (h : l[k]? = some n) : (Bfs.put i l q)[k]? = some n := by
 unfold Bfs.put
 split
 ·exact h
 ·exact Bfs.get_app_of h
theorem QU {i : Nat} {l : List H8} {q : Af × Ah} {n : H8} (h : n ∈ Bfs.put i l q) : n ∈ l ∨ n.1 = q.2 := by
 unfold Bfs.put at h
 split at h
 ·exact .inl h
 ·rcases List.mem_append.1 h with h | h
  ·exact .inl h
  ·rw [List.mem_singleton.1 h]; exact .inr rfl
theorem Pu {p : Ae} {m : Ah} {s : Af} {ss : List Af} : NZ p m (s :: ss) = if BW p (A4 p m s).1 = true then (s, (A4 p m s).1) :: NZ p m ss else NZ p m ss := by
 unfold NZ
 rw [List.filterMap_cons]
 split <;> rename_i h
 ·split at h
  ·cases h
  ·rename_i h2; rw [if_neg h2]
 ·split at h
  ·rename_i h2; cases h; rw [if_pos h2]
  ·cases h
theorem IH {p : Ae} {most i : Nat} : ∀ {qs : List (Af × Ah)} {l l' : List H8}, Bfs.inner most i qs l = some l' → (∀ q, q ∈ qs → BO p q.2 ∧ BW p q.2 = true) → (∀ n, n ∈ l → BO p n.1 ∧ BW p n.1 = true) → (∀ n, n ∈ l' → BO p n.1 ∧ BW p n.1 = true) ∧ (∀ (k : Nat) n, l[k]? = some n → l'[k]? = some n)
 | [], l, l', h, _, hA => by cases h; exact ⟨hA, fun _ _ h => h⟩
 | q :: qs, l, l', h, hq, hA => by
  simp only [Bfs.inner] at h
  split at h
  ·cases h
  ·obtain ⟨h1, h2⟩ := IH h (fun q hq' => hq q (List.mem_cons_of_mem _ hq')) (fun n hn => by
    rcases QU hn with h | h
    ·exact hA n h
    ·rw [h]; exact hq q (by simp))
   exact ⟨h1, fun k n hn => h2 k n (O3 hn)⟩
theorem OX (N : Nat) (hN : N ≤ 1000000) (h20 : 100 ≤ N) {p : Ae} {m : Ah} (hp : Bc p) (hm : BO p m) {s : Af} (hs : s ∈ ER p m) : ∃ b, Cw N p m s = some ((A4 p m s).1, b) := by
 obtain ⟨h1, h2⟩ := GV hs
 obtain ⟨h3, h4⟩ := Lu hp h1
 rw [KN N hN h20 hp hm h3 h4]
 unfold A4 at h2 ⊢
 rw [h3, h4, if_neg (by simp), if_neg (by simp)] at h2 ⊢
 cases h : EX p m s with
 | none => rw [h] at h2; cases h2
 | some x => exact ⟨true, rfl⟩
theorem Iy {N : Nat} (hN : N ≤ 1000000) (h20 : 100 ≤ N) {p : Ae} (hp : Bc p) {m : Ah} (hm : BO p m) {f : Int} {t : Af} {most i : Nat} (hmo : most ≤ 20000) {v1 : List AA × Int} (hv1 : v1.2 = (i : Int)) (ss : List Af) (hss : ∀ s, s ∈ ss → s ∈ ER p m) (hsl : ss.length ≤ 1000) (j : List AA → Option (List AA × Bool)) :
  ∀ (n k : Nat) (l : List H8), k ≤ ss.length → ss.length - k < n → l[i]? = some (m, f, t) → (∀ n, n ∈ l → BO p n.1 ∧ BW p n.1 = true) → l.length ≤ most → (l.length < N ∧ most < N ∨ ∃ l', Bfs.inner most i (NZ p m (ss.drop k)) l = some l' ∧ l'.length < N) →
   BL N p (most : Int) v1 ss j n (l.map Hj, (k : Int)) = match Bfs.inner most i (NZ p m (ss.drop k)) l with
    | none => some ([], false)
    | some l' => j (l'.map Hj)
 | 0, k, l, _, h, _, _, _, _ => by omega
 | n + 1, k, l, hk, h, hi, hA, hlm, hfu => by
  by_cases h1 : k < ss.length
  ·have hs : ss[k]? = some ss[k] := by simp [h1]
   have hsm := hss _ (List.mem_of_getElem? hs)
   have hl1 : l.length < N := by
    rcases hfu with h | ⟨l', h, h2⟩
    ·exact h.1
    ·have hk := (IH (p := p) h (fun q hq => by
      obtain ⟨g1, g2, g3⟩ := Q4.1 hq
      exact ⟨by rw [g2]; exact JF hp hm (GV (hss _ (List.mem_of_mem_drop g1))).2, g3⟩) hA).2
     by_cases h0 : l.length = 0
     ·omega
     ·have := hk (l.length - 1) l[l.length - 1] (by simp)
      have := (List.getElem?_eq_some_iff.1 this).1
      omega
   rw [BL, AL (by simp only; omega)]
   simp only [Bf, hv1, A1, List.getElem?_map, hi, hs, Option.map_some, Option.bind_some, Hj]
   obtain ⟨b, ea⟩ := OX N hN h20 hp hm hsm
   rw [show (Ah.mk m.fBase m.fNext m.fHeld) = m from rfl, ea]
   simp only [Option.bind_some]
   have hxo := JF hp hm (GV hsm).2
   rw [GO N p _ hN h20 hp hxo]
   simp only [Option.bind_some]
   rw [GH hs, Pu] at hfu ⊢
   cases hr : BW p (A4 p m ss[k]).1
   ·rw [hr] at hfu
    rw [Av, Av, if_neg (by simp), AH (by rw [List.length_map]; omega), AM (by omega)]
    rw [if_neg (by simp)] at hfu
    exact Iy hN h20 hp hm hmo hv1 ss hss hsl j n (k + 1) l (by omega) (by omega) hi hA hlm hfu
   ·rw [hr] at hfu
    rw [AP, if_pos rfl]
    rw [if_pos rfl] at hfu
    obtain ⟨r, er, hr2⟩ := PW hN h20 hp hxo hl1 (fun n hn => (hA n hn).1)
    have er' : DF N (l.map fun n => AA.mk n.1 n.2.1 n.2.2) (A4 p m ss[k]).1 = some r := er
    have em : (l.map fun n : H8 => AA.mk n.1 n.2.1 n.2.2) = l.map Hj := rfl
    rw [← em, er']
    simp only [Option.bind_some]
    rw [hr2]
    have hput : Bfs.put i l (ss[k], (A4 p m ss[k]).1) = if (l.any fun n => decide (n.1 = (A4 p m ss[k]).1)) = true then l else l ++ [((A4 p m ss[k]).1, (i : Int), ss[k])] := rfl
    simp only [Bfs.inner] at hfu ⊢
    have hA2 : ∀ n, n ∈ Bfs.put i l (ss[k], (A4 p m ss[k]).1) → BO p n.1 ∧ BW p n.1 = true := fun n hn => by
     rcases QU hn with h | h
     ·exact hA n h
     ·rw [h]; exact ⟨hxo, hr⟩
    have hi2 : (Bfs.put i l (ss[k], (A4 p m ss[k]).1))[i]? = some (m, f, t) := O3 hi
    have main : (AZ (decide ((most : Int) < (((Bfs.put i l (ss[k], (A4 p m ss[k]).1)).map Hj).length : Int))) (some (([] : List AA), false)) (BL N p (most : Int) v1 ss j n ((Bfs.put i l (ss[k], (A4 p m ss[k]).1)).map Hj, (IntKind.wrap .i64 ((k : Int) + 1))))) =
      match (if most < (Bfs.put i l (ss[k], (A4 p m ss[k]).1)).length then none else Bfs.inner most i (NZ p m (ss.drop (k + 1))) (Bfs.put i l (ss[k], (A4 p m ss[k]).1))) with
      | none => some ([], false)
      | some l' => j (l'.map Hj) := by
     by_cases hb : most < (Bfs.put i l (ss[k], (A4 p m ss[k]).1)).length
     ·rw [if_pos hb, AL (by rw [List.length_map]; omega)]
     ·rw [if_neg hb] at hfu
      rw [if_neg hb, AH (by rw [List.length_map]; omega), AM (by omega)]
      exact Iy hN h20 hp hm hmo hv1 ss hss hsl j n (k + 1) _ (by omega) (by omega) hi2 hA2 (by omega) (hfu.imp (fun h => ⟨by omega, h.2⟩) id)
    cases hin : (l.any fun n => decide (n.1 = (A4 p m ss[k]).1))
    ·rw [hin] at hput
     rw [Bool.not_false, AP, Az (by simp [Dv]; omega)]
     rw [if_neg (by simp)] at hput
     rw [hput, List.map_append] at main
     rw [hput]
     exact main
    ·rw [hin] at hput
     rw [Bool.not_true, Av]
     rw [if_pos rfl] at hput
     rw [hput] at main
     rw [hput]
     exact main
  ·have : k = ss.length := by omega
   subst this
   rw [BL, AH (by simp), List.drop_eq_nil_of_le (Nat.le_refl _)]
   rfl
end Go.Lift

/- The region of a mix: the reference's whole list. -/
namespace Go.Lift
open Go
theorem Rk {p : Ae} {m : Ah} (hm : BO p m) (hr : BW p m = true) : ∀ n, n ∈ ([(m, -1, LL)] : List H8) → BO p n.1 ∧ BW p n.1 = true := fun n hn => by
 rw [List.mem_singleton.1 hn]; exact ⟨hm, hr⟩
theorem N1 {p : Ae} (hp : Bc p) (m : Ah) : (ER p m).length ≤ 54 := Nat.le_trans (List.length_filter_le _ _) (QS hp)
theorem I7 {N : Nat} (hN : N ≤ 1000000) (h20 : 100 ≤ N) {p : Ae} (hv : Dh p = 0) {most : Nat} (hmo : most ≤ 20000) (j : List AA → Option (List AA × Bool)) :
  ∀ (n i : Nat) (l : List H8), i ≤ l.length → (∀ n, n ∈ l → BO p n.1 ∧ BW p n.1 = true) → l.length ≤ most → (most < N ∧ most < n + i ∨ ∃ l', Bfs.go (HU p) most n i l = some l' ∧ l'.length < N) →
   BK N p (most : Int) j n (l.map Hj, (i : Int)) = match Bfs.go (HU p) most n i l with
    | none => some ([], false)
    | some l' => j (l'.map Hj)
 | 0, i, l, hi, _, hlm, hfu => by
  rcases hfu with h | ⟨l', h, _⟩
  ·omega
  ·cases h
 | n + 1, i, l, hi, hA, hlm, hfu => by
  obtain ⟨hp, _⟩ := Eg hv
  simp only [Bfs.go] at hfu ⊢
  rw [BK]
  by_cases h1 : i < l.length
  ·obtain ⟨⟨m, f, t⟩, hx⟩ := Bfs.get_ex h1
   have hm := (hA _ (List.mem_of_getElem? hx)).1
   rw [hx] at hfu ⊢
   simp only at hfu ⊢
   rw [AL (by rw [List.length_map]; omega)]
   simp only [A1, List.getElem?_map, hx, Option.map_some, Option.bind_some, Hj]
   rw [show (Ah.mk m.fBase m.fNext m.fHeld) = m from rfl, Od N hN h20 hv hm]
   simp only [Option.bind_some]
   have hgo : NZ p m ((ER p m).drop 0) = HU p m := rfl
   have hsl := N1 hp m
   have e := Iy hN h20 hp hm hmo (v1 := (l.map Hj, (i : Int))) rfl (ER p m) (fun s hs => hs) (by omega) (fun (v7 : (List AA)) =>
    BK N p (most : Int) j n (v7, (IntKind.wrap .i64 ((i : Int) + 1)))) N 0 l (Nat.zero_le _) (by omega) hx hA hlm (by
     rcases hfu with ⟨g1, g2⟩ | ⟨l', h, hl'⟩
     ·exact .inl ⟨by omega, g1⟩
     ·right
      rw [hgo]
      cases hin : Bfs.inner most i (HU p m) l with
      | none => rw [hin] at h; cases h
      | some l1 =>
       rw [hin] at h
       refine ⟨l1, rfl, ?_⟩
       have : l1.length ≤ l'.length := by
        have : ∀ (n i : Nat) (l l' : List H8), Bfs.go (HU p) most n i l = some l' → l.length ≤ l'.length := by
         intro n
         induction n with
         | zero => intro i l l' h; cases h
         | succ n ih =>
          intro i l l' h
          simp only [Bfs.go] at h
          split at h
          ·cases h; exact Nat.le_refl _
          ·rename_i nd _
           cases hin : Bfs.inner most i (HU p nd.1) l with
           | none => rw [hin] at h; cases h
           | some l1 =>
            rw [hin] at h
            refine Nat.le_trans ?_ (ih _ _ _ h)
            have : ∀ (qs : List (Af × Ah)) (l l1 : List H8), Bfs.inner most i qs l = some l1 → l.length ≤ l1.length := by
             intro qs
             induction qs with
             | nil => intro l l1 h; cases h; exact Nat.le_refl _
             | cons q qs ih =>
              intro l l1 h
              simp only [Bfs.inner] at h
              split at h
              ·cases h
              ·refine Nat.le_trans ?_ (ih _ _ h)
               unfold Bfs.put; split
               ·exact Nat.le_refl _
               ·simp
            exact this _ _ _ hin
        exact this _ _ _ _ h
       omega)
   have e' : BL N p (most : Int) (l.map Hj, (i : Int)) (ER p m) (fun (v7 : (List AA)) => BK N p (most : Int) j n (v7, (IntKind.wrap .i64 ((i : Int) + 1)))) N (l.map Hj, 0) = _ := e
   rw [e', hgo]
   cases hin : Bfs.inner most i (HU p m) l with
   | none => rfl
   | some l1 =>
    rw [hin] at hfu
    obtain ⟨k1, k2⟩ := IH hin (fun q hq => Qa hp hm hq) hA
    have := (List.getElem?_eq_some_iff.1 (k2 _ _ hx)).1
    simp only [Option.bind_some] at hfu ⊢
    rw [AM (by omega)]
    exact I7 hN h20 hv hmo j n (i + 1) l1 (by omega) k1 (Bfs.inner_len _ _ _ hlm hin) (hfu.imp (fun h => ⟨h.1, by omega⟩) id)
  ·have hi' : i = l.length := by omega
   subst hi'
   rw [List.getElem?_eq_none (Nat.le_refl _)]
   rw [AH (by simp)]
def Ie (p : Ae) (m : Ah) (most n : Nat) : Option (List H8) := Bfs.go (HU p) most n 0 [(m, -1, LL)]
theorem K2 {N : Nat} (hN : N ≤ 1000000) (h20 : 100 ≤ N) {p : Ae} (hv : Dh p = 0) {m : Ah} (hm : BO p m) (hr : BW p m = true) {most : Nat} (hmo : most ≤ 20000) (h1 : 1 ≤ most) (hfu : most < N ∨ ∃ l', Ie p m most N = some l' ∧ l'.length < N) :
  Cs N p m (most : Int) = some (match Ie p m most N with
   | none => ([], false)
   | some l' => (l'.map Hj, true)) := by
 unfold Cs
 have e := I7 hN h20 hv hmo (fun (v2 : (List AA)) => some (v2, true)) N 0 [(m, -1, LL)] (Nat.zero_le _) (Rk hm hr) h1 (hfu.imp (fun h => ⟨h, by omega⟩) id)
 have e' : BK N p (most : Int) (fun (v2 : (List AA)) => some (v2, true)) N (([(AA.mk m ((-1)) ((Af.mk 0 0 0)))] : List AA), 0) = _ := e
 rw [e']
 unfold Ie
 cases Bfs.go (HU p) most N 0 [(m, -1, LL)] <;> rfl
structure TR (p : Ae) (m : Ah) (l : List H8) (ws : List (List Af)) : Prop where
 inv : Bfs.Inv (HU p) Kq 100 m l.length [] l ws
 ok : ∀ (k : Nat) x f s, l[k]? = some (x, f, s) → BO p x ∧ BW p x = true
theorem VA {p : Ae} (hp : Bc p) {m : Ah} (hm : BO p m) (hr : BW p m = true) {most n : Nat} {l : List H8} (h : Ie p m most n = some l) : ∃ ws, TR p m l ws := by
 obtain ⟨ws, h1, h2⟩ := Bfs.inv_go (rk := Kq) (K := 100) (fun x => BO p x ∧ BW p x = true) (fun x _ => VG hp x) (fun x hx q hq => by
  refine ⟨?_, Qa hp hx.1 hq⟩
  exact (MB hp (GV (Ky.1 hq).1).1).2) ⟨hm, hr⟩ n 0 [(m, -1, LL)] l [[]] (Nat.zero_le _) Bfs.inv_start (fun k x f s hk => by
   have := Bfs.lt_get hk
   simp at this; subst this
   cases hk; exact ⟨hm, hr⟩) h
 exact ⟨ws, h1, h2⟩
theorem Ub {p : Ae} (hp : Bc p) {m : Ah} {l : List H8} {ws : List (List Af)} (h : TR p m l ws) {k : Nat} {x : Ah} {f : Int} {s : Af} {w : List Af} (hx : l[k]? = some (x, f, s)) (hw : ws[k]? = some w) : MD p m w = some x :=
 (Lb hp).2 (Bfs.way_run h.inv (k + 1) k (Nat.lt_succ_self k) hx hw)
theorem NC {p : Ae} (hp : Bc p) {m x : Ah} {l : List H8} {ws : List (List Af)} (h : TR p m l ws) {w : List Af} (hw : MD p m w = some x) : ∃ (k : Nat) (f : Int) (s : Af) (u : List Af), l[k]? = some (x, f, s) ∧ ws[k]? = some u ∧ Bfs.code Kq 100 u ≤ Bfs.code Kq 100 w :=
 Bfs.reach_node h.inv w.length rfl ((Lb hp).1 hw)
theorem OR {p : Ae} {m : Ah} {l : List H8} {ws : List (List Af)} (h : TR p m l ws) : ∀ (n k : Nat) {w : List Af}, k < n → ws[k]? = some w → w.length ≤ k
 | 0, k, _, hk, _ => by omega
 | n + 1, k, w, hk, hw => by
  obtain ⟨⟨x, f, s⟩, hx⟩ := Bfs.get_ex (l := l) (k := k) (by rw [← h.inv.len]; exact Bfs.lt_get hw)
  rcases Nat.eq_zero_or_pos k with rfl | hk0
  ·rw [h.inv.root'] at hw; cases hw; exact Nat.le_refl _
  ·obtain ⟨j, y', g', t', w', e1, e2, e3, e4, e5, e6, e7⟩ := h.inv.par k _ _ _ hk0 hx
   rw [e6] at hw; cases hw
   have := OR h n j (by omega) e5
   simp; omega
theorem KX {p : Ae} {m : Ah} {l : List H8} {ws : List (List Af)} (h : TR p m l ws) (N : Nat) (j : List Af → Option (List Af)) : ∀ (n k : Nat) {w acc : List Af}, k < n → ws[k]? = some w → acc.length + k ≤ 20000 →
  C8 N (l.map Hj) j n ((k : Int), acc) = j (w ++ acc)
 | 0, k, _, _, hk, _, _ => by omega
 | n + 1, k, w, acc, hk, hw, ha => by
  obtain ⟨⟨x, f, s⟩, hx⟩ := Bfs.get_ex (l := l) (k := k) (by rw [← h.inv.len]; exact Bfs.lt_get hw)
  rw [C8]
  simp only [A1, List.getElem?_map, hx, Option.map_some, Option.bind_some, Hj]
  rcases Nat.eq_zero_or_pos k with rfl | hk0
  ·obtain ⟨s0, hs0⟩ := h.inv.root; rw [hs0] at hx; cases hx
   rw [h.inv.root'] at hw; cases hw
   rw [AH (by decide)]; rfl
  ·obtain ⟨i, y', g', t', w', e1, e2, e3, e4, e5, e6, e7⟩ := h.inv.par k _ _ _ hk0 hx
   rw [e6] at hw; cases hw
   subst e1
   rw [AL (Int.natCast_nonneg i), Az (by simp [Dv]; omega)]
   have := KX h N j n i (w := w') (acc := [Af.mk s.fKind s.fIndex s.fVersion] ++ acc) (by omega) e5 (by simp; omega)
   rw [this, List.append_assoc]
def IE (p : Ae) (l : List H8) : Option Nat := Df (fun i (n : H8) => if Gv p n.1 = true then some i else none) 0 l
theorem NY {p : Ae} {l : List H8} {k : Nat} (h : IE p l = some k) : (∃ x f s, l[k]? = some (x, f, s) ∧ Gv p x = true) ∧ ∀ j x f s, j < k → l[j]? = some (x, f, s) → Gv p x = false := by
 have : ∀ (xs : List H8) (i k : Nat), Df (fun i (n : H8) => if Gv p n.1 = true then some i else none) i xs = some (i + k) → (∃ x f s, xs[k]? = some (x, f, s) ∧ Gv p x = true) ∧ ∀ j x f s, j < k → xs[j]? = some (x, f, s) → Gv p x = false := by
  intro xs
  induction xs with
  | nil => intro i k h; cases h
  | cons n xs ih =>
   intro i k h
   rw [FB] at h
   cases hg : Gv p n.1
   ·rw [hg] at h
    simp only [Bool.false_eq_true, if_false] at h
    cases k with
    | zero =>
     exfalso
     obtain ⟨j, x, _, hj⟩ := DR h
     split at hj
     ·have := Option.some.inj hj; omega
     ·cases hj
    | succ k =>
     obtain ⟨⟨x, f, s, h1, h2⟩, h3⟩ := ih (i + 1) k (by rw [show i + 1 + k = i + (k + 1) from by omega]; exact h)
     refine ⟨⟨x, f, s, by simpa using h1, h2⟩, ?_⟩
     intro j x f s hj hx
     cases j with
     | zero => simp at hx; subst hx; exact hg
     | succ j => exact h3 j x f s (by omega) (by simpa using hx)
   ·rw [hg] at h
    simp only [if_true, Option.some.injEq] at h
    have : k = 0 := by omega
    subst this
    exact ⟨⟨n.1, n.2.1, n.2.2, rfl, hg⟩, fun j _ _ _ hj => by omega⟩
 exact this l 0 k (by rw [Nat.zero_add]; exact h)
theorem RP {p : Ae} {l : List H8} (h : IE p l = none) {k : Nat} {x : Ah} {f : Int} {s : Af} (hx : l[k]? = some (x, f, s)) : Gv p x = false := by
 have := Eo h k _ hx
 split at this
 ·cases this
 ·rename_i h; simpa using h
def KR (p : Ae) (l : List H8) (ws : List (List Af)) : List Af × Int := match IE p l with
 | none => ([], 14)
 | some k => (ws.getD k [], 0)
theorem Py {N : Nat} (hN : N ≤ 1000000) (h20 : 100 ≤ N) {p : Ae} (hv : Dh p = 0) {m : Ah} (hm : BO p m) (hr : BW p m = true) {l : List H8} (hs : Ie p m 20000 N = some l) (hl : l.length < N) {ws : List (List Af)} (h : TR p m l ws) :
  CG N p m = some (KR p l ws) := by
 obtain ⟨hp, _⟩ := Eg hv
 have hl2 : l.length ≤ 20000 := Bfs.go_len _ _ _ _ (by simp) hs
 unfold CG
 rw [Gt N p m hN (by omega), Gs hv hm]
 simp only [Option.bind_some, bne_self_eq_false, Av]
 rw [GO N p m hN h20 hp hm, hr]
 simp only [Option.bind_some, Bool.not_true, Av]
 have e := K2 hN h20 hv hm hr (most := 20000) (by omega) (by omega) (.inr ⟨l, hs, hl⟩)
 rw [hs] at e
 have e' : Cs N p m 20000 = some (l.map Hj, true) := e
 rw [e']
 simp only [Option.bind_some, Bool.not_true, Av]
 have := Cl (B9 N p (l.map Hj, true) fun _ => some (([] : List Af), 14)) l (some ([], 14)) (fun i n => (if Gv p n.1 = true then some i else none).map fun k => (ws.getD k [], 0))
  (fun n i nd hnd => by
   have hi := (List.getElem?_eq_some_iff.1 hnd).1
   rw [B9, AL (by simp only [List.length_map]; omega)]
   simp only [A1, List.getElem?_map, hnd, Option.map_some, Option.bind_some, Hj]
   have hok := (h.ok _ _ _ _ (show l[i]? = some (nd.1, nd.2.1, nd.2.2) from hnd)).1
   rw [show (Ah.mk nd.1.fBase nd.1.fNext nd.1.fHeld) = nd.1 from rfl, Pd N p nd.1 hN h20 (I4 hok), AM (by omega)]
   simp only [Option.bind_some]
   cases hg : Gv p nd.1
   ·rfl
   ·rw [AP, if_pos rfl]
    obtain ⟨w, hw⟩ := Bfs.get_ex (l := ws) (k := i) (by rw [h.inv.len]; exact hi)
    have e2 := KX h N (fun v2 => some v2) N i (w := w) (acc := []) (by omega) hw (by simp; omega)
    unfold E7
    rw [e2, List.append_nil]
    simp only [Option.bind_some, Option.map_some, BD]
    rw [List.getD_eq_getElem?_getD, hw]; rfl)
  (fun n => by rw [B9, AH (by simp)]) N 0 (Nat.zero_le _) (by omega)
 have e3 : B9 N p (l.map Hj, true) (fun _ => some (([] : List Af), 14)) N 0 = _ := this
 rw [e3, List.drop_zero, Jh]
 unfold KR IE
 cases Df (fun i (n : H8) => if Gv p n.1 = true then some i else none) 0 l <;> rfl
end Go.Lift

/- The region of a mix: the program's list of nodes is the same. -/
namespace Go.Lift
open Go
def DK (n : AD) : H8 := (n.fM, n.fFrom, n.fBy)
def HG (x : Ah) : List (Ah × Int) → Option Int
 | [] => none
 | e :: r => if x = e.1 then some e.2 else HG x r
def JV (q : List (Ah × Int)) : List (ByteArray × Int) := q.map fun e => (Cn (Jy e.1), e.2)
theorem Tr {p : Ae} (hp : Bc p) {x y : Ah} (hx : BO p x) (hy : BO p y) : (Cn (Jy x) == Cn (Jy y)) = decide (x = y) := by
 by_cases h : x = y
 ·rw [decide_eq_true h, h, OZ]
 ·rw [decide_eq_false h]
  cases hb : Cn (Jy x) == Cn (Jy y)
  ·rfl
  ·exact absurd (T6 hp hx hy hb) h
theorem MJ {p : Ae} (hp : Bc p) {x : Ah} (hx : BO p x) : ∀ {q : List (Ah × Int)}, (∀ e, e ∈ q → BO p e.1) → Jo (Cn (Jy x)) (JV q) = HG x q
 | [], _ => rfl
 | e :: q, h => by
  have ih := MJ hp hx (q := q) fun e he => h e (List.mem_cons_of_mem _ he)
  show (if (Cn (Jy x) == Cn (Jy e.1)) = true then some e.2 else Jo (Cn (Jy x)) (JV q)) = if x = e.1 then some e.2 else HG x q
  rw [Tr hp hx (h e (by simp)), ih]
  by_cases h : x = e.1
  ·rw [decide_eq_true h, if_pos rfl, if_pos h]
  ·rw [decide_eq_false h, if_neg (by simp), if_neg h]
theorem Ju (x y : Ah) (r : Int) : ∀ q : List (Ah × Int), HG x (q ++ [(y, r)]) = match HG x q with
  | some v => some v
  | none => if x = y then some r else none
 | [] => rfl
 | e :: q => by
  simp only [List.cons_append, HG]
  by_cases h : x = e.1
  ·rw [if_pos h, if_pos h]
  ·rw [if_neg h, if_neg h, Ju x y r q]
theorem Sy (q : List (Ah × Int)) (x : Ah) (r : Int) : JV (q ++ [(x, r)]) = JV q ++ [(Cn (Jy x), r)] := by simp [JV]
structure L6 (p : Ae) (q : List (Ah × Int)) (l : List H8) : Prop where
 ok : ∀ e, e ∈ q → BO p e.1
 none : ∀ x, BO p x → HG x q = none → ∀ n, n ∈ l → n.1 ≠ x
 some : ∀ x r, BO p x → HG x q = some r → (r = -1 ∧ BW p x = false) ∨ ∃ (j : Nat) (f : Int) (s : Af), r = (j : Int) ∧ l[j]? = some (x, f, s)
structure Kb (p : Ae) (i : Nat) (done : List (Af × Ah)) (pl : List AD) : Prop where
 to : ∀ (b : Nat) nd, pl[b]? = some nd → ∀ r, r ∈ nd.fNext → ∃ s y, ((b < i ∧ (s, y) ∈ HU p nd.fM) ∨ (b = i ∧ (s, y) ∈ done)) ∧ ∃ (a : Nat) (f : Int) (t : Af), r = (a : Int) ∧ (pl.map DK)[a]? = some (y, f, t)
 of : ∀ (b : Nat) nd, pl[b]? = some nd → ∀ s y, ((b < i ∧ (s, y) ∈ HU p nd.fM) ∨ (b = i ∧ (s, y) ∈ done)) → ∃ (a : Nat) (f : Int) (t : Af), ((a : Nat) : Int) ∈ nd.fNext ∧ (pl.map DK)[a]? = some (y, f, t)
def JS (pl : List AD) (i : Nat) (nd : AD) (r : Int) : List AD := if 0 ≤ r then pl.set i ⟨nd.fM, nd.fFrom, nd.fBy, nd.fNext ++ [r]⟩ else pl
theorem KD {pl : List AD} {i : Nat} {nd : AD} {r : Int} (h : pl[i]? = some nd) : (JS pl i nd r).map DK = pl.map DK := by
 unfold JS
 split
 ·apply List.ext_getElem?
  intro k
  rw [List.getElem?_map, List.getElem?_map, List.getElem?_set]
  by_cases hk : i = k
  ·subst hk
   rw [if_pos rfl, if_pos (Bfs.lt_get h), h]; rfl
  ·rw [if_neg hk]
 ·rfl
theorem JG {pl : List AD} {i : Nat} {nd : AD} {r : Int} (h : pl[i]? = some nd) {b : Nat} {nb : AD} (hb : (JS pl i nd r)[b]? = some nb) : (b ≠ i ∧ pl[b]? = some nb) ∨ (b = i ∧ nb.fM = nd.fM ∧ nb.fFrom = nd.fFrom ∧ nb.fBy = nd.fBy ∧ nb.fNext = if 0 ≤ r then nd.fNext ++ [r] else nd.fNext) := by
 unfold JS at hb
 split at hb
 ·rename_i hr
  rw [List.getElem?_set] at hb
  by_cases hk : i = b
  ·subst hk
   rw [if_pos rfl, if_pos (Bfs.lt_get h)] at hb
   cases hb
   exact .inr ⟨rfl, rfl, rfl, rfl, by rw [if_pos hr]⟩
  ·rw [if_neg hk] at hb
   exact .inl ⟨fun e => hk e.symm, hb⟩
 ·rename_i hr
  by_cases hk : b = i
  ·subst hk; rw [h] at hb; cases hb
   exact .inr ⟨rfl, rfl, rfl, rfl, by rw [if_neg hr]⟩
  ·exact .inl ⟨hk, hb⟩
theorem PG {p : Ae} {i : Nat} {done : List (Af × Ah)} {pl pl2 : List AD} {nd : AD} {s : Af} {x : Ah} {a : Nat} {f : Int} {t : Af} (h : Kb p i done pl)
  (hkeep : ∀ (b : Nat) nb, pl2[b]? = some nb → pl[b]? = some nb ∨ (i < b ∧ nb.fNext = [])) (hk2 : ∀ (b : Nat) n, (pl.map DK)[b]? = some n → (pl2.map DK)[b]? = some n) (hi : pl2[i]? = some nd) (ha : (pl2.map DK)[a]? = some (x, f, t)) : Kb p i (done ++ [(s, x)]) (JS pl2 i nd (a : Int)) := by
 constructor
 ·intro b nb hb r hr
  rw [KD hi]
  rcases JG hi hb with ⟨h1, h2⟩ | ⟨h1, h2, h3, h4, h5⟩
  ·rcases hkeep b nb h2 with h3 | ⟨h3, h4⟩
   ·obtain ⟨s', y, g1, a', f', t', g2, g3⟩ := h.to b nb h3 r hr
    refine ⟨s', y, ?_, a', f', t', g2, hk2 _ _ g3⟩
    rcases g1 with g1 | g1
    ·exact .inl g1
    ·exact absurd g1.1 h1
   ·rw [h4] at hr; cases hr
  ·subst h1
   rw [h5, if_pos (Int.natCast_nonneg a)] at hr
   rcases List.mem_append.1 hr with hr | hr
   ·rcases hkeep b nd hi with h6 | ⟨h6, _⟩
    ·obtain ⟨s', y, g1, a', f', t', g2, g3⟩ := h.to b nd h6 r hr
     refine ⟨s', y, ?_, a', f', t', g2, hk2 _ _ g3⟩
     rcases g1 with g1 | g1
     ·exact .inl ⟨g1.1, by rw [h2]; exact g1.2⟩
     ·exact .inr ⟨rfl, List.mem_append_left _ g1.2⟩
    ·omega
   ·rw [List.mem_singleton.1 hr]
    exact ⟨s, x, .inr ⟨rfl, by simp⟩, a, f, t, rfl, ha⟩
 ·intro b nb hb s' y hs
  rw [KD hi]
  rcases JG hi hb with ⟨h1, h2⟩ | ⟨h1, h2, h3, h4, h5⟩
  ·rcases hkeep b nb h2 with h3 | ⟨h3, h4⟩
   ·obtain ⟨a', f', t', g2, g3⟩ := h.of b nb h3 s' y (by
     rcases hs with hs | hs
     ·exact .inl hs
     ·exact absurd hs.1 h1)
    exact ⟨a', f', t', g2, hk2 _ _ g3⟩
   ·rcases hs with hs | hs <;> omega
  ·subst h1
   rw [h5, if_pos (Int.natCast_nonneg a)]
   rcases hkeep b nd hi with h6 | ⟨h6, _⟩
   ·rcases hs with hs | ⟨_, hs⟩
    ·omega
    ·rcases List.mem_append.1 hs with hs | hs
     ·obtain ⟨a', f', t', g2, g3⟩ := h.of b nd h6 s' y (.inr ⟨rfl, hs⟩)
      exact ⟨a', f', t', List.mem_append_left _ g2, hk2 _ _ g3⟩
     ·cases List.mem_singleton.1 hs
      exact ⟨a, f, t, by simp, ha⟩
   ·omega
theorem FQ {N : Nat} (hN : N ≤ 1000000) (h20 : 100 ≤ N) {p : Ae} (hv : Dh p = 0) {m : Ah} (hm : BO p m) {most i : Nat} (hmo : most ≤ 20000) {v2 : List AD × List (ByteArray × Int) × Int} (hv2 : v2.2.2 = (i : Int)) (ss : List Af) (e0 : Int) (hss : ∀ s, s ∈ ss → s ∈ ER p m) (hsl : ss.length ≤ 1000) (j : List AD × List (ByteArray × Int) → Option (List AD × Int)) :
  ∀ (n k : Nat) (pl : List AD) (q : List (Ah × Int)) (l' : List H8), k ≤ ss.length → ss.length - k < n → (∃ nd, pl[i]? = some nd ∧ nd.fM = m) → (∀ n, n ∈ pl.map DK → BO p n.1 ∧ BW p n.1 = true) → pl.length ≤ most → L6 p q (pl.map DK) → Kb p i (NZ p m (ss.take k)) pl →
   (∃ nd, pl[i]? = some nd ∧ nd.fNext.length ≤ k) → Bfs.inner most i (NZ p m (ss.drop k)) (pl.map DK) = some l' →
   ∃ pl' q', Ce N p v2 (ss, e0) j n (pl, JV q, (k : Int)) = j (pl', JV q') ∧ pl'.map DK = l' ∧ L6 p q' l' ∧ Kb p i (NZ p m ss) pl' ∧ (∀ (b : Nat) nb, pl'[b]? = some nb → b ≠ i → pl[b]? = some nb ∨ nb.fNext = [])
 | 0, k, pl, q, l', _, h, _, _, _, _, _, _, _ => by omega
 | n + 1, k, pl, q, l', hk, h, hi, hA, hlm, hpl, hnx, hfl, hin => by
  obtain ⟨hp, _⟩ := Eg hv
  obtain ⟨nd, hnd, hndm⟩ := hi
  obtain ⟨nd', hnd', hfl⟩ := hfl
  rw [hnd] at hnd'; cases hnd'
  by_cases h1 : k < ss.length
  ·have hs : ss[k]? = some ss[k] := by simp [h1]
   have hsm := hss _ (List.mem_of_getElem? hs)
   have hstep := (GV hsm).2
   have hxo := JF hp hm hstep
   have hil := Bfs.lt_get hnd
   rw [Ce, AL (by simp only; omega)]
   simp only [Bf, hv2, A1, hnd, hs, Option.bind_some]
   rw [show (Ah.mk nd.fM.fBase nd.fM.fNext nd.fM.fHeld) = m from hndm, M8 N hN h20 (I4 hm), if_pos (Gs hv hm)]
   simp only [Option.bind_some]
   rw [hstep, bne_self_eq_false, Av, SM N hN h20 hp hxo]
   simp only [Option.bind_some]
   rw [MJ hp hxo hpl.ok]
   have htk : ss.take (k + 1) = ss.take k ++ [ss[k]] := by rw [List.take_add_one, hs]; rfl
   have hgo : NZ p m (ss.take (k + 1)) = if BW p (A4 p m ss[k]).1 = true then NZ p m (ss.take k) ++ [(ss[k], (A4 p m ss[k]).1)] else NZ p m (ss.take k) := by
    rw [htk]; unfold NZ; rw [List.filterMap_append]
    cases hr : BW p (A4 p m ss[k]).1 <;> simp [hr]
   rw [GH hs, Pu] at hin
   -- what follows when the node's number is known
   have tail : ∀ (pl2 : List AD) (q2 : List (Ah × Int)) (r : Int) (nd2 : AD), pl2[i]? = some nd2 → nd2.fM = m → nd2.fNext.length ≤ k → pl2.length ≤ most →
     AZ (decide (0 ≤ r)) ((B0 pl2 (i : Int)).bind fun v26 => (D8 (v26.fNext.length + (([r] : List Int)).length ≤ Dv)).bind fun _ => (B0 pl2 (i : Int)).bind fun v28 =>
      AZ (decide ((20000 : Int) < ((pl2.set ((i : Int)).toNat (AD.mk (Ah.mk v28.fM.fBase v28.fM.fNext v28.fM.fHeld) v28.fFrom (Af.mk v28.fBy.fKind v28.fBy.fIndex v28.fBy.fVersion) (v26.fNext ++ ([r] : List Int)))).length : Int))) (some (([] : List AD), 3))
       (Ce N p v2 (ss, e0) j n (pl2.set ((i : Int)).toNat (AD.mk (Ah.mk v28.fM.fBase v28.fM.fNext v28.fM.fHeld) v28.fFrom (Af.mk v28.fBy.fKind v28.fBy.fIndex v28.fBy.fVersion) (v26.fNext ++ ([r] : List Int))), JV q2, (IntKind.wrap .i64 ((k : Int) + 1)))))
      (AZ (decide ((20000 : Int) < (pl2.length : Int))) (some (([] : List AD), 3)) (Ce N p v2 (ss, e0) j n (pl2, JV q2, (IntKind.wrap .i64 ((k : Int) + 1))))) =
     Ce N p v2 (ss, e0) j n (JS pl2 i nd2 r, JV q2, ((k + 1 : Nat) : Int)) := by
    intro pl2 q2 r nd2 h2 h3 h4 h5
    by_cases hr : 0 ≤ r
    ·rw [AL hr]
     simp only [A1, h2, Option.bind_some, Int.toNat_natCast]
     rw [Az (by simp [Dv]; omega), AH (by rw [List.length_set]; omega), AM (by omega)]
     unfold JS; rw [if_pos hr]
    ·rw [AH hr, AH (by omega), AM (by omega)]
     unfold JS; rw [if_neg hr]
   cases hlq : HG (A4 p m ss[k]).1 q with
   | some r =>
    simp only [Option.isSome_some, Bool.not_true, Av, Option.getD_some]
    have ht := tail pl q r nd hnd hndm hfl hlm
    simp only [A1, hnd, Option.bind_some] at ht
    rw [show (Ah.mk nd.fM.fBase nd.fM.fNext nd.fM.fHeld) = m from hndm] at ht
    rw [ht]
    rcases hpl.some _ _ hxo hlq with ⟨hr, hnr⟩ | ⟨a, f, t, hr, ha⟩
    ·subst hr
     rw [hnr, if_neg (by simp)] at hin
     rw [hnr, if_neg (by simp)] at hgo
     have hadd : JS pl i nd (-1) = pl := by unfold JS; rw [if_neg (by decide)]
     rw [hadd]
     exact FQ hN h20 hv hm hmo hv2 ss e0 hss hsl j n (k + 1) pl q l' (by omega) (by omega) ⟨nd, hnd, hndm⟩ hA hlm hpl (by rw [hgo]; exact hnx) ⟨nd, hnd, by omega⟩ hin
    ·subst hr
     have hrob : BW p (A4 p m ss[k]).1 = true := (hA _ (List.mem_of_getElem? ha)).2
     rw [hrob, if_pos rfl] at hin hgo
     have hput : Bfs.put i (pl.map DK) (ss[k], (A4 p m ss[k]).1) = pl.map DK := by
      unfold Bfs.put
      rw [if_pos]
      exact List.any_eq_true.2 ⟨_, List.mem_of_getElem? ha, decide_eq_true rfl⟩
     simp only [Bfs.inner] at hin
     rw [hput, if_neg (by rw [List.length_map]; omega)] at hin
     have hpr := KD (r := (a : Int)) hnd
     have hnx2 := PG (s := ss[k]) hnx (pl2 := pl) (fun b nb hb => .inl hb) (fun b n hb => hb) hnd ha
     obtain ⟨nd3, hnd3⟩ := Bfs.get_ex (l := JS pl i nd (a : Int)) (k := i) (by
      have := congrArg List.length hpr; simp only [List.length_map] at this; omega)
     obtain ⟨g1, g2⟩ | ⟨_, g2, g3, g4, g5⟩ := JG hnd hnd3
     ·exact absurd rfl g1
     obtain ⟨pl', q', r1, r2, r3, r4, r5⟩ := FQ hN h20 hv hm hmo hv2 ss e0 hss hsl j n (k + 1) (JS pl i nd (a : Int)) q l' (by omega) (by omega) ⟨nd3, hnd3, by rw [g2]; exact hndm⟩ (by rw [hpr]; exact hA) (by have := congrArg List.length hpr; simp only [List.length_map] at this; omega)  (by rw [hpr]; exact hpl) (by rw [hgo]; exact hnx2) ⟨nd3, hnd3, by rw [g5]; split <;> (try simp only [List.length_append, List.length_singleton]) <;> omega⟩ (by rw [hpr]; exact hin)
     refine ⟨pl', q', r1, r2, r3, r4, ?_⟩
     intro b nb hb hbi
     rcases r5 b nb hb hbi with h2 | h2
     ·rcases JG hnd h2 with ⟨_, h3⟩ | ⟨h3, _⟩
      ·exact .inl h3
      ·exact absurd h3 hbi
     ·exact .inr h2
   | none =>
    simp only [Option.isSome_none, Bool.not_false, AP]
    rw [Ib N p _ hN h20 (I4 hxo) (Gs hv hxo)]
    simp only [Option.bind_some, bne_self_eq_false, Av]
    have hms : ∀ r, KY (Cn (Jy (A4 p m ss[k]).1)) r (JV q) = JV (q ++ [((A4 p m ss[k]).1, r)]) := fun r => by
     rw [Sy]; exact JH _ _ (by rw [MJ hp hxo hpl.ok, hlq])
    have hok2 : ∀ r e, e ∈ q ++ [((A4 p m ss[k]).1, r)] → BO p e.1 := fun r e he => by
     rcases List.mem_append.1 he with he | he
     ·exact hpl.ok e he
     ·rw [List.mem_singleton.1 he]; exact hxo
    cases hrob : BW p (A4 p m ss[k]).1
    ·rw [Bool.not_false, AP]
     rw [hrob, if_neg (by simp)] at hin hgo
     rw [hms]
     have ht := tail pl (q ++ [((A4 p m ss[k]).1, -1)]) (-1) nd hnd hndm hfl hlm
     simp only [A1, hnd, Option.bind_some] at ht
     rw [show (Ah.mk nd.fM.fBase nd.fM.fNext nd.fM.fHeld) = m from hndm] at ht
     rw [ht]
     have hadd : JS pl i nd (-1) = pl := by unfold JS; rw [if_neg (by decide)]
     rw [hadd]
     refine FQ hN h20 hv hm hmo hv2 ss e0 hss hsl j n (k + 1) pl _ l' (by omega) (by omega) ⟨nd, hnd, hndm⟩ hA hlm ⟨hok2 (-1), ?_, ?_⟩ (by rw [hgo]; exact hnx) ⟨nd, hnd, by omega⟩ hin
     ·intro x hx hq
      rw [Ju] at hq
      cases hq2 : HG x q with
      | none => exact hpl.none x hx hq2
      | some v => rw [hq2] at hq; cases hq
     ·intro x r hx hq
      rw [Ju] at hq
      cases hq2 : HG x q with
      | none =>
       rw [hq2] at hq
       simp only at hq
       split at hq
       ·rename_i he
        cases hq; left; exact ⟨rfl, by rw [he]; exact hrob⟩
       ·cases hq
      | some v => rw [hq2] at hq; cases hq; exact hpl.some x _ hx hq2
    ·rw [Bool.not_true, Av]
     rw [hrob, if_pos rfl] at hin hgo
     rw [hms]
     have hnew : ((pl.map DK).any fun n => decide (n.1 = (A4 p m ss[k]).1)) = false := by
      rw [List.any_eq_false]
      intro n hn
      simpa using hpl.none _ hxo hlq n hn
     have hput : Bfs.put i (pl.map DK) (ss[k], (A4 p m ss[k]).1) = (pl ++ [AD.mk (A4 p m ss[k]).1 (i : Int) ss[k] []]).map DK := by
      unfold Bfs.put
      rw [hnew, if_neg (by simp), List.map_append]; rfl
     simp only [Bfs.inner] at hin
     rw [hput] at hin
     split at hin
     ·cases hin
     rename_i hmm
     rw [List.length_map, List.length_append, List.length_singleton] at hmm
     rw [Az (by simp [Dv]; omega)]
     have hnd2 : (pl ++ [AD.mk (A4 p m ss[k]).1 (i : Int) ss[k] []])[i]? = some nd := Bfs.get_app_of hnd
     have ht := tail (pl ++ [AD.mk (A4 p m ss[k]).1 (i : Int) ss[k] []]) (q ++ [((A4 p m ss[k]).1, (pl.length : Int))]) (pl.length : Int) nd hnd2 hndm hfl (by rw [List.length_append, List.length_singleton]; omega)
     simp only [A1] at ht
     rw [ht]
     have hpr := KD (r := (pl.length : Int)) hnd2
     have hlast : ((pl ++ [AD.mk (A4 p m ss[k]).1 (i : Int) ss[k] []]).map DK)[pl.length]? = some ((A4 p m ss[k]).1, (i : Int), ss[k]) := by
      rw [List.getElem?_map, Bfs.get_app_new]; rfl
     have hold : ∀ (b : Nat) n, (pl.map DK)[b]? = some n → ((pl ++ [AD.mk (A4 p m ss[k]).1 (i : Int) ss[k] []]).map DK)[b]? = some n := fun b n hb => by
      rw [List.map_append]; exact Bfs.get_app_of hb
     have hkeep : ∀ (b : Nat) nb, (pl ++ [AD.mk (A4 p m ss[k]).1 (i : Int) ss[k] []])[b]? = some nb → pl[b]? = some nb ∨ (i < b ∧ nb.fNext = []) := fun b nb hb => by
      rcases Bfs.get_app hb with h2 | ⟨h2, h3⟩
      ·exact .inl h2
      ·exact .inr ⟨by omega, by rw [h3]⟩
     have hnx2 := PG (s := ss[k]) hnx hkeep hold hnd2 hlast
     have hpl2 : L6 p (q ++ [((A4 p m ss[k]).1, (pl.length : Int))]) ((pl ++ [AD.mk (A4 p m ss[k]).1 (i : Int) ss[k] []]).map DK) := by
      refine ⟨hok2 _, ?_, ?_⟩
      ·intro x hx hq n hn
       rw [Ju] at hq
       cases hq2 : HG x q with
       | none =>
        rw [hq2] at hq
        simp only at hq
        split at hq
        ·cases hq
        ·rename_i hne
         rw [List.map_append] at hn
         rcases List.mem_append.1 hn with hn | hn
         ·exact hpl.none x hx hq2 n hn
         ·simp at hn; subst hn
          exact fun e => hne e.symm
       | some v => rw [hq2] at hq; cases hq
      ·intro x r hx hq
       rw [Ju] at hq
       cases hq2 : HG x q with
       | none =>
        rw [hq2] at hq
        simp only at hq
        split at hq
        ·rename_i he
         cases hq
         exact .inr ⟨pl.length, _, _, rfl, by rw [he]; exact hlast⟩
        ·cases hq
       | some v =>
        rw [hq2] at hq; cases hq
        rcases hpl.some x _ hx hq2 with g | ⟨a, f, t, g1, g2⟩
        ·exact .inl g
        ·exact .inr ⟨a, f, t, g1, hold _ _ g2⟩
     obtain ⟨nd3, hnd3⟩ := Bfs.get_ex (l := JS (pl ++ [AD.mk (A4 p m ss[k]).1 (i : Int) ss[k] []]) i nd (pl.length : Int)) (k := i) (by
      have := congrArg List.length hpr; simp only [List.length_map, List.length_append, List.length_singleton] at this; omega)
     obtain ⟨g1, g2⟩ | ⟨_, g2, g3, g4, g5⟩ := JG hnd2 hnd3
     ·exact absurd rfl g1
     obtain ⟨pl', q', r1, r2, r3, r4, r5⟩ := FQ hN h20 hv hm hmo hv2 ss e0 hss hsl j n (k + 1) (JS (pl ++ [AD.mk (A4 p m ss[k]).1 (i : Int) ss[k] []]) i nd (pl.length : Int)) _ l' (by omega) (by omega) ⟨nd3, hnd3, by rw [g2]; exact hndm⟩ (by
       rw [hpr]
       intro n hn
       rw [List.map_append] at hn
       rcases List.mem_append.1 hn with hn | hn
       ·exact hA n hn
       ·simp at hn; subst hn; exact ⟨hxo, hrob⟩) (by have := congrArg List.length hpr; simp only [List.length_map, List.length_append, List.length_singleton] at this; omega)  (by rw [hpr]; exact hpl2) (by rw [hgo]; exact hnx2) ⟨nd3, hnd3, by rw [g5]; split <;> (try simp only [List.length_append, List.length_singleton]) <;> omega⟩ (by rw [hpr]; exact hin)
     refine ⟨pl', q', r1, r2, r3, r4, ?_⟩
     intro b nb hb hbi
     rcases r5 b nb hb hbi with h2 | h2
     ·rcases JG hnd2 h2 with ⟨_, h3⟩ | ⟨h3, _⟩
      ·rcases hkeep b nb h3 with h4 | ⟨_, h4⟩
       ·exact .inl h4
       ·exact .inr h4
      ·exact absurd h3 hbi
     ·exact .inr h2
  ·have : k = ss.length := by omega
   subst this
   rw [List.drop_eq_nil_of_le (Nat.le_refl _)] at hin
   have hin : some (pl.map DK) = some l' := hin
   cases hin
   rw [List.take_length] at hnx
   rw [Ce, AH (by simp)]
   exact ⟨pl, q, rfl, rfl, hpl, hnx, fun b nb hb _ => .inl hb⟩
end Go.Lift

