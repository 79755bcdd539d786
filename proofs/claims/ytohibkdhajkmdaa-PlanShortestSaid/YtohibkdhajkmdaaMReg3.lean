/- Lemmas for PlanShortestSaid, which YtohibkdhajkmdaaFinP6 proves. -/
import Derived.Test.YtohibkdhajkmdaaDec
import Derived.KernelRfl
/- Plain words of the shallow programs. -/
namespace Go.Lift
theorem A3 {α : Type} (xs : List α) (i : Nat) : BS xs (i : Int) = xs[i]? := by
 unfold BS; simp
theorem CJ {n : Int} (h0 : -9223372036854775808 ≤ n) (h1 : n ≤ 9223372036854775807) : IntKind.wrap .i64 n = n := by
 simp [IntKind.wrap, IntKind.signed, IntKind.bits]; omega
theorem AM {i : Nat} (h : i < 1000000) : IntKind.wrap .i64 ((i : Int) + 1) = ((i + 1 : Nat) : Int) := by
 rw [CJ (by omega) (by omega)]; simp
@[simp] theorem AN {α : Type} {a b : Option α} : A0 true a b = a := rfl
@[simp] theorem Av {α : Type} {a b : Option α} : A0 false a b = b := rfl
theorem AL {α : Type} {p : Prop} [Decidable p] {a b : Option α} (h : p) : A0 (decide p) a b = a := by simp [h]
theorem AH {α : Type} {p : Prop} [Decidable p] {a b : Option α} (h : ¬ p) : A0 (decide p) a b = b := by simp [h]
def Hv : List Int → List Int → Int
 | [], [] => 0
 | [], _ :: _ => -1
 | _ :: _, [] => 1
 | a :: as1, b :: bs => if a < b then -1 else if b < a then 1 else Hv as1 bs
theorem Gp {α : Type} {xs : List α} {i : Nat} {x : α} (h : xs[i]? = some x) : xs.drop i = x :: xs.drop (i + 1) := by
 obtain ⟨hi, rfl⟩ := List.getElem?_eq_some_iff.1 h
 exact List.drop_eq_getElem_cons hi
theorem Rs (N : Nat) (a b : List Int) (hb : a.length < 1000000) : ∀ (n i : Nat), i ≤ a.length → i ≤ b.length → a.length - i < n →
  CZ N a b (fun _ => A0 (decide ((a.length : Int) < (b.length : Int))) (some (-1)) (A0 (decide ((b.length : Int) < (a.length : Int))) (some 1) (some 0))) n (i : Int) = some (Hv (a.drop i) (b.drop i))
 | 0, i, _, _, h => by omega
 | n + 1, i, hi, hj, h => by
  unfold CZ
  simp only [Bp]
  by_cases h1 : i < a.length
  ·rw [AL (p := (i : Int) < (a.length : Int)) (by omega)]
   have ha : a[i]? = some a[i] := by simp [h1]
   rw [Gp ha]
   by_cases h2 : i < b.length
   ·have hbb : b[i]? = some b[i] := by simp [h2]
    rw [show decide ((i : Int) < (b.length : Int)) = true from decide_eq_true (by omega), AN, A3, A3, ha, hbb, Gp hbb]
    simp only [Option.bind_some, Hv]
    rw [AM (by omega), Rs N a b hb n (i + 1) (by omega) (by omega) (by omega)]
    by_cases h3 : a[i] < b[i]
    ·simp [h3]
    ·by_cases h4 : b[i] < a[i]
     ·simp [h3, h4]
     ·simp [h3, h4]
   ·rw [show decide ((i : Int) < (b.length : Int)) = false from decide_eq_false (by omega), Av, AH (by omega), AL (by omega), List.drop_eq_nil_of_le (by omega : b.length ≤ i)]
    simp [Hv]
  ·rw [AH (p := (i : Int) < (a.length : Int)) (by omega), Av, List.drop_eq_nil_of_le (by omega : a.length ≤ i)]
   by_cases h2 : a.length < b.length
   ·rw [AL (by omega)]
    have hbb : b[i]? = some b[i] := by simp [show i < b.length from by omega]
    rw [Gp hbb]; simp [Hv]
   ·rw [AH (by omega), AH (by omega), List.drop_eq_nil_of_le (by omega : b.length ≤ i)]
    simp [Hv]
theorem ML {N : Nat} {a b : List Int} (h : a.length < N) (hN : N ≤ 1000000) : C5 N a b = some (Hv a b) := by
 have := Rs N a b (by omega) N 0 (by omega) (by omega) (by omega)
 simpa [C5] using this
end Go.Lift

/- MixCompare: the order on mixes. -/
namespace Go.Lift
theorem NM : ∀ a : List Int, Hv a a = 0
 | [] => rfl
 | a :: as1 => by simp [Hv, NM as1]
theorem Mt : ∀ a b : List Int, Hv a b = 0 → a = b
 | [], [], _ => rfl
 | [], _ :: _, h => by simp [Hv] at h
 | _ :: _, [], h => by simp [Hv] at h
 | a :: as1, b :: bs, h => by
  unfold Hv at h
  split at h
  ·omega
  ·split at h
   ·omega
   ·rw [Mt as1 bs h, show a = b from by omega]
def V0 : List Int → Int
 | [] => 0
 | x :: xs => if x = 0 then V0 xs else x
theorem WF (N : Nat) (a : List Int) (hb : a.length < 1000000) (hw : LE J3 a) : ∀ (n i : Nat), i ≤ a.length → a.length - i < n →
  Cy N a (fun v => some v) n (a.take i, (i : Int)) = some a
 | 0, i, _, h => by omega
 | n + 1, i, hi, h => by
  unfold Cy
  by_cases h1 : i < a.length
  ·have ha : a[i]? = some a[i] := by simp [h1]
   rw [AL (by simpa using h1)]
   simp only
   rw [A3, ha]
   have hr : IntKind.wrap .i64 a[i] = a[i] := by
    have := hw a[i] (List.getElem_mem h1)
    unfold J3 at this
    have h2 : 0 ≤ a[i] ∧ a[i] ≤ 255 := by simpa [Lit.wf, IntKind.min, IntKind.max, IntKind.signed, IntKind.bits] using this
    exact CJ (by omega) (by omega)
   simp only [Option.bind_some, hr]
   have hlen : (a.take i).length + ([a[i]] : List Int).length ≤ Dz := by
    simp [Dz]; omega
   rw [show Ei ((a.take i).length + ([a[i]] : List Int).length ≤ Dz) = some () from by unfold Ei; rw [if_pos hlen]]
   simp only [Option.bind_some]
   rw [AM (by omega), show a.take i ++ [a[i]] = a.take (i + 1) from by rw [List.take_add_one, ha]; rfl]
   exact WF N a hb hw n (i + 1) (by omega) (by omega)
  ·rw [AH (by simpa using h1)]
   simp only
   rw [List.take_of_length_le (by omega)]
theorem L5 {N : Nat} {a : List Int} (h : a.length < N) (hN : N ≤ 1000000) (hw : LE J3 a) : CY N a = some a := by
 have := WF N a (by omega) hw N 0 (by omega) (by omega)
 simpa [CY] using this
def Yq (a : Af) : Prop := a.fBase.length ≤ 8 ∧ a.fNext.length ≤ 8 ∧ a.fHeld.length ≤ 14
def QE (a b : Af) : Int := V0 [Hv a.fBase b.fBase, Hv a.fNext b.fNext, Hv a.fHeld b.fHeld]
theorem N7 (a : Af) : QE a a = 0 := by unfold QE; simp [NM, V0]
end Go.Lift

/- The law MixCompare in plain words. -/
namespace Go.Lift
end Go.Lift

/- Search loops in plain words; the two tests of a problem give the same answer. -/
namespace Go.Lift
def Da {α R : Type} (f : Nat → α → Option R) : Nat → List α → Option R
 | _, [] => none
 | i, x :: xs => match f i x with
  | some r => some r
  | none => Da f (i + 1) xs
theorem FI {α R : Type} (f : Nat → α → Option R) (i : Nat) (x : α) (xs : List α) : Da f i (x :: xs) = match f i x with
  | some r => some r
  | none => Da f (i + 1) xs := rfl
def BC {R : Type} (a : Option R) (b : Option R) : Option R := match a with
 | some r => some r
 | none => b
theorem Cm {α R : Type} (L : Nat → Int → Option R) (xs : List α) (j : Option R) (f : Nat → α → Option R)
  (hs : ∀ (n i : Nat) (x : α), xs[i]? = some x → L (n + 1) (i : Int) = BC (f i x) (L n ((i + 1 : Nat) : Int))) (he : ∀ n : Nat, L (n + 1) (xs.length : Int) = j) :
  ∀ n i : Nat, i ≤ xs.length → xs.length - i < n → L n (i : Int) = BC (Da f i (xs.drop i)) j
 | 0, i, _, h => by omega
 | n + 1, i, hi, h => by
  by_cases h1 : i < xs.length
  ·have hx : xs[i]? = some xs[i] := by simp [h1]
   rw [hs n i _ hx, Gp hx, Cm L xs j f hs he n (i + 1) (by omega) (by omega)]
   rw [FI]
   cases f i xs[i] <;> rfl
  ·have : i = xs.length := by omega
   subst this
   rw [he n, List.drop_eq_nil_of_le (Nat.le_refl _)]
   rfl
theorem Oc (N : Nat) (k n : Int) : DK N k n = some (decide (0 ≤ k) && decide (k < n)) := by
 unfold DK
 simp only [Bp]
 by_cases h : 0 ≤ k
 ·rw [AL h]; simp [h]
 ·rw [AH h]; simp [h]
theorem LW (N : Nat) (t : AG) : A7 N t = some (t.fKind == 3 || t.fKind == 4) := by
 unfold A7
 simp only [Bp]
 cases h : t.fKind == 3 <;> simp
def sq (l : List (List Bool)) (n m : Int) : Bool := decide ((l.length : Int) = n) && l.all fun r => decide ((r.length : Int) = m)
theorem Mz {α : Type} (p : α → Bool) {R : Type} (r : Nat → R) : ∀ (i : Nat) (xs : List α), (Da (fun i x => if p x then none else some (r i)) i xs).isNone = xs.all p
 | i, [] => rfl
 | i, x :: xs => by
  unfold Da
  cases h : p x <;> simp [h, Mz p r (i + 1) xs]
theorem Of (N : Nat) (l : List (List Bool)) (n m : Int) (h : n < (N : Int)) (hN : N ≤ 1000000) : De N l n m = some (sq l n m) := by
 unfold De sq
 by_cases h1 : (l.length : Int) = n
 ·subst h1
  simp only [bne_self_eq_false, Av, decide_true, Bool.true_and]
  have := Cm (Ci N l (l.length : Int) m (fun _ => some true)) l (some true) (fun _ r => if decide ((r.length : Int) = m) then none else some false)
   (fun n i x hx => by
    have hi := (List.getElem?_eq_some_iff.1 hx).1
    rw [Ci, AL (by omega), A3, hx]
    simp only [Option.bind_some]
    rw [AM (by omega)]
    by_cases h2 : (x.length : Int) = m
    ·simp [h2, BC]
    ·have : ((x.length : Int) != m) = true := by simpa using h2
     simp [h2, this, BC])
   (fun n => by rw [Ci, AH (by omega)]) N 0 (by omega) (by omega)
  simp only [Int.ofNat_zero, List.drop_zero] at this
  rw [this]
  have h3 := Mz (fun r : List Bool => decide ((r.length : Int) = m)) (fun _ => false) 0 l
  cases hsc : Da (fun (_ : Nat) (r : List Bool) => if decide ((r.length : Int) = m) = true then none else some false) 0 l with
  | none => rw [hsc] at h3; rw [← h3]; rfl
  | some b =>
   rw [hsc] at h3
   rw [← h3]
   have : ∀ (i : Nat) (xs : List (List Bool)) b, Da (fun (_ : Nat) (r : List Bool) => if decide ((r.length : Int) = m) = true then none else some false) i xs = some b → b = false := by
    intro i xs
    induction xs generalizing i with
    | nil => intro b hb; cases hb
    | cons x xs ih =>
     intro b hb
     unfold Da at hb
     split at hb
     ·rename_i r hr; cases hb; split at hr <;> simp at hr; exact hr
     ·exact ih _ b hb
   rw [this 0 l b hsc]; rfl
 ·have : ((l.length : Int) != n) = true := by simpa using h1
  simp [this, h1]
end Go.Lift

/- The tests of a table and of a problem: both implementations give one answer. -/
namespace Go.Lift
theorem NR (N : Nat) (l : List (List Bool)) (n m : Int) (h : n < (N : Int)) (hN : N ≤ 1000000) : EH N l n m = some (sq l n m) := by
 unfold EH sq
 simp only [Bp]
 by_cases h1 : (l.length : Int) = n
 ·subst h1
  simp only [beq_self_eq_true, AN, decide_true, Bool.true_and]
  have := Cm (Bm N l (fun x => DC N x m) (fun _ => some (-1))) l (some (-1)) (fun i r => if decide ((r.length : Int) = m) then none else some (i : Int))
   (fun n i x hx => by
    have hi := (List.getElem?_eq_some_iff.1 hx).1
    rw [Bm, AL (by omega), A3, hx]
    simp only [Option.bind_some, DC]
    rw [AM (by omega)]
    by_cases h2 : (x.length : Int) = m
    ·simp [h2, BC]
    ·have : ((x.length : Int) != m) = true := by simpa using h2
     simp [h2, this, BC])
   (fun n => by rw [Bm, AH (by omega)]) N 0 (by omega) (by omega)
  simp only [Int.ofNat_zero, List.drop_zero] at this
  unfold CP C7
  rw [this]
  have h3 := Mz (fun r : List Bool => decide ((r.length : Int) = m)) (fun i : Nat => (i : Int)) 0 l
  cases hsc : Da (fun (i : Nat) (r : List Bool) => if decide ((r.length : Int) = m) = true then none else some (i : Int)) 0 l with
  | none => rw [hsc] at h3; rw [← h3]; rfl
  | some b =>
   rw [hsc] at h3
   rw [← h3]
   have : ∀ (i : Nat) (xs : List (List Bool)) b, Da (fun (i : Nat) (r : List Bool) => if decide ((r.length : Int) = m) = true then none else some (i : Int)) i xs = some b → 0 ≤ b := by
    intro i xs
    induction xs generalizing i with
    | nil => intro b hb; cases hb
    | cons x xs ih =>
     intro b hb
     rw [FI] at hb
     split at hb
     ·rename_i r hr
      cases hb
      split at hr
      ·cases hr
      ·cases hr; omega
     ·exact ih _ b hb
   have := this 0 l b hsc
   simp [BC, this]
 ·have : ((l.length : Int) == n) = false := by simpa using h1
  simp [this, h1]
end Go.Lift

/- The test of a table: both implementations give one answer. -/
namespace Go.Lift
def HG (l : List (List Bool)) : Option Int := Da (fun i row => if row.getD i false then none else some 1) 0 l
theorem Pn {row : List Bool} {i : Nat} (h : i < row.length) : BS row (i : Int) = some (row.getD i false) := by
 rw [A3, List.getD_eq_getElem?_getD]; simp [h]
theorem UJ (N : Nat) (t : AG) (h : t.fRewrite.length < N) (hN : N ≤ 1000000) (hsq : ∀ row, row ∈ t.fRewrite → row.length = t.fRewrite.length) (j : Option Int) :
  BX N t (fun _ => j) N 0 = BC (HG t.fRewrite) j := by
 have := Cm (BX N t (fun _ => j)) t.fRewrite j (fun i row => if row.getD i false then none else some 1)
  (fun n i x hx => by
   have hi := (List.getElem?_eq_some_iff.1 hx).1
   have hl := hsq x (List.mem_of_getElem? hx)
   rw [BX, AL (by omega), A3, hx]
   simp only [Option.bind_some]
   rw [Pn (by omega), AM (by omega)]
   simp only [Option.bind_some]
   cases x.getD i false <;> rfl)
  (fun n => by rw [BX, AH (by omega)]) N 0 (by omega) (by omega)
 simpa [HG] using this
theorem NW (N : Nat) (t : AG) (h : t.fRewrite.length < N) (hN : N ≤ 1000000) (hsq : ∀ row, row ∈ t.fRewrite → row.length = t.fRewrite.length) (j : Option Int) :
  CT N t (fun _ => j) N 0 = BC (HG t.fRewrite) j := by
 have := Cm (CT N t (fun _ => j)) t.fRewrite j (fun i row => if row.getD i false then none else some 1)
  (fun n i x hx => by
   have hi := (List.getElem?_eq_some_iff.1 hx).1
   have hl := hsq x (List.mem_of_getElem? hx)
   rw [CT, AL (by omega), A3, hx]
   simp only [Option.bind_some]
   rw [Pn (by omega), AM (by omega)]
   simp only [Option.bind_some]
   cases x.getD i false <;> rfl)
  (fun n => by rw [CT, AH (by omega)]) N 0 (by omega) (by omega)
 simpa [HG] using this
theorem Mu {l : List (List Bool)} {n m : Int} (h : sq l n m = true) : (l.length : Int) = n ∧ ∀ row, row ∈ l → (row.length : Int) = m := by
 unfold sq at h
 simp only [Bool.and_eq_true, decide_eq_true_eq, List.all_eq_true] at h
 exact h
def DO (p : Ad) (t : AG) : Int :=
 if t.fKind < 1 ∨ 4 < t.fKind ∨ (t.fAware = true ∧ (t.fKind = 3 ∨ t.fKind = 4)) then 1
 else if t.fFrom < 0 ∨ (p.fVersions.length : Int) ≤ t.fFrom ∨ t.fTo < 0 ∨ (p.fVersions.length : Int) ≤ t.fTo then 4
 else
  let f := p.fVersions.getD t.fFrom.toNat 0
  let g := p.fVersions.getD t.fTo.toNat 0
  if sq t.fOK f g = false then 6
  else if t.fKind = 4 then (if sq t.fRewrite f f = false then 6 else (HG t.fRewrite).getD 0)
  else if t.fRewrite.length = 0 then 0 else 6
theorem Eo {α : Type} {xs : List α} {i : Int} {d : α} (h0 : 0 ≤ i) (h1 : i < (xs.length : Int)) : BS xs i = some (xs.getD i.toNat d) := by
 obtain ⟨k, rfl⟩ := Int.eq_ofNat_of_zero_le h0
 rw [A3, List.getD_eq_getElem?_getD, Int.toNat_natCast]
 simp [show k < xs.length from by omega]
theorem S8 {t : AG} (A B : Option Int) (hk : ¬ (t.fAware = true ∧ (t.fKind = 3 ∨ t.fKind = 4))) : A0 t.fAware (A0 (t.fKind == 3 || t.fKind == 4) A B) B = B := by
 cases ha : t.fAware
 ·rfl
 ·have : (t.fKind == 3 || t.fKind == 4) = false := by
   rw [Bool.or_eq_false_iff]
   constructor
   ·simp only [beq_eq_false_iff_ne]; intro h; exact hk ⟨ha, .inl h⟩
   ·simp only [beq_eq_false_iff_ne]; intro h; exact hk ⟨ha, .inr h⟩
  rw [this]; rfl
theorem Jn {p : Ad} {i : Int} (hv : ∀ v, v ∈ p.fVersions → 1 ≤ v ∧ v ≤ 6) (h0 : 0 ≤ i) (h1 : i < (p.fVersions.length : Int)) : 1 ≤ p.fVersions.getD i.toNat 0 ∧ p.fVersions.getD i.toNat 0 ≤ 6 := by
 refine hv _ ?_
 rw [List.getD_eq_getElem?_getD, List.getElem?_eq_getElem (by omega)]
 exact List.getElem_mem _
theorem R8 (N : Nat) (p : Ad) (t : AG) (hN : N ≤ 1000000) (h6 : 7 ≤ N) (hv : ∀ v, v ∈ p.fVersions → 1 ≤ v ∧ v ≤ 6) : D5 N p t = some (DO p t) := by
 unfold D5 DO
 simp only [Bp, LW, Option.bind_some]
 by_cases k1 : t.fKind < 1
 ·simp [k1]
 by_cases k2 : 4 < t.fKind
 ·simp [k1, k2]
 rw [AH k1, AH k2]
 by_cases hk : t.fAware = true ∧ (t.fKind = 3 ∨ t.fKind = 4)
 ·obtain ⟨ha, k | k⟩ := hk <;> simp [ha, k]
 rw [Av, S8 _ _ hk, if_neg (fun h => h.elim k1 fun h => h.elim k2 hk)]
 by_cases f1 : t.fFrom < 0
 ·simp [f1]
 by_cases f2 : (p.fVersions.length : Int) ≤ t.fFrom
 ·simp [f1, f2]
 by_cases f3 : t.fTo < 0
 ·simp [f1, f2, f3]
 by_cases f4 : (p.fVersions.length : Int) ≤ t.fTo
 ·simp [f1, f2, f3, f4]
 rw [AH f1, AH f2, AH f3, if_neg (fun h => h.elim f1 fun h => h.elim f2 fun h => h.elim f3 f4)]
 have hf := Jn hv (i := t.fFrom) (by omega) (by omega)
 rw [decide_eq_false f4, Av, Eo (d := 0) (by omega : 0 ≤ t.fFrom) (by omega), Eo (d := 0) (by omega : 0 ≤ t.fTo) (by omega)]
 simp only [Option.bind_some]
 generalize p.fVersions.getD t.fFrom.toNat 0 = f at *
 generalize p.fVersions.getD t.fTo.toNat 0 = g at *
 rw [Of N t.fOK f g (by omega) hN, Of N t.fRewrite f f (by omega) hN]
 simp only [Option.bind_some]
 cases hq : sq t.fOK f g
 ·rfl
 simp only [Bool.not_true, Av]
 by_cases k4 : t.fKind = 4
 ·have : (t.fKind != 4) = false := by simp [k4]
  rw [this, Av]
  simp only [k4, if_true]
  cases hr : sq t.fRewrite f f
  ·rfl
  ·have h7 := Mu hr
   simp only [Bool.not_true, Av]
   rw [UJ N t (by omega) hN (fun row hm => by have := h7.2 row hm; omega)]
   cases HG t.fRewrite <;> simp [BC]
 ·have : (t.fKind != 4) = true := by simpa using k4
  rw [this, AN]
  simp only [k4, if_false]
  by_cases hr : t.fRewrite.length = 0
  ·simp [hr]
  ·have : ((t.fRewrite.length : Int) != 0) = true := bne_iff_ne.2 (by omega)
   rw [this]; simp [hr]
theorem Uo (N : Nat) (k : Int) (a : Bool) : F7 N k a = some (k == 1 || (k == 2 || ((k == 3 || k == 4) && !a))) := by
 unfold F7
 simp only [Bp]
 cases h1 : k == 1 <;> cases h2 : k == 2 <;> cases h3 : k == 3 <;> cases h4 : k == 4 <;> cases a <;> rfl
theorem M9 (N : Nat) (p : Ad) (t : AG) (hN : N ≤ 1000000) (h6 : 7 ≤ N) (hv : ∀ v, v ∈ p.fVersions → 1 ≤ v ∧ v ≤ 6) : Fy N p t = some (DO p t) := by
 unfold Fy DO
 simp only [Bp, Uo, Oc, Option.bind_some]
 by_cases hb : t.fKind < 1 ∨ 4 < t.fKind ∨ (t.fAware = true ∧ (t.fKind = 3 ∨ t.fKind = 4))
 ·have : (t.fKind == 1 || (t.fKind == 2 || ((t.fKind == 3 || t.fKind == 4) && !t.fAware))) = false := by
   rcases hb with h | h | ⟨ha, h | h⟩
   ·rw [beq_eq_false_iff_ne.2 (by omega : t.fKind ≠ 1), beq_eq_false_iff_ne.2 (by omega : t.fKind ≠ 2), beq_eq_false_iff_ne.2 (by omega : t.fKind ≠ 3), beq_eq_false_iff_ne.2 (by omega : t.fKind ≠ 4)]; rfl
   ·rw [beq_eq_false_iff_ne.2 (by omega : t.fKind ≠ 1), beq_eq_false_iff_ne.2 (by omega : t.fKind ≠ 2), beq_eq_false_iff_ne.2 (by omega : t.fKind ≠ 3), beq_eq_false_iff_ne.2 (by omega : t.fKind ≠ 4)]; rfl
   ·simp [ha, h]
   ·simp [ha, h]
  rw [this, if_pos hb]; rfl
 ·have : (t.fKind == 1 || (t.fKind == 2 || ((t.fKind == 3 || t.fKind == 4) && !t.fAware))) = true := by
   have hk : t.fKind = 1 ∨ t.fKind = 2 ∨ t.fKind = 3 ∨ t.fKind = 4 := by
    have h1 : ¬ t.fKind < 1 := fun h => hb (.inl h)
    have h2 : ¬ 4 < t.fKind := fun h => hb (.inr (.inl h))
    omega
   rcases hk with h | h | h | h
   ·simp [h]
   ·simp [h]
   ·cases ha : t.fAware
    ·simp [h]
    ·exact (hb (.inr (.inr ⟨ha, .inl h⟩))).elim
   ·cases ha : t.fAware
    ·simp [h]
    ·exact (hb (.inr (.inr ⟨ha, .inr h⟩))).elim
  rw [this, if_neg hb]
  simp only [Bool.not_true, Av]
  by_cases f1 : t.fFrom < 0
  ·simp [f1, show ¬ (0 ≤ t.fFrom) from by omega]
  by_cases f2 : (p.fVersions.length : Int) ≤ t.fFrom
  ·simp [f2, show ¬ (t.fFrom < (p.fVersions.length : Int)) from by omega]
  by_cases f3 : t.fTo < 0
  ·simp [f3, show 0 ≤ t.fFrom from by omega, show t.fFrom < (p.fVersions.length : Int) from by omega, show ¬ (0 ≤ t.fTo) from by omega]
  by_cases f4 : (p.fVersions.length : Int) ≤ t.fTo
  ·simp [f4, show 0 ≤ t.fFrom from by omega, show t.fFrom < (p.fVersions.length : Int) from by omega, show ¬ (t.fTo < (p.fVersions.length : Int)) from by omega]
  rw [if_neg (fun h => h.elim f1 fun h => h.elim f2 fun h => h.elim f3 f4)]
  have hf := Jn hv (i := t.fFrom) (by omega) (by omega)
  have hg := Jn hv (i := t.fTo) (by omega) (by omega)
  rw [decide_eq_true (by omega : 0 ≤ t.fFrom), decide_eq_true (by omega : t.fFrom < (p.fVersions.length : Int)), decide_eq_true (by omega : 0 ≤ t.fTo), decide_eq_true (by omega : t.fTo < (p.fVersions.length : Int)), Eo (d := 0) (by omega : 0 ≤ t.fFrom) (by omega), Eo (d := 0) (by omega : 0 ≤ t.fTo) (by omega)]
  simp only [Bool.and_self, Bool.not_true, Av, Option.bind_some]
  generalize p.fVersions.getD t.fFrom.toNat 0 = f at *
  generalize p.fVersions.getD t.fTo.toNat 0 = g at *
  rw [NR N t.fOK f g (by omega) hN, NR N t.fRewrite f f (by omega) hN]
  simp only [Option.bind_some]
  cases hq : sq t.fOK f g
  ·rfl
  simp only [Bool.not_true, Av]
  by_cases k4 : t.fKind = 4
  ·simp only [k4, beq_self_eq_true, AN, if_true]
   cases hr : sq t.fRewrite f f
   ·rfl
   ·have h7 := Mu hr
    simp only [Bool.not_true, Av]
    rw [NW N t (by omega) hN (fun row hm => by have := h7.2 row hm; omega)]
    cases HG t.fRewrite <;> simp [BC]
  ·have : (t.fKind == 4) = false := beq_eq_false_iff_ne.2 k4
   rw [this, Av]
   simp only [k4, if_false, Bool.not_false, AN]
   by_cases hr : t.fRewrite.length = 0
   ·rw [NW N t (by omega) hN (fun row hm => by rw [List.eq_nil_of_length_eq_zero hr] at hm; cases hm), List.eq_nil_of_length_eq_zero hr]
    simp [HG, Da, BC]
   ·rw [decide_eq_true (by omega : 0 < (t.fRewrite.length : Int))]
    simp [hr]
end Go.Lift

/- The test of a problem: both implementations give one answer. -/
namespace Go.Lift
def Fo (p : Ad) (i : Nat) (v : Int) : Option Int :=
 if v < 1 ∨ 6 < v ∨ p.fNow.getD i 0 < 0 ∨ v ≤ p.fNow.getD i 0 ∨ p.fTarget.getD i 0 < 0 ∨ v ≤ p.fTarget.getD i 0 then some 7 else none
def KV (p : Ad) (_ : Nat) (t : AG) : Option Int := if DO p t = 0 then none else some (DO p t)
def BQ (p : Ad) : Int :=
 if 6 < p.fVersions.length ∨ 12 < p.fTables.length then 3
 else if p.fNow.length ≠ p.fVersions.length ∨ p.fTarget.length ≠ p.fVersions.length then 6
 else ((BC (Da (Fo p) 0 p.fVersions) (Da (KV p) 0 p.fTables)).getD 0)
theorem Er {α R : Type} {f : Nat → α → Option R} : ∀ {i : Nat} {xs : List α}, Da f i xs = none → ∀ j x, xs[j]? = some x → f (i + j) x = none
 | _, [], _, j, x, hx => by simp at hx
 | i, y :: ys, h, j, x, hx => by
  rw [FI] at h
  split at h
  ·cases h
  ·rename_i h0
   cases j with
   | zero => simp at hx; subst hx; exact h0
   | succ j =>
    have := Er h j x (by simpa using hx)
    rwa [show i + 1 + j = i + (j + 1) from by omega] at this
theorem M2 {p : Ad} (h : Da (Fo p) 0 p.fVersions = none) : ∀ v, v ∈ p.fVersions → 1 ≤ v ∧ v ≤ 6 := by
 intro v hv
 obtain ⟨i, hi⟩ := List.mem_iff_getElem?.1 hv
 have := Er h i v hi
 unfold Fo at this
 split at this
 ·cases this
 ·rename_i hn
  constructor
  ·exact Int.not_lt.1 fun h => hn (.inl h)
  ·exact Int.not_lt.1 fun h => hn (.inr (.inl h))
theorem CQ {α : Type} {xs : List α} {i : Nat} {d : α} (h : i < xs.length) : BS xs (i : Int) = some (xs.getD i d) := by
 rw [A3, List.getD_eq_getElem?_getD]; simp [h]
theorem QR (N : Nat) (p : Ad) (hN : N ≤ 1000000) (h1 : p.fVersions.length < N) (h2 : p.fNow.length = p.fVersions.length) (h3 : p.fTarget.length = p.fVersions.length) (j : Option Int) :
  Bj N p (fun _ => j) N 0 = BC (Da (Fo p) 0 p.fVersions) j := by
 have := Cm (Bj N p (fun _ => j)) p.fVersions j (Fo p)
  (fun n i x hx => by
   have hi := (List.getElem?_eq_some_iff.1 hx).1
   rw [Bj, AL (by omega), A3, hx]
   simp only [Option.bind_some, Bp]
   rw [CQ (d := 0) (by omega), CQ (d := 0) (by omega), AM (by omega)]
   simp only [Option.bind_some]
   unfold Fo
   generalize p.fNow.getD i 0 = a
   generalize p.fTarget.getD i 0 = b
   by_cases k1 : x < 1 <;> by_cases k2 : 6 < x <;> by_cases k3 : a < 0 <;> by_cases k4 : x ≤ a <;> by_cases k5 : b < 0 <;> by_cases k6 : x ≤ b <;> simp [k1, k2, k3, k4, k5, k6, BC])
  (fun n => by rw [Bj, AH (by omega)]) N 0 (by omega) (by omega)
 simpa using this
theorem OV (N : Nat) (p : Ad) (hN : N ≤ 1000000) (h1 : p.fVersions.length < N) (h2 : p.fNow.length = p.fVersions.length) (h3 : p.fTarget.length = p.fVersions.length) (j : Option Int) :
  BW N p (fun _ => j) N 0 = BC (Da (Fo p) 0 p.fVersions) j := by
 have := Cm (BW N p (fun _ => j)) p.fVersions j (Fo p)
  (fun n i x hx => by
   have hi := (List.getElem?_eq_some_iff.1 hx).1
   rw [BW, AL (by omega), A3, hx]
   simp only [Option.bind_some, Bp, Oc]
   rw [CQ (d := 0) (by omega), CQ (d := 0) (by omega), AM (by omega)]
   simp only [Option.bind_some]
   unfold Fo
   generalize p.fNow.getD i 0 = a
   generalize p.fTarget.getD i 0 = b
   have e1 : decide (0 ≤ a) = !decide (a < 0) := by rw [← decide_not]; congr 1; simp
   have e2 : decide (a < x) = !decide (x ≤ a) := by rw [← decide_not]; congr 1; simp
   have e3 : decide (0 ≤ b) = !decide (b < 0) := by rw [← decide_not]; congr 1; simp
   have e4 : decide (b < x) = !decide (x ≤ b) := by rw [← decide_not]; congr 1; simp
   rw [e1, e2, e3, e4]
   by_cases k1 : x < 1 <;> by_cases k2 : 6 < x <;> by_cases k3 : a < 0 <;> by_cases k4 : x ≤ a <;> by_cases k5 : b < 0 <;> by_cases k6 : x ≤ b <;> simp [k1, k2, k3, k4, k5, k6, BC])
  (fun n => by rw [BW, AH (by omega)]) N 0 (by omega) (by omega)
 simpa using this
theorem Sv (N : Nat) (p : Ad) (hN : N ≤ 1000000) (h6 : 7 ≤ N) (h1 : p.fTables.length < N) (hv : ∀ v, v ∈ p.fVersions → 1 ≤ v ∧ v ≤ 6) (j : Option Int) :
  Ba N p (fun _ => j) N 0 = BC (Da (KV p) 0 p.fTables) j := by
 have := Cm (Ba N p (fun _ => j)) p.fTables j (KV p)
  (fun n i x hx => by
   have hi := (List.getElem?_eq_some_iff.1 hx).1
   rw [Ba, AL (by omega), A3, hx]
   simp only [Option.bind_some]
   rw [R8 N p x hN h6 hv, AM (by omega)]
   simp only [Option.bind_some]
   unfold KV
   by_cases k : DO p x = 0
   ·simp [k, BC]
   ·rw [bne_iff_ne.2 k, if_neg k]; rfl)
  (fun n => by rw [Ba, AH (by omega)]) N 0 (by omega) (by omega)
 simpa using this
theorem Ra (N : Nat) (p : Ad) (hN : N ≤ 1000000) (h6 : 7 ≤ N) (h1 : p.fTables.length < N) (hv : ∀ v, v ∈ p.fVersions → 1 ≤ v ∧ v ≤ 6) (j : Option Int) :
  BN N p (fun _ => j) N 0 = BC (Da (KV p) 0 p.fTables) j := by
 have := Cm (BN N p (fun _ => j)) p.fTables j (KV p)
  (fun n i x hx => by
   have hi := (List.getElem?_eq_some_iff.1 hx).1
   rw [BN, AL (by omega), A3, hx]
   simp only [Option.bind_some]
   rw [M9 N p x hN h6 hv, AM (by omega)]
   simp only [Option.bind_some]
   unfold KV
   by_cases k : DO p x = 0
   ·simp [k, BC]
   ·rw [bne_iff_ne.2 k, if_neg k]; rfl)
  (fun n => by rw [BN, AH (by omega)]) N 0 (by omega) (by omega)
 simpa using this
theorem M0 (N : Nat) (p : Ad) (hN : N ≤ 1000000) (h : 20 ≤ N) : Cl N p = some (BQ p) := by
 unfold Cl BQ
 simp only [Bp]
 by_cases k1 : 6 < p.fVersions.length
 ·rw [AL (by omega)]; simp [k1]
 rw [AH (by omega)]
 by_cases k2 : 12 < p.fTables.length
 ·rw [decide_eq_true (by omega : (12 : Int) < (p.fTables.length : Int))]; simp [k2]
 rw [decide_eq_false (by omega : ¬ (12 : Int) < (p.fTables.length : Int)), Av, if_neg (by omega)]
 by_cases k3 : p.fNow.length = p.fVersions.length
 ·by_cases k4 : p.fTarget.length = p.fVersions.length
  ·rw [k3, k4]
   simp only [bne_self_eq_false, Av, ne_eq, not_true_eq_false, or_self, if_false]
   rw [QR N p hN (by omega) k3 k4]
   cases hs : Da (Fo p) 0 p.fVersions with
   | some r => rfl
   | none =>
    simp only [BC]
    rw [Sv N p hN (by omega) (by omega) (M2 hs)]
    cases Da (KV p) 0 p.fTables <;> rfl
  ·have : ((p.fTarget.length : Int) != (p.fVersions.length : Int)) = true := bne_iff_ne.2 (by omega)
   rw [this, k3]; simp [k4]
 ·have : ((p.fNow.length : Int) != (p.fVersions.length : Int)) = true := bne_iff_ne.2 (by omega)
  rw [this]; simp [k3]
theorem Le (N : Nat) (p : Ad) (hN : N ≤ 1000000) (h : 20 ≤ N) : Dd N p = some (BQ p) := by
 unfold Dd BQ
 simp only [Bp]
 by_cases k1 : 6 < p.fVersions.length
 ·rw [AL (by omega)]; simp [k1]
 rw [AH (by omega)]
 by_cases k2 : 12 < p.fTables.length
 ·rw [decide_eq_true (by omega : (12 : Int) < (p.fTables.length : Int))]; simp [k2]
 rw [decide_eq_false (by omega : ¬ (12 : Int) < (p.fTables.length : Int)), Av, if_neg (by omega)]
 by_cases k3 : p.fNow.length = p.fVersions.length
 ·by_cases k4 : p.fTarget.length = p.fVersions.length
  ·rw [k3, k4]
   simp only [bne_self_eq_false, Av, ne_eq, not_true_eq_false, or_self, if_false]
   rw [OV N p hN (by omega) k3 k4]
   cases hs : Da (Fo p) 0 p.fVersions with
   | some r => rfl
   | none =>
    simp only [BC]
    rw [Ra N p hN (by omega) (by omega) (M2 hs)]
    cases Da (KV p) 0 p.fTables <;> rfl
  ·have : ((p.fTarget.length : Int) != (p.fVersions.length : Int)) = true := bne_iff_ne.2 (by omega)
   rw [this, k3]; simp [k4]
 ·have : ((p.fNow.length : Int) != (p.fVersions.length : Int)) = true := bne_iff_ne.2 (by omega)
  rw [this]; simp [k3]
end Go.Lift

/- The test of a mix: both implementations give one answer. -/
namespace Go.Lift
theorem HM {n : Int} (h : J3 n) : 0 ≤ n ∧ n ≤ 255 := by
 unfold J3 at h
 simpa [Lit.wf, IntKind.min, IntKind.max, IntKind.signed, IntKind.bits] using h
theorem NH : ∀ k : Fin 256, C0 .u8 0 (k.val : Int) = 0 := by decide +kernel
theorem Nt : ∀ k : Fin 256, C0 .u8 (k.val : Int) 0 = (k.val : Int) := by decide +kernel
theorem Tl {n : Int} (h : J3 n) : C0 .u8 0 n = 0 := by
 have := HM h
 obtain ⟨k, rfl⟩ := Int.eq_ofNat_of_zero_le this.1
 exact NH ⟨k, by omega⟩
theorem Tw {n : Int} (h : J3 n) : C0 .u8 n 0 = n := by
 have := HM h
 obtain ⟨k, rfl⟩ := Int.eq_ofNat_of_zero_le this.1
 exact Nt ⟨k, by omega⟩
theorem D0 {α R : Type} {f : Nat → α → Option R} : ∀ {i : Nat} {xs : List α} {r : R}, Da f i xs = some r → ∃ j x, xs[j]? = some x ∧ f (i + j) x = some r
 | _, [], _, h => by cases h
 | i, y :: ys, r, h => by
  rw [FI] at h
  split at h
  ·rename_i r' h0
   cases h
   exact ⟨0, y, rfl, h0⟩
  ·obtain ⟨j, x, h1, h2⟩ := D0 h
   exact ⟨j + 1, x, by simpa using h1, by rwa [show i + (j + 1) = i + 1 + j from by omega]⟩
structure Bf (p : Ad) : Prop where
 nv : p.fVersions.length ≤ 6
 nt : p.fTables.length ≤ 12
 now : p.fNow.length = p.fVersions.length
 tgt : p.fTarget.length = p.fVersions.length
 ver : ∀ v, v ∈ p.fVersions → 1 ≤ v ∧ v ≤ 6
 tab : ∀ t, t ∈ p.fTables → DO p t = 0
theorem QG (l : List (List Bool)) : (HG l).getD 0 = 0 ∨ (HG l).getD 0 = 1 := by
 cases h : HG l with
 | none => exact .inl rfl
 | some r =>
  obtain ⟨j, x, _, h⟩ := D0 h
  split at h
  ·cases h
  ·cases h; exact .inr rfl
theorem OC (p : Ad) (t : AG) : DO p t = 0 ∨ DO p t = 1 ∨ DO p t = 4 ∨ DO p t = 6 := by
 unfold DO
 split
 ·exact .inr (.inl rfl)
 split
 ·exact .inr (.inr (.inl rfl))
 simp only
 split
 ·exact .inr (.inr (.inr rfl))
 split
 ·split
  ·exact .inr (.inr (.inr rfl))
  ·rcases QG t.fRewrite with h | h
   ·exact .inl h
   ·exact .inr (.inl h)
 ·split
  ·exact .inl rfl
  ·exact .inr (.inr (.inr rfl))
theorem GB (p : Ad) : (BQ p = 0 ∧ Bf p) ∨ (BQ p = 1 ∨ BQ p = 3 ∨ BQ p = 4 ∨ BQ p = 6 ∨ BQ p = 7) := by
 unfold BQ
 split
 ·simp
 rename_i k1
 split
 ·simp
 rename_i k2
 cases hs : Da (Fo p) 0 p.fVersions with
 | some r =>
  obtain ⟨j, x, _, h⟩ := D0 hs
  unfold Fo at h
  split at h
  ·cases h; simp [BC]
  ·cases h
 | none =>
  cases ht : Da (KV p) 0 p.fTables with
  | some r =>
   obtain ⟨j, t, _, h⟩ := D0 ht
   unfold KV at h
   split at h
   ·cases h
   ·rename_i hne
    cases h
    simp only [BC, Option.getD_some]
    right
    rcases OC p t with h | h | h | h
    ·exact (hne h).elim
    ·exact .inl h
    ·exact .inr (.inr (.inl h))
    ·exact .inr (.inr (.inr (.inl h)))
  | none =>
   left
   refine ⟨rfl, by omega, by omega, by omega, by omega, M2 hs, fun t hm => ?_⟩
   obtain ⟨j, hj⟩ := List.mem_iff_getElem?.1 hm
   have := Er ht j t hj
   unfold KV at this
   split at this
   ·assumption
   ·cases this
end Go.Lift

/- The test of a mix: both implementations give one answer. -/
namespace Go.Lift
def F0 (m : Af) (s : Nat) : Int :=
 if 0 ≤ m.fNext.getD s 0 then Nq .u8 (DA .u8 1 (m.fBase.getD s 0)) (DA .u8 1 (m.fNext.getD s 0)) else DA .u8 1 (m.fBase.getD s 0)
def KI (m : Af) (i : Nat) (v : Int) : Option Int :=
 if m.fBase.getD i 0 < 0 ∨ v ≤ m.fBase.getD i 0 ∨ m.fNext.getD i 0 < -1 ∨ v ≤ m.fNext.getD i 0 then some 7
 else if m.fBase.getD i 0 = m.fNext.getD i 0 then some 1 else none
def B6 (t : AG) : Bool := t.fKind == 3 || t.fKind == 4
def T4 (p : Ad) (t : AG) : Int := IntKind.wrap .u8 (DA .u8 1 (p.fVersions.getD t.fFrom.toNat 0) - 1)
def H5 (p : Ad) (m : Af) (i : Nat) (t : AG) : Option Int :=
 if B6 t = true then (if C0 .u8 (F0 m t.fFrom.toNat) (m.fHeld.getD i 0) ≠ 0 ∨ C0 .u8 (m.fHeld.getD i 0) (T4 p t) ≠ 0 then some 1 else none)
 else if m.fHeld.getD i 0 ≠ 0 then some 1 else none
def EG (p : Ad) (m : Af) : Int :=
 if BQ p ≠ 0 then BQ p
 else if m.fBase.length ≠ p.fVersions.length ∨ m.fNext.length ≠ p.fVersions.length ∨ m.fHeld.length ≠ p.fTables.length then 6
 else (BC (Da (KI m) 0 p.fVersions) (Da (H5 p m) 0 p.fTables)).getD 0
theorem H2 {p : Ad} {t : AG} (h : DO p t = 0) : 0 ≤ t.fFrom ∧ t.fFrom < (p.fVersions.length : Int) ∧ 0 ≤ t.fTo ∧ t.fTo < (p.fVersions.length : Int) := by
 unfold DO at h
 split at h
 ·cases h
 ·split at h
  ·cases h
  ·omega
theorem Ku (N : Nat) (m : Af) (s : Int) (h0 : 0 ≤ s) (h1 : s < (m.fBase.length : Int)) (h2 : s < (m.fNext.length : Int)) (hb : 0 ≤ m.fBase.getD s.toNat 0) : Ev N m s = some (F0 m s.toNat) := by
 unfold Ev F0
 rw [Eo (d := 0) h0 h1, Eo (d := 0) h0 h2]
 simp only [Option.bind_some, Bp]
 rw [show Ei (0 ≤ m.fBase.getD s.toNat 0) = some () from by unfold Ei; rw [if_pos hb]]
 simp only [Option.bind_some]
 by_cases h : 0 ≤ m.fNext.getD s.toNat 0
 ·rw [AL h, if_pos h, show Ei (0 ≤ m.fNext.getD s.toNat 0) = some () from by unfold Ei; rw [if_pos h]]; rfl
 ·rw [AH h, if_neg h]
theorem IV (N : Nat) (m : Af) (s : Int) (h0 : 0 ≤ s) (h1 : s < (m.fBase.length : Int)) (h2 : s < (m.fNext.length : Int)) (hb : 0 ≤ m.fBase.getD s.toNat 0) : BP N m s = some (F0 m s.toNat) := by
 unfold BP F0
 rw [Eo (d := 0) h0 h1, Eo (d := 0) h0 h2]
 simp only [Option.bind_some, Bp]
 rw [show Ei (0 ≤ m.fBase.getD s.toNat 0) = some () from by unfold Ei; rw [if_pos hb]]
 simp only [Option.bind_some]
 by_cases h : 0 ≤ m.fNext.getD s.toNat 0
 ·rw [AL h, if_pos h, show Ei (0 ≤ m.fNext.getD s.toNat 0) = some () from by unfold Ei; rw [if_pos h]]; rfl
 ·rw [AH h, if_neg h]
theorem Ov (N : Nat) (p : Ad) (m : Af) (hN : N ≤ 1000000) (h1 : p.fVersions.length < N) (h2 : m.fBase.length = p.fVersions.length) (h3 : m.fNext.length = p.fVersions.length) (j : Option Int) :
  DJ N p m (fun _ => j) N 0 = BC (Da (KI m) 0 p.fVersions) j := by
 have := Cm (DJ N p m (fun _ => j)) p.fVersions j (KI m)
  (fun n i x hx => by
   have hi := (List.getElem?_eq_some_iff.1 hx).1
   rw [DJ, AL (by omega), A3, hx]
   simp only [Option.bind_some, Bp]
   rw [CQ (d := 0) (by omega), CQ (d := 0) (by omega), AM (by omega)]
   simp only [Option.bind_some]
   unfold KI
   generalize m.fBase.getD i 0 = a
   generalize m.fNext.getD i 0 = b
   by_cases k7 : a = b
   ·subst k7
    by_cases k3 : a < 0 <;> by_cases k4 : x ≤ a <;> by_cases k5 : a < -1 <;> simp [k3, k4, k5, BC]
   ·have k8 : (a == b) = false := beq_eq_false_iff_ne.2 k7
    by_cases k3 : a < 0 <;> by_cases k4 : x ≤ a <;> by_cases k5 : b < -1 <;> by_cases k6 : x ≤ b <;> simp [k3, k4, k5, k6, k7, k8, BC])
  (fun n => by rw [DJ, AH (by omega)]) N 0 (by omega) (by omega)
 simpa using this
theorem OM (N : Nat) (p : Ad) (m : Af) (hN : N ≤ 1000000) (h1 : p.fVersions.length < N) (h2 : m.fBase.length = p.fVersions.length) (h3 : m.fNext.length = p.fVersions.length) (j : Option Int) :
  B2 N p m (fun _ => j) N 0 = BC (Da (KI m) 0 p.fVersions) j := by
 have := Cm (B2 N p m (fun _ => j)) p.fVersions j (KI m)
  (fun n i x hx => by
   have hi := (List.getElem?_eq_some_iff.1 hx).1
   rw [B2, AL (by omega), show BS p.fVersions (i : Int) = some x from by rw [A3, hx]]
   simp only [Option.bind_some, Bp]
   rw [CQ (d := 0) (by omega), CQ (d := 0) (by omega), AM (by omega)]
   simp only [Option.bind_some]
   unfold KI
   generalize m.fBase.getD i 0 = a
   generalize m.fNext.getD i 0 = b
   by_cases k7 : a = b
   ·subst k7
    by_cases k3 : a < 0 <;> by_cases k4 : x ≤ a <;> by_cases k5 : a < -1 <;> simp [k3, k4, k5, BC]
   ·have k8 : (a == b) = false := beq_eq_false_iff_ne.2 k7
    by_cases k3 : a < 0 <;> by_cases k4 : x ≤ a <;> by_cases k5 : b < -1 <;> by_cases k6 : x ≤ b <;> simp [k3, k4, k5, k6, k7, k8, BC])
  (fun n => by rw [B2, AH (by omega)]) N 0 (by omega) (by omega)
 simpa using this
end Go.Lift

/- The test of a mix, the whole: both implementations give one answer. -/
namespace Go.Lift
structure MixServ (p : Ad) (m : Af) : Prop where
 base : m.fBase.length = p.fVersions.length
 next : m.fNext.length = p.fVersions.length
 held : m.fHeld.length = p.fTables.length
 b0 : ∀ i, i < p.fVersions.length → 0 ≤ m.fBase.getD i 0 ∧ m.fBase.getD i 0 < p.fVersions.getD i 0
 n0 : ∀ i, i < p.fVersions.length → -1 ≤ m.fNext.getD i 0 ∧ m.fNext.getD i 0 < p.fVersions.getD i 0
 ne : ∀ i, i < p.fVersions.length → m.fBase.getD i 0 ≠ m.fNext.getD i 0
theorem Oy {p : Ad} {m : Af} (h2 : m.fBase.length = p.fVersions.length) (h3 : m.fNext.length = p.fVersions.length) (h4 : m.fHeld.length = p.fTables.length) (h : Da (KI m) 0 p.fVersions = none) : MixServ p m := by
 have key : ∀ i, i < p.fVersions.length → ¬ (m.fBase.getD i 0 < 0 ∨ p.fVersions.getD i 0 ≤ m.fBase.getD i 0 ∨ m.fNext.getD i 0 < -1 ∨ p.fVersions.getD i 0 ≤ m.fNext.getD i 0) ∧ ¬ m.fBase.getD i 0 = m.fNext.getD i 0 := by
  intro i hi
  have hx : p.fVersions[i]? = some (p.fVersions.getD i 0) := by rw [List.getD_eq_getElem?_getD]; simp [hi]
  have := Er h i _ hx
  rw [Nat.zero_add] at this
  unfold KI at this
  split at this
  ·cases this
  ·split at this
   ·cases this
   ·rename_i k1 k2; exact ⟨k1, k2⟩
 exact ⟨h2, h3, h4, fun i hi => by have := (key i hi).1; omega, fun i hi => by have := (key i hi).1; omega, fun i hi => (key i hi).2⟩
theorem PD {m : Af} (hw : LE J3 m.fHeld) {i : Nat} (h : i < m.fHeld.length) : J3 (m.fHeld.getD i 0) := by
 refine hw _ ?_
 rw [List.getD_eq_getElem?_getD, List.getElem?_eq_getElem h]
 exact List.getElem_mem _
theorem Iv (N : Nat) (t : AG) : ES N t = some (B6 t) := by
 unfold ES B6
 simp only [Bp]
 cases h : t.fKind == 3 <;> simp
theorem F2 (N : Nat) (t : AG) : A7 N t = some (B6 t) := LW N t
theorem QH (N : Nat) (p : Ad) (m : Af) (hN : N ≤ 1000000) (h1 : p.fTables.length < N) (hp : Bf p) (hm : MixServ p m) (hw : LE J3 m.fHeld) (j : Option Int) :
  Dq N p m (fun _ => j) N 0 = BC (Da (H5 p m) 0 p.fTables) j := by
 have := Cm (Dq N p m (fun _ => j)) p.fTables j (H5 p m)
  (fun n i x hx => by
   have hi := (List.getElem?_eq_some_iff.1 hx).1
   have hin := H2 (hp.tab x (List.mem_of_getElem? hx))
   have hheld := PD hw (show i < m.fHeld.length from by rw [hm.held]; exact hi)
   have hv := Jn hp.ver hin.1 hin.2.1
   rw [Dq, AL (by omega), A3, hx]
   simp only [Option.bind_some, Bp, Iv]
   rw [Ku N m x.fFrom hin.1 (by rw [hm.base]; exact hin.2.1) (by rw [hm.next]; exact hin.2.1) (hm.b0 _ (by omega)).1, Eo (d := 0) hin.1 hin.2.1, CQ (d := 0) (show i < m.fHeld.length from by rw [hm.held]; exact hi), AM (by omega)]
   simp only [Option.bind_some]
   rw [show Ei (0 ≤ p.fVersions.getD x.fFrom.toNat 0) = some () from by unfold Ei; rw [if_pos (by omega)]]
   simp only [Option.bind_some]
   unfold H5 T4
   rw [Tl hheld, Tw hheld]
   generalize C0 .u8 (F0 m x.fFrom.toNat) (m.fHeld.getD i 0) = A
   generalize C0 .u8 (m.fHeld.getD i 0) (IntKind.wrap .u8 (DA .u8 1 (p.fVersions.getD x.fFrom.toNat 0) - 1)) = B
   generalize m.fHeld.getD i 0 = H
   cases B6 x
   ·simp only [Av, bne_self_eq_false]
    by_cases k : H = 0
    ·simp [k, BC]
    ·have : (H != 0) = true := bne_iff_ne.2 k
     simp [k, this, BC]
   ·simp only [AN]
    by_cases k : A = 0
    ·by_cases k2 : B = 0
     ·simp [k, k2, BC]
     ·have : (B != 0) = true := bne_iff_ne.2 k2
      simp [k, k2, this, BC]
    ·have : (A != 0) = true := bne_iff_ne.2 k
     simp [k, this, BC])
  (fun n => by rw [Dq, AH (by omega)]) N 0 (by omega) (by omega)
 simpa using this
theorem QA (N : Nat) (p : Ad) (m : Af) (hN : N ≤ 1000000) (h1 : p.fTables.length < N) (hp : Bf p) (hm : MixServ p m) (j : Option Int) :
  BU N p m (fun _ => j) N 0 = BC (Da (H5 p m) 0 p.fTables) j := by
 have := Cm (BU N p m (fun _ => j)) p.fTables j (H5 p m)
  (fun n i x hx => by
   have hi := (List.getElem?_eq_some_iff.1 hx).1
   have hin := H2 (hp.tab x (List.mem_of_getElem? hx))
   have hv := Jn hp.ver hin.1 hin.2.1
   rw [BU, AL (by omega), A3, hx]
   simp only [Option.bind_some, Bp, F2]
   rw [IV N m x.fFrom hin.1 (by rw [hm.base]; exact hin.2.1) (by rw [hm.next]; exact hin.2.1) (hm.b0 _ (by omega)).1, Eo (d := 0) hin.1 hin.2.1, CQ (d := 0) (show i < m.fHeld.length from by rw [hm.held]; exact hi), AM (by omega)]
   simp only [Option.bind_some]
   rw [show Ei (0 ≤ p.fVersions.getD x.fFrom.toNat 0) = some () from by unfold Ei; rw [if_pos (by omega)]]
   simp only [Option.bind_some]
   unfold H5 T4
   generalize C0 .u8 (F0 m x.fFrom.toNat) (m.fHeld.getD i 0) = A
   generalize C0 .u8 (m.fHeld.getD i 0) (IntKind.wrap .u8 (DA .u8 1 (p.fVersions.getD x.fFrom.toNat 0) - 1)) = B
   generalize m.fHeld.getD i 0 = H
   cases B6 x
   ·simp only [Bool.not_false, AN, Av]
    by_cases k : H = 0
    ·simp [k, BC]
    ·have : (H != 0) = true := bne_iff_ne.2 k
     simp [k, this, BC]
   ·simp only [Bool.not_true, Av, AN]
    by_cases k : A = 0
    ·by_cases k2 : B = 0
     ·simp [k, k2, BC]
     ·have : (B != 0) = true := bne_iff_ne.2 k2
      simp [k, k2, this, BC]
    ·have : (A != 0) = true := bne_iff_ne.2 k
     by_cases k2 : B = 0
     ·simp [k, k2, this, BC]
     ·have h5 : (B != 0) = true := bne_iff_ne.2 k2
      simp [k, h5, BC])
  (fun n => by rw [BU, AH (by omega)]) N 0 (by omega) (by omega)
 simpa using this
theorem Hu (N : Nat) (p : Ad) (m : Af) (hN : N ≤ 1000000) (h : 20 ≤ N) (hw : LE J3 m.fHeld) : EK N p m = some (EG p m) := by
 unfold EK EG
 rw [Le N p hN h]
 simp only [Option.bind_some, Bp]
 by_cases k0 : BQ p = 0
 ·have hp : Bf p := by
   rcases GB p with h | h
   ·exact h.2
   ·omega
  have hnv := hp.nv
  have hnt := hp.nt
  rw [k0]
  simp only [bne_self_eq_false, Av, ne_eq, not_true_eq_false, if_false]
  by_cases k1 : m.fBase.length = p.fVersions.length
  ·by_cases k2 : m.fNext.length = p.fVersions.length
   ·by_cases k3 : m.fHeld.length = p.fTables.length
    ·rw [k1, k2, k3]
     simp only [bne_self_eq_false, Av, not_true_eq_false, or_self, if_false]
     rw [Ov N p m hN (by omega) k1 k2]
     cases hs : Da (KI m) 0 p.fVersions with
     | some r => rfl
     | none =>
      simp only [BC]
      rw [QH N p m hN (by omega) hp (Oy k1 k2 k3 hs) hw]
      cases Da (H5 p m) 0 p.fTables <;> rfl
    ·have : ((m.fHeld.length : Int) != (p.fTables.length : Int)) = true := bne_iff_ne.2 (by omega)
     rw [this, k1, k2]; simp [k3]
   ·have : ((m.fNext.length : Int) != (p.fVersions.length : Int)) = true := bne_iff_ne.2 (by omega)
    rw [this, k1]; simp [k2]
  ·have : ((m.fBase.length : Int) != (p.fVersions.length : Int)) = true := bne_iff_ne.2 (by omega)
   rw [this]; simp [k1]
 ·rw [bne_iff_ne.2 k0]; simp [k0]
theorem GD (N : Nat) (p : Ad) (m : Af) (hN : N ≤ 1000000) (h : 20 ≤ N) : Cu N p m = some (EG p m) := by
 unfold Cu EG
 rw [M0 N p hN h]
 simp only [Option.bind_some, Bp]
 by_cases k0 : BQ p = 0
 ·have hp : Bf p := by
   rcases GB p with h | h
   ·exact h.2
   ·omega
  have hnv := hp.nv
  have hnt := hp.nt
  rw [k0]
  simp only [bne_self_eq_false, Av, ne_eq, not_true_eq_false, if_false]
  by_cases k1 : m.fBase.length = p.fVersions.length
  ·by_cases k2 : m.fNext.length = p.fVersions.length
   ·by_cases k3 : m.fHeld.length = p.fTables.length
    ·rw [k1, k2, k3]
     simp only [bne_self_eq_false, Av, not_true_eq_false, or_self, if_false]
     rw [OM N p m hN (by omega) k1 k2]
     cases hs : Da (KI m) 0 p.fVersions with
     | some r => rfl
     | none =>
      simp only [BC]
      rw [QA N p m hN (by omega) hp (Oy k1 k2 k3 hs)]
      cases Da (H5 p m) 0 p.fTables <;> rfl
    ·have : ((m.fHeld.length : Int) != (p.fTables.length : Int)) = true := bne_iff_ne.2 (by omega)
     rw [this, k1, k2]; simp [k3]
   ·have : ((m.fNext.length : Int) != (p.fVersions.length : Int)) = true := bne_iff_ne.2 (by omega)
    rw [this, k1]; simp [k2]
  ·have : ((m.fBase.length : Int) != (p.fVersions.length : Int)) = true := bne_iff_ne.2 (by omega)
   rw [this]; simp [k1]
 ·rw [bne_iff_ne.2 k0]; simp [k0]
end Go.Lift

/- Loops of the shallow programs as folds along lists. -/
namespace Go.Lift
@[simp] theorem Bb {α β : Type} (k : α) (f : α → β) : Bp k f = f k := rfl
@[simp] theorem SH {p : Prop} [Decidable p] (h : p) : Ei p = some () := by unfold Ei; rw [if_pos h]
theorem Az {β : Type} {p : Prop} [Decidable p] (h : p) (f : Unit → Option β) : (Ei p).bind f = f () := by rw [SH h]; rfl
def CH {α β : Type} (g : Nat → α → List β) : Nat → List α → List β
 | _, [] => []
 | i, x :: xs => g i x ++ CH g (i + 1) xs
def Hm {α A : Type} (f : Nat → α → A → A) : Nat → List α → A → A
 | _, [], a => a
 | i, x :: xs, a => Hm f (i + 1) xs (f i x a)
theorem Lt {α β : Type} (g : Nat → α → List β) : ∀ (i : Nat) (xs ys : List α), CH g i (xs ++ ys) = CH g i xs ++ CH g (i + xs.length) ys
 | i, [], ys => by simp [CH]
 | i, x :: xs, ys => by
  rw [List.cons_append, CH, CH, Lt g (i + 1) xs ys, List.append_assoc, List.length_cons, Nat.add_assoc, Nat.add_comm 1]
theorem Gl {α β : Type} {g : Nat → α → List β} {y : β} : ∀ {i : Nat} {xs : List α}, y ∈ CH g i xs ↔ ∃ j x, xs[j]? = some x ∧ y ∈ g (i + j) x
 | _, [] => by simp [CH]
 | i, x :: xs => by
  rw [CH, List.mem_append, Gl]
  constructor
  ·rintro (h | ⟨j, z, hz, h⟩)
   ·exact ⟨0, x, rfl, h⟩
   ·exact ⟨j + 1, z, by simpa using hz, by rwa [show i + (j + 1) = i + 1 + j from by omega]⟩
  ·rintro ⟨j, z, hz, h⟩
   cases j with
   | zero => simp at hz; subst hz; exact .inl h
   | succ j => exact .inr ⟨j, z, by simpa using hz, by rwa [show i + 1 + j = i + (j + 1) from by omega]⟩
theorem Fn {α β : Type} {g : Nat → α → List β} {c : Nat} : ∀ {i : Nat} {xs : List α}, (∀ j x, xs[j]? = some x → (g (i + j) x).length ≤ c) → (CH g i xs).length ≤ c * xs.length
 | _, [], _ => by simp [CH]
 | i, x :: xs, h => by
  have h1 := h 0 x rfl
  have h2 := Fn (g := g) (c := c) (i := i + 1) (xs := xs) fun j y hy => by
   have := h (j + 1) y (by simpa using hy)
   rwa [show i + (j + 1) = i + 1 + j from by omega] at this
  rw [CH, List.length_append, List.length_cons, Nat.mul_add]
  simp only [Nat.add_zero] at h1
  omega
theorem HC {α A S R : Type} (L : Nat → S → Option R) (mk : A → Int → S) (xs : List α) (j : A → Option R) (f : Nat → α → A → A) (I : Nat → A → Prop)
  (hs : ∀ (n i : Nat) (x : α) (a : A), xs[i]? = some x → I i a → L (n + 1) (mk a (i : Int)) = L n (mk (f i x a) ((i + 1 : Nat) : Int)) ∧ I (i + 1) (f i x a))
  (he : ∀ (n : Nat) (a : A), I xs.length a → L (n + 1) (mk a (xs.length : Int)) = j a) :
  ∀ (n i : Nat) (a : A), i ≤ xs.length → xs.length - i < n → I i a → L n (mk a (i : Int)) = j (Hm f i (xs.drop i) a) ∧ I xs.length (Hm f i (xs.drop i) a)
 | 0, i, _, _, h, _ => by omega
 | n + 1, i, a, hi, h, ha => by
  by_cases h1 : i < xs.length
  ·have hx : xs[i]? = some xs[i] := by simp [h1]
   obtain ⟨e1, e2⟩ := hs n i _ a hx ha
   rw [e1, Gp hx, Hm]
   exact HC L mk xs j f I hs he n (i + 1) _ (by omega) (by omega) e2
  ·have : i = xs.length := by omega
   subst this
   rw [List.drop_eq_nil_of_le (Nat.le_refl _), Hm]
   exact ⟨he n a ha, ha⟩
theorem Nf {α β : Type} (g : Nat → α → List β) : ∀ (i : Nat) (xs : List α) (acc : List β), Hm (fun i x a => a ++ g i x) i xs acc = acc ++ CH g i xs
 | _, [], acc => by simp [Hm, CH]
 | i, x :: xs, acc => by rw [Hm, Nf g (i + 1) xs, CH, List.append_assoc]
theorem FL {α β S R : Type} (L : Nat → S → Option R) (mk : List β → Int → S) (xs : List α) (j : List β → Option R) (g : Nat → α → List β) (c B : Nat)
  (hg : ∀ i x, xs[i]? = some x → (g i x).length ≤ c)
  (hs : ∀ (n i : Nat) (x : α) (a : List β), xs[i]? = some x → a.length + (g i x).length ≤ B → L (n + 1) (mk a (i : Int)) = L n (mk (a ++ g i x) ((i + 1 : Nat) : Int)))
  (he : ∀ (n : Nat) (a : List β), L (n + 1) (mk a (xs.length : Int)) = j a) (n : Nat) (a : List β) (hn : xs.length < n) (ha : a.length + c * xs.length ≤ B) :
  L n (mk a 0) = j (a ++ CH g 0 xs) := by
 have := HC L mk xs j (fun i x a => a ++ g i x) (fun i b => i ≤ xs.length ∧ b.length ≤ a.length + c * i)
  (fun n i x b hx hb => by
   have h1 := hg i x hx
   have hi := (List.getElem?_eq_some_iff.1 hx).1
   have h2 : c * (i + 1) ≤ c * xs.length := Nat.mul_le_mul_left c hi
   have h3 : c * (i + 1) = c * i + c := Nat.mul_succ c i
   refine ⟨hs n i x b hx (by have := hb.2; omega), hi, ?_⟩
   rw [List.length_append]
   have := hb.2
   omega)
  (fun n b _ => he n b) n 0 a (Nat.zero_le _) (by omega) ⟨Nat.zero_le _, by omega⟩
 have h2 := this.1
 rw [List.drop_zero, Nf] at h2
 exact h2
end Go.Lift

/- Sets as bits, the mixes that are valid, and the conflicts of a mix: both implementations give one answer. -/
namespace Go.Lift
def Dm (s : Int) (v : Nat) : Bool := s.toNat.testBit v
def Hz (m : Af) (s v : Nat) : Bool := decide (m.fBase.getD s 0 = (v : Int)) || decide (m.fNext.getD s 0 = (v : Int))
theorem Uz : ∀ (s : Fin 256) (v : Fin 8), FK .u8 (E6 .u8 (s.val : Int) (v.val : Int)) 1 = if Dm (s.val : Int) v.val then 1 else 0 := by decide +kernel
theorem Ou {s : Int} {v : Nat} (h0 : 0 ≤ s) (h1 : s ≤ 255) (hv : v < 8) : FK .u8 (E6 .u8 s (v : Int)) 1 = if Dm s v then 1 else 0 := by
 obtain ⟨k, rfl⟩ := Int.eq_ofNat_of_zero_le h0
 exact Uz ⟨k, by omega⟩ ⟨v, hv⟩
theorem PM {s : Int} {v : Nat} (h0 : 0 ≤ s) (h1 : s ≤ 255) (hv : v < 8) : (FK .u8 (E6 .u8 s (v : Int)) 1 == 0) = !Dm s v := by
 rw [Ou h0 h1 hv]; cases Dm s v <;> rfl
theorem Qc {s : Int} {v : Nat} (h0 : 0 ≤ s) (h1 : s ≤ 255) (hv : v < 8) : (FK .u8 (E6 .u8 s (v : Int)) 1 == 1) = Dm s v := by
 rw [Ou h0 h1 hv]; cases Dm s v <;> rfl
theorem IW {s : Int} {v : Nat} (h1 : s ≤ 255) (hv : 8 ≤ v) : Dm s v = false := by
 unfold Dm
 apply Nat.testBit_lt_two_pow
 have : (2 : Nat) ^ 8 ≤ 2 ^ v := Nat.pow_le_pow_right (by omega) hv
 omega
theorem IQ : ∀ (b : Fin 8) (v : Fin 8), Dm (DA .u8 1 (b.val : Int)) v.val = decide (b.val = v.val) ∧ 0 ≤ DA .u8 1 (b.val : Int) ∧ DA .u8 1 (b.val : Int) ≤ 255 := by decide +kernel
theorem Up : ∀ (b n : Fin 8) (v : Fin 8), Dm (Nq .u8 (DA .u8 1 (b.val : Int)) (DA .u8 1 (n.val : Int))) v.val = (decide (b.val = v.val) || decide (n.val = v.val))
  ∧ 0 ≤ Nq .u8 (DA .u8 1 (b.val : Int)) (DA .u8 1 (n.val : Int)) ∧ Nq .u8 (DA .u8 1 (b.val : Int)) (DA .u8 1 (n.val : Int)) ≤ 255 := by decide +kernel
theorem Sx {m : Af} {s : Nat} (hb0 : 0 ≤ m.fBase.getD s 0) (hb1 : m.fBase.getD s 0 < 8) (hn1 : m.fNext.getD s 0 < 8) :
  (∀ v, Dm (F0 m s) v = Hz m s v) ∧ 0 ≤ F0 m s ∧ F0 m s ≤ 255 := by
 unfold F0 Hz
 obtain ⟨b, hb⟩ := Int.eq_ofNat_of_zero_le hb0
 rw [hb] at hb1 ⊢
 by_cases h : 0 ≤ m.fNext.getD s 0
 ·obtain ⟨n, hn⟩ := Int.eq_ofNat_of_zero_le h
  rw [hn] at hn1 ⊢
  rw [if_pos (by omega)]
  have h1 := Up ⟨b, by omega⟩ ⟨n, by omega⟩
  refine ⟨fun v => ?_, (h1 0).2⟩
  by_cases hv : v < 8
  ·rw [(h1 ⟨v, hv⟩).1]
   simp only [Int.ofNat_inj]
  ·rw [IW (h1 0).2.2 (by omega)]
   simp; omega
 ·rw [if_neg h]
  have h1 := IQ ⟨b, by omega⟩
  refine ⟨fun v => ?_, (h1 0).2⟩
  have h3 : decide (m.fNext.getD s 0 = (v : Int)) = false := decide_eq_false (by omega)
  rw [h3, Bool.or_false]
  by_cases hv : v < 8
  ·rw [(h1 ⟨v, hv⟩).1]
   simp only [Int.ofNat_inj]
  ·rw [IW (h1 0).2.2 (by omega)]
   simp; omega
theorem Tr {a : Nat} (h : a < 256) : (BitVec.ofInt 8 (a : Int)).toNat = a := by
 simp; omega
theorem MD {a b : Int} (ha : 0 ≤ a ∧ a ≤ 255) (hb : 0 ≤ b ∧ b ≤ 255) : C0 .u8 a b = 0 ↔ ∀ v, Dm a v = true → Dm b v = true := by
 obtain ⟨a, rfl⟩ := Int.eq_ofNat_of_zero_le ha.1
 obtain ⟨b, rfl⟩ := Int.eq_ofNat_of_zero_le hb.1
 have hA := Tr (a := a) (by omega)
 have hB := Tr (a := b) (by omega)
 unfold C0 Dm
 simp only [IntKind.bits, Int.toNat_natCast]
 have hx : ∀ x : BitVec 8, IntKind.wrap .u8 (x.toNat : Int) = (x.toNat : Int) := by
  intro x
  have := x.isLt
  simp [IntKind.wrap, IntKind.signed, IntKind.bits]
  omega
 rw [hx]
 constructor
 ·intro h v hv
  have h0 : (BitVec.ofInt 8 (a : Int) &&& ~~~BitVec.ofInt 8 (b : Int)) = (BitVec.ofNat 8 0) := by
   apply BitVec.eq_of_toNat_eq
   simp only [BitVec.toNat_ofNat, Nat.zero_mod]
   exact Int.ofNat_inj.1 h
  by_cases hv8 : v < 8
  ·have h1 : (BitVec.ofInt 8 (a : Int) &&& ~~~BitVec.ofInt 8 (b : Int)).getLsbD v = false := by rw [h0]; simp
   rw [BitVec.getLsbD_and, BitVec.getLsbD_not] at h1
   have e1 : (BitVec.ofInt 8 (a : Int)).getLsbD v = a.testBit v := by unfold BitVec.getLsbD; rw [hA]
   have e2 : (BitVec.ofInt 8 (b : Int)).getLsbD v = b.testBit v := by unfold BitVec.getLsbD; rw [hB]
   rw [e1, e2, hv] at h1
   simpa [hv8] using h1
  ·have := IW (s := (a : Int)) (v := v) (by omega) (by omega)
   unfold Dm at this
   rw [Int.toNat_natCast, hv] at this
   cases this
 ·intro h
  have h0 : (BitVec.ofInt 8 (a : Int) &&& ~~~BitVec.ofInt 8 (b : Int)) = (BitVec.ofNat 8 0) := by
   apply BitVec.eq_of_getLsbD_eq
   intro i hi
   rw [BitVec.getLsbD_and, BitVec.getLsbD_not]
   have e1 : (BitVec.ofInt 8 (a : Int)).getLsbD i = a.testBit i := by unfold BitVec.getLsbD; rw [hA]
   have e2 : (BitVec.ofInt 8 (b : Int)).getLsbD i = b.testBit i := by unfold BitVec.getLsbD; rw [hB]
   rw [e1, e2]
   have := h i
   cases h3 : a.testBit i
   ·simp
   ·rw [this h3]; simp
  have h2 : ∀ x : BitVec 8, x = (BitVec.ofNat 8 0) → (x.toNat : Int) = 0 := fun x hx => by rw [hx]; rfl
  exact h2 _ h0
theorem TZ : ∀ n : Fin 9, (∀ v : Fin 8, Dm (IntKind.wrap .u8 (DA .u8 1 (n.val : Int) - 1)) v.val = decide (v.val < n.val)) ∧ 0 ≤ IntKind.wrap .u8 (DA .u8 1 (n.val : Int) - 1) ∧ IntKind.wrap .u8 (DA .u8 1 (n.val : Int) - 1) ≤ 255 := by decide +kernel
theorem UL {n : Int} (h0 : 0 ≤ n) (h1 : n ≤ 8) : (∀ v, Dm (IntKind.wrap .u8 (DA .u8 1 n - 1)) v = decide ((v : Int) < n)) ∧ 0 ≤ IntKind.wrap .u8 (DA .u8 1 n - 1) ∧ IntKind.wrap .u8 (DA .u8 1 n - 1) ≤ 255 := by
 obtain ⟨n, rfl⟩ := Int.eq_ofNat_of_zero_le h0
 have h := TZ ⟨n, by omega⟩
 refine ⟨fun v => ?_, h.2⟩
 by_cases hv : v < 8
 ·rw [h.1 ⟨v, hv⟩]; simp
 ·rw [IW h.2.2 (by omega)]
  symm; apply decide_eq_false; omega
structure BM (p : Ad) (m : Af) : Prop extends MixServ p m where
 range : ∀ i, i < p.fTables.length → 0 ≤ m.fHeld.getD i 0 ∧ m.fHeld.getD i 0 ≤ 255
 low : ∀ i t, p.fTables[i]? = some t → B6 t = true → ∀ v, Hz m t.fFrom.toNat v = true → Dm (m.fHeld.getD i 0) v = true
 high : ∀ i t, p.fTables[i]? = some t → B6 t = true → ∀ v, Dm (m.fHeld.getD i 0) v = true → (v : Int) < p.fVersions.getD t.fFrom.toNat 0
 none : ∀ i t, p.fTables[i]? = some t → B6 t = false → m.fHeld.getD i 0 = 0
theorem Hf {p : Ad} (hp : Bf p) {i : Nat} (hi : i < p.fVersions.length) : 1 ≤ p.fVersions.getD i 0 ∧ p.fVersions.getD i 0 ≤ 6 := by
 have := Jn (i := (i : Int)) hp.ver (by omega) (by omega)
 simpa using this
theorem Hb {p : Ad} {m : Af} (hp : Bf p) (hm : MixServ p m) {s : Nat} (hs : s < p.fVersions.length) :
  (∀ v, Dm (F0 m s) v = Hz m s v) ∧ 0 ≤ F0 m s ∧ F0 m s ≤ 255 := by
 have h1 := hm.b0 s hs
 have h2 := hm.n0 s hs
 have h3 := Hf hp hs
 exact Sx h1.1 (by omega) (by omega)
theorem Pr {p : Ad} {m : Af} (hp : Bf p) (hm : MixServ p m) {i : Nat} {t : AG} (ht : p.fTables[i]? = some t) (hr : 0 ≤ m.fHeld.getD i 0 ∧ m.fHeld.getD i 0 ≤ 255) :
  H5 p m i t = none ↔ ((B6 t = true → (∀ v, Hz m t.fFrom.toNat v = true → Dm (m.fHeld.getD i 0) v = true) ∧ (∀ v, Dm (m.fHeld.getD i 0) v = true → (v : Int) < p.fVersions.getD t.fFrom.toNat 0)) ∧ (B6 t = false → m.fHeld.getD i 0 = 0)) := by
 have hin := H2 (hp.tab t (List.mem_of_getElem? ht))
 have hrun := Hb hp hm (s := t.fFrom.toNat) (by omega)
 have hver := Hf hp (i := t.fFrom.toNat) (by omega)
 have hall := UL (n := p.fVersions.getD t.fFrom.toNat 0) (by omega) (by omega)
 unfold H5 T4
 have e1 := MD hrun.2 hr
 have e2 := MD hr hall.2
 cases hst : B6 t
 ·simp
 ·simp only [if_true, true_implies, Bool.true_eq_false, false_implies, and_true, ite_eq_right_iff, reduceCtorEq, imp_false, not_or, Decidable.not_not]
  rw [e1, e2]
  simp only [hrun.1, hall.1, decide_eq_true_eq]
theorem HO {p : Ad} {m : Af} (hw : LE J3 m.fHeld) (h : EG p m = 0) : Bf p ∧ BM p m := by
 unfold EG at h
 split at h
 ·rename_i k; exact (k h).elim
 ·rename_i k0
  have hp : Bf p := by
   rcases GB p with h | h
   ·exact h.2
   ·omega
  split at h
  ·cases h
  ·rename_i k1
   have b1 : m.fBase.length = p.fVersions.length := Decidable.not_not.1 fun h => k1 (.inl h)
   have b2 : m.fNext.length = p.fVersions.length := Decidable.not_not.1 fun h => k1 (.inr (.inl h))
   have b3 : m.fHeld.length = p.fTables.length := Decidable.not_not.1 fun h => k1 (.inr (.inr h))
   cases hs : Da (KI m) 0 p.fVersions with
   | some r =>
    obtain ⟨j, x, _, he⟩ := D0 hs
    rw [hs] at h
    unfold KI at he
    simp only [BC, Option.getD_some] at h
    split at he
    ·cases he; cases h
    ·split at he
     ·cases he; cases h
     ·cases he
   | none =>
    have hm := Oy b1 b2 b3 hs
    rw [hs] at h
    simp only [BC] at h
    cases ht : Da (H5 p m) 0 p.fTables with
    | some r =>
     obtain ⟨j, x, _, he⟩ := D0 ht
     rw [ht] at h
     simp only [Option.getD_some] at h
     subst h
     unfold H5 at he
     split at he
     ·split at he <;> cases he
     ·split at he <;> cases he
    | none =>
     have hr : ∀ i, i < p.fTables.length → 0 ≤ m.fHeld.getD i 0 ∧ m.fHeld.getD i 0 ≤ 255 := fun i hi => HM (PD hw (by omega))
     have key : ∀ i t, p.fTables[i]? = some t → _ := fun i t hi => (Pr hp hm hi (hr i (List.getElem?_eq_some_iff.1 hi).1)).1 (by have := Er ht i t hi; rwa [Nat.zero_add] at this)
     exact ⟨hp, hm, hr, fun i t hi hst => ((key i t hi).1 hst).1, fun i t hi hst => ((key i t hi).1 hst).2, fun i t hi hst => (key i t hi).2 hst⟩
theorem Fd {α R : Type} {f : Nat → α → Option R} : ∀ {i : Nat} {xs : List α}, (∀ j x, xs[j]? = some x → f (i + j) x = none) → Da f i xs = none
 | _, [], _ => rfl
 | i, y :: ys, h => by
  rw [FI, show f i y = none from h 0 y rfl]
  exact Fd fun j x hx => by
   have := h (j + 1) x (by simpa using hx)
   rwa [show i + (j + 1) = i + 1 + j from by omega] at this
theorem OI {p : Ad} (hp : Bf p) (hr : ∀ i, i < p.fVersions.length → 0 ≤ p.fNow.getD i 0 ∧ p.fNow.getD i 0 < p.fVersions.getD i 0 ∧ 0 ≤ p.fTarget.getD i 0 ∧ p.fTarget.getD i 0 < p.fVersions.getD i 0) : BQ p = 0 := by
 have := hp.nv
 have := hp.nt
 have := hp.now
 have := hp.tgt
 unfold BQ
 rw [if_neg (by omega), if_neg (by omega)]
 have h1 : Da (Fo p) 0 p.fVersions = none := Fd fun j x hx => by
  have hj := (List.getElem?_eq_some_iff.1 hx).1
  have h1 := hr j hj
  have h2 := Hf hp hj
  have e : p.fVersions.getD j 0 = x := by rw [List.getD_eq_getElem?_getD, hx]; rfl
  rw [e] at h1 h2
  unfold Fo
  rw [Nat.zero_add, if_neg (by omega)]
 have h2 : Da (KV p) 0 p.fTables = none := Fd fun j x hx => by
  unfold KV
  rw [if_pos (hp.tab x (List.mem_of_getElem? hx))]
 rw [h1, h2]; rfl
theorem CK {p : Ad} (h : BQ p = 0) : Bf p ∧ ∀ i, i < p.fVersions.length → 0 ≤ p.fNow.getD i 0 ∧ p.fNow.getD i 0 < p.fVersions.getD i 0 ∧ 0 ≤ p.fTarget.getD i 0 ∧ p.fTarget.getD i 0 < p.fVersions.getD i 0 := by
 have hp : Bf p := by
  rcases GB p with h | h
  ·exact h.2
  ·omega
 refine ⟨hp, fun i hi => ?_⟩
 have h1 := hp.nv
 have h2 := hp.nt
 have h3 := hp.now
 have h4 := hp.tgt
 unfold BQ at h
 rw [if_neg (by omega), if_neg (by omega)] at h
 cases hs : Da (Fo p) 0 p.fVersions with
 | some r =>
  obtain ⟨j, x, _, he⟩ := D0 hs
  rw [hs] at h
  unfold Fo at he
  split at he
  ·cases he; cases h
  ·cases he
 | none =>
  have hx : p.fVersions[i]? = some (p.fVersions.getD i 0) := by rw [List.getD_eq_getElem?_getD]; simp [hi]
  have := Er hs i _ hx
  rw [Nat.zero_add] at this
  unfold Fo at this
  split at this
  ·cases this
  ·rename_i hn; omega
theorem Fw {p : Ad} {m : Af} (hv : BQ p = 0) (hm : BM p m) : EG p m = 0 := by
 obtain ⟨hp, _⟩ := CK hv
 unfold EG
 rw [hv, if_neg (by simp), if_neg (by have := hm.base; have := hm.next; have := hm.held; omega)]
 have h1 : Da (KI m) 0 p.fVersions = none := Fd fun j x hx => by
  have hj := (List.getElem?_eq_some_iff.1 hx).1
  have e : p.fVersions.getD j 0 = x := by rw [List.getD_eq_getElem?_getD, hx]; rfl
  have h1 := hm.b0 j hj
  have h2 := hm.n0 j hj
  have h3 := hm.ne j hj
  rw [e] at h1 h2
  unfold KI
  rw [Nat.zero_add, if_neg (by omega), if_neg h3]
 have h2 : Da (H5 p m) 0 p.fTables = none := Fd fun j x hx => by
  have hj := (List.getElem?_eq_some_iff.1 hx).1
  rw [Nat.zero_add]
  exact (Pr hp hm.toMixServ hx (hm.range j hj)).2 ⟨fun hst => ⟨hm.low j x hx hst, hm.high j x hx hst⟩, fun hst => hm.none j x hx hst⟩
 rw [h1, h2]; rfl
end Go.Lift

/- The conflicts of a mix: both implementations give one answer. -/
namespace Go.Lift
def MU {α : Type} (g : Nat → α → Bool) : Nat → List α → Bool
 | _, [] => false
 | i, x :: xs => g i x || MU g (i + 1) xs
theorem KE {α β : Type} (g : Nat → α → List β) (h : Nat → α → Bool) : ∀ (i : Nat) (xs : List α) (a : List β) (b : Bool),
  Hm (fun i x (s : List β × Bool) => (s.1 ++ g i x, s.2 || h i x)) i xs (a, b) = (a ++ CH g i xs, b || MU h i xs)
 | _, [], a, b => by simp [Hm, CH, MU]
 | i, x :: xs, a, b => by rw [Hm, KE g h, CH, MU, List.append_assoc, Bool.or_assoc]
def gC (i u : Nat) (m : Af) (t : AG) (v : Nat) (ok : Bool) : List Ak :=
 if Hz m t.fTo.toNat v && (!ok && !t.fAware) then [⟨(i : Int), (u : Int), (v : Int)⟩] else []
def hC (m : Af) (t : AG) (v : Nat) (ok : Bool) : Bool := Hz m t.fTo.toNat v && ok
def IX (i : Nat) (m : Af) (t : AG) (u : Nat) (row : List Bool) : List Ak :=
 CH (gC i u m t) 0 row ++ if t.fAware && !MU (hC m t) 0 row then [⟨(i : Int), (u : Int), -1⟩] else []
def RY (m : Af) (i : Nat) (t : AG) (u : Nat) : Bool := if B6 t then Dm (m.fHeld.getD i 0) u else Hz m t.fFrom.toNat u
def I1 (m : Af) (i : Nat) (t : AG) : List Ak := CH (fun u row => if RY m i t u then IX i m t u row else []) 0 t.fOK
def Fu (p : Ad) (m : Af) : List Ak := CH (I1 m) 0 p.fTables
structure MI (p : Ad) (t : AG) : Prop where
 kind : 1 ≤ t.fKind ∧ t.fKind ≤ 4
 aware : t.fAware = true → B6 t = false
 from0 : 0 ≤ t.fFrom ∧ t.fFrom < (p.fVersions.length : Int)
 to0 : 0 ≤ t.fTo ∧ t.fTo < (p.fVersions.length : Int)
 okL : (t.fOK.length : Int) = p.fVersions.getD t.fFrom.toNat 0
 okR : ∀ row, row ∈ t.fOK → (row.length : Int) = p.fVersions.getD t.fTo.toNat 0
 reL : t.fKind = 4 → (t.fRewrite.length : Int) = p.fVersions.getD t.fFrom.toNat 0
 reR : ∀ row, row ∈ t.fRewrite → (row.length : Int) = p.fVersions.getD t.fFrom.toNat 0
 reD : t.fKind = 4 → HG t.fRewrite = none
 reN : t.fKind ≠ 4 → t.fRewrite = []
theorem LH {p : Ad} {t : AG} (h : DO p t = 0) : MI p t := by
 unfold DO at h
 split at h
 ·cases h
 rename_i h1
 split at h
 ·cases h
 rename_i h2
 simp only at h
 split at h
 ·cases h
 rename_i h3
 have h3 : sq t.fOK (p.fVersions.getD t.fFrom.toNat 0) (p.fVersions.getD t.fTo.toNat 0) = true := by simpa using h3
 have h3 := Mu h3
 have ha : t.fAware = true → B6 t = false := by
  intro ha
  unfold B6
  rw [Bool.or_eq_false_iff, beq_eq_false_iff_ne, beq_eq_false_iff_ne]
  exact ⟨fun hk => h1 (.inr (.inr ⟨ha, .inl hk⟩)), fun hk => h1 (.inr (.inr ⟨ha, .inr hk⟩))⟩
 split at h
 ·rename_i h4
  split at h
  ·cases h
  rename_i h5
  have h5 : sq t.fRewrite (p.fVersions.getD t.fFrom.toNat 0) (p.fVersions.getD t.fFrom.toNat 0) = true := by simpa using h5
  have h5 := Mu h5
  refine ⟨by omega, ha, by omega, by omega, h3.1, h3.2, fun _ => h5.1, h5.2, fun _ => ?_, fun h => (h h4).elim⟩
  cases hd : HG t.fRewrite with
  | none => rfl
  | some r =>
   obtain ⟨j, x, _, hx⟩ := D0 hd
   rw [hd] at h
   split at hx
   ·cases hx
   ·cases hx; cases h
 ·rename_i h4
  split at h
  ·rename_i h5
   have h5 := List.eq_nil_of_length_eq_zero h5
   refine ⟨by omega, ha, by omega, by omega, h3.1, h3.2, fun h => (h4 h).elim, fun row hr => ?_, fun h => (h4 h).elim, fun _ => h5⟩
   rw [h5] at hr; cases hr
  ·cases h
theorem JZ {R : Type} (b : Bool) (acc : List Ak) (x : Ak) (j : List Ak → Option R) (h : acc.length + 1 ≤ Dz) :
  A0 b ((Ei (acc.length + ([x] : List Ak).length ≤ Dz)).bind fun _ => j (acc ++ [x])) (j acc) = j (acc ++ if b then [x] else []) := by
 cases b
 ·simp
 ·rw [AN, Az (by simpa using h)]; rfl
theorem Qj (N : Nat) (m : Af) (t : AG) (i u : Nat) (row : List Bool) (R : Int) (b1 b2 acc : List Ak) (j : List Ak × Bool → Option (List Ak))
  (hN : N ≤ 1000000) (h8 : 8 ≤ N) (hrow : row.length ≤ 6) (hacc : acc.length + 6 ≤ Dz) (hR0 : 0 ≤ R) (hR1 : R ≤ 255) (hRb : ∀ v, Dm R v = Hz m t.fTo.toNat v) :
  BT N (b1, (i : Int)) t R (b2, (u : Int)) row j N (acc, false, 0) = j (acc ++ CH (gC i u m t) 0 row, MU (hC m t) 0 row) := by
 have := HC (A := List Ak × Bool) (BT N (b1, (i : Int)) t R (b2, (u : Int)) row j) (fun a k => (a.1, a.2, k)) row (fun a => j a) (fun v ok s => (s.1 ++ gC i u m t v ok, s.2 || hC m t v ok))
  (fun v a => v ≤ row.length ∧ a.1.length ≤ acc.length + v)
  (fun n v ok a hx ha => by
   have hv := (List.getElem?_eq_some_iff.1 hx).1
   obtain ⟨c, f⟩ := a
   simp only at ha
   refine ⟨?_, by omega, ?_⟩
   ·rw [BT]
    simp only [Bb]
    rw [AL (by omega), A3, hx]
    simp only [Option.bind_some]
    rw [Az (by omega), PM hR0 hR1 (by omega), hRb, AM (by omega), JZ _ _ _ (fun l => BT N (b1, (i : Int)) t R (b2, (u : Int)) row j n (l, true, ((v + 1 : Nat) : Int))) (by omega)]
    unfold gC hC
    rw [JZ _ _ _ (fun l => BT N (b1, (i : Int)) t R (b2, (u : Int)) row j n (l, ok, ((v + 1 : Nat) : Int))) (by omega)]
    cases Hz m t.fTo.toNat v
    ·simp
    ·cases ok <;> cases f <;> cases t.fAware <;> simp
   ·simp only [gC, List.length_append]
    split <;> simp <;> omega)
  (fun n a _ => by
   rw [BT]
   simp only [Bb]
   rw [AH (by omega)]) N 0 (acc, false) (by omega) (by omega) ⟨by omega, by simp⟩
 have h2 := this.1
 rw [List.drop_zero, KE, Bool.false_or] at h2
 exact h2
end Go.Lift

/- The conflicts of a mix: both implementations give one answer. -/
namespace Go.Lift
theorem Ms {p : Ad} {t : AG} (hp : Bf p) (ht : MI p t) : t.fOK.length ≤ 6 ∧ ∀ row, row ∈ t.fOK → row.length ≤ 6 := by
 have h1 := Jn hp.ver ht.from0.1 ht.from0.2
 have h2 := Jn hp.ver ht.to0.1 ht.to0.2
 have h3 := ht.okL
 exact ⟨by omega, fun row hr => by have := ht.okR row hr; omega⟩
theorem QL (i u : Nat) (m : Af) (t : AG) (v : Nat) (ok : Bool) : (gC i u m t v ok).length ≤ 1 := by
 unfold gC; split <;> simp
theorem Q7 (i : Nat) (m : Af) (t : AG) (u : Nat) (row : List Bool) (h : row.length ≤ 6) : (IX i m t u row).length ≤ 7 := by
 unfold IX
 rw [List.length_append]
 have := Fn (g := gC i u m t) (c := 1) (i := 0) (xs := row) (fun j x _ => QL _ _ _ _ _ _)
 split <;> simp <;> omega
theorem QO (i : Nat) (m : Af) (t : AG) (u : Nat) (row : List Bool) (h : row.length ≤ 6) : (if RY m i t u = true then IX i m t u row else []).length ≤ 7 := by
 have := Q7 i m t u row h
 split <;> simp <;> omega
theorem L7 {p : Ad} {t : AG} (hp : Bf p) (ht : MI p t) (i : Nat) (m : Af) : (I1 m i t).length ≤ 42 := by
 have h1 := Ms hp ht
 have := Fn (g := fun u row => if RY m i t u = true then IX i m t u row else []) (c := 7) (i := 0) (xs := t.fOK) (fun j x hx => QO i m t _ x (h1.2 x (List.mem_of_getElem? hx)))
 unfold I1
 omega
theorem Ly (N : Nat) (p : Ad) (m : Af) (t : AG) (i : Nat) (W R : Int) (b1 acc : List Ak) (j : List Ak → Option (List Ak))
  (hN : N ≤ 1000000) (h8 : 8 ≤ N) (hp : Bf p) (ht : MI p t) (hacc : acc.length + 42 ≤ 10000) (hR0 : 0 ≤ R) (hR1 : R ≤ 255) (hRb : ∀ v, Dm R v = Hz m t.fTo.toNat v) (hW0 : 0 ≤ W) (hW1 : W ≤ 255) (hWb : ∀ v, Dm W v = RY m i t v) :
  Ce N (b1, (i : Int)) t R W j N (acc, 0) = j (acc ++ I1 m i t) := by
 have hl := Ms hp ht
 exact FL (Ce N (b1, (i : Int)) t R W j) (fun a k => (a, k)) t.fOK j (fun u row => if RY m i t u then IX i m t u row else []) 7 10000
  (fun u row hx => QO i m t u row (hl.2 row (List.mem_of_getElem? hx)))
  (fun n u row a hx ha => by
   have hu := (List.getElem?_eq_some_iff.1 hx).1
   have hrow := hl.2 row (List.mem_of_getElem? hx)
   rw [Ce]
   simp only [Bb]
   rw [AL (by omega), Az (by omega), PM hW0 hW1 (by omega), hWb, A3, hx]
   simp only [Option.bind_some]
   rw [Qj N m t i u row R b1 a a _ hN h8 hrow (by unfold Dz; omega) hR0 hR1 hRb, AM (by omega)]
   cases hw : RY m i t u
   ·simp
   ·simp only [Bool.not_true, Av, if_true, IX]
    have h1 := Fn (g := gC i u m t) (c := 1) (i := 0) (xs := row) (fun j x _ => QL _ _ _ _ _ _)
    have := JZ (R := List Ak) (t.fAware && !MU (hC m t) 0 row) (a ++ CH (gC i u m t) 0 row) ⟨(i : Int), (u : Int), -1⟩ (fun l => Ce N (b1, (i : Int)) t R W j n (l, ((u + 1 : Nat) : Int))) (by rw [List.length_append]; unfold Dz; rw [hw, if_pos rfl] at ha; omega)
    rw [← List.append_assoc, ← this]
    cases t.fAware <;> cases MU (hC m t) 0 row <;> rfl)
  (fun n a => by
   rw [Ce]
   simp only [Bb]
   rw [AH (by omega)]) N acc (by omega) (by omega)
theorem Qy (N : Nat) (p : Ad) (m : Af) (t : AG) (i u : Nat) (row : List Bool) (b1 b2 acc : List Ak) (j : List Ak × Bool → Option (List Ak))
  (hN : N ≤ 1000000) (h8 : 8 ≤ N) (hp : Bf p) (hm : MixServ p m) (ht : MI p t) (hu : t.fOK[u]? = some row) (hacc : acc.length + 6 ≤ Dz) :
  Bl N p m (b1, (i : Int)) t (b2, (u : Int)) j N (acc, false, 0) = j (acc ++ CH (gC i u m t) 0 row, MU (hC m t) 0 row) := by
 have hrow := (Ms hp ht).2 row (List.mem_of_getElem? hu)
 have hR := Hb hp hm (s := t.fTo.toNat) (by have := ht.to0; omega)
 have hlen := ht.okR row (List.mem_of_getElem? hu)
 have hto := ht.to0
 have := HC (A := List Ak × Bool) (Bl N p m (b1, (i : Int)) t (b2, (u : Int)) j) (fun a k => (a.1, a.2, k)) row (fun a => j a) (fun v ok s => (s.1 ++ gC i u m t v ok, s.2 || hC m t v ok))
  (fun v a => v ≤ row.length ∧ a.1.length ≤ acc.length + v)
  (fun n v ok a hx ha => by
   have hv := (List.getElem?_eq_some_iff.1 hx).1
   obtain ⟨c, f⟩ := a
   simp only at ha
   refine ⟨?_, by omega, ?_⟩
   ·rw [Bl]
    simp only [Bb]
    rw [Eo (d := 0) hto.1 hto.2, IV N m t.fTo hto.1 (by rw [hm.base]; exact hto.2) (by rw [hm.next]; exact hto.2) (hm.b0 _ (by omega)).1, A3, hu]
    simp only [Option.bind_some]
    unfold Cj
    rw [AL (by omega), A3, hx, Az (by omega), Qc hR.2.1 hR.2.2 (by omega), hR.1]
    simp only [Option.bind_some]
    rw [AM (by omega), JZ _ _ _ (fun l => Bl N p m (b1, (i : Int)) t (b2, (u : Int)) j n (l, true, ((v + 1 : Nat) : Int))) (by omega)]
    unfold gC hC
    rw [JZ _ _ _ (fun l => Bl N p m (b1, (i : Int)) t (b2, (u : Int)) j n (l, ok, ((v + 1 : Nat) : Int))) (by omega)]
    cases Hz m t.fTo.toNat v
    ·simp
    ·cases ok <;> cases f <;> cases t.fAware <;> simp
   ·simp only [gC, List.length_append]
    split <;> simp <;> omega)
  (fun n a _ => by
   rw [Bl]
   simp only [Bb]
   rw [Eo (d := 0) hto.1 hto.2]
   simp only [Option.bind_some]
   rw [AH (by omega)]) N 0 (acc, false) (by omega) (by omega) ⟨by omega, by simp⟩
 have h2 := this.1
 rw [List.drop_zero, KE, Bool.false_or] at h2
 exact h2
theorem Lg (N : Nat) (p : Ad) (m : Af) (t : AG) (i : Nat) (W : Int) (b1 acc : List Ak) (j : List Ak → Option (List Ak))
  (hN : N ≤ 1000000) (h8 : 8 ≤ N) (hp : Bf p) (hm : MixServ p m) (ht : MI p t) (hacc : acc.length + 42 ≤ 10000) (hW0 : 0 ≤ W) (hW1 : W ≤ 255) (hWb : ∀ v, Dm W v = RY m i t v) :
  BA N p m (b1, (i : Int)) t W j N (acc, 0) = j (acc ++ I1 m i t) := by
 have hl := Ms hp ht
 have hfr := ht.from0
 have hok := ht.okL
 exact FL (BA N p m (b1, (i : Int)) t W j) (fun a k => (a, k)) t.fOK j (fun u row => if RY m i t u then IX i m t u row else []) 7 10000
  (fun u row hx => QO i m t u row (hl.2 row (List.mem_of_getElem? hx)))
  (fun n u row a hx ha => by
   have hu := (List.getElem?_eq_some_iff.1 hx).1
   have hrow := hl.2 row (List.mem_of_getElem? hx)
   rw [BA]
   simp only [Bb]
   rw [Eo (d := 0) hfr.1 hfr.2]
   simp only [Option.bind_some]
   unfold Cj
   rw [AL (by omega), Az (by omega), Qc hW0 hW1 (by omega), hWb]
   simp only [Option.bind_some]
   rw [Qy N p m t i u row b1 a a _ hN h8 hp hm ht hx (by unfold Dz; omega), AM (by omega)]
   cases hw : RY m i t u
   ·simp
   ·simp only [Bool.not_true, Av, if_true, IX]
    have h1 := Fn (g := gC i u m t) (c := 1) (i := 0) (xs := row) (fun j x _ => QL _ _ _ _ _ _)
    have := JZ (R := List Ak) (t.fAware && !MU (hC m t) 0 row) (a ++ CH (gC i u m t) 0 row) ⟨(i : Int), (u : Int), -1⟩ (fun l => BA N p m (b1, (i : Int)) t W j n (l, ((u + 1 : Nat) : Int))) (by rw [List.length_append]; unfold Dz; rw [hw, if_pos rfl] at ha; omega)
    rw [← List.append_assoc, ← this]
    cases t.fAware <;> cases MU (hC m t) 0 row <;> rfl)
  (fun n a => by
   rw [BA]
   simp only [Bb]
   rw [Eo (d := 0) hfr.1 hfr.2]
   simp only [Option.bind_some]
   rw [AH (by omega)]) N acc (by omega) (by omega)
theorem LG (N : Nat) (p : Ad) (m : Af) (hN : N ≤ 1000000) (h20 : 20 ≤ N) (hp : Bf p) (hm : BM p m) : E2 N p m = some (Fu p m) := by
 unfold E2
 have hnt := hp.nt
 rw [FL (C4 N p m _) (fun a k => (a, k)) p.fTables some (I1 m) 42 9000
  (fun i t hx => L7 hp (LH (hp.tab t (List.mem_of_getElem? hx))) i m)
  (fun n i t a hx ha => by
   have hi := (List.getElem?_eq_some_iff.1 hx).1
   have ht := LH (hp.tab t (List.mem_of_getElem? hx))
   have hto := ht.to0
   have hfr := ht.from0
   have hR := Hb hp hm.toMixServ (s := t.fTo.toNat) (by omega)
   have hF := Hb hp hm.toMixServ (s := t.fFrom.toNat) (by omega)
   have hH := hm.range i hi
   rw [C4]
   simp only [Bb]
   rw [AL (by omega), A3, hx]
   simp only [Option.bind_some, Iv]
   rw [Ku N m t.fFrom hfr.1 (by rw [hm.base]; exact hfr.2) (by rw [hm.next]; exact hfr.2) (hm.b0 _ (by omega)).1, Ku N m t.fTo hto.1 (by rw [hm.base]; exact hto.2) (by rw [hm.next]; exact hto.2) (hm.b0 _ (by omega)).1, CQ (d := 0) (by rw [hm.held]; exact hi), AM (by omega)]
   simp only [Option.bind_some]
   cases hs : B6 t
   ·rw [Av, Ly N p m t i _ _ a a _ hN (by omega) hp ht (by omega) hR.2.1 hR.2.2 hR.1 hF.2.1 hF.2.2 (fun v => by unfold RY; rw [hs, hF.1]; rfl)]
   ·rw [AN, Ly N p m t i _ _ a a _ hN (by omega) hp ht (by omega) hR.2.1 hR.2.2 hR.1 hH.1 hH.2 (fun v => by unfold RY; rw [hs]; rfl)])
  (fun n a => by
   rw [C4]
   simp only [Bb]
   rw [AH (by omega)]) N [] (by omega) (by simp; omega)]
 rfl
theorem IG (N : Nat) (p : Ad) (m : Af) (hN : N ≤ 1000000) (h20 : 20 ≤ N) (hp : Bf p) (hm : BM p m) : Dr N p m = some (Fu p m) := by
 unfold Dr
 have hnt := hp.nt
 rw [FL (Cr N p m _) (fun a k => (a, k)) p.fTables some (I1 m) 42 9000
  (fun i t hx => L7 hp (LH (hp.tab t (List.mem_of_getElem? hx))) i m)
  (fun n i t a hx ha => by
   have hi := (List.getElem?_eq_some_iff.1 hx).1
   have ht := LH (hp.tab t (List.mem_of_getElem? hx))
   have hto := ht.to0
   have hfr := ht.from0
   have hF := Hb hp hm.toMixServ (s := t.fFrom.toNat) (by omega)
   have hH := hm.range i hi
   rw [Cr]
   simp only [Bb]
   rw [AL (by omega), A3, hx]
   simp only [Option.bind_some, F2]
   rw [IV N m t.fFrom hfr.1 (by rw [hm.base]; exact hfr.2) (by rw [hm.next]; exact hfr.2) (hm.b0 _ (by omega)).1, CQ (d := 0) (by rw [hm.held]; exact hi), AM (by omega)]
   simp only [Option.bind_some]
   cases hs : B6 t
   ·rw [Av, Lg N p m t i _ a a _ hN (by omega) hp hm.toMixServ ht (by omega) hF.2.1 hF.2.2 (fun v => by unfold RY; rw [hs, hF.1]; rfl)]
   ·rw [AN, Lg N p m t i _ a a _ hN (by omega) hp hm.toMixServ ht (by omega) hH.1 hH.2 (fun v => by unfold RY; rw [hs]; rfl)])
  (fun n a => by
   rw [Cr]
   simp only [Bb]
   rw [AH (by omega)]) N [] (by omega) (by simp; omega)]
 rfl
end Go.Lift

/- The drafts: what the recipes give is a valid problem and a valid mix. -/
namespace Go.Lift
theorem Ey {A S R : Type} (L : Nat → S → Option R) (mk : A → Int → S) (len : Nat) (j : A → Option R) (I : Nat → A → Prop)
  (hs : ∀ (n i : Nat) (a : A), i < len → I i a → ∃ a', L (n + 1) (mk a (i : Int)) = L n (mk a' ((i + 1 : Nat) : Int)) ∧ I (i + 1) a')
  (he : ∀ (n : Nat) (a : A), I len a → L (n + 1) (mk a (len : Int)) = j a) :
  ∀ (n i : Nat) (a : A), i ≤ len → len - i < n → I i a → ∃ a', L n (mk a (i : Int)) = j a' ∧ I len a'
 | 0, i, _, _, h, _ => by omega
 | n + 1, i, a, hi, h, ha => by
  by_cases h1 : i < len
  ·obtain ⟨a', e1, e2⟩ := hs n i a h1 ha
   rw [e1]
   exact Ey L mk len j I hs he n (i + 1) _ (by omega) (by omega) e2
  ·have : i = len := by omega
   subst this
   exact ⟨a, he n a ha, ha⟩
theorem Il {α : Type} {xs ys : List α} {i : Nat} {d : α} (h : i < xs.length) : (xs ++ ys).getD i d = xs.getD i d := by
 rw [List.getD_eq_getElem?_getD, List.getD_eq_getElem?_getD, List.getElem?_append_left h]
theorem H7 {α : Type} {xs : List α} {y : α} {i : Nat} {d : α} (h : i = xs.length) : (xs ++ [y]).getD i d = y := by
 subst h; rw [List.getD_eq_getElem?_getD, List.getElem?_append_right (Nat.le_refl _)]; simp
theorem ME {α : Type} {P : Nat → α → Prop} {xs : List α} {y : α} {d : α} {n : Nat} (hn : xs.length = n) (h : ∀ k, k < n → P k (xs.getD k d)) (hy : P n y) : ∀ k, k < n + 1 → P k ((xs ++ [y]).getD k d) := by
 intro k hk
 by_cases h1 : k < n
 ·rw [Il (by omega)]; exact h k h1
 ·have : k = n := by omega
  subst this
  rw [H7 hn.symm]; exact hy
theorem Rx {l : List Int} (hw : LE J3 l) (i : Nat) : 0 ≤ l.getD i 0 ∧ l.getD i 0 ≤ 255 := by
 by_cases h : i < l.length
 ·have : l.getD i 0 ∈ l := by rw [List.getD_eq_getElem?_getD, List.getElem?_eq_getElem h]; exact List.getElem_mem _
  exact HM (hw _ this)
 ·rw [List.getD_eq_getElem?_getD, List.getElem?_eq_none (by omega)]
  exact ⟨by decide, by decide⟩
theorem N8 (N : Nat) {l : List Int} (hw : LE J3 l) (i : Nat) : DI N l (i : Int) = some (l.getD i 0) := by
 unfold DI
 have h2 := Rx hw i
 by_cases h : i < l.length
 ·rw [AL (by omega), CQ (d := 0) h]
  simp only [Option.bind_some]
  rw [CJ (by omega) (by omega)]
 ·rw [AH (by omega), List.getD_eq_getElem?_getD, List.getElem?_eq_none (by omega)]; rfl
theorem GP {a n : Int} (ha : 0 ≤ a) (hn : 0 < n) : 0 ≤ Int.tmod a n ∧ Int.tmod a n < n := ⟨Int.tmod_nonneg n ha, Int.tmod_lt_of_pos a hn⟩
end Go.Lift

/- The drafts of problems: what the recipe gives is a valid problem. -/
namespace Go.Lift
theorem Vi {l : List (List Bool)} {n m : Int} (h1 : (l.length : Int) = n) (h2 : ∀ row, row ∈ l → (row.length : Int) = m) : sq l n m = true := by
 unfold sq
 simp only [Bool.and_eq_true, decide_eq_true_eq, List.all_eq_true]
 exact ⟨h1, h2⟩
theorem VY {p : Ad} {t : AG} (h : MI p t) : DO p t = 0 := by
 have hk := h.kind
 have hf := h.from0
 have ht := h.to0
 unfold DO
 rw [if_neg, if_neg (by omega)]
 ·simp only [Vi h.okL h.okR]
  rw [if_neg (by simp)]
  by_cases h4 : t.fKind = 4
  ·rw [if_pos h4, Vi (h.reL h4) h.reR, if_neg (by simp), h.reD h4]; rfl
  ·rw [if_neg h4, h.reN h4]; rfl
 ·rintro (h1 | h1 | ⟨h1, h2⟩)
  ·omega
  ·omega
  ·have := h.aware h1
   unfold B6 at this
   rw [Bool.or_eq_false_iff, beq_eq_false_iff_ne, beq_eq_false_iff_ne] at this
   omega
theorem SN (N : Nat) (m bad : Int) (diag : Bool) (i : Nat) (acc : List (List Bool)) {R : Type} (j : List Bool → Option (List (List Bool))) (hN : N ≤ 1000000) (h20 : 20 ≤ N) (hm : 0 ≤ m ∧ m ≤ 6) (hi : i < 6) :
  ∃ row, Cf N m bad diag (acc, (i : Int)) j N ([], 0) = j row ∧ (row.length : Int) = m ∧ (diag = true → (i : Int) < m → row.getD i false = true) := by
 obtain ⟨M, rfl⟩ := Int.eq_ofNat_of_zero_le hm.1
 obtain ⟨row, e, h1, h2⟩ := Ey (A := List Bool) (Cf N (M : Int) bad diag (acc, (i : Int)) j) (fun a k => (a, k)) M j
  (fun k a => a.length = k ∧ ∀ q, q < k → diag = true → q = i → a.getD q false = true)
  (fun n k a hk ha => by
   refine ⟨a ++ [(diag && decide (i = k)) || (Int.tmod (E6 .u16 bad ((3 * i + k : Nat) : Int)) 2 == 0)], ?_, by simp [ha.1], ME (P := fun q y => diag = true → q = i → y = true) ha.1 ha.2 (fun h1 h2 => by simp [h1, h2])⟩
   rw [Cf]
   simp only [Bb]
   rw [AL (by omega), AM (by omega), CJ (n := 3 * (i : Int)) (by omega) (by omega), CJ (n := 3 * (i : Int) + (k : Int)) (by omega) (by omega)]
   have l1 : ∀ y : Bool, a.length + ([y] : List Bool).length ≤ Dz := by intro y; rw [ha.1]; unfold Dz; simp; omega
   simp only [Az (l1 _), Az (show (0 : Int) ≤ 3 * (i : Int) + (k : Int) by omega)]
   have e1 : ((3 * i + k : Nat) : Int) = 3 * (i : Int) + (k : Int) := by omega
   rw [e1]
   have e2 : (((i : Nat) : Int) == ((k : Nat) : Int)) = decide (i = k) := by
    by_cases h : i = k
    ·simp [h]
    ·rw [decide_eq_false h]; exact beq_eq_false_iff_ne.2 (by omega)
   rw [e2]
   cases diag <;> cases decide (i = k) <;> rfl)
  (fun n a _ => by
   rw [Cf]
   simp only [Bb]
   rw [AH (by omega)]) N 0 [] (Nat.zero_le _) (by omega) ⟨rfl, fun q hq => by omega⟩
 exact ⟨row, e, by omega, fun hd hlt => h2 i (by omega) hd rfl⟩
theorem Re (N : Nat) (n m bad : Int) (diag : Bool) (hN : N ≤ 1000000) (h20 : 20 ≤ N) (hn : 0 ≤ n ∧ n ≤ 6) (hm : 0 ≤ m ∧ m ≤ 6) :
  ∃ l, DF N n m bad diag = some l ∧ (l.length : Int) = n ∧ (∀ row, row ∈ l → (row.length : Int) = m) ∧ (diag = true → n = m → HG l = none) := by
 obtain ⟨M, rfl⟩ := Int.eq_ofNat_of_zero_le hn.1
 unfold DF
 obtain ⟨l, e, h1, h2⟩ := Ey (A := List (List Bool)) (Ca N (M : Int) m bad diag (fun v => some v)) (fun a k => (a, k)) M some
  (fun k a => a.length = k ∧ ∀ q, q < k → (((a.getD q []).length : Nat) : Int) = m ∧ (diag = true → (q : Int) < m → (a.getD q []).getD q false = true))
  (fun n k a hk ha => by
   obtain ⟨row, e, h1, h2⟩ := SN (R := Unit) N m bad diag k a (fun (v5 : List Bool) =>
    (Ei (a.length + (([v5] : List (List Bool))).length ≤ Dz)).bind fun _ =>
    Ca N (M : Int) m bad diag (fun v => some v) n (a ++ (([v5] : List (List Bool))), (IntKind.wrap .i64 ((k : Int) + 1)))) hN h20 hm (by omega)
   refine ⟨a ++ [row], ?_, by simp [ha.1], ME (P := fun q y => ((y.length : Nat) : Int) = m ∧ (diag = true → (q : Int) < m → y.getD q false = true)) ha.1 ha.2 ⟨h1, h2⟩⟩
   rw [Ca]
   simp only [Bb]
   rw [AL (by omega), e, Az (by rw [ha.1]; unfold Dz; simp; omega), AM (by omega)])
  (fun n a _ => by
   rw [Ca]
   simp only [Bb]
   rw [AH (by omega)]) N 0 [] (Nat.zero_le _) (by omega) ⟨rfl, fun q hq => by omega⟩
 have key : ∀ q row, l[q]? = some row → l.getD q [] = row := fun q row hq => by rw [List.getD_eq_getElem?_getD, hq]; rfl
 refine ⟨l, e, by omega, fun row hr => ?_, fun hd hnm => ?_⟩
 ·obtain ⟨q, hq⟩ := List.mem_iff_getElem?.1 hr
  have := (h2 q (by have := (List.getElem?_eq_some_iff.1 hq).1; omega)).1
  rwa [key q row hq] at this
 ·unfold HG
  refine Fd fun q row hq => ?_
  have hlt := (List.getElem?_eq_some_iff.1 hq).1
  have := (h2 q (by omega)).2 hd (by omega)
  rw [key q row hq] at this
  rw [Nat.zero_add, this]; rfl
structure Ti (p : Ad) : Prop where
 valid : BQ p = 0
 nv : p.fVersions.length ≤ 3
 nt : p.fTables.length ≤ 4
 v3 : ∀ v, v ∈ p.fVersions → v ≤ 3
theorem RM {p q : Ad} (h : p.fVersions = q.fVersions) (t : AG) : DO p t = DO q t := by
 unfold DO; rw [h]
theorem XN (N : Nat) (d : BG) (hN : N ≤ 1000000) (h20 : 20 ≤ N) (hw : EL d) : ∃ p ok, EQ N d = some (p, ok) ∧ (ok = true → Ti p) := by
 obtain ⟨w1, w2, w3, w4, _⟩ := hw
 unfold EQ
 simp only [Bb]
 by_cases k1 : 3 < d.fVersions.length
 ·rw [AL (by omega)]; exact ⟨_, false, rfl, fun h => by cases h⟩
 by_cases k2 : 4 < d.fLinks.length
 ·rw [AH (by omega), decide_eq_true (by omega : (4 : Int) < (d.fLinks.length : Int))]; exact ⟨_, false, rfl, fun h => by cases h⟩
 rw [AH (by omega), decide_eq_false (by omega : ¬ (4 : Int) < (d.fLinks.length : Int)), Av]
 obtain ⟨⟨vs, ns, ts⟩, e, h1, h2, h3, h4⟩ := Ey (A := List Int × List Int × List Int) (Cx N d fun v5 => Bw N d v5 (fun v16 => some (Ad.mk v5.1 v5.2.1 v5.2.2 v16, true)) N ([], 0)) (fun a k => (a.1, a.2.1, a.2.2, k)) d.fVersions.length
  (fun v5 => Bw N d v5 (fun v16 => some (Ad.mk v5.1 v5.2.1 v5.2.2 v16, true)) N ([], 0))
  (fun i a => a.1.length = i ∧ a.2.1.length = i ∧ a.2.2.length = i ∧ (∀ k, k < i → (1 ≤ a.1.getD k 0 ∧ a.1.getD k 0 ≤ 3) ∧ (0 ≤ a.2.1.getD k 0 ∧ a.2.1.getD k 0 < a.1.getD k 0) ∧ (0 ≤ a.2.2.getD k 0 ∧ a.2.2.getD k 0 < a.1.getD k 0)))
  (fun n i a hi ha => by
   obtain ⟨vs, ns, ts⟩ := a
   obtain ⟨h1, h2, h3, h4⟩ := ha
   simp only at h1 h2 h3 h4
   have hv := Rx w1 i
   have hb := Rx w2 i
   have hk := Rx w3 i
   have hm := GP (n := 3) hv.1 (by omega)
   obtain ⟨v, hvd⟩ : ∃ v, v = 1 + Int.tmod (d.fVersions.getD i 0) 3 := ⟨_, rfl⟩
   have m1 := GP (n := v) hb.1 (by omega)
   have m2 := GP (n := v) hk.1 (by omega)
   refine ⟨(vs ++ [v], ns ++ [Int.tmod (d.fNow.getD i 0) v], ts ++ [Int.tmod (d.fTarget.getD i 0) v]), ?_, by simp [h1], by simp [h2], by simp [h3], ?_⟩
   ·rw [Cx]
    simp only [Bb]
    rw [AL (by omega), CQ (d := 0) hi, N8 N w2, N8 N w3]
    simp only [Option.bind_some]
    rw [CJ (n := Int.tmod _ _) (by omega) (by omega), CJ (n := 1 + _) (by omega) (by omega), ← hvd, AM (by omega)]
    have l1 : ∀ y : Int, vs.length + ([y] : List Int).length ≤ Dz := by intro y; rw [h1]; unfold Dz; simp; omega
    have l2 : ∀ y : Int, ns.length + ([y] : List Int).length ≤ Dz := by intro y; rw [h2]; unfold Dz; simp; omega
    have l3 : ∀ y : Int, ts.length + ([y] : List Int).length ≤ Dz := by intro y; rw [h3]; unfold Dz; simp; omega
    simp only [Az (l1 _), Az (l2 _), Az (l3 _), Az (show v ≠ 0 by omega)]
   ·intro k hk
    simp only
    by_cases hki : k < i
    ·rw [Il (by omega), Il (by omega), Il (by omega)]; exact h4 k hki
    ·have : k = i := by omega
     subst this
     rw [H7 h1.symm, H7 h2.symm, H7 h3.symm]
     omega)
  (fun n a _ => by
   rw [Cx]
   simp only [Bb]
   rw [AH (by omega)]) N 0 ([], [], []) (Nat.zero_le _) (by omega) ⟨rfl, rfl, rfl, fun k hk => by omega⟩
 simp only at h1 h2 h3 h4
 have e' : Cx N d (fun v5 => Bw N d v5 (fun v16 => some (Ad.mk v5.1 v5.2.1 v5.2.2 v16, true)) N ([], 0)) N ([], [], [], 0) = _ := e
 rw [e']
 have hvs : ∀ v, v ∈ vs → 1 ≤ v ∧ v ≤ 3 := by
  intro v hv
  obtain ⟨q, hq⟩ := List.mem_iff_getElem?.1 hv
  have := (h4 q (by have := (List.getElem?_eq_some_iff.1 hq).1; omega)).1
  rwa [List.getD_eq_getElem?_getD, hq] at this
 have fin : ∀ tabs : List AG, tabs.length ≤ 4 → (∀ t, t ∈ tabs → DO ⟨vs, ns, ts, []⟩ t = 0) → Ti ⟨vs, ns, ts, tabs⟩ := by
  intro tabs ht h
  have hp : Bf ⟨vs, ns, ts, tabs⟩ := ⟨show vs.length ≤ 6 by omega, show tabs.length ≤ 12 by omega, show ns.length = vs.length by omega, show ts.length = vs.length by omega, fun v hv => by have := hvs v hv; omega, fun t ht => by rw [← h t ht]; exact RM rfl t⟩
  exact ⟨OI hp fun i hi => by have := h4 i (by have : i < vs.length := hi; omega); simp only; omega, show vs.length ≤ 3 by omega, ht, fun v hv => (hvs v hv).2⟩
 by_cases k3 : vs.length = 0
 ·refine ⟨_, true, ?_, fun _ => fin [] (by simp) (fun t ht => by cases ht)⟩
  obtain ⟨M, rfl⟩ : ∃ M, N = M + 1 := ⟨N - 1, by omega⟩
  rw [Bw]
  simp only [Bb]
  rw [k3]
  by_cases k4 : (0 : Int) < (d.fLinks.length : Int)
  ·rw [AL k4]; rfl
  ·rw [AH k4]; rfl
 obtain ⟨tabs, e2, g1, g2⟩ := Ey (A := List AG) (Bw N d (vs, ns, ts) (fun v16 => some (Ad.mk vs ns ts v16, true))) (fun a k => (a, k)) d.fLinks.length (fun v16 => some (Ad.mk vs ns ts v16, true))
  (fun i a => a.length = i ∧ ∀ t, t ∈ a → DO ⟨vs, ns, ts, []⟩ t = 0)
  (fun n i a hi ha => by
   have hx : d.fLinks[i]? = some d.fLinks[i] := by simp [hi]
   generalize d.fLinks[i] = l at hx
   obtain ⟨u1, u2, u3, _, u5, u6, _⟩ := w4 l (List.mem_of_getElem? hx)
   have u1 := HM u1
   have u2 := HM u2
   have u3 := HM u3
   have mk := GP (n := 4) u1.1 (by omega)
   have hL : (0 : Int) < (vs.length : Int) := by omega
   have mf := GP (n := (vs.length : Int)) u2.1 hL
   have mt := GP (n := (vs.length : Int)) u3.1 hL
   rw [Bw]
   simp only [Bb]
   rw [AL (by omega), decide_eq_true hL, AN, A3, hx]
   simp only [Option.bind_some]
   rw [Az (by omega), Az (by omega), CJ (n := l.fFrom) (by omega) (by omega), CJ (n := l.fTo) (by omega) (by omega), CJ (n := Int.tmod l.fKind 4) (by omega) (by omega), CJ (n := 1 + _) (by omega) (by omega), AM (by omega)]
   simp only [LW, Option.bind_some]
   rw [Eo (d := 0) mf.1 mf.2, Eo (d := 0) mt.1 mt.2]
   simp only [Option.bind_some]
   have hA : ∀ q : Int, 0 ≤ q → q < (vs.length : Int) → 1 ≤ vs.getD q.toNat 0 ∧ vs.getD q.toNat 0 ≤ 3 := fun q h0 h1 => (h4 q.toNat (by omega)).1
   have hf := hA _ mf.1 mf.2
   have ht := hA _ mt.1 mt.2
   obtain ⟨A, eA, a1, a2, _⟩ := Re N (vs.getD (Int.tmod l.fFrom (vs.length : Int)).toNat 0) (vs.getD (Int.tmod l.fTo (vs.length : Int)).toNat 0) l.fBad false hN h20 (by omega) (by omega)
   obtain ⟨B, eB, b1, b2, b3⟩ := Re N (vs.getD (Int.tmod l.fFrom (vs.length : Int)).toNat 0) (vs.getD (Int.tmod l.fFrom (vs.length : Int)).toNat 0) l.fLost true hN h20 (by omega) (by omega)
   rw [eA, eB]
   simp only [Option.bind_some]
   have l1 : ∀ y : AG, a.length + ([y] : List AG).length ≤ Dz := by intro y; rw [ha.1]; unfold Dz; simp; omega
   simp only [Az (l1 _)]
   obtain ⟨kd, hkd⟩ : ∃ kd, kd = 1 + Int.tmod l.fKind 4 := ⟨_, rfl⟩
   rw [← hkd]
   have fin2 : ∀ (aw : Bool) (re : List (List Bool)), (aw = true → (kd == 3 || kd == 4) = false) → ((kd = 4 → re = B) ∧ (kd ≠ 4 → re = [])) →
     DO ⟨vs, ns, ts, []⟩ (AG.mk kd (Int.tmod l.fFrom (vs.length : Int)) (Int.tmod l.fTo (vs.length : Int)) aw A re) = 0 := by
    intro aw re haw hre
    refine VY ⟨show 1 ≤ kd ∧ kd ≤ 4 by omega, haw, mf, mt, a1, a2, fun h => by rw [hre.1 h]; exact b1, fun row hr => ?_, fun h => by rw [hre.1 h]; exact b3 rfl rfl, fun h => hre.2 h⟩
    by_cases h4 : kd = 4
    ·simp only at hr; rw [hre.1 h4] at hr; exact b2 row hr
    ·simp only at hr; rw [hre.2 h4] at hr; cases hr
   have app : ∀ t, DO ⟨vs, ns, ts, []⟩ t = 0 → (a ++ [t]).length = i + 1 ∧ ∀ t', t' ∈ a ++ [t] → DO ⟨vs, ns, ts, []⟩ t' = 0 := by
    intro t ht
    refine ⟨by simp [ha.1], fun t' ht' => ?_⟩
    rcases List.mem_append.1 ht' with h | h
    ·exact ha.2 t' h
    ·rw [List.mem_singleton.1 h]; exact ht
   by_cases h4 : kd = 4
   ·have e4 : (kd == 4) = true := beq_iff_eq.2 h4
    have hre : (kd = 4 → B = B) ∧ (kd ≠ 4 → B = []) := ⟨fun _ => rfl, fun h => (h h4).elim⟩
    rw [e4]
    simp only [AN, Bool.or_true, Bool.not_true]
    cases l.fAware
    ·exact ⟨_, rfl, app _ (fin2 false B (fun h => by cases h) hre)⟩
    ·exact ⟨_, rfl, app _ (fin2 false B (fun h => by cases h) hre)⟩
   ·have e4 : (kd == 4) = false := beq_eq_false_iff_ne.2 h4
    have hre : (kd = 4 → ([] : List (List Bool)) = B) ∧ (kd ≠ 4 → ([] : List (List Bool)) = []) := ⟨fun h => (h4 h).elim, fun _ => rfl⟩
    rw [e4]
    simp only [Av, Bool.or_false]
    cases l.fAware
    ·exact ⟨_, rfl, app _ (fin2 false [] (fun h => by cases h) hre)⟩
    ·cases e3 : kd == 3
     ·exact ⟨_, rfl, app _ (fin2 true [] (fun _ => by rw [e3, e4]; rfl) hre)⟩
     ·exact ⟨_, rfl, app _ (fin2 false [] (fun h => by cases h) hre)⟩)
  (fun n a _ => by
   rw [Bw]
   simp only [Bb]
   rw [AH (by omega), Av]) N 0 [] (Nat.zero_le _) (by omega) ⟨rfl, fun t ht => by cases ht⟩
 exact ⟨_, true, e2, fun _ => fin tabs (by omega) g2⟩
end Go.Lift

/- The mixes that result from aborts: both implementations give one list. -/
namespace Go.Lift
def Ht : List Int → Nat → Nat
 | [], _ => 0
 | _, 0 => 0
 | n :: ns, q + 1 => (if 0 ≤ n then 1 else 0) + Ht ns q
theorem HW (l : List Int) : Ht l 0 = 0 := by cases l <;> rfl
theorem GA : ∀ (l : List Int) (q : Nat), q < l.length → Ht l (q + 1) = Ht l q + if 0 ≤ l.getD q 0 then 1 else 0
 | [], q, h => by simp at h
 | n :: ns, 0, _ => by simp [Ht, HW]
 | n :: ns, q + 1, h => by
  rw [Ht, GA ns q (by simpa using h), Ht, List.getD_cons_succ, Nat.add_assoc]
theorem MX (l : List Int) {a b : Nat} (h : a ≤ b) (hb : b ≤ l.length) : Ht l a ≤ Ht l b := by
 induction b with
 | zero => rw [Nat.le_zero.1 h]; exact Nat.le_refl _
 | succ b ih =>
  by_cases h1 : a = b + 1
  ·rw [h1]; exact Nat.le_refl _
  ·have := ih (by omega) (by omega)
   rw [GA l b (by omega)]; omega
theorem JU (l : List Int) : ∀ q, q ≤ l.length → Ht l q ≤ q
 | 0, _ => by rw [HW]; exact Nat.le_refl _
 | q + 1, h => by
  have := JU l q (by omega)
  rw [GA l q h]
  split <;> omega
def LU (l : List Int) (k q : Nat) : Int := if 0 ≤ l.getD q 0 ∧ k.testBit (Ht l q) = true then -1 else l.getD q 0
def TL (l : List Int) (k : Nat) : List Int := (List.range l.length).map (LU l k)
def VI (m : Af) (k : Nat) : Af := ⟨m.fBase, TL m.fNext k, m.fHeld⟩
def EM (m : Af) : List Af := (List.range (2 ^ Ht m.fNext m.fNext.length)).map (VI m)
theorem KR (l : List Int) (k : Nat) : (TL l k).length = l.length := by simp [TL]
theorem OW (l : List Int) (k q : Nat) (h : q < l.length) : (TL l k).getD q 0 = LU l k q := by
 unfold TL; rw [List.getD_eq_getElem?_getD, List.getElem?_map, List.getElem?_range h]; rfl
theorem EU {l1 l2 : List Int} (h1 : l1.length = l2.length) (h : ∀ q, q < l1.length → l1.getD q 0 = l2.getD q 0) : l1 = l2 := by
 apply List.ext_getElem h1
 intro q h2 h3
 have := h q h2
 rw [List.getD_eq_getElem?_getD, List.getD_eq_getElem?_getD, List.getElem?_eq_getElem h2, List.getElem?_eq_getElem h3] at this
 exact this
theorem Rl : ∀ (k : Fin 64) (b : Fin 7), FK .i64 (E6 .i64 (k.val : Int) (b.val : Int)) 1 = (if k.val.testBit b.val then 1 else 0) ∧ Int.tmod (E6 .i64 (k.val : Int) (b.val : Int)) 2 = (if k.val.testBit b.val then 1 else 0) := by decide +kernel
theorem Uq : ∀ n : Fin 7, DA .i64 1 (n.val : Int) = ((2 ^ n.val : Nat) : Int) := by decide +kernel
structure Nw (m x : Af) : Prop where
 base : x.fBase = m.fBase
 held : x.fHeld = m.fHeld
 len : x.fNext.length = m.fNext.length
 next : ∀ q, q < m.fNext.length → x.fNext.getD q 0 = m.fNext.getD q 0 ∨ (0 ≤ m.fNext.getD q 0 ∧ x.fNext.getD q 0 = -1)
theorem Nw.refl (m : Af) : Nw m m := ⟨rfl, rfl, rfl, fun _ _ => .inl rfl⟩
theorem Nw.trans {a b c : Af} (h1 : Nw a b) (h2 : Nw b c) : Nw a c :=
 ⟨h2.base.trans h1.base, h2.held.trans h1.held, h2.len.trans h1.len, fun q hq => by
  have e1 := h1.next q hq
  have e2 := h2.next q (by rw [h1.len]; exact hq)
  omega⟩
theorem S5 (m : Af) (k : Nat) : Nw m (VI m k) :=
 ⟨rfl, rfl, KR _ _, fun q hq => by
  show (TL m.fNext k).getD q 0 = _ ∨ _ ∧ (TL m.fNext k).getD q 0 = _
  rw [OW _ _ _ hq]; unfold LU
  split
  ·rename_i h; exact .inr ⟨h.1, rfl⟩
  ·exact .inl rfl⟩
theorem Rg : ∀ (l x : List Int), x.length = l.length → (∀ q, q < l.length → x.getD q 0 = l.getD q 0 ∨ (0 ≤ l.getD q 0 ∧ x.getD q 0 = -1)) → ∃ k, k < 2 ^ Ht l l.length ∧ ∀ q, q < l.length → x.getD q 0 = LU l k q
 | [], x, h, _ => ⟨0, by simp [Ht], fun q hq => by simp at hq⟩
 | n :: ns, [], h, _ => by simp at h
 | n :: ns, y :: ys, h, hq => by
  obtain ⟨k, hk, hk2⟩ := Rg ns ys (by simpa using h) (fun q hq' => by have := hq (q + 1) (by simpa using hq'); simpa using this)
  have h0 := hq 0 (by simp)
  simp only [List.getD_cons_zero] at h0
  by_cases hn : 0 ≤ n
  ·refine ⟨2 * k + if y = n then 0 else 1, ?_, ?_⟩
   ·rw [List.length_cons, Ht, if_pos hn, Nat.pow_add]
    split <;> omega
   ·intro q hq'
    cases q with
    | zero =>
     simp only [List.getD_cons_zero, LU, HW]
     by_cases hy : y = n
     ·simp [hy]
     ·rw [if_neg hy, if_pos ⟨hn, by simp⟩]; omega
    | succ q =>
     have := hk2 q (by simpa using hq')
     simp only [List.getD_cons_succ, LU, Ht, if_pos hn] at this ⊢
     rw [this, Nat.add_comm 1, Nat.testBit_succ]
     have : (2 * k + if y = n then 0 else 1) / 2 = k := by split <;> omega
     rw [this]
  ·refine ⟨k, ?_, ?_⟩
   ·rw [List.length_cons, Ht, if_neg hn, Nat.zero_add]; exact hk
   ·intro q hq'
    cases q with
    | zero =>
     simp only [List.getD_cons_zero, LU, HW]
     rw [if_neg (fun h => hn h.1)]
     omega
    | succ q =>
     have := hk2 q (by simpa using hq')
     simp only [List.getD_cons_succ, LU, Ht, if_neg hn, Nat.zero_add] at this ⊢
     exact this
theorem Ks {m x : Af} : x ∈ EM m ↔ Nw m x := by
 unfold EM
 rw [List.mem_map]
 constructor
 ·rintro ⟨k, _, rfl⟩; exact S5 m k
 ·intro h
  obtain ⟨k, hk, hq⟩ := Rg m.fNext x.fNext h.len h.next
  refine ⟨k, List.mem_range.2 hk, ?_⟩
  have : TL m.fNext k = x.fNext := EU (by rw [KR, h.len]) fun q hq' => by
   rw [KR] at hq'
   rw [OW _ _ _ hq', hq q hq']
  unfold VI
  rw [this, ← h.base, ← h.held]
theorem VN {m x : Af} (h : Nw m x) {s : Nat} (hs : s < m.fNext.length) {v : Nat} (hv : Hz x s v = true) : Hz m s v = true := by
 unfold Hz at hv ⊢
 rw [h.base] at hv
 have := h.next s hs
 simp only [Bool.or_eq_true, decide_eq_true_eq] at hv ⊢
 omega
theorem SO {p : Ad} {m x : Af} (hp : Bf p) (hm : BM p m) (h : Nw m x) : BM p x := by
 refine ⟨⟨by rw [h.base]; exact hm.base, by rw [h.len]; exact hm.next, by rw [h.held]; exact hm.held, fun i hi => by rw [h.base]; exact hm.b0 i hi, fun i hi => ?_, fun i hi => ?_⟩, fun i hi => by rw [h.held]; exact hm.range i hi, fun i t ht hs v hv => ?_, fun i t ht hs v hv => ?_, fun i t ht hs => by rw [h.held]; exact hm.none i t ht hs⟩
 ·have h1 := hm.n0 i hi
  have h2 := h.next i (by rw [hm.next]; exact hi)
  have h3 := Hf hp hi
  omega
 ·have h1 := hm.ne i hi
  have h2 := h.next i (by rw [hm.next]; exact hi)
  have h3 := hm.b0 i hi
  rw [h.base]
  omega
 ·have hin := (LH (hp.tab t (List.mem_of_getElem? ht))).from0
  rw [h.held]
  exact hm.low i t ht hs v (VN h (by rw [hm.next]; omega) hv)
 ·rw [h.held] at hv
  exact hm.high i t ht hs v hv
theorem IB (N : Nat) (l : List Int) (h : l.length ≤ Dz) : BJ N l = some l := by
 unfold BJ
 rw [Az (by simpa using h)]; rfl
theorem Ol (N : Nat) (l : List Int) (h : l.length ≤ Dz) : BO N l = some l := by
 unfold BO
 rw [Az (by simpa using h)]; rfl
theorem H1 {l : List Int} {i q : Nat} {y : Int} (hi : i < l.length) : (l.set i y).getD q 0 = if q = i then y else l.getD q 0 := by
 rw [List.getD_eq_getElem?_getD, List.getD_eq_getElem?_getD, List.getElem?_set]
 by_cases h : i = q
 ·subst h; simp [hi]
 ·rw [if_neg h, if_neg (fun e => h e.symm)]
theorem UA {l : List Int} {a b : Nat} (ha : a < l.length) (hb : b < l.length) (h1 : 0 ≤ l.getD a 0) (h2 : 0 ≤ l.getD b 0) (h : Ht l a = Ht l b) : a = b := by
 rcases Nat.lt_trichotomy a b with h3 | h3 | h3
 ·have := MX l (a := a + 1) (b := b) h3 (by omega)
  rw [GA l a ha, if_pos h1] at this; omega
 ·exact h3
 ·have := MX l (a := b + 1) (b := a) h3 (by omega)
  rw [GA l b hb, if_pos h2] at this; omega
structure Sq (l : List Int) (o : List Int) : Prop where
 len : o.length = Ht l l.length
 at_ : ∀ b, b < o.length → ∃ i : Nat, o.getD b 0 = (i : Int) ∧ i < l.length ∧ 0 ≤ l.getD i 0 ∧ Ht l i = b
theorem Qn (N : Nat) (l o : List Int) (k : Nat) (acc : List Af) (hN : N ≤ 1000000) (h20 : 20 ≤ N) (hl : l.length ≤ 6) (ho : Sq l o) (hk : k < 64) (j : List Int → Option (List Af × Int)) :
  CO N o (acc, (k : Int)) j N (l, 0) = j (TL l k) := by
 have hol := JU l l.length (Nat.le_refl _)
 have hoL := ho.len
 obtain ⟨x, e, h1, h2⟩ := Ey (A := List Int) (CO N o (acc, (k : Int)) j) (fun a k => (a, k)) o.length j
  (fun b a => a.length = l.length ∧ ∀ q, q < l.length → a.getD q 0 = if 0 ≤ l.getD q 0 ∧ Ht l q < b ∧ k.testBit (Ht l q) = true then -1 else l.getD q 0)
  (fun n b a hb ha => by
   obtain ⟨i, hi1, hi2, hi3, hi4⟩ := ho.at_ b hb
   have hbit := Rl ⟨k, hk⟩ ⟨b, by omega⟩
   rw [CO]
   simp only [Bb]
   rw [AL (by omega), CQ (d := 0) hb]
   simp only [Option.bind_some]
   rw [Az (by omega), hi1, hbit.1, CQ (d := 0) (show i < a.length by rw [ha.1]; exact hi2), AM (by omega)]
   simp only [Option.bind_some, Int.toNat_natCast]
   cases hkb : k.testBit b
   ·refine ⟨a, rfl, ha.1, fun q hq => ?_⟩
    rw [ha.2 q hq]
    by_cases hqb : Ht l q = b
    ·rw [hqb, hkb]; simp
    ·by_cases h3 : Ht l q < b
     ·have : Ht l q < b + 1 := by omega
      simp [h3, this]
     ·have : ¬ Ht l q < b + 1 := by omega
      simp [h3, this]
   ·refine ⟨a.set i (-1), rfl, by simp [ha.1], fun q hq => ?_⟩
    rw [H1 (by rw [ha.1]; exact hi2), ha.2 q hq]
    by_cases hqi : q = i
    ·subst hqi
     rw [if_pos rfl, if_pos ⟨hi3, by omega, by rw [hi4]; exact hkb⟩]
    ·rw [if_neg hqi]
     by_cases h0 : 0 ≤ l.getD q 0
     ·have hne : Ht l q ≠ b := fun h => hqi (UA hq hi2 h0 hi3 (by omega))
      by_cases h3 : Ht l q < b
      ·have : Ht l q < b + 1 := by omega
       simp [h3, this]
      ·have : ¬ Ht l q < b + 1 := by omega
       simp [h3, this]
     ·rw [if_neg (fun h => h0 h.1), if_neg (fun h => h0 h.1)])
  (fun n a _ => by
   rw [CO]
   simp only [Bb]
   rw [AH (by omega)]) N 0 l (Nat.zero_le _) (by omega) ⟨rfl, fun q hq => by simp⟩
 have e' : CO N o (acc, (k : Int)) j N (l, 0) = j x := e
 rw [e']
 congr 1
 refine EU (by rw [KR, h1]) fun q hq => ?_
 rw [h1] at hq
 rw [h2 q hq, OW _ _ _ hq, LU]
 by_cases h0 : 0 ≤ l.getD q 0
 ·have h3 := MX l (a := q + 1) (b := l.length) hq (Nat.le_refl _)
  rw [GA l q hq, if_pos h0] at h3
  have : Ht l q < o.length := by omega
  simp [this]
 ·rw [if_neg (fun h => h0 h.1), if_neg (fun h => h0 h.1)]
theorem PK (N : Nat) (m : Af) (k : Nat) (acc : List Af) (hN : N ≤ 1000000) (h20 : 20 ≤ N) (hl : m.fNext.length ≤ 6) (hk : k < 64) (j : List Int → Option (List Af)) :
  BR N m (acc, (k : Int)) j N (m.fNext, 0, 0) = j (TL m.fNext k) := by
 obtain ⟨⟨x, pl⟩, e, h1, h2, h3⟩ := Ey (A := List Int × Nat) (BR N m (acc, (k : Int)) j) (fun a k => (a.1, (a.2 : Int), k)) m.fNext.length (fun a => j a.1)
  (fun i a => a.2 = Ht m.fNext i ∧ a.1.length = m.fNext.length ∧ ∀ q, q < m.fNext.length → a.1.getD q 0 = if q < i then LU m.fNext k q else m.fNext.getD q 0)
  (fun n i a hi ha => by
   obtain ⟨a, pl⟩ := a
   obtain ⟨a1, a2, a3⟩ := ha
   simp only at a1 a2 a3
   have hple := JU m.fNext i (by omega)
   have hbit := Rl ⟨k, hk⟩ ⟨pl, by omega⟩
   have hs := GA m.fNext i hi
   rw [BR]
   simp only [Bb]
   rw [AL (by omega), CQ (d := 0) hi]
   simp only [Option.bind_some]
   rw [AM (by omega)]
   by_cases h0 : m.fNext.getD i 0 < 0
   ·rw [AL h0]
    refine ⟨(a, pl), rfl, by simp only; rw [hs, if_neg (by omega), a1]; rfl, a2, fun q hq => ?_⟩
    simp only
    rw [a3 q hq]
    by_cases hqi : q = i
    ·subst hqi
     rw [if_neg (by omega), if_pos (by omega), LU, if_neg (by omega)]
    ·by_cases h4 : q < i
     ·rw [if_pos h4, if_pos (by omega)]
     ·rw [if_neg h4, if_neg (by omega)]
   ·rw [AH h0, Az (by omega), CQ (d := 0) (show i < a.length by omega), hbit.2, AM (by omega)]
    simp only [Option.bind_some, Int.toNat_natCast]
    cases hkb : k.testBit pl
    ·refine ⟨(a, pl + 1), rfl, by simp only; rw [hs, if_pos (by omega), a1], a2, fun q hq => ?_⟩
     simp only
     rw [a3 q hq]
     by_cases hqi : q = i
     ·subst hqi
      rw [if_neg (by omega), if_pos (by omega), LU, ← a1, hkb]; simp
     ·by_cases h4 : q < i
      ·rw [if_pos h4, if_pos (by omega)]
      ·rw [if_neg h4, if_neg (by omega)]
    ·refine ⟨(a.set i (-1), pl + 1), rfl, by simp only; rw [hs, if_pos (by omega), a1], by simp [a2], fun q hq => ?_⟩
     simp only
     rw [H1 (by omega), a3 q hq]
     by_cases hqi : q = i
     ·subst hqi
      rw [if_pos rfl, if_pos (by omega), LU, ← a1, if_pos ⟨by omega, hkb⟩]
     ·rw [if_neg hqi]
      by_cases h4 : q < i
      ·rw [if_pos h4, if_pos (by omega)]
      ·rw [if_neg h4, if_neg (by omega)])
  (fun n a _ => by
   rw [BR]
   simp only [Bb]
   rw [AH (by omega)]) N 0 (m.fNext, 0) (Nat.zero_le _) (by omega) ⟨(HW _).symm, rfl, fun q hq => by simp⟩
 have e' : BR N m (acc, (k : Int)) j N (m.fNext, 0, 0) = j x := e
 rw [e']
 congr 1
 simp only at h2 h3
 refine EU (by rw [KR, h2]) fun q hq => ?_
 rw [h2] at hq
 rw [h3 q hq, if_pos hq, OW _ _ _ hq]
end Go.Lift

/- Aborts, the first mix that is to blame, and robustness: both implementations give one answer. -/
namespace Go.Lift
theorem SG (N : Nat) (m : Af) (hN : N ≤ 1000000) (h20 : 20 ≤ N) (hl : m.fNext.length ≤ 6) (j : List Int → Option (List Af × Int)) :
  ∃ o, Dp N m j N ([], 0) = j o ∧ Sq m.fNext o := by
 obtain ⟨o, e, h1, h2⟩ := Ey (A := List Int) (Dp N m j) (fun a k => (a, k)) m.fNext.length j
  (fun i o => o.length = Ht m.fNext i ∧ ∀ b, b < o.length → ∃ q : Nat, o.getD b 0 = (q : Int) ∧ q < m.fNext.length ∧ 0 ≤ m.fNext.getD q 0 ∧ Ht m.fNext q = b)
  (fun n i o hi ho => by
   have hple := JU m.fNext i (by omega)
   have hs := GA m.fNext i hi
   rw [Dp]
   simp only [Bb]
   rw [AL (by omega), CQ (d := 0) hi]
   simp only [Option.bind_some]
   rw [AM (by omega)]
   by_cases h0 : 0 ≤ m.fNext.getD i 0
   ·rw [AL h0, Az (by rw [ho.1]; unfold Dz; simp; omega)]
    refine ⟨o ++ [(i : Int)], rfl, by rw [hs, if_pos h0, ← ho.1]; simp, ?_⟩
    rw [List.length_append]
    exact ME (P := fun b y => ∃ q : Nat, y = (q : Int) ∧ q < m.fNext.length ∧ 0 ≤ m.fNext.getD q 0 ∧ Ht m.fNext q = b) rfl ho.2 ⟨i, rfl, hi, h0, ho.1.symm⟩
   ·rw [AH h0]
    exact ⟨o, rfl, by rw [hs, if_neg h0, ho.1]; rfl, ho.2⟩)
  (fun n a _ => by
   rw [Dp]
   simp only [Bb]
   rw [AH (by omega)]) N 0 [] (Nat.zero_le _) (by omega) ⟨(HW _).symm, fun b hb => by simp at hb⟩
 exact ⟨o, e, h1, h2⟩
theorem KK {n : Nat} (h : n ≤ 6) : 2 ^ n ≤ 64 := Nat.pow_le_pow_right (n := 2) (by omega) h
theorem Mq {n : Nat} (h : n ≤ 6) : DA .i64 1 (n : Int) = ((2 ^ n : Nat) : Int) := Uq ⟨n, by omega⟩
theorem Jp {β : Type} (f : Nat → β) (n : Nat) : (List.range (n + 1)).map f = (List.range n).map f ++ [f n] := by
 rw [List.range_succ, List.map_append]; rfl
theorem Nv (N : Nat) (p : Ad) (m : Af) (hN : N ≤ 1000000) (h20 : 100 ≤ N) (hw : LE J3 m.fHeld) (hv : EG p m = 0) : F3 N p m = some (EM m, 0) := by
 obtain ⟨hp, hm⟩ := HO hw hv
 have hnv := hp.nv
 have hnt := hp.nt
 have hl : m.fNext.length ≤ 6 := by rw [hm.next]; omega
 unfold F3
 rw [Hu N p m hN (by omega) hw, hv]
 simp only [Option.bind_some, bne_self_eq_false, Av]
 obtain ⟨o, e, ho⟩ := SG N m hN (by omega) hl (fun (v4 : (List Int)) =>
   (Ei (0 ≤ (v4.length : Int))).bind fun _ =>
   CN N m v4 (fun (v12 : (List Af)) =>
    some (v12, 0)) N (([] : List Af), 0))
 rw [e, Az (by omega)]
 have hoL := ho.len
 have hol := JU m.fNext m.fNext.length (Nat.le_refl _)
 have hpow := KK (show Ht m.fNext m.fNext.length ≤ 6 by omega)
 obtain ⟨a, e2, h1⟩ := Ey (A := List Af) (CN N m o fun v12 => some (v12, 0)) (fun a k => (a, k)) (2 ^ Ht m.fNext m.fNext.length) (fun v12 => some (v12, 0))
  (fun i a => a = (List.range i).map (VI m))
  (fun n i a hi ha => by
   refine ⟨a ++ [VI m i], ?_, by rw [Jp, ha]⟩
   have hal : a.length = i := by rw [ha]; simp
   rw [CN]
   rw [hoL, Mq (n := Ht m.fNext m.fNext.length) (by omega), AL (by omega), IB N m.fBase (by have := hm.base; unfold Dz; omega), IB N m.fNext (by unfold Dz; omega), Ol N m.fHeld (by have := hm.held; unfold Dz; omega)]
   simp only [Option.bind_some]
   rw [Qn N m.fNext o i a hN (by omega) hl ho (by omega), Az (by rw [hal]; unfold Dz; simp; omega), AM (by omega)]
   rfl)
  (fun n a _ => by
   rw [CN]
   rw [hoL, Mq (n := Ht m.fNext m.fNext.length) (by omega), AH (by simp)]) N 0 [] (Nat.zero_le _) (by omega) rfl
 have e2' : CN N m o (fun v12 => some (v12, 0)) N ([], 0) = some (a, 0) := e2
 rw [e2', h1]; rfl
theorem QW (N : Nat) (m : Af) (h1 : m.fBase.length ≤ Dz) (h2 : m.fNext.length ≤ Dz) (h3 : m.fHeld.length ≤ Dz) : DR N m = some m := by
 unfold DR
 rw [Az (by simpa using h1), Az (by simpa using h2), Az (by simpa using h3)]; rfl
theorem Qz (N : Nat) (m : Af) (hN : N ≤ 1000000) (h20 : 100 ≤ N) (h1 : m.fBase.length ≤ 100) (hl : m.fNext.length ≤ 6) (h3 : m.fHeld.length ≤ 100) : Dj N m = some (EM m) := by
 unfold Dj
 obtain ⟨c, e, hc⟩ := Ey (A := Nat) (Co N m (fun (v2 : Int) =>
  Bx N m v2 (fun (v8 : (List Af)) => some v8) N (([] : List Af), 0))) (fun a k => ((a : Int), k)) m.fNext.length (fun a => Bx N m (a : Int) (fun (v8 : (List Af)) => some v8) N (([] : List Af), 0))
  (fun i a => a = Ht m.fNext i)
  (fun n i a hi ha => by
   have hple := JU m.fNext i (by omega)
   have hs := GA m.fNext i hi
   rw [Co]
   simp only [Bb]
   rw [AL (by omega), CQ (d := 0) hi]
   simp only [Option.bind_some]
   rw [AM (by omega), AM (by omega)]
   by_cases h0 : 0 ≤ m.fNext.getD i 0
   ·rw [AL h0]
    exact ⟨a + 1, rfl, by rw [hs, if_pos h0, ha]⟩
   ·rw [AH h0]
    exact ⟨a, rfl, by rw [hs, if_neg h0, ha]; rfl⟩)
  (fun n a _ => by
   rw [Co]
   simp only [Bb]
   rw [AH (by omega)]) N 0 0 (Nat.zero_le _) (by omega) (HW _).symm
 have e' : Co N m (fun (v2 : Int) => Bx N m v2 (fun (v8 : (List Af)) => some v8) N (([] : List Af), 0)) N (0, 0) = _ := e
 rw [e', hc]
 have hol := JU m.fNext m.fNext.length (Nat.le_refl _)
 have hpow := KK (show Ht m.fNext m.fNext.length ≤ 6 by omega)
 obtain ⟨a, e2, h1⟩ := Ey (A := List Af) (Bx N m (Ht m.fNext m.fNext.length : Int) fun v8 => some v8) (fun a k => (a, k)) (2 ^ Ht m.fNext m.fNext.length) some
  (fun i a => a = (List.range i).map (VI m))
  (fun n i a hi ha => by
   refine ⟨a ++ [VI m i], ?_, by rw [Jp, ha]⟩
   have hal : a.length = i := by rw [ha]; simp
   rw [Bx]
   rw [Az (by omega), Mq (n := Ht m.fNext m.fNext.length) (by omega), AL (by omega), QW N m (by unfold Dz; omega) (by unfold Dz; omega) (by unfold Dz; omega)]
   simp only [Option.bind_some]
   rw [PK N m i a hN (by omega) hl (by omega), Az (by rw [hal]; unfold Dz; simp; omega), AM (by omega)]
   rfl)
  (fun n a _ => by
   rw [Bx]
   rw [Az (by omega), Mq (n := Ht m.fNext m.fNext.length) (by omega), AH (by simp)]) N 0 [] (Nat.zero_le _) (by omega) rfl
 have e2' : Bx N m (Ht m.fNext m.fNext.length : Int) (fun v8 => some v8) N ([], 0) = some a := e2
 rw [e2', h1]; rfl
theorem Nm (N : Nat) (p : Ad) (m : Af) (hN : N ≤ 1000000) (h20 : 100 ≤ N) (hp : Bf p) (hm : BM p m) : Dj N m = some (EM m) := by
 have := hp.nv
 have := hp.nt
 exact Qz N m hN h20 (by rw [hm.base]; omega) (by rw [hm.next]; omega) (by rw [hm.held]; omega)
theorem Ij {p : Ad} {m : Af} (hm : BM p m) : LE J3 m.fHeld := by
 intro x hx
 obtain ⟨q, hq⟩ := List.mem_iff_getElem?.1 hx
 have h1 := (List.getElem?_eq_some_iff.1 hq).1
 have := hm.range q (by rw [← hm.held]; exact h1)
 rw [List.getD_eq_getElem?_getD, hq] at this
 unfold J3
 simp only [Option.getD_some] at this
 simp [Lit.wf, IntKind.min, IntKind.max, IntKind.signed, IntKind.bits]
 omega
def Iq (p : Ad) (x : Af) : Option (Af × Ak) := match Fu p x with
 | [] => none
 | c :: _ => some (x, c)
def Hh (p : Ad) (m : Af) : Option (Af × Ak) := Da (fun _ x => Iq p x) 0 (EM m)
def Fj : Af := ⟨[], [], []⟩
def K3 : Ak := ⟨0, 0, 0⟩
def KH (p : Ad) (m : Af) : Af × Ak × Int := match Hh p m with
 | some (x, c) => (x, c, 0)
 | none => (Fj, K3, 15)
def Bv (p : Ad) (m : Af) : Bool := (Hh p m).isNone
theorem Kx {m : Af} (hl : m.fNext.length ≤ 6) : (EM m).length ≤ 64 := by
 unfold EM
 have hol := JU m.fNext m.fNext.length (Nat.le_refl _)
 have hpow := KK (show Ht m.fNext m.fNext.length ≤ 6 by omega)
 simpa using hpow
theorem IH {α R R' : Type} (f : Nat → α → Option R) (g : R → R') : ∀ (i : Nat) (xs : List α), Da (fun i x => (f i x).map g) i xs = (Da f i xs).map g
 | _, [] => rfl
 | i, x :: xs => by
  rw [FI, FI]
  cases f i x
  ·exact IH f g (i + 1) xs
  ·rfl
theorem OD (N : Nat) (p : Ad) (m : Af) (hN : N ≤ 1000000) (h20 : 100 ≤ N) (hw : LE J3 m.fHeld) (hv : EG p m = 0) : Fa N p m = some (KH p m) := by
 obtain ⟨hp, hm⟩ := HO hw hv
 have hnv := hp.nv
 unfold Fa
 rw [Nv N p m hN h20 hw hv]
 simp only [Option.bind_some, bne_self_eq_false, Av]
 have hal := Kx (m := m) (by rw [hm.next]; omega)
 have := Cm (El N p (EM m, 0) fun _ => some (Fj, K3, 15)) (EM m) (some (Fj, K3, 15)) (fun _ x => (Iq p x).map fun y => (y.1, y.2, 0))
  (fun n i x hx => by
   have hi := (List.getElem?_eq_some_iff.1 hx).1
   have hx2 := SO hp hm (Ks.1 (List.mem_of_getElem? hx))
   rw [El, AL (by simp only; omega)]
   simp only [A3, hx, Option.bind_some]
   rw [LG N p x hN (by omega) hp hx2, AM (by omega)]
   simp only [Option.bind_some, Iq]
   cases Fu p x with
   | nil => rfl
   | cons c cs => rw [AL (by simp only [List.length_cons]; omega)]; rfl)
  (fun n => by rw [El, AH (by simp)]) N 0 (Nat.zero_le _) (by omega)
 rw [List.drop_zero, IH] at this
 exact this.trans (by
  unfold KH Hh
  cases Da (fun _ x => Iq p x) 0 (EM m) <;> rfl)
theorem Ld (N : Nat) (p : Ad) (m : Af) (hN : N ≤ 1000000) (h20 : 100 ≤ N) (hw : LE J3 m.fHeld) (hv : EG p m = 0) : D4 N p m = some (KH p m) := by
 obtain ⟨hp, hm⟩ := HO hw hv
 have hnv := hp.nv
 unfold D4 EC
 rw [GD N p m hN (by omega), hv, Nm N p m hN h20 hp hm]
 simp only [Option.bind_some, bne_self_eq_false, Av]
 have hal := Kx (m := m) (by rw [hm.next]; omega)
 have := Cm (Ct N p (EM m, 0) fun _ => some (Fj, K3, 15)) (EM m) (some (Fj, K3, 15)) (fun _ x => (Iq p x).map fun y => (y.1, y.2, 0))
  (fun n i x hx => by
   have hi := (List.getElem?_eq_some_iff.1 hx).1
   have hx2 := SO hp hm (Ks.1 (List.mem_of_getElem? hx))
   rw [Ct, AL (by simp only; omega)]
   simp only [A3, hx, Option.bind_some]
   rw [IG N p x hN (by omega) hp hx2, AM (by omega)]
   simp only [Option.bind_some, Iq]
   cases Fu p x with
   | nil => rfl
   | cons c cs => rw [AL (by simp only [List.length_cons]; omega)]; rfl)
  (fun n => by rw [Ct, AH (by simp)]) N 0 (Nat.zero_le _) (by omega)
 rw [List.drop_zero, IH] at this
 exact this.trans (by
  unfold KH Hh
  cases Da (fun _ x => Iq p x) 0 (EM m) <;> rfl)
theorem In (N : Nat) (p : Ad) (m : Af) (hN : N ≤ 1000000) (h20 : 100 ≤ N) (hw : LE J3 m.fHeld) (hv : EG p m = 0) : Fl N p m = some (Bv p m, 0) := by
 unfold Fl
 rw [OD N p m hN h20 hw hv]
 unfold Bv KH
 cases Hh p m <;> rfl
theorem P0 (N : Nat) (p : Ad) (m : Af) (hN : N ≤ 1000000) (h20 : 100 ≤ N) (hp : Bf p) (hm : BM p m) : DU N p m = some (Fu p m).isEmpty := by
 unfold DU
 rw [IG N p m hN (by omega) hp hm]
 simp only [Option.bind_some]
 cases Fu p m with
 | nil => rfl
 | cons c cs =>
  rw [beq_eq_false_iff_ne.2 (by simp only [List.length_cons]; omega)]; rfl
theorem GY (N : Nat) (p : Ad) (m : Af) (hN : N ≤ 1000000) (h20 : 100 ≤ N) (hp : Bf p) (hm : BM p m) : Cs N p m = some (Bv p m) := by
 have hnv := hp.nv
 unfold Cs
 rw [Nm N p m hN h20 hp hm]
 simp only [Option.bind_some]
 have hal := Kx (m := m) (by rw [hm.next]; omega)
 have := Cm (B0 N p (EM m) fun _ => some true) (EM m) (some true) (fun _ x => (Iq p x).map fun _ => false)
  (fun n i x hx => by
   have hi := (List.getElem?_eq_some_iff.1 hx).1
   have hx2 := SO hp hm (Ks.1 (List.mem_of_getElem? hx))
   rw [B0, AL (by omega)]
   simp only [A3, hx, Option.bind_some]
   rw [P0 N p x hN h20 hp hx2, AM (by omega)]
   simp only [Option.bind_some, Iq]
   cases Fu p x with
   | nil => rfl
   | cons c cs => rfl)
  (fun n => by rw [B0, AH (by simp)]) N 0 (Nat.zero_le _) (by omega)
 rw [List.drop_zero, IH] at this
 refine Eq.trans this ?_
 unfold Bv Hh
 cases Da (fun _ x => Iq p x) 0 (EM m) <;> rfl
end Go.Lift

/- The laws of the mixes in plain words: MixConflicts, MixAborts, MixAborted, MixGoal, MixValid. -/
namespace Go.Lift
theorem PU {N : Nat} {a b : Af} (hN : N ≤ 1000000) (h1 : a.fBase.length < N) (h2 : a.fNext.length < N) (h3 : a.fHeld.length < N) (h4 : b.fHeld.length < N) (wa : LE J3 a.fHeld) (wb : LE J3 b.fHeld) : DE N a b = some (QE a b) := by
 unfold DE
 rw [ML h1 hN, ML h2 hN, L5 h3 hN wa, L5 h4 hN wb]
 simp only [Option.bind_some]
 rw [ML h3 hN]
 unfold QE V0
 by_cases h1 : Hv a.fBase b.fBase = 0
 ·simp only [h1, V0]
  by_cases h2 : Hv a.fNext b.fNext = 0
  ·simp only [h2]
   by_cases h3 : Hv a.fHeld b.fHeld = 0 <;> simp [h3]
  ·have : (Hv a.fNext b.fNext != 0) = true := by simpa using h2
   simp [h2, this]
 ·have : (Hv a.fBase b.fBase != 0) = true := by simpa using h1
  simp [h1, this]
end Go.Lift

/- The laws of the mixes in plain words: MixGoal, MixValid. -/
namespace Go.Lift
theorem Pb (N : Nat) (a b : List Int) (hN : N ≤ 1000000) (h : a.length < N) : Do N a b = some (a == b) := by
 unfold Do
 by_cases hl : a.length = b.length
 ·rw [hl, bne_self_eq_false, Av]
  have := Cm (BZ N a b fun _ => some true) a (some true) (fun i x => if x = b.getD i 0 then none else some false)
   (fun n i x hx => by
    have hi := (List.getElem?_eq_some_iff.1 hx).1
    rw [BZ, AL (by omega), A3, hx, CQ (d := 0) (by omega)]
    simp only [Option.bind_some]
    rw [AM (by omega)]
    by_cases h : x = b.getD i 0
    ·rw [if_pos h, h, bne_self_eq_false]; rfl
    ·rw [if_neg h, bne_iff_ne.2 h]; rfl)
   (fun n => by rw [BZ, AH (by simp)]) N 0 (Nat.zero_le _) (by omega)
  refine this.trans ?_
  rw [List.drop_zero]
  cases hs : Da (fun i x => if x = b.getD i 0 then none else some false) 0 a with
  | none =>
   have : a = b := EU hl fun q hq => by
    have hx : a[q]? = some (a.getD q 0) := by rw [List.getD_eq_getElem?_getD]; simp [hq]
    have := Er hs q _ hx
    rw [Nat.zero_add] at this
    split at this
    ·assumption
    ·cases this
   rw [this, beq_self_eq_true]; rfl
  | some r =>
   obtain ⟨j, x, hx, hf⟩ := D0 hs
   rw [Nat.zero_add] at hf
   split at hf
   ·cases hf
   ·rename_i hne
    cases hf
    have : (a == b) = false := beq_eq_false_iff_ne.2 fun e => hne (by rw [← e, List.getD_eq_getElem?_getD, hx]; rfl)
    rw [this]; rfl
 ·have h1 : ((a.length : Int) != (b.length : Int)) = true := bne_iff_ne.2 (by omega)
  have h2 : (a == b) = false := beq_eq_false_iff_ne.2 fun e => hl (by rw [e])
  rw [h1, h2]; rfl
theorem OP (N : Nat) (a : List Int) (f : Int → Option Bool) (g : Int → Bool) (hN : N ≤ 1000000) (h : a.length < N) (hf : ∀ x, x ∈ a → f x = some (g x)) : Cq N a f = some (a.any g) := by
 unfold Cq Dy
 have := Cm (Bg N a f fun _ => some (-1)) a (some (-1)) (fun i x => if g x then some (i : Int) else none)
  (fun n i x hx => by
   have hi := (List.getElem?_eq_some_iff.1 hx).1
   rw [Bg, AL (by omega), A3, hx]
   simp only [Option.bind_some]
   rw [hf x (List.mem_of_getElem? hx), AM (by omega)]
   simp only [Option.bind_some]
   cases g x <;> rfl)
  (fun n => by rw [Bg, AH (by simp)]) N 0 (Nat.zero_le _) (by omega)
 have e : Bg N a f (fun _ => some (-1)) N 0 = _ := this
 rw [e, List.drop_zero]
 cases hs : Da (fun i x => if g x then some (i : Int) else none) 0 a with
 | none =>
  have : a.any g = false := by
   rw [List.any_eq_false]
   intro x hx
   obtain ⟨j, hj⟩ := List.mem_iff_getElem?.1 hx
   have := Er hs j x hj
   intro hg
   rw [hg] at this; cases this
  rw [this]; rfl
 | some r =>
  obtain ⟨j, x, hx, hf⟩ := D0 hs
  split at hf
  ·rename_i hg
   cases hf
   have : a.any g = true := List.any_eq_true.2 ⟨x, List.mem_of_getElem? hx, hg⟩
   rw [this]
   simp only [BC, Option.bind_some]
   rw [decide_eq_true (by omega)]
  ·cases hf
def FQ (p : Ad) (m : Af) : Bool := EG p m == 0 && (m.fBase == p.fTarget && m.fNext.all (fun n => decide (n < 0)))
theorem PP (N : Nat) (p : Ad) (m : Af) (hN : N ≤ 1000000) (h20 : 100 ≤ N) (hw : LE J3 m.fHeld) : Gq N p m = some (FQ p m) := by
 unfold Gq FQ
 rw [Hu N p m hN (by omega) hw]
 simp only [Bb, Option.bind_some]
 by_cases hv : EG p m = 0
 ·obtain ⟨hp, hm⟩ := HO hw hv
  have := hp.nv
  rw [hv, Pb N _ _ hN (by rw [hm.base]; omega), OP N m.fNext (fun x => F1 N x) (fun n => decide (0 ≤ n)) hN (by rw [hm.next]; omega) (fun x _ => rfl)]
  simp only [Option.bind_some, beq_self_eq_true, AN, Bool.true_and]
  have : m.fNext.all (fun n => decide (n < 0)) = !m.fNext.any (fun n => decide (0 ≤ n)) := by
   rw [List.not_any_eq_all_not]
   congr 1; funext n
   by_cases h : 0 ≤ n
   ·rw [decide_eq_true h, decide_eq_false (by omega)]; rfl
   ·rw [decide_eq_false h, decide_eq_true (by omega)]; rfl
  rw [this]
  cases m.fBase == p.fTarget <;> simp
 ·rw [beq_eq_false_iff_ne.2 hv]; rfl
theorem Mc (N : Nat) (p : Ad) (m : Af) (hN : N ≤ 1000000) (h20 : 100 ≤ N) (hw : LE J3 m.fHeld) : C1 N p m = some (FQ p m) := by
 unfold C1 FQ
 rw [GD N p m hN (by omega)]
 simp only [Option.bind_some]
 by_cases hv : EG p m = 0
 ·obtain ⟨hp, hm⟩ := HO hw hv
  have h1 := hp.nv
  have h2 := hp.tgt
  have h3 := hm.base
  have h4 := hm.next
  rw [hv]
  simp only [bne_self_eq_false, Av, beq_self_eq_true, Bool.true_and]
  have := Cm (CD N p m fun _ => some true) m.fBase (some true) (fun i x => if 0 ≤ m.fNext.getD i 0 ∨ x ≠ p.fTarget.getD i 0 then some false else none)
   (fun n i x hx => by
    have hi := (List.getElem?_eq_some_iff.1 hx).1
    rw [CD, AL (by omega)]
    simp only [Bb]
    rw [show BS m.fBase (i : Int) = some x from by rw [A3, hx], CQ (d := 0) (by omega), CQ (d := 0) (by omega)]
    simp only [Option.bind_some]
    rw [AM (by omega)]
    by_cases k1 : 0 ≤ m.fNext.getD i 0
    ·rw [AL k1, if_pos (.inl k1)]; rfl
    ·rw [AH k1]
     by_cases k2 : x = p.fTarget.getD i 0
     ·rw [if_neg (fun h => h.elim k1 (fun h => h k2)), k2, bne_self_eq_false]; rfl
     ·rw [if_pos (.inr k2), bne_iff_ne.2 k2]; rfl)
   (fun n => by rw [CD, AH (by simp)]) N 0 (Nat.zero_le _) (by omega)
  refine this.trans ?_
  rw [List.drop_zero]
  cases hs : Da (fun i x => if 0 ≤ m.fNext.getD i 0 ∨ x ≠ p.fTarget.getD i 0 then some false else none) 0 m.fBase with
  | none =>
   have key : ∀ q, q < m.fBase.length → m.fBase.getD q 0 = p.fTarget.getD q 0 ∧ ¬ 0 ≤ m.fNext.getD q 0 := by
    intro q hq
    have hx : m.fBase[q]? = some (m.fBase.getD q 0) := by rw [List.getD_eq_getElem?_getD]; simp [hq]
    have := Er hs q _ hx
    rw [Nat.zero_add] at this
    split at this
    ·cases this
    ·rename_i h; exact ⟨Decidable.not_not.1 fun h' => h (.inr h'), fun h' => h (.inl h')⟩
   have e1 : m.fBase = p.fTarget := EU (by omega) fun q hq => (key q hq).1
   have e2 : m.fNext.all (fun n => decide (n < 0)) = true := by
    rw [List.all_eq_true]
    intro n hn
    obtain ⟨q, hq⟩ := List.mem_iff_getElem?.1 hn
    have hl := (List.getElem?_eq_some_iff.1 hq).1
    have := (key q (by omega)).2
    rw [List.getD_eq_getElem?_getD, hq] at this
    simp only [Option.getD_some] at this
    simp only [decide_eq_true_eq]
    omega
   rw [e2, e1]; simp [BC]
  | some r =>
   obtain ⟨j, x, hx, hf⟩ := D0 hs
   rw [Nat.zero_add] at hf
   have hj := (List.getElem?_eq_some_iff.1 hx).1
   split at hf
   ·rename_i h
    cases hf
    have : (m.fBase == p.fTarget && m.fNext.all (fun n => decide (n < 0))) = false := by
     rw [Bool.and_eq_false_iff]
     rcases h with h | h
     ·right
      rw [List.all_eq_false]
      refine ⟨m.fNext.getD j 0, ?_, ?_⟩
      ·rw [List.getD_eq_getElem?_getD, List.getElem?_eq_getElem (by omega)]; exact List.getElem_mem _
      ·simp only [decide_eq_true_eq]; omega
     ·left
      exact beq_eq_false_iff_ne.2 fun e => h (by rw [← e, List.getD_eq_getElem?_getD, hx]; rfl)
    rw [this]; rfl
   ·cases hf
 ·rw [bne_iff_ne.2 hv, beq_eq_false_iff_ne.2 hv]; rfl
end Go.Lift

/- The first mix in plain words, and the law MixStart. -/
namespace Go.Lift
open Go
def E7 (p : Ad) (t : AG) : Int := if B6 t = true then DA .u8 1 (p.fNow.getD t.fFrom.toNat 0) else 0
def D8 (p : Ad) : Af := ⟨p.fNow, List.replicate p.fNow.length (-1), p.fTables.map (E7 p)⟩
theorem RO (N : Nat) (h : 100 ≤ N) (n : Nat) (hn : n ≤ 6) : D2 N [(-1)] (n : Int) = some (List.replicate n (-1)) := by
 obtain ⟨k, rfl⟩ : ∃ k, N = k + 100 := ⟨N - 100, by omega⟩
 have : n = 0 ∨ n = 1 ∨ n = 2 ∨ n = 3 ∨ n = 4 ∨ n = 5 ∨ n = 6 := by omega
 rcases this with rfl | rfl | rfl | rfl | rfl | rfl | rfl
 all_goals (show _ = _; kernel_rfl)
theorem Qg (T : List Int) (i : Nat) (hi : i < T.length) : (T.take i ++ List.replicate (T.length - i) 0).set i (T.getD i 0) = T.take (i + 1) ++ List.replicate (T.length - (i + 1)) 0 := by
 have hl : (T.take i).length = i := by simp; omega
 rw [List.set_append_right _ _ (by omega), hl, Nat.sub_self, show T.length - i = (T.length - (i + 1)) + 1 from by omega, List.replicate_succ, List.set_cons_zero, List.take_add_one, List.append_assoc]
 have : T[i]? = some (T.getD i 0) := by rw [List.getD_eq_getElem?_getD]; simp [hi]
 rw [this]; rfl
theorem R5 (T : List Int) (i : Nat) (hi : i < T.length) (h0 : T.getD i 0 = 0) : T.take i ++ List.replicate (T.length - i) 0 = T.take (i + 1) ++ List.replicate (T.length - (i + 1)) 0 := by
 rw [← Qg T i hi, h0, List.set_append_right _ _ (by rw [List.length_take]; omega)]
 congr 1
 have hl : (T.take i).length = i := by simp; omega
 rw [hl, Nat.sub_self, show T.length - i = (T.length - (i + 1)) + 1 from by omega, List.replicate_succ, List.set_cons_zero]
theorem QM {p : Ad} (hv : BQ p = 0) {t : AG} (ht : t ∈ p.fTables) : 0 ≤ t.fFrom ∧ t.fFrom.toNat < p.fNow.length ∧ 0 ≤ p.fNow.getD t.fFrom.toNat 0 ∧ p.fNow.getD t.fFrom.toNat 0 < 6 ∧ p.fNow.getD t.fFrom.toNat 0 < p.fVersions.getD t.fFrom.toNat 0 ∧ t.fFrom.toNat < p.fVersions.length := by
 obtain ⟨hp, hr⟩ := CK hv
 have h1 := H2 (hp.tab t ht)
 have h2 := hr t.fFrom.toNat (by omega)
 have h3 := Hf hp (i := t.fFrom.toNat) (by omega)
 have := hp.now
 refine ⟨h1.1, by omega, h2.1, by omega, h2.2.1, by omega⟩
theorem IF {p : Ad} {i : Nat} {t : AG} (ht : p.fTables[i]? = some t) : (p.fTables.map (E7 p)).getD i 0 = E7 p t := by
 rw [List.getD_eq_getElem?_getD, List.getElem?_map, ht]; rfl
theorem OE (N : Nat) (p : Ad) (hN : N ≤ 1000000) (h20 : 100 ≤ N) : FM N p = some (if BQ p = 0 then D8 p else ⟨[], [], []⟩, BQ p) := by
 unfold FM
 rw [Le N p hN (by omega)]
 simp only [Option.bind_some]
 by_cases hv : BQ p = 0
 ·rw [if_pos hv, hv]
  obtain ⟨hp, _⟩ := CK hv
  have hnv := hp.nv
  have hnt := hp.nt
  have hnow := hp.now
  rw [bne_self_eq_false, Av, IB N _ (by simp only [Dz]; omega)]
  simp only [Option.bind_some]
  rw [RO N h20 _ (by omega)]
  simp only [Option.bind_some]
  rw [Az (by simp only [Dz]; omega)]
  obtain ⟨a', e, ha⟩ := Ey (DL N p fun v7 => some (Af.mk p.fNow (List.replicate p.fNow.length (-1)) v7, 0)) (fun a i => (a, i)) p.fTables.length (fun v7 => some (Af.mk p.fNow (List.replicate p.fNow.length (-1)) v7, 0))
   (fun i a => a = (p.fTables.map (E7 p)).take i ++ List.replicate ((p.fTables.map (E7 p)).length - i) 0)
   (fun n i a hi ha => by
    have hx : p.fTables[i]? = some p.fTables[i] := by simp [hi]
    have hm : p.fTables[i] ∈ p.fTables := List.getElem_mem hi
    obtain ⟨n1, n2, n3, n4, _⟩ := QM hv hm
    rw [DL, AL (by simp only; omega)]
    simp only [Bb, A3, hx, Option.bind_some, Iv, AM (show i < 1000000 by omega)]
    have hal : i < (p.fTables.map (E7 p)).length := by simpa using hi
    cases hs : B6 p.fTables[i]
    ·rw [Av]
     refine ⟨a, rfl, ?_⟩
     rw [ha]
     exact R5 _ _ hal (by rw [IF hx]; unfold E7; rw [hs]; rfl)
    ·rw [AN]
     have e1 : BS p.fNow p.fTables[i].fFrom = some (p.fNow.getD p.fTables[i].fFrom.toNat 0) := by
      obtain ⟨q, hq⟩ := Int.eq_ofNat_of_zero_le n1
      rw [hq]; exact CQ (by rw [hq] at n2; simpa using n2)
     rw [e1]
     simp only [Option.bind_some]
     rw [Az n3]
     have hl : i < a.length := by rw [ha]; simp; omega
     have e2 : a[i]? = some a[i] := by simp [hl]
     rw [e2]
     simp only [Option.bind_some]
     refine ⟨_, rfl, ?_⟩
     rw [← Qg _ _ hal, IF hx, ha]
     unfold E7; rw [hs]; rfl)
   (fun n a ha => by rw [DL, AH (by simp)]) N 0 (List.replicate p.fTables.length 0) (Nat.zero_le _) (by omega) (by simp)
  have e' : DL N p (fun v7 => some (Af.mk p.fNow (List.replicate p.fNow.length (-1)) v7, 0)) N (List.replicate ((p.fTables.length : Int)).toNat (0 : Int), 0) = _ := e
  rw [e', ha]
  have e5 : (p.fTables.map (E7 p)).take p.fTables.length = p.fTables.map (E7 p) := List.take_of_length_le (by simp)
  simp [D8, e5]
 ·rw [if_neg hv, bne_iff_ne.2 hv, AN]
theorem IU (N : Nat) (p : Ad) (hN : N ≤ 1000000) (h20 : 100 ≤ N) : CS N p = some (if BQ p = 0 then D8 p else ⟨[], [], []⟩, BQ p) := by
 unfold CS
 rw [M0 N p hN (by omega)]
 simp only [Option.bind_some]
 by_cases hv : BQ p = 0
 ·rw [if_pos hv, hv]
  obtain ⟨hp, _⟩ := CK hv
  have hnv := hp.nv
  have hnt := hp.nt
  have hnow := hp.now
  rw [bne_self_eq_false, Av]
  obtain ⟨a', e, ha⟩ := Ey (B4 N p fun v4 => Bi N p (fun v10 => some (Af.mk v4.1 v4.2 v10, 0)) N (([] : List Int), 0)) (fun a i => (a.1, a.2, i)) p.fVersions.length (fun v4 => Bi N p (fun v10 => some (Af.mk v4.1 v4.2 v10, 0)) N (([] : List Int), 0))
   (fun i a => a = (p.fNow.take i, List.replicate i (-1)))
   (fun n i a hi ha => by
    subst ha
    rw [B4, AL (by simp only; omega)]
    have hx : p.fNow[i]? = some p.fNow[i] := by simp [show i < p.fNow.length from by omega]
    simp only [A3, hx, Option.bind_some, AM (show i < 1000000 by omega)]
    rw [Az (by simp [Dz]; omega), Az (by simp [Dz]; omega)]
    refine ⟨(p.fNow.take i ++ [p.fNow[i]], List.replicate i (-1) ++ [-1]), rfl, ?_⟩
    rw [List.take_add_one, hx, List.replicate_succ']; rfl)
   (fun n a ha => by rw [B4, AH (by simp)]) N 0 ([], []) (Nat.zero_le _) (by omega) rfl
  have e' : B4 N p (fun v4 => Bi N p (fun v10 => some (Af.mk v4.1 v4.2 v10, 0)) N (([] : List Int), 0)) N (([] : List Int), ([] : List Int), 0) = _ := e
  rw [e', ha]
  simp only
  obtain ⟨b', e2, hb⟩ := Ey (Bi N p fun v10 => some (Af.mk (p.fNow.take p.fVersions.length) (List.replicate p.fVersions.length (-1)) v10, 0)) (fun a i => (a, i)) p.fTables.length (fun v10 => some (Af.mk (p.fNow.take p.fVersions.length) (List.replicate p.fVersions.length (-1)) v10, 0))
   (fun i a => a = (p.fTables.map (E7 p)).take i)
   (fun n i a hi ha => by
    subst ha
    have hx : p.fTables[i]? = some p.fTables[i] := by simp [hi]
    have hm : p.fTables[i] ∈ p.fTables := List.getElem_mem hi
    obtain ⟨n1, n2, n3, n4, _⟩ := QM hv hm
    rw [Bi, AL (by simp only; omega)]
    simp only [Bb, A3, hx, Option.bind_some, F2, AM (show i < 1000000 by omega)]
    have hT : (p.fTables.map (E7 p))[i]? = some (E7 p p.fTables[i]) := by rw [List.getElem?_map, hx]; rfl
    have hlen : ((p.fTables.map (E7 p)).take i).length + 1 ≤ Dz := by simp [Dz]; omega
    cases hs : B6 p.fTables[i]
    ·rw [Av, Az (by simpa using hlen)]
     refine ⟨_, rfl, ?_⟩
     rw [List.take_add_one, hT]
     unfold E7; rw [hs]; rfl
    ·rw [AN]
     have e1 : BS p.fNow p.fTables[i].fFrom = some (p.fNow.getD p.fTables[i].fFrom.toNat 0) := by
      obtain ⟨q, hq⟩ := Int.eq_ofNat_of_zero_le n1
      rw [hq]; exact CQ (by rw [hq] at n2; simpa using n2)
     rw [e1]
     simp only [Option.bind_some]
     rw [Az n3, Az (by simpa using hlen)]
     refine ⟨_, rfl, ?_⟩
     rw [List.take_add_one, hT]
     unfold E7; rw [hs]; rfl)
   (fun n a ha => by rw [Bi, AH (by simp)]) N 0 [] (Nat.zero_le _) (by omega) rfl
  have e3 : Bi N p (fun v10 => some (Af.mk (p.fNow.take p.fVersions.length) (List.replicate p.fVersions.length (-1)) v10, 0)) N (([] : List Int), 0) = _ := e2
  rw [e3, hb]
  simp only [D8, ← hnow, List.take_length]
  rw [show p.fTables.length = (p.fTables.map (E7 p)).length from by simp, List.take_length]
 ·rw [if_neg hv, bne_iff_ne.2 hv, AN]
theorem KU {p : Ad} (hv : BQ p = 0) : BM p (D8 p) := by
 obtain ⟨hp, hr⟩ := CK hv
 have hnow := hp.now
 have hnx : ∀ i, i < p.fVersions.length → (List.replicate p.fNow.length (-1 : Int)).getD i 0 = -1 := fun i hi => by
  rw [List.getD_eq_getElem?_getD, List.getElem?_replicate, if_pos (by omega)]; rfl
 have hone : ∀ (i : Nat) (t : AG), p.fTables[i]? = some t → ∃ b : Nat, b < 6 ∧ p.fNow.getD t.fFrom.toNat 0 = (b : Int) ∧ (b : Int) < p.fVersions.getD t.fFrom.toNat 0 ∧ t.fFrom.toNat < p.fVersions.length := fun i t ht => by
  obtain ⟨n1, n2, n3, n4, n5, n6⟩ := QM hv (List.mem_of_getElem? ht)
  obtain ⟨b, hb⟩ := Int.eq_ofNat_of_zero_le n3
  exact ⟨b, by omega, hb, by omega, n6⟩
 have hbit : ∀ b : Nat, b < 8 → ∀ v, Dm (DA .u8 1 (b : Int)) v = decide (b = v) := fun b hb v => by
  by_cases h : v < 8
  ·exact (IQ ⟨b, hb⟩ ⟨v, h⟩).1
  ·rw [IW (IQ ⟨b, hb⟩ ⟨0, by omega⟩).2.2 (by omega)]
   symm; apply decide_eq_false; omega
 refine { base := hnow, next := by simp [D8, hnow], held := by simp [D8], b0 := fun i hi => ⟨(hr i hi).1, (hr i hi).2.1⟩, n0 := fun i hi => ?_, ne := fun i hi => ?_, range := fun i hi => ?_, low := fun i t ht hs v hv' => ?_, high := fun i t ht hs v hb => ?_, none := fun i t ht hs => ?_ }
 ·show -1 ≤ (List.replicate p.fNow.length (-1 : Int)).getD i 0 ∧ (List.replicate p.fNow.length (-1 : Int)).getD i 0 < _
  rw [hnx i hi]
  have := Hf hp hi
  omega
 ·show p.fNow.getD i 0 ≠ (List.replicate p.fNow.length (-1 : Int)).getD i 0
  rw [hnx i hi]
  have := hr i hi
  omega
 ·have hx : p.fTables[i]? = some p.fTables[i] := by simp [hi]
  show 0 ≤ (p.fTables.map (E7 p)).getD i 0 ∧ (p.fTables.map (E7 p)).getD i 0 ≤ 255
  rw [IF hx]
  unfold E7
  split
  ·obtain ⟨b, h1, h2, _⟩ := hone i _ hx
   rw [h2]
   exact (IQ ⟨b, by omega⟩ ⟨0, by omega⟩).2
  ·omega
 ·show Dm ((p.fTables.map (E7 p)).getD i 0) v = true
  obtain ⟨b, h1, h2, h3, h4⟩ := hone i t ht
  rw [IF ht]
  unfold E7
  rw [if_pos hs, h2, hbit b (by omega)]
  unfold Hz at hv'
  have h5 : (D8 p).fBase.getD t.fFrom.toNat 0 = (b : Int) := h2
  have h6 : (D8 p).fNext.getD t.fFrom.toNat 0 = -1 := hnx _ h4
  rw [h5, h6, Bool.or_eq_true, decide_eq_true_iff, decide_eq_true_iff] at hv'
  apply decide_eq_true; omega
 ·have hb : Dm ((p.fTables.map (E7 p)).getD i 0) v = true := hb
  obtain ⟨b, h1, h2, h3, h4⟩ := hone i t ht
  rw [IF ht] at hb
  unfold E7 at hb
  rw [if_pos hs, h2, hbit b (by omega), decide_eq_true_iff] at hb
  omega
 ·show (p.fTables.map (E7 p)).getD i 0 = 0
  rw [IF ht]; unfold E7; rw [hs]; rfl
theorem PI {p : Ad} (hv : BQ p = 0) : EG p (D8 p) = 0 := Fw hv (KU hv)
end Go.Lift

/- Bits of sets of versions: or, and-not, the lowest bit. -/
namespace Go.Lift
open Go
theorem Mh (x : BitVec 8) : IntKind.wrap .u8 (x.toNat : Int) = (x.toNat : Int) := by
 have := x.isLt
 simp [IntKind.wrap, IntKind.signed, IntKind.bits]
 omega
theorem PA (x : BitVec 8) : 0 ≤ (x.toNat : Int) ∧ (x.toNat : Int) ≤ 255 := by
 have := x.isLt
 omega
theorem S4 (x : BitVec 8) (v : Nat) : Dm (x.toNat : Int) v = x.getLsbD v := by
 unfold Dm; rw [Int.toNat_natCast]; rfl
theorem Pe {a : Int} (ha : 0 ≤ a ∧ a ≤ 255) (v : Nat) : (BitVec.ofInt 8 a).getLsbD v = Dm a v := by
 obtain ⟨a, rfl⟩ := Int.eq_ofNat_of_zero_le ha.1
 unfold BitVec.getLsbD Dm
 rw [Tr (by omega), Int.toNat_natCast]
theorem QP {a b : Int} (ha : 0 ≤ a ∧ a ≤ 255) (hb : 0 ≤ b ∧ b ≤ 255) : (∀ v, Dm (C0 .u8 a b) v = (Dm a v && !Dm b v)) ∧ 0 ≤ C0 .u8 a b ∧ C0 .u8 a b ≤ 255 := by
 have e : C0 .u8 a b = ((BitVec.ofInt 8 a &&& ~~~BitVec.ofInt 8 b).toNat : Int) := Mh (BitVec.ofInt 8 a &&& ~~~BitVec.ofInt 8 b)
 rw [e]
 refine ⟨fun v => ?_, PA _⟩
 rw [S4, BitVec.getLsbD_and, BitVec.getLsbD_not, Pe ha, Pe hb]
 by_cases h : v < 8
 ·simp [h]
 ·rw [IW ha.2 (by omega)]; simp
theorem QU {a b : Int} (ha : 0 ≤ a ∧ a ≤ 255) (hb : 0 ≤ b ∧ b ≤ 255) : (∀ v, Dm (Nq .u8 a b) v = (Dm a v || Dm b v)) ∧ 0 ≤ Nq .u8 a b ∧ Nq .u8 a b ≤ 255 := by
 have e : Nq .u8 a b = ((BitVec.ofInt 8 a ||| BitVec.ofInt 8 b).toNat : Int) := Mh (BitVec.ofInt 8 a ||| BitVec.ofInt 8 b)
 rw [e]
 refine ⟨fun v => ?_, PA _⟩
 rw [S4, BitVec.getLsbD_or, Pe ha, Pe hb]
theorem Uv {b : Nat} (hb : b < 8) : (∀ v, Dm (DA .u8 1 (b : Int)) v = decide (b = v)) ∧ 0 ≤ DA .u8 1 (b : Int) ∧ DA .u8 1 (b : Int) ≤ 255 := by
 refine ⟨fun v => ?_, (IQ ⟨b, hb⟩ ⟨0, by omega⟩).2⟩
 by_cases h : v < 8
 ·exact (IQ ⟨b, hb⟩ ⟨v, h⟩).1
 ·rw [IW (IQ ⟨b, hb⟩ ⟨0, by omega⟩).2.2 (by omega)]
  symm; apply decide_eq_false; omega
theorem TI (N : Nat) {s : Int} {v : Nat} (hs : 0 ≤ s ∧ s ≤ 255) (hv : v < 8) : Cj N s (v : Int) = some (Dm s v) := by
 unfold Cj
 rw [Az (by omega), Ou hs.1 hs.2 hv]
 cases Dm s v <;> rfl
def U9 (v : Nat) : Nat := ((List.range 8).find? fun u => v.testBit u).getD 8
def WN (v : Nat) : Nat := ((List.range 8).filter fun u => v.testBit u).length
theorem Vy : ∀ v : Fin 256, CM 0 (v.val : Int) = some (U9 v.val : Int) := by decide +kernel
theorem W1 (N : Nat) {v : Nat} (h : v < 256) : CM N (v : Int) = some (U9 v : Int) := Vy ⟨v, h⟩
theorem Ud : ∀ v : Fin 256, v.val ≠ 0 → U9 v.val < 8 ∧ Dm (v.val : Int) (U9 v.val) = true ∧ 0 ≤ FK .u8 (v.val : Int) (IntKind.wrap .u8 ((v.val : Int) - 1)) ∧ FK .u8 (v.val : Int) (IntKind.wrap .u8 ((v.val : Int) - 1)) ≤ 255 ∧
  WN (FK .u8 (v.val : Int) (IntKind.wrap .u8 ((v.val : Int) - 1))).toNat + 1 = WN v.val ∧
  ∀ u : Fin 8, Dm (FK .u8 (v.val : Int) (IntKind.wrap .u8 ((v.val : Int) - 1))) u.val = (Dm (v.val : Int) u.val && decide (u.val ≠ U9 v.val)) := by decide +kernel
theorem Wj (v : Nat) : WN v ≤ 8 := by
 have := List.length_filter_le (fun u => v.testBit u) (List.range 8)
 simpa [WN] using this
theorem PC (N : Nat) (t : AG) (b : Int) (rw_ : Nat → Bool) : ∀ (k n v : Nat), WN v ≤ k → k < n → v < 256 →
  (∀ u, u < 8 → Dm (v : Int) u = true → ∃ row, BS t.fRewrite (u : Int) = some row ∧ BS row b = some (rw_ u)) →
  Dc N t b (fun _ => some true) n (v : Int) = some ((List.range 8).all fun u => !Dm (v : Int) u || rw_ u)
 | k, 0, v, _, h, _, _ => by omega
 | k, n + 1, v, hk, hn, hv, hr => by
  rw [Dc]
  by_cases h0 : v = 0
  ·subst h0
   have : (((0 : Nat) : Int) != 0) = false := rfl
   rw [this, Av]
   congr 1
  ·have h1 : ((v : Int) != 0) = true := bne_iff_ne.2 (by omega)
   obtain ⟨l1, l2, l3, l4, l5, l6⟩ := Ud ⟨v, hv⟩ h0
   simp only at l1 l2 l3 l4 l5 l6
   obtain ⟨row, e1, e2⟩ := hr _ l1 l2
   rw [h1, AN, W1 N hv]
   simp only [Option.bind_some, e1, e2]
   obtain ⟨w, hw⟩ := Int.eq_ofNat_of_zero_le l3
   rw [hw] at l4 l5 l6 ⊢
   rw [Int.toNat_natCast] at l5
   cases hq : rw_ (U9 v)
   ·rw [Bool.not_false, AN]
    congr 1
    symm
    rw [List.all_eq_false]
    exact ⟨U9 v, by simpa using l1, by rw [l2, hq]; simp⟩
   ·rw [Bool.not_true, Av]
    match k, hk with
    | 0, hk => exfalso; omega
    | k + 1, hk =>
    rw [PC N t b rw_ k n w (by omega) (by omega) (by omega) (fun u hu hb => hr u hu (by have := l6 ⟨u, hu⟩; simp only at this; rw [hb] at this; simpa using (Bool.and_eq_true_iff.1 this.symm).1))]
    congr 1
    rw [Bool.eq_iff_iff, List.all_eq_true, List.all_eq_true]
    refine ⟨fun h u hu => ?_, fun h u hu => ?_⟩
    ·have hu8 : u < 8 := by simpa using hu
     have h3 := h u hu
     have h4 := l6 ⟨u, hu8⟩
     simp only at h4
     rw [h4] at h3
     by_cases e : u = U9 v
     ·rw [e, hq]; simp
     ·simpa [e] using h3
    ·have hu8 : u < 8 := by simpa using hu
     have h3 := h u hu
     have h4 := l6 ⟨u, hu8⟩
     simp only at h4
     rw [h4]
     cases hb : Dm (v : Int) u
     ·simp
     ·rw [hb] at h3; simp at h3; simp [h3]
end Go.Lift

/- Steps: both implementations give one answer. -/
namespace Go.Lift
open Go
theorem PR (N : Nat) (m : Af) (s : Int) (h0 : 0 ≤ s) (h1 : s < (m.fBase.length : Int)) (h2 : s < (m.fNext.length : Int)) (hb : 0 ≤ m.fBase.getD s.toNat 0) : Fi N m s = some (F0 m s.toNat) := by
 unfold Fi F0
 rw [Eo (d := 0) h0 h1, Eo (d := 0) h0 h2]
 simp only [Option.bind_some, Bp]
 rw [show Ei (0 ≤ m.fBase.getD s.toNat 0) = some () from by unfold Ei; rw [if_pos hb]]
 simp only [Option.bind_some]
 by_cases h : 0 ≤ m.fNext.getD s.toNat 0
 ·rw [AL h, if_pos h, show Ei (0 ≤ m.fNext.getD s.toNat 0) = some () from by unfold Ei; rw [if_pos h]]; rfl
 ·rw [AH h, if_neg h]
theorem JA (N : Nat) (t : AG) : E1 N t = some (B6 t) := by
 unfold E1 B6
 simp only [Bp]
 cases h : t.fKind == 3 <;> simp
def Fx (s : Ah) : Bool := decide (1 ≤ s.fKind ∧ s.fKind ≤ 4 ∧ 0 ≤ s.fIndex ∧ 0 ≤ s.fVersion) && (s.fKind == 1 || s.fVersion == 0)
def EY (p : Ad) (s : Ah) : Bool :=
 if s.fKind = 3 then decide (s.fIndex < (p.fTables.length : Int)) else decide (s.fIndex < (p.fVersions.length : Int)) && (s.fKind != 1 || decide (s.fVersion < p.fVersions.getD s.fIndex.toNat 0))
theorem ND (N : Nat) (s : Ah) : FY N s = some (Fx s) := by
 unfold FY Fx SP
 simp only [Bp]
 by_cases h1 : (if s.fVersion < s.fIndex then s.fVersion else s.fIndex) < 0
 ·rw [AL h1, AN, decide_eq_false (by split at h1 <;> omega)]; rfl
 ·rw [AH h1]
  by_cases h2 : s.fKind < 1
  ·rw [AL h2, AN, decide_eq_false (by omega)]; rfl
  ·rw [AH h2]
   by_cases h3 : 4 < s.fKind
   ·rw [decide_eq_true h3, AN, decide_eq_false (by omega)]; rfl
   ·rw [decide_eq_false h3, Av, decide_eq_true (by split at h1 <;> omega), Bool.true_and]
    cases h4 : s.fKind == 1 <;> simp
theorem O6 (N : Nat) (s : Ah) : Eg N s = some (Fx s) := by
 unfold Eg Fx
 simp only [Bp]
 by_cases h1 : 1 ≤ s.fKind
 ·rw [AL h1]
  by_cases h2 : s.fKind ≤ 4
  ·rw [AL h2]
   by_cases h3 : 0 ≤ s.fIndex
   ·rw [AL h3]
    by_cases h4 : 0 ≤ s.fVersion
    ·rw [AL h4, decide_eq_true (by omega), Bool.true_and]
     cases h5 : s.fKind == 1 <;> simp
    ·rw [AH h4, decide_eq_false (by omega)]; rfl
   ·rw [AH h3, decide_eq_false (by omega)]; rfl
  ·rw [AH h2, decide_eq_false (by omega)]; rfl
 ·rw [AH h1, decide_eq_false (by omega)]; rfl
theorem MN (N : Nat) (p : Ad) (s : Ah) (hv : Fx s = true) : Fv N p s = some (EY p s) := by
 have h0 : 0 ≤ s.fIndex := by
  unfold Fx at hv
  rw [Bool.and_eq_true, decide_eq_true_iff] at hv
  exact hv.1.2.2.1
 unfold Fv EY
 simp only [Bp]
 by_cases h1 : s.fKind = 3
 ·rw [if_pos h1, beq_iff_eq.2 h1, AN]
 ·rw [if_neg h1, beq_eq_false_iff_ne.2 h1, Av]
  by_cases h2 : s.fIndex < (p.fVersions.length : Int)
  ·rw [AL h2, decide_eq_true h2, Bool.true_and]
   cases h3 : s.fKind != 1
   ·rw [Av, Eo (d := 0) h0 h2, Bool.false_or]; rfl
   ·rw [AN]; rfl
  ·rw [AH h2, decide_eq_false h2]; rfl
def Ri (s : Ah) (t : AG) : Bool := t.fFrom == s.fIndex && B6 t
def Sl (s : Ah) (i : Nat) (t : AG) (a : List Int) : List Int := if Ri s t = true then a.set i (Nq .u8 (a.getD i 0) (DA .u8 1 s.fVersion)) else a
def HL (p : Ad) (s : Ah) (held : List Int) : List Int := Hm (Sl s) 0 p.fTables held
theorem Mn {R : Type} (N : Nat) (p : Ad) (s : Ah) (held : List Int) (hv : 0 ≤ s.fVersion) (hl : held.length = p.fTables.length) (h12 : p.fTables.length < N) (hN : N ≤ 1000000) (j : List Int → Option (Bool × List Int × List Int)) :
  Dt N p s j N (held, 0) = j (HL p s held) ∧ (HL p s held).length = p.fTables.length := by
 have := HC (Dt N p s j) (fun a i => (a, i)) p.fTables j (Sl s) (fun i a => a.length = p.fTables.length)
  (fun n i x a hx ha => by
   have hi := (List.getElem?_eq_some_iff.1 hx).1
   rw [Dt, AL (by simp only; omega)]
   simp only [Bb, A3, hx, Option.bind_some, JA, AM (show i < 1000000 by omega)]
   have e2 : a[i]? = some (a.getD i 0) := by rw [List.getD_eq_getElem?_getD]; simp [show i < a.length from by omega]
   unfold Sl Ri
   cases h1 : x.fFrom == s.fIndex
   ·rw [Av, Av, Bool.false_and, if_neg (by simp)]; exact ⟨rfl, ha⟩
   ·rw [AN, Bool.true_and]
    cases h2 : B6 x
    ·rw [Av, if_neg (by simp)]; exact ⟨rfl, ha⟩
    ·rw [AN, e2, if_pos rfl]
     simp only [Option.bind_some]
     rw [Az hv]
     exact ⟨rfl, by simpa using ha⟩)
  (fun n a ha => by rw [Dt, AH (by simp)]) N 0 held (Nat.zero_le _) (by omega) hl
 rw [List.drop_zero] at this
 exact this
theorem Nn (N : Nat) (p : Ad) (s : Ah) (held : List Int) (hv : 0 ≤ s.fVersion) (hl : held.length = p.fTables.length) (h12 : p.fTables.length < N) (hN : N ≤ 1000000) (j : List Int → Option (Af × Bool)) :
  BV N p s j N (held, 0) = j (HL p s held) := by
 have := HC (BV N p s j) (fun a i => (a, i)) p.fTables j (Sl s) (fun i a => a.length = p.fTables.length)
  (fun n i x a hx ha => by
   have hi := (List.getElem?_eq_some_iff.1 hx).1
   rw [BV, AL (by simp only; omega)]
   simp only [Bb, A3, hx, Option.bind_some, F2, AM (show i < 1000000 by omega)]
   have e2 : a[i]? = some (a.getD i 0) := by rw [List.getD_eq_getElem?_getD]; simp [show i < a.length from by omega]
   unfold Sl Ri
   cases h1 : x.fFrom == s.fIndex
   ·rw [Av, Av, Bool.false_and, if_neg (by simp)]; exact ⟨rfl, ha⟩
   ·rw [AN, Bool.true_and]
    cases h2 : B6 x
    ·rw [Av, if_neg (by simp)]; exact ⟨rfl, ha⟩
    ·rw [AN, e2, if_pos rfl]
     simp only [Option.bind_some]
     rw [Az hv]
     exact ⟨rfl, by simpa using ha⟩)
  (fun n a ha => by rw [BV, AH (by simp)]) N 0 held (Nat.zero_le _) (by omega) hl
 rw [List.drop_zero] at this
 exact this.1
def Km (m : Af) (t : AG) (u : Nat) : Bool := (t.fRewrite.getD u []).getD (m.fBase.getD t.fFrom.toNat 0).toNat false
def MZ (m : Af) (i : Nat) (t : AG) (u : Nat) : Bool := Dm (m.fHeld.getD i 0) u && !Hz m t.fFrom.toNat u
def Hi (p : Ad) (m : Af) (i : Nat) (t : AG) : Bool := t.fKind == 4 && (List.range 8).any fun u => MZ m i t u && !Km m t u
def E4 (p : Ad) (m : Af) (s : Ah) : Option Af :=
 let i := s.fIndex.toNat
 if s.fKind = 1 then (if 0 ≤ m.fNext.getD i 0 ∨ m.fBase.getD i 0 = s.fVersion then none else some ⟨m.fBase, m.fNext.set i s.fVersion, HL p s m.fHeld⟩)
 else if s.fKind = 3 then match p.fTables[i]? with
  | none => none
  | some t => if B6 t = false ∨ m.fHeld.getD i 0 = F0 m t.fFrom.toNat ∨ Hi p m i t = true then none else some ⟨m.fBase, m.fNext, m.fHeld.set i (F0 m t.fFrom.toNat)⟩
 else if m.fNext.getD i 0 < 0 then none
 else some ⟨if s.fKind = 2 then m.fBase.set i (m.fNext.getD i 0) else m.fBase, m.fNext.set i (-1), m.fHeld⟩
def A2 (p : Ad) (m : Af) (s : Ah) : Af × Int :=
 if Fx s = false then (Fj, 1) else if EY p s = false then (Fj, 4) else match E4 p m s with
  | none => (Fj, 11)
  | some x => (x, 0)
end Go.Lift

/- Steps: clearing, and the whole of Apply. -/
namespace Go.Lift
open Go
section clear
variable {p : Ad} {m : Af} {i : Nat} {t : AG}
theorem SB (hp : Bf p) (hm : BM p m) (ht : p.fTables[i]? = some t) (hs : B6 t = true) {u : Nat} (h : Dm (m.fHeld.getD i 0) u = true) : (u : Int) < p.fVersions.getD t.fFrom.toNat 0 ∧ u < 6 ∧ t.fFrom.toNat < p.fVersions.length := by
 have h1 := hm.high i t ht hs u h
 have hin := H2 (hp.tab t (List.mem_of_getElem? ht))
 have h2 := Hf hp (i := t.fFrom.toNat) (by omega)
 exact ⟨h1, by omega, by omega⟩
theorem SZ (hp : Bf p) (hm : BM p m) (ht : p.fTables[i]? = some t) (hs : B6 t = true) (h4 : t.fKind = 4) {u : Nat} (h : Dm (m.fHeld.getD i 0) u = true) :
  BS t.fRewrite (u : Int) = some (t.fRewrite.getD u []) ∧ BS (t.fRewrite.getD u []) (m.fBase.getD t.fFrom.toNat 0) = some (Km m t u) := by
 have hT := LH (hp.tab t (List.mem_of_getElem? ht))
 obtain ⟨h1, h2, h3⟩ := SB hp hm ht hs h
 have hl := hT.reL h4
 have e : t.fRewrite[u]? = some (t.fRewrite.getD u []) := by rw [List.getD_eq_getElem?_getD]; simp [show u < t.fRewrite.length from by omega]
 have hr := hT.reR _ (List.mem_of_getElem? e)
 have hb := hm.b0 t.fFrom.toNat h3
 refine ⟨by rw [A3, e], ?_⟩
 unfold Km
 obtain ⟨b, hb'⟩ := Int.eq_ofNat_of_zero_le hb.1
 rw [hb'] at hb ⊢
 rw [Int.toNat_natCast]
 exact CQ (by omega)
theorem Nr (N : Nat) (hN : N ≤ 1000000) (h20 : 100 ≤ N) (hp : Bf p) (hm : BM p m) (ht : p.fTables[i]? = some t) :
  F5 N p m (i : Int) = some (if B6 t = false ∨ m.fHeld.getD i 0 = F0 m t.fFrom.toNat ∨ Hi p m i t = true then (false, m.fHeld) else (true, m.fHeld.set i (F0 m t.fFrom.toNat))) := by
 have hi := (List.getElem?_eq_some_iff.1 ht).1
 have hin := H2 (hp.tab t (List.mem_of_getElem? ht))
 have hb := hm.base
 have hnx := hm.next
 have hh := hm.held
 have hr := Hb hp hm.toMixServ (s := t.fFrom.toNat) (by omega)
 have hrg := hm.range i hi
 have eh : BS m.fHeld (i : Int) = some (m.fHeld.getD i 0) := CQ (by omega)
 unfold F5
 simp only [Bb, A3, ht, Option.bind_some, JA]
 have eh' : m.fHeld[i]? = some (m.fHeld.getD i 0) := by rw [← A3, eh]
 cases hs : B6 t
 ·rw [Bool.not_false, AN, if_pos (.inl rfl)]
 ·rw [Bool.not_true, Av, PR N m _ hin.1 (by omega) (by omega) (hm.b0 _ (by omega)).1]
  simp only [Option.bind_some, eh']
  by_cases h1 : m.fHeld.getD i 0 = F0 m t.fFrom.toNat
  ·rw [beq_iff_eq.2 h1, AN, AN, if_pos (.inr (.inl h1))]
  ·rw [beq_eq_false_iff_ne.2 h1, Av]
   by_cases h4 : t.fKind = 4
   ·rw [beq_iff_eq.2 h4, AN, Eo (d := 0) hin.1 (by omega)]
    simp only [Option.bind_some]
    obtain ⟨a1, a2, a3⟩ := QP hrg hr.2
    obtain ⟨w, hw⟩ := Int.eq_ofNat_of_zero_le a2
    unfold Fg
    rw [hw] at a1 a3 ⊢
    rw [PC N t _ (Km m t) 8 N w (Wj _) (by omega) (by omega) (fun u hu hbu => by
     have := a1 u; rw [hbu] at this
     exact ⟨_, SZ hp hm ht hs h4 (Bool.and_eq_true_iff.1 this.symm).1⟩)]
    simp only [Option.bind_some]
    have e : (!(List.range 8).all fun u => !Dm (w : Int) u || Km m t u) = Hi p m i t := by
     unfold Hi
     rw [beq_iff_eq.2 h4, Bool.true_and, List.not_all_eq_any_not]
     congr 1
     funext u
     rw [a1 u, hr.1 u]
     unfold MZ
     cases Dm (m.fHeld.getD i 0) u <;> cases Hz m t.fFrom.toNat u <;> cases Km m t u <;> rfl
    rw [e]
    cases hst : Hi p m i t
    ·rw [Av, if_neg (by rintro (h | h | h); cases h; exact h1 h; cases h)]; rfl
    ·rw [AN, if_pos (.inr (.inr rfl))]
   ·have e : Hi p m i t = false := by unfold Hi; rw [beq_eq_false_iff_ne.2 h4]; rfl
    rw [beq_eq_false_iff_ne.2 h4, Av, Av, e, if_neg (by rintro (h | h | h); cases h; exact h1 h; cases h)]; rfl
theorem MR (N : Nat) (hN : N ≤ 1000000) (h20 : 100 ≤ N) (hp : Bf p) (hm : BM p m) (ht : p.fTables[i]? = some t) (hs : B6 t = true) (s : Ah) (hsi : s.fIndex = (i : Int)) (j : Option (Af × Bool)) :
  Bz N p m s t (F0 m t.fFrom.toNat) (fun _ => j) N 0 = if Hi p m i t = true then some (Fj, false) else j := by
 have hi := (List.getElem?_eq_some_iff.1 ht).1
 have hin := H2 (hp.tab t (List.mem_of_getElem? ht))
 have hb := hm.base
 have hh := hm.held
 have hr := Hb hp hm.toMixServ (s := t.fFrom.toNat) (by omega)
 have hrg := hm.range i hi
 have hver := Hf hp (i := t.fFrom.toNat) (by omega)
 obtain ⟨nv, hnv⟩ := Int.eq_ofNat_of_zero_le (show 0 ≤ p.fVersions.getD t.fFrom.toNat 0 by omega)
 have eh' : m.fHeld[i]? = some (m.fHeld.getD i 0) := by rw [List.getD_eq_getElem?_getD]; simp [show i < m.fHeld.length from by omega]
 have := Cm (Bz N p m s t (F0 m t.fFrom.toNat) fun _ => j) (List.range nv) j (fun u _ => if (MZ m i t u && (t.fKind == 4 && !Km m t u)) = true then some (Fj, false) else none)
  (fun n u x hx => by
   have hu : u < nv := by
    have := (List.getElem?_eq_some_iff.1 hx).1
    simpa using this
   rw [Bz, Eo (d := 0) hin.1 (by omega), hnv]
   simp only [Option.bind_some]
   rw [AL (by omega)]
   simp only [Bb, hsi, A3, eh', Option.bind_some]
   rw [TI N hrg (by omega), AM (by omega)]
   simp only [Option.bind_some]
   cases h1 : Dm (m.fHeld.getD i 0) u
   ·have e : MZ m i t u = false := by unfold MZ; rw [h1]; rfl
    rw [Av, Av, Av, e]; rfl
   ·rw [AN, TI N hr.2 (by omega), hr.1 u]
    simp only [Option.bind_some]
    have e : MZ m i t u = !Hz m t.fFrom.toNat u := by unfold MZ; rw [h1]; rfl
    rw [← e]
    cases h2 : MZ m i t u
    ·rw [Av, Av]; rfl
    ·rw [AN]
     by_cases h4 : t.fKind = 4
     ·obtain ⟨e1, e2⟩ := SZ hp hm ht hs h4 h1
      rw [A3] at e1
      rw [beq_iff_eq.2 h4, AN, e1, Eo (d := 0) hin.1 (by omega)]
      simp only [Option.bind_some]
      rw [e2]
      simp only [Option.bind_some]
      cases Km m t u <;> rfl
     ·rw [beq_eq_false_iff_ne.2 h4, Av, Av]; rfl)
  (fun n => by
   rw [Bz, Eo (d := 0) hin.1 (by omega), hnv]
   simp only [Option.bind_some, List.length_range]
   rw [AH (by omega)]) N 0 (Nat.zero_le _) (by simp; omega)
 have e0 : Bz N p m s t (F0 m t.fFrom.toNat) (fun _ => j) N 0 = _ := this
 rw [e0, List.drop_zero]
 by_cases hst : Hi p m i t = true
 ·rw [if_pos hst]
  unfold Hi at hst
  rw [Bool.and_eq_true, List.any_eq_true] at hst
  obtain ⟨h4, u, hu, h5⟩ := hst
  rw [Bool.and_eq_true] at h5
  have h6 : Dm (m.fHeld.getD i 0) u = true := by have := h5.1; unfold MZ at this; exact (Bool.and_eq_true_iff.1 this).1
  have h7 := SB hp hm ht hs h6
  cases hsc : Da (fun u (_ : Nat) => if (MZ m i t u && (t.fKind == 4 && !Km m t u)) = true then some (Fj, false) else none) 0 (List.range nv) with
  | some r =>
   obtain ⟨q, x, hx, hf⟩ := D0 hsc
   split at hf
   ·cases hf; rfl
   ·cases hf
  | none =>
   exfalso
   have hx : (List.range nv)[u]? = some u := List.getElem?_range (by omega)
   have := Er hsc u u hx
   rw [Nat.zero_add, h5.1, h4, h5.2] at this
   cases this
 ·rw [if_neg hst]
  have : Da (fun u (_ : Nat) => if (MZ m i t u && (t.fKind == 4 && !Km m t u)) = true then some (Fj, false) else none) 0 (List.range nv) = none := Fd fun q x hx => by
   rw [Nat.zero_add]
   split
   ·rename_i h5
    exfalso; apply hst
    rw [Bool.and_eq_true, Bool.and_eq_true] at h5
    unfold Hi
    rw [h5.2.1, Bool.true_and, List.any_eq_true]
    have hq : q < nv := by
     have := (List.getElem?_eq_some_iff.1 hx).1
     simpa using this
    exact ⟨q, List.mem_range.2 (by omega), by rw [h5.1, h5.2.2]; rfl⟩
   ·rfl
  rw [this]; rfl
end clear
end Go.Lift

/- Apply: both implementations give applyP; a step leads from a valid mix to a valid mix. -/
namespace Go.Lift
open Go
theorem GV {s : Ah} (h : Fx s = true) : 1 ≤ s.fKind ∧ s.fKind ≤ 4 ∧ 0 ≤ s.fIndex ∧ 0 ≤ s.fVersion ∧ (s.fKind ≠ 1 → s.fVersion = 0) := by
 unfold Fx at h
 rw [Bool.and_eq_true, decide_eq_true_iff, Bool.or_eq_true, beq_iff_eq, beq_iff_eq] at h
 exact ⟨h.1.1, h.1.2.1, h.1.2.2.1, h.1.2.2.2, fun hk => h.2.elim (fun e => (hk e).elim) id⟩
theorem HB {p : Ad} {s : Ah} (h : EY p s = true) : (s.fKind = 3 → s.fIndex < (p.fTables.length : Int)) ∧ (s.fKind ≠ 3 → s.fIndex < (p.fVersions.length : Int)) ∧ (s.fKind = 1 → s.fVersion < p.fVersions.getD s.fIndex.toNat 0) := by
 unfold EY at h
 split at h
 ·rename_i hk
  rw [decide_eq_true_iff] at h
  exact ⟨fun _ => h, fun hn => (hn hk).elim, fun h1 => by omega⟩
 ·rename_i hk
  rw [Bool.and_eq_true, decide_eq_true_iff, Bool.or_eq_true, decide_eq_true_iff, bne_iff_ne] at h
  exact ⟨fun h3 => (hk h3).elim, fun _ => h.1, fun h1 => h.2.elim (fun hn => (hn h1).elim) id⟩
theorem Sc (N : Nat) {p : Ad} {m : Af} (hp : Bf p) (hm : BM p m) : FA N m = some m := by
 have hnv := hp.nv
 have hnt := hp.nt
 have h1 := hm.base
 have h2 := hm.next
 have h3 := hm.held
 unfold FA
 rw [IB N _ (by simp only [Dz]; omega), IB N _ (by simp only [Dz]; omega), Ol N _ (by simp only [Dz]; omega)]
 rfl
theorem Kn (N : Nat) (hN : N ≤ 1000000) (h20 : 100 ≤ N) {p : Ad} {m : Af} (hp : Bf p) (hm : BM p m) {s : Ah} (hv : Fx s = true) (hx : EY p s = true) :
  ∃ o, ET N p m s = some (o, (E4 p m s).isSome) ∧ ∀ x, E4 p m s = some x → o = x := by
 obtain ⟨k1, k4, i0, v0, vk⟩ := GV hv
 obtain ⟨x3, xn, x1⟩ := HB hx
 have hnv := hp.nv
 have hnt := hp.nt
 have hb := hm.base
 have hn := hm.next
 have hh := hm.held
 obtain ⟨i, hi⟩ := Int.eq_ofNat_of_zero_le i0
 unfold ET E4
 rw [Sc N hp hm]
 simp only [Option.bind_some, Bb]
 by_cases hk1 : s.fKind = 1
 ·have hi1 : (i : Int) < p.fVersions.length := by have := xn (by omega); omega
  rw [beq_iff_eq.2 hk1, AN, if_pos hk1]
  unfold GX
  simp only [Bb, hi, Int.toNat_natCast]
  rw [CQ (d := 0) (show i < m.fNext.length by omega)]
  simp only [Option.bind_some]
  by_cases c1 : 0 ≤ m.fNext.getD i 0
  ·rw [AL c1, AN, if_pos (.inl c1)]
   exact ⟨_, rfl, fun x hx => by cases hx⟩
  ·rw [AH c1, CQ (d := 0) (show i < m.fBase.length by omega)]
   simp only [Option.bind_some]
   by_cases c2 : m.fBase.getD i 0 = s.fVersion
   ·rw [beq_iff_eq.2 c2, AN, if_pos (.inr c2)]
    exact ⟨_, rfl, fun x hx => by cases hx⟩
   ·rw [beq_eq_false_iff_ne.2 c2, Av, (Mn (R := Unit) N p s m.fHeld v0 hh (by omega) hN _).1, if_neg (by rintro (h | h); exact c1 h; exact c2 h)]
    exact ⟨_, rfl, fun x hx => by cases hx; rfl⟩
 ·rw [beq_eq_false_iff_ne.2 hk1, Av, if_neg hk1]
  by_cases hk3 : s.fKind = 3
  ·have hi3 : i < p.fTables.length := by have := x3 hk3; omega
   have ht : p.fTables[i]? = some p.fTables[i] := by simp [hi3]
   rw [beq_iff_eq.2 hk3, AN, if_pos hk3, hi, Nr N hN h20 hp hm ht]
   simp only [Option.bind_some, Int.toNat_natCast, ht]
   split
   ·exact ⟨_, rfl, fun x hx => by cases hx⟩
   ·exact ⟨_, rfl, fun x hx => by cases hx; rfl⟩
  ·have hi1 : (i : Int) < p.fVersions.length := by have := xn hk3; omega
   rw [beq_eq_false_iff_ne.2 hk3, Av, if_neg hk3, hi, CQ (d := 0) (show i < m.fNext.length by omega)]
   simp only [Option.bind_some, Int.toNat_natCast]
   by_cases c1 : m.fNext.getD i 0 < 0
   ·rw [AL c1, if_pos c1]
    exact ⟨_, rfl, fun x hx => by cases hx⟩
   ·rw [AH c1, if_neg c1]
    by_cases hk2 : s.fKind = 2
    ·rw [beq_iff_eq.2 hk2, AN, CQ (d := 0) (show i < m.fBase.length by omega), if_pos hk2]
     exact ⟨_, rfl, fun x hx => by cases hx; rfl⟩
    ·rw [beq_eq_false_iff_ne.2 hk2, Av, if_neg hk2]
     exact ⟨_, rfl, fun x hx => by cases hx; rfl⟩
theorem NA (N : Nat) (hN : N ≤ 1000000) (h20 : 100 ≤ N) {p : Ad} {m : Af} (hp : Bf p) (hm : BM p m) (s : Ah) : F4 N p m s = some (A2 p m s) := by
 unfold F4 A2
 rw [ND]
 simp only [Option.bind_some]
 cases hv : Fx s
 ·rw [Bool.not_false, AN, if_pos rfl]; rfl
 ·rw [Bool.not_true, Av, if_neg (by simp), MN N p s hv]
  simp only [Option.bind_some]
  cases hx : EY p s
  ·rw [Bool.not_false, AN, if_pos rfl]; rfl
  ·rw [Bool.not_true, Av, if_neg (by simp)]
   obtain ⟨o, e, ho⟩ := Kn N hN h20 hp hm hv hx
   rw [e]
   simp only [Option.bind_some]
   cases ha : E4 p m s with
   | none => rfl
   | some x => rw [ho x ha]; rfl
theorem K0 (N : Nat) (hN : N ≤ 1000000) (h20 : 100 ≤ N) {p : Ad} {m : Af} (hp : Bf p) (hm : BM p m) {s : Ah} (hv : Fx s = true) (hx : EY p s = true) :
  Cw N p m s = some (match E4 p m s with | none => (Fj, false) | some x => (x, true)) := by
 obtain ⟨k1, k4, i0, v0, vk⟩ := GV hv
 obtain ⟨x3, xn, x1⟩ := HB hx
 have hnv := hp.nv
 have hnt := hp.nt
 have hb := hm.base
 have hn := hm.next
 have hh := hm.held
 obtain ⟨i, hi⟩ := Int.eq_ofNat_of_zero_le i0
 unfold Cw E4
 rw [Az (by simp [Dz]; omega), Az (by simp [Dz]; omega), Az (by simp [Dz]; omega)]
 simp only [Option.bind_some, Bb, List.nil_append]
 by_cases hk1 : s.fKind = 1
 ·have hi1 : (i : Int) < p.fVersions.length := by have := xn (by omega); omega
  rw [beq_iff_eq.2 hk1, AN, if_pos hk1]
  simp only [hi, Int.toNat_natCast]
  rw [CQ (d := 0) (show i < m.fNext.length by omega)]
  simp only [Option.bind_some]
  by_cases c1 : 0 ≤ m.fNext.getD i 0
  ·rw [AL c1, AN, if_pos (.inl c1)]; rfl
  ·rw [AH c1, CQ (d := 0) (show i < m.fBase.length by omega)]
   simp only [Option.bind_some]
   by_cases c2 : m.fBase.getD i 0 = s.fVersion
   ·rw [beq_iff_eq.2 c2.symm, AN, if_pos (.inr c2)]; rfl
   ·rw [beq_eq_false_iff_ne.2 (fun h => c2 h.symm), Av, Nn N p s m.fHeld v0 hh (by omega) hN _, if_neg (by rintro (h | h); exact c1 h; exact c2 h)]
 ·rw [beq_eq_false_iff_ne.2 hk1, Av, if_neg hk1]
  by_cases hk3 : s.fKind = 3
  ·have hi3 : i < p.fTables.length := by have := x3 hk3; omega
   have ht : p.fTables[i]? = some p.fTables[i] := by simp [hi3]
   have hin := H2 (hp.tab _ (List.mem_of_getElem? ht))
   have eh' : BS m.fHeld (i : Int) = some (m.fHeld.getD i 0) := CQ (by omega)
   rw [beq_eq_false_iff_ne.2 (show s.fKind ≠ 2 by omega), Av, beq_iff_eq.2 hk3, AN, if_pos hk3, hi, A3, ht]
   simp only [Option.bind_some, F2, Int.toNat_natCast, ht]
   cases hs : B6 p.fTables[i]
   ·rw [Bool.not_false, AN, if_pos (.inl rfl)]; rfl
   ·rw [Bool.not_true, Av, IV N m _ hin.1 (by omega) (by omega) (hm.b0 _ (by omega)).1, eh']
    simp only [Option.bind_some]
    by_cases h1 : m.fHeld.getD i 0 = F0 m (p.fTables[i]).fFrom.toNat
    ·rw [beq_iff_eq.2 h1, AN, if_pos (.inr (.inl h1))]; rfl
    ·rw [beq_eq_false_iff_ne.2 h1, Av]
     rw [MR N hN h20 hp hm ht hs s hi]
     cases hst : Hi p m i p.fTables[i]
     ·rw [if_neg (by simp), if_neg (by rintro (h | h | h); cases h; exact h1 h; cases h)]
     ·rw [if_pos rfl, if_pos (.inr (.inr rfl))]
  ·have hi1 : (i : Int) < p.fVersions.length := by have := xn hk3; omega
   rw [if_neg hk3, hi, CQ (d := 0) (show i < m.fNext.length by omega)]
   simp only [Option.bind_some, Int.toNat_natCast]
   by_cases hk2 : s.fKind = 2
   ·rw [beq_iff_eq.2 hk2, AN, if_pos hk2]
    by_cases c1 : m.fNext.getD i 0 < 0
    ·rw [AL c1, if_pos c1]; rfl
    ·rw [AH c1, if_neg c1, CQ (d := 0) (show i < m.fBase.length by omega)]; rfl
   ·rw [beq_eq_false_iff_ne.2 hk2, Av, beq_eq_false_iff_ne.2 hk3, Av, if_neg hk2]
    by_cases c1 : m.fNext.getD i 0 < 0
    ·rw [AL c1, if_pos c1]; rfl
    ·rw [AH c1, if_neg c1]
end Go.Lift

/- A step leads from a valid mix to a valid mix; Apply of both implementations. -/
namespace Go.Lift
open Go
theorem Qk (s : Ah) : ∀ (xs : List AG) (i : Nat) (a : List Int), i + xs.length ≤ a.length → (Hm (Sl s) i xs a).length = a.length ∧ ∀ q, (Hm (Sl s) i xs a).getD q 0 = match (if i ≤ q then xs[q - i]? else none) with
  | some t => if Ri s t = true then Nq .u8 (a.getD q 0) (DA .u8 1 s.fVersion) else a.getD q 0
  | none => a.getD q 0
 | [], i, a, _ => by
  refine ⟨rfl, fun q => ?_⟩
  split
  ·rename_i h; split at h
   ·simp at h
   ·cases h
  ·rfl
 | x :: xs, i, a, hl => by
  have hl' : i + (xs.length + 1) ≤ a.length := by simpa using hl
  have ha : (Sl s i x a).length = a.length := by unfold Sl; split <;> simp
  obtain ⟨ih1, ih2⟩ := Qk s xs (i + 1) (Sl s i x a) (by omega)
  refine ⟨by rw [Hm, ih1, ha], fun q => ?_⟩
  rw [Hm, ih2 q]
  have hu : (Sl s i x a).getD q 0 = if q = i ∧ Ri s x = true then Nq .u8 (a.getD q 0) (DA .u8 1 s.fVersion) else a.getD q 0 := by
   unfold Sl
   by_cases hc : Ri s x = true
   ·rw [if_pos hc, H1 (by omega)]
    by_cases hq : q = i
    ·subst hq; rw [if_pos rfl, if_pos ⟨rfl, hc⟩]
    ·rw [if_neg hq, if_neg (fun h => hq h.1)]
   ·rw [if_neg hc, if_neg (fun h => hc h.2)]
  by_cases h1 : i + 1 ≤ q
  ·rw [if_pos h1, if_pos (show i ≤ q by omega), hu, if_neg (by omega)]
   rw [show (x :: xs)[q - i]? = xs[q - (i + 1)]? from by rw [show q - i = (q - (i + 1)) + 1 from by omega, List.getElem?_cons_succ]]
  ·rw [if_neg h1]
   by_cases h2 : q = i
   ·subst h2
    rw [if_pos (Nat.le_refl _), Nat.sub_self, hu]
    simp
   ·rw [if_neg (show ¬ i ≤ q by omega), hu, if_neg (by omega)]
theorem Sf {p : Ad} {s : Ah} {held : List Int} (hl : held.length = p.fTables.length) : (HL p s held).length = p.fTables.length ∧ ∀ q t, p.fTables[q]? = some t → (HL p s held).getD q 0 = if Ri s t = true then Nq .u8 (held.getD q 0) (DA .u8 1 s.fVersion) else held.getD q 0 := by
 obtain ⟨h1, h2⟩ := Qk s p.fTables 0 held (by omega)
 refine ⟨h1.trans hl, fun q t ht => ?_⟩
 have := h2 q
 rw [if_pos (Nat.zero_le _), Nat.sub_zero, ht] at this
 exact this
theorem Nj {m : Af} {s v : Nat} : Hz m s v = true ↔ m.fBase.getD s 0 = (v : Int) ∨ m.fNext.getD s 0 = (v : Int) := by
 unfold Hz; rw [Bool.or_eq_true, decide_eq_true_iff, decide_eq_true_iff]
theorem SW {p : Ad} {m x : Af} (hp : Bf p) (hm : BM p m) {s : Ah} (hv : Fx s = true) (hx : EY p s = true) (h : E4 p m s = some x) : BM p x := by
 obtain ⟨k1, k4, i0, v0, vk⟩ := GV hv
 obtain ⟨x3, xn, x1⟩ := HB hx
 obtain ⟨i, hi⟩ := Int.eq_ofNat_of_zero_le i0
 have hb := hm.base
 have hn := hm.next
 have hh := hm.held
 unfold E4 at h
 simp only [hi, Int.toNat_natCast] at h
 rw [hi, Int.toNat_natCast] at x1
 split at h
 ·rename_i hk1
  have hi1 : i < p.fVersions.length := by have := xn (by omega); omega
  have hx1 := x1 hk1
  have hvi := Hf hp hi1
  split at h
  ·cases h
  rename_i hc
  cases h
  obtain ⟨u1, u2⟩ := Sf (s := s) hh
  obtain ⟨b, hbv⟩ := Int.eq_ofNat_of_zero_le v0
  have hob := Uv (b := b) (by omega)
  have hN : ∀ q, (m.fNext.set i s.fVersion).getD q 0 = if q = i then s.fVersion else m.fNext.getD q 0 := fun q => H1 (by omega)
  refine { base := hb, next := by simpa using hn, held := u1, b0 := hm.b0, n0 := fun q hq => ?_, ne := fun q hq => ?_, range := fun q hq => ?_, low := fun q t ht hs v hr => ?_, high := fun q t ht hs v hbit => ?_, none := fun q t ht hs => ?_ }
  ·show -1 ≤ (m.fNext.set i s.fVersion).getD q 0 ∧ (m.fNext.set i s.fVersion).getD q 0 < _
   rw [hN q]
   split
   ·rename_i e; subst e; omega
   ·exact hm.n0 q hq
  ·show m.fBase.getD q 0 ≠ (m.fNext.set i s.fVersion).getD q 0
   rw [hN q]
   split
   ·rename_i e; subst e; exact fun h => hc (.inr h)
   ·exact hm.ne q hq
  ·have ht : p.fTables[q]? = some p.fTables[q] := by simp [hq]
   show 0 ≤ (HL p s m.fHeld).getD q 0 ∧ (HL p s m.fHeld).getD q 0 ≤ 255
   rw [u2 q _ ht, hbv]
   split
   ·exact (QU (hm.range q hq) hob.2).2
   ·exact hm.range q hq
  ·have hq := (List.getElem?_eq_some_iff.1 ht).1
   show Dm ((HL p s m.fHeld).getD q 0) v = true
   have hin := H2 (hp.tab t (List.mem_of_getElem? ht))
   rw [Nj] at hr
   have hr : m.fBase.getD t.fFrom.toNat 0 = (v : Int) ∨ (m.fNext.set i s.fVersion).getD t.fFrom.toNat 0 = (v : Int) := hr
   rw [hN] at hr
   rw [u2 q t ht, hbv]
   have hlow := hm.low q t ht hs v
   rw [Nj] at hlow
   by_cases hf : t.fFrom.toNat = i
   ·have hup : Ri s t = true := by unfold Ri; rw [hs, Bool.and_true, beq_iff_eq, hi]; omega
    rw [if_pos hup, (QU (hm.range q hq) hob.2).1, hob.1 v, Bool.or_eq_true, decide_eq_true_iff]
    rw [if_pos hf] at hr
    rcases hr with h | h
    ·exact .inl (hlow (.inl h))
    ·right; omega
   ·rw [if_neg hf] at hr
    have hup : Ri s t = false := by unfold Ri; rw [hs, Bool.and_true, beq_eq_false_iff_ne, hi]; omega
    rw [hup, if_neg (by simp)]
    exact hlow hr
  ·have hq := (List.getElem?_eq_some_iff.1 ht).1
   have hbit : Dm ((HL p s m.fHeld).getD q 0) v = true := hbit
   have hin := H2 (hp.tab t (List.mem_of_getElem? ht))
   rw [u2 q t ht, hbv] at hbit
   split at hbit
   ·rename_i hup
    rw [(QU (hm.range q hq) hob.2).1, hob.1 v, Bool.or_eq_true, decide_eq_true_iff] at hbit
    rcases hbit with h | h
    ·exact hm.high q t ht hs v h
    ·unfold Ri at hup
     rw [hs, Bool.and_true, beq_iff_eq, hi] at hup
     rw [hup, Int.toNat_natCast]; omega
   ·exact hm.high q t ht hs v hbit
  ·show (HL p s m.fHeld).getD q 0 = 0
   have hup : Ri s t = false := by unfold Ri; rw [hs, Bool.and_false]
   rw [u2 q t ht, hup, if_neg (by simp)]
   exact hm.none q t ht hs
 ·rename_i hk1
  split at h
  ·rename_i hk3
   have hi3 : i < p.fTables.length := by have := x3 hk3; omega
   have ht0 : p.fTables[i]? = some p.fTables[i] := by simp [hi3]
   rw [ht0] at h
   simp only at h
   split at h
   ·cases h
   rename_i hc
   cases h
   have hin0 := H2 (hp.tab _ (List.mem_of_getElem? ht0))
   have hr0 := Hb hp hm.toMixServ (s := (p.fTables[i]).fFrom.toNat) (by omega)
   have hs0 : B6 p.fTables[i] = true := by
    cases hs : B6 p.fTables[i]
    ·exact (hc (.inl hs)).elim
    ·rfl
   have hH : ∀ q, (m.fHeld.set i (F0 m (p.fTables[i]).fFrom.toNat)).getD q 0 = if q = i then F0 m (p.fTables[i]).fFrom.toNat else m.fHeld.getD q 0 := fun q => H1 (by omega)
   refine { base := hb, next := hn, held := by simpa using hh, b0 := hm.b0, n0 := hm.n0, ne := hm.ne, range := fun q hq => ?_, low := fun q t ht hs v hr => ?_, high := fun q t ht hs v hbit => ?_, none := fun q t ht hs => ?_ }
   ·show 0 ≤ (m.fHeld.set i (F0 m (p.fTables[i]).fFrom.toNat)).getD q 0 ∧ (m.fHeld.set i (F0 m (p.fTables[i]).fFrom.toNat)).getD q 0 ≤ 255
    rw [hH q]
    split
    ·exact hr0.2
    ·exact hm.range q hq
   ·show Dm ((m.fHeld.set i (F0 m (p.fTables[i]).fFrom.toNat)).getD q 0) v = true
    have hr : Hz m t.fFrom.toNat v = true := hr
    rw [hH q]
    split
    ·rename_i e; subst e
     rw [ht0] at ht; cases ht
     rw [hr0.1]; exact hr
    ·exact hm.low q t ht hs v hr
   ·have hbit : Dm ((m.fHeld.set i (F0 m (p.fTables[i]).fFrom.toNat)).getD q 0) v = true := hbit
    rw [hH q] at hbit
    split at hbit
    ·rename_i e; subst e
     rw [ht0] at ht; cases ht
     rw [hr0.1] at hbit
     exact hm.high q _ ht0 hs0 v (hm.low q _ ht0 hs0 v hbit)
    ·exact hm.high q t ht hs v hbit
   ·show (m.fHeld.set i (F0 m (p.fTables[i]).fFrom.toNat)).getD q 0 = 0
    rw [hH q, if_neg (fun e => by subst e; rw [ht0] at ht; cases ht; rw [hs0] at hs; cases hs)]
    exact hm.none q t ht hs
  ·rename_i hk3
   have hi1 : i < p.fVersions.length := by have := xn hk3; omega
   have hvi := Hf hp hi1
   split at h
   ·cases h
   rename_i hc
   cases h
   have hN : ∀ q, (m.fNext.set i (-1)).getD q 0 = if q = i then -1 else m.fNext.getD q 0 := fun q => H1 (by omega)
   have hB : ∀ q, (if s.fKind = 2 then m.fBase.set i (m.fNext.getD i 0) else m.fBase).getD q 0 = if s.fKind = 2 ∧ q = i then m.fNext.getD i 0 else m.fBase.getD q 0 := fun q => by
    by_cases hk2 : s.fKind = 2
    ·rw [if_pos hk2, H1 (by omega)]
     by_cases e : q = i
     ·rw [if_pos e, if_pos ⟨hk2, e⟩]
     ·rw [if_neg e, if_neg (fun h => e h.2)]
    ·rw [if_neg hk2, if_neg (fun h => hk2 h.1)]
   have hrun : ∀ q v, Hz ⟨if s.fKind = 2 then m.fBase.set i (m.fNext.getD i 0) else m.fBase, m.fNext.set i (-1), m.fHeld⟩ q v = true → Hz m q v = true := fun q v hr => by
    rw [Nj] at hr ⊢
    simp only [hN q, hB q] at hr
    by_cases e : q = i
    ·subst e
     rw [if_pos rfl] at hr
     by_cases hk2 : s.fKind = 2
     ·rw [if_pos ⟨hk2, rfl⟩] at hr; omega
     ·rw [if_neg (fun h => hk2 h.1)] at hr; omega
    ·rw [if_neg e, if_neg (fun h => e h.2)] at hr; exact hr
   refine { base := by simp only; split <;> simp [hb], next := by simpa using hn, held := hh, b0 := fun q hq => ?_, n0 := fun q hq => ?_, ne := fun q hq => ?_, range := hm.range, low := fun q t ht hs v hr => hm.low q t ht hs v (hrun _ _ hr), high := hm.high, none := hm.none }
   ·simp only [hB q]
    split
    ·rename_i e; obtain ⟨_, e⟩ := e; subst e
     have := hm.n0 q hq
     omega
    ·exact hm.b0 q hq
   ·simp only [hN q]
    split
    ·rename_i e; subst e; omega
    ·exact hm.n0 q hq
   ·simp only [hB q, hN q]
    have h1 := hm.b0 q hq
    by_cases e : q = i
    ·rw [if_pos e]
     split
     ·rename_i e2; obtain ⟨_, e2⟩ := e2; subst e2; omega
     ·omega
    ·rw [if_neg e, if_neg (fun h => e h.2)]; exact hm.ne q hq
theorem KQ (N : Nat) (hN : N ≤ 1000000) (h20 : 100 ≤ N) {p : Ad} {m : Af} (hw : LE J3 m.fHeld) (s : Ah) : Dn N p m s = some (if EG p m = 0 then A2 p m s else (Fj, EG p m)) := by
 unfold Dn A2
 rw [GD N p m hN (by omega)]
 simp only [Option.bind_some, Bb]
 by_cases hval : EG p m = 0
 ·obtain ⟨hp, hm⟩ := HO hw hval
  rw [if_pos hval, hval, bne_self_eq_false, Av, O6]
  simp only [Option.bind_some]
  cases hv : Fx s
  ·rw [Bool.not_false, AN, if_pos rfl]; rfl
  ·rw [Bool.not_true, Av, if_neg (by simp)]
   obtain ⟨k1, k4, i0, v0, vk⟩ := GV hv
   have key : ∀ b : Bool, EY p s = b → (if b = false then (Fj, (4 : Int)) else match E4 p m s with | none => (Fj, 11) | some x => (x, 0)) = (if b = false then (Fj, (4 : Int)) else match E4 p m s with | none => (Fj, 11) | some x => (x, 0)) := fun _ _ => rfl
   have tail : EY p s = true → ((Cw N p m s).bind fun v15 => A0 (!v15.2) (some (Af.mk [] [] [], (11 : Int))) (some (v15.1, 0))) = some (match E4 p m s with | none => (Fj, 11) | some x => (x, 0)) := fun hx => by
    rw [K0 N hN h20 hp hm hv hx]
    cases E4 p m s <;> rfl
   have zz : (Af.mk [] [] [], (4 : Int)) = (Fj, 4) := rfl
   by_cases hk3 : s.fKind = 3
   ·rw [beq_iff_eq.2 hk3, AN, show (s.fKind != 3) = false from by rw [hk3]; rfl]
    have hX : EY p s = decide (s.fIndex < (p.fTables.length : Int)) := by unfold EY; rw [if_pos hk3]
    by_cases c : (p.fTables.length : Int) ≤ s.fIndex
    ·rw [AL c, AN, hX, decide_eq_false (by omega), if_pos rfl]; rfl
    ·have hx : EY p s = true := by rw [hX, decide_eq_true (by omega)]
     rw [AH c, Av, Av, beq_eq_false_iff_ne.2 (show s.fKind ≠ 1 by omega), Av, Av, hx, if_neg (by simp)]
     exact tail hx
   ·rw [beq_eq_false_iff_ne.2 hk3, Av, bne_iff_ne.2 hk3, AN]
    have hX : EY p s = (decide (s.fIndex < (p.fVersions.length : Int)) && (s.fKind != 1 || decide (s.fVersion < p.fVersions.getD s.fIndex.toNat 0))) := by unfold EY; rw [if_neg hk3]
    by_cases c : (p.fVersions.length : Int) ≤ s.fIndex
    ·rw [decide_eq_true c, AN, hX, decide_eq_false (show ¬ s.fIndex < (p.fVersions.length : Int) by omega), Bool.false_and, if_pos rfl]; rfl
    ·rw [decide_eq_false c, Av]
     by_cases hk1 : s.fKind = 1
     ·rw [beq_iff_eq.2 hk1, AN, Eo (d := 0) i0 (by omega)]
      simp only [Option.bind_some]
      by_cases c2 : p.fVersions.getD s.fIndex.toNat 0 ≤ s.fVersion
      ·rw [decide_eq_true c2, AN, hX, decide_eq_false (show ¬ s.fVersion < p.fVersions.getD s.fIndex.toNat 0 by omega), show (s.fKind != 1) = false from by rw [hk1]; rfl, Bool.false_or, Bool.and_false, if_pos rfl]; rfl
      ·have hx : EY p s = true := by rw [hX, decide_eq_true (by omega), decide_eq_true (by omega), Bool.or_true]; rfl
       rw [decide_eq_false c2, Av, hx, if_neg (by simp)]
       exact tail hx
     ·have hx : EY p s = true := by rw [hX, decide_eq_true (by omega), bne_iff_ne.2 hk1]; rfl
      rw [beq_eq_false_iff_ne.2 hk1, Av, Av, hx, if_neg (by simp)]
      exact tail hx
 ·rw [if_neg hval, bne_iff_ne.2 hval, AN]; rfl
theorem NC (N : Nat) (hN : N ≤ 1000000) (h20 : 100 ≤ N) {p : Ad} {m : Af} (hw : LE J3 m.fHeld) (s : Ah) : Fk N p m s = some (if EG p m = 0 then A2 p m s else (Fj, EG p m)) := by
 unfold Fk
 rw [Hu N p m hN (by omega) hw]
 simp only [Option.bind_some]
 by_cases hval : EG p m = 0
 ·obtain ⟨hp, hm⟩ := HO hw hval
  rw [if_pos hval, hval, bne_self_eq_false, Av, NA N hN h20 hp hm s]; rfl
 ·rw [if_neg hval, bne_iff_ne.2 hval, AN]; rfl
theorem II {p : Ad} {m : Af} (hp : Bf p) (hm : BM p m) {s : Ah} (h : (A2 p m s).2 = 0) : BM p (A2 p m s).1 := by
 unfold A2 at h ⊢
 split at h
 ·cases h
 rename_i h1
 rw [if_neg h1]
 split at h
 ·cases h
 rename_i h2
 rw [if_neg h2]
 cases ha : E4 p m s with
 | none => rw [ha] at h; cases h
 | some x => exact SW hp hm (by simpa using h1) (by simpa using h2) ha
end Go.Lift

/- Failure and Check: both implementations give one answer; the laws PlanCheck and PlanFailure. -/
namespace Go.Lift
open Go
def JL (p : Ad) (total : Nat) : List Ah → Nat → Af → Int × Af × Ak × Int
 | [], _, m => if FQ p m = true then (0, Fj, K3, 15) else ((total : Int), Fj, K3, 14)
 | s :: l, i, m => if (A2 p m s).2 ≠ 0 ∨ s.fKind = 4 then ((i : Int), Fj, K3, 0) else match Hh p (A2 p m s).1 with
  | some (x, c) => ((i : Int), x, c, 0)
  | none => JL p total l (i + 1) (A2 p m s).1
def RE (p : Ad) (l : List Ah) : Int × Af × Ak × Int :=
 if BQ p ≠ 0 then (0, Fj, K3, BQ p) else match Hh p (D8 p) with
  | some (x, c) => (-1, x, c, 0)
  | none => JL p l.length l 0 (D8 p)
section
variable {N : Nat} {p : Ad} {l : List Ah}
theorem Kk (hN : N ≤ 1000000) (h20 : 100 ≤ N) (hv : BQ p = 0) (hl : l.length ≤ 1000) : ∀ (n i : Nat) (m : Af), i ≤ l.length → l.length - i < n → BM p m →
  B7 N p l (fun v4 => (C1 N p v4).bind fun v16 => A0 (!v16) (some ((l.length : Int), (Af.mk ([] : List Int) ([] : List Int) ([] : List Int)), (Ak.mk 0 0 0), 14)) (some (0, (Af.mk ([] : List Int) ([] : List Int) ([] : List Int)), (Ak.mk 0 0 0), 15))) n (m.fBase, m.fNext, m.fHeld, (i : Int)) = some (JL p l.length (l.drop i) i m)
 | 0, i, m, _, h, _ => by omega
 | n + 1, i, m, hi, h, hm => by
  obtain ⟨hp, _⟩ := CK hv
  have hval := Fw hv hm
  rw [B7]
  by_cases hlt : i < l.length
  ·have hx : l[i]? = some l[i] := by simp [hlt]
   rw [AL (by simp only; omega), Gp hx, JL]
   simp only [Bb, A3, hx, Option.bind_some, AM (show i < 1000000 by omega)]
   rw [AL (by omega), KQ N hN h20 (Ij hm), if_pos hval]
   simp only [Option.bind_some]
   by_cases h1 : (A2 p m l[i]).2 = 0
   ·rw [h1, bne_self_eq_false, Av]
    by_cases h2 : l[i].fKind = 4
    ·rw [beq_iff_eq.2 h2, AN, if_pos (.inr h2)]; rfl
    ·have hm' := II hp hm h1
     rw [beq_eq_false_iff_ne.2 h2, Av, if_neg (by rintro (h | h); exact h rfl; exact h2 h), Ld N p _ hN h20 (Ij hm') (Fw hv hm')]
     unfold KH
     simp only [Option.bind_some]
     cases hb : Hh p (A2 p m l[i]).1 with
     | some y => rfl
     | none =>
      have e : ((15 : Int) == 0) = false := rfl
      simp only
      rw [e, Av]
      exact Kk hN h20 hv hl n (i + 1) _ (by omega) (by omega) hm'
   ·rw [bne_iff_ne.2 h1, AN, AN, if_pos (.inl h1)]; rfl
  ·have hd : l.drop i = [] := List.drop_eq_nil_of_le (by omega)
   rw [AH (by simp only; omega), hd, JL, Mc N p _ hN h20 (Ij hm)]
   simp only [Option.bind_some]
   cases FQ p m <;> rfl
theorem PN (hN : N ≤ 1000000) (h20 : 100 ≤ N) (hl : l.length ≤ 1000) (hln : l.length + 1 < N) : DB N p l = some (RE p l) := by
 unfold DB RE
 rw [IU N p hN h20]
 simp only [Option.bind_some]
 by_cases hv : BQ p = 0
 ·have hm := KU hv
  rw [if_pos hv, hv, bne_self_eq_false, Av, if_neg (by simp)]
  obtain ⟨k, rfl⟩ : ∃ k, N = k + 1 := ⟨N - 1, by omega⟩
  rw [B7, AL (by simp only; omega)]
  simp only [Bb]
  rw [AH (by omega), Ld (k + 1) p _ hN h20 (Ij hm) (PI hv)]
  unfold KH
  simp only [Option.bind_some]
  cases hb : Hh p (D8 p) with
  | some y => rfl
  | none =>
   have e : ((15 : Int) == 0) = false := rfl
   simp only
   rw [e, Av, show IntKind.wrap .i64 ((-1 : Int) + 1) = ((0 : Nat) : Int) from by decide +kernel]
   have := Kk (N := k + 1) (p := p) (l := l) hN h20 hv hl k 0 (D8 p) (Nat.zero_le _) (by omega) hm
   rw [List.drop_zero] at this
   exact this
 ·rw [if_neg hv, bne_iff_ne.2 hv, AN, if_pos hv]; rfl
def O5 (p : Ad) (l : List Ah) : Bool := (RE p l).2.2.2 == 15
theorem O7 (hN : N ≤ 1000000) (h20 : 100 ≤ N) (hl : l.length ≤ 1000) (hln : l.length + 1 < N) : Eb N p l = some (O5 p l) := by
 unfold Eb
 rw [PN hN h20 hl hln]; rfl
end
theorem OF : Ec 1000 = some true := by show _ = _; kernel_rfl
end Go.Lift

/- The law PlanErrors in plain words. -/
namespace Go.Lift
open Go
end Go.Lift

/- Trim: both implementations give one list. -/
namespace Go.Lift
open Go
end Go.Lift

/- A plan without a step: what can be left out. -/
namespace Go.Lift
open Go
def Kq (p : Ad) (m : Af) (s : Ah) : Option Af := if (A2 p m s).2 = 0 ∧ s.fKind ≠ 4 ∧ Bv p (A2 p m s).1 = true then some (A2 p m s).1 else none
def LF (p : Ad) : Af → List Ah → Option Af
 | m, [] => some m
 | m, s :: l => (Kq p m s).bind fun x => LF p x l
def Jb (p : Ad) (m : Af) (l : List Ah) : Bool := match LF p m l with
 | some x => FQ p x
 | none => false
theorem LY (p : Ad) (total : Nat) : ∀ (l : List Ah) (i : Nat) (m : Af), ((JL p total l i m).2.2.2 == 15) = Jb p m l
 | [], i, m => by
  rw [JL]
  unfold Jb
  rw [LF]
  cases h : FQ p m
  ·rw [if_neg (by simp)]; exact h.symm
  ·rw [if_pos rfl]; exact h.symm
 | s :: l, i, m => by
  rw [JL]
  unfold Jb LF Kq Bv
  by_cases h1 : (A2 p m s).2 ≠ 0 ∨ s.fKind = 4
  ·rw [if_pos h1, if_neg (fun h => h1.elim (fun a => a h.1) (fun a => h.2.1 a))]; rfl
  ·rw [if_neg h1]
   have h2 : (A2 p m s).2 = 0 := Decidable.byContradiction fun h => h1 (.inl h)
   have h3 : s.fKind ≠ 4 := fun h => h1 (.inr h)
   cases hb : Hh p (A2 p m s).1 with
   | some y => rw [if_neg (fun h => by have := h.2.2; cases this)]; rfl
   | none =>
    rw [if_pos ⟨h2, h3, rfl⟩]
    exact LY p total l (i + 1) _
theorem RW (p : Ad) (l : List Ah) : O5 p l = (decide (BQ p = 0) && (Bv p (D8 p) && Jb p (D8 p) l)) := by
 unfold O5 RE Bv
 by_cases hv : BQ p = 0
 ·rw [if_neg (fun h => h hv), decide_eq_true hv, Bool.true_and]
  cases hb : Hh p (D8 p) with
  | some y => rfl
  | none => exact LY p l.length l 0 _
 ·rw [if_pos hv, decide_eq_false hv, Bool.false_and, beq_eq_false_iff_ne]
  rcases GB p with h | h <;> (simp only; omega)
theorem Sa {p : Ad} {m x : Af} {s : Ah} : Kq p m s = some x ↔ Fx s = true ∧ EY p s = true ∧ E4 p m s = some x ∧ s.fKind ≠ 4 ∧ Bv p x = true := by
 unfold Kq A2
 cases h1 : Fx s
 ·simp
 cases h2 : EY p s
 ·simp
 cases h3 : E4 p m s with
 | none => simp
 | some y =>
  simp only [Bool.true_eq_false, if_false, true_and, Option.some.injEq]
  constructor
  ·intro h
   split at h
   ·rename_i hc; cases h; exact ⟨rfl, hc.1, hc.2⟩
   ·cases h
  ·rintro ⟨rfl, h4, h5⟩
   rw [if_pos ⟨h4, h5⟩]
structure Wc (p : Ad) (m x : Af) : Prop where
 base : m.fBase = x.fBase
 next : m.fNext = x.fNext
 held : ∀ i, i < p.fTables.length → ∀ v, Dm (m.fHeld.getD i 0) v = true → Dm (x.fHeld.getD i 0) v = true
theorem Wc.refl (p : Ad) (m : Af) : Wc p m m := ⟨rfl, rfl, fun _ _ _ h => h⟩
theorem Wc.trans {p : Ad} {a b c : Af} (h : Wc p a b) (g : Wc p b c) : Wc p a c := ⟨h.base.trans g.base, h.next.trans g.next, fun i hi v hv => g.held i hi v (h.held i hi v hv)⟩
end Go.Lift

/- A step between two mixes; openings and closings; the law PlanTrim. -/
namespace Go.Lift
open Go
theorem LK {p : Ad} {m : Af} {l : List Ah} (h : Jb p m l = true) : ∃ x, LF p m l = some x ∧ FQ p x = true := by
 unfold Jb at h
 cases hr : LF p m l with
 | none => rw [hr] at h; cases h
 | some x => rw [hr] at h; exact ⟨x, rfl, h⟩
end Go.Lift

/- The law PlanTrim in plain words. -/
namespace Go.Lift
open Go
end Go.Lift

/- The keys of mixes. -/
namespace Go.Lift
open Go
def Fp (m : Af) (i : Nat) (b : Int) : List Int := [IntKind.wrap .u8 b, IntKind.wrap .u8 (IntKind.wrap .i64 (m.fNext.getD i 0 + 1))]
def Jy (m : Af) : List Int := CH (Fp m) 0 m.fBase ++ m.fHeld
theorem Tq (N : Nat) (hN : N ≤ 1000000) (h20 : 100 ≤ N) {p : Ad} {m : Af} (hp : Bf p) (hm : BM p m) : Gj N m = some (Cp (Jy m)) := by
 have hnv := hp.nv
 have hnt := hp.nt
 have hb := hm.base
 have hn := hm.next
 have hh := hm.held
 unfold Gj
 have e1 : IntKind.wrap .i64 (2 * (m.fBase.length : Int)) = 2 * (m.fBase.length : Int) := CJ (by omega) (by omega)
 rw [e1, CJ (n := 2 * (m.fBase.length : Int) + (m.fHeld.length : Int)) (by omega) (by omega), Az ⟨Int.le_refl 0, by omega, by simp only [Dz]; omega⟩]
 have l1 := FL (Ef N m fun v3 => Di N m (fun v9 => some (Cp v9)) N (v3, 0)) (fun a i => (a, i)) m.fBase (fun v3 => Di N m (fun v9 => some (Cp v9)) N (v3, 0)) (Fp m) 2 100
  (fun i x hx => by simp [Fp])
  (fun n i x a hx hl => by
   have hi := (List.getElem?_eq_some_iff.1 hx).1
   rw [Ef, AL (by simp only; omega)]
   simp only [A3, hx, Option.bind_some, AM (show i < 1000000 by omega)]
   have e2 : m.fNext[i]? = some (m.fNext.getD i 0) := by rw [List.getD_eq_getElem?_getD]; simp [show i < m.fNext.length by omega]
   rw [e2]
   simp only [Option.bind_some]
   rw [Az (by simp [Dz]; simp [Fp] at hl; omega)]
   rfl)
  (fun n a => by rw [Ef, AH (by simp)]) N [] (by omega) (by simp; omega)
 have l1' : Ef N m (fun v3 => Di N m (fun v9 => some (Cp v9)) N (v3, 0)) N (List.replicate (0 : Int).toNat (0 : Int), 0) = _ := l1
 rw [l1', List.nil_append]
 have hfl : (CH (Fp m) 0 m.fBase).length ≤ 2 * m.fBase.length := Fn fun j x hx => by simp [Fp]
 have l2 := FL (Di N m fun v9 => some (Cp v9)) (fun a i => (a, i)) m.fHeld (fun v9 => some (Cp v9)) (fun _ x => [x]) 1 100
  (fun i x hx => by simp)
  (fun n i x a hx hl => by
   have hi := (List.getElem?_eq_some_iff.1 hx).1
   rw [Di, AL (by simp only; omega)]
   simp only [A3, hx, Option.bind_some, AM (show i < 1000000 by omega)]
   rw [Az (by simp [Dz]; simp at hl; omega)])
  (fun n a => by rw [Di, AH (by simp)]) N (CH (Fp m) 0 m.fBase) (by omega) (by omega)
 have e3 : ∀ (i : Nat) (l : List Int), CH (fun _ (x : Int) => [x]) i l = l := by
  intro i l
  induction l generalizing i with
  | nil => rfl
  | cons x l ih => rw [CH, ih]; rfl
 refine l2.trans ?_
 rw [e3]; rfl
end Go.Lift

/- Keys tell mixes. -/
namespace Go.Lift
open Go
theorem QT (xs : List Int) : ∀ b : ByteArray, (xs.foldl (fun s n => s.push (UInt8.ofNat n.toNat)) b).data.toList = b.data.toList ++ xs.map fun n => UInt8.ofNat n.toNat := by
 induction xs with
 | nil => intro b; simp
 | cons x xs ih => intro b; rw [List.foldl_cons, ih]; simp [ByteArray.push]
theorem Ln (xs : List Int) : (Cp xs).data.toList = xs.map fun n => UInt8.ofNat n.toNat := by
 unfold Cp
 rw [QT]; rfl
theorem VM {a b : Int} (ha : 0 ≤ a ∧ a ≤ 255) (hb : 0 ≤ b ∧ b ≤ 255) (h : UInt8.ofNat a.toNat = UInt8.ofNat b.toNat) : a = b := by
 have := congrArg UInt8.toNat h
 simp at this
 omega
theorem Nl : ∀ {xs ys : List Int}, (∀ x, x ∈ xs → 0 ≤ x ∧ x ≤ 255) → (∀ x, x ∈ ys → 0 ≤ x ∧ x ≤ 255) → (xs.map fun n => UInt8.ofNat n.toNat) = (ys.map fun n => UInt8.ofNat n.toNat) → xs = ys
 | [], [], _, _, _ => rfl
 | [], _ :: _, _, _, h => by cases h
 | _ :: _, [], _, _, h => by cases h
 | x :: xs, y :: ys, hx, hy, h => by
  rw [List.map_cons, List.map_cons, List.cons.injEq] at h
  rw [VM (hx x (by simp)) (hy y (by simp)) h.1, Nl (fun z hz => hx z (List.mem_cons_of_mem _ hz)) (fun z hz => hy z (List.mem_cons_of_mem _ hz)) h.2]
theorem PW {xs ys : List Int} (hx : ∀ x, x ∈ xs → 0 ≤ x ∧ x ≤ 255) (hy : ∀ x, x ∈ ys → 0 ≤ x ∧ x ≤ 255) (h : (Cp xs == Cp ys) = true) : xs = ys := by
 rw [Iu, beq_iff_eq] at h
 have h := congrArg Array.toList h
 rw [Ln, Ln] at h
 exact Nl hx hy h
theorem OU (xs : List Int) : (Cp xs == Cp xs) = true := by rw [Iu]; simp
theorem Oe {α β : Type} {g h : Nat → α → List β} {c : Nat} : ∀ {i : Nat} {xs ys : List α}, xs.length = ys.length → (∀ i x, (g i x).length = c) → (∀ i x, (h i x).length = c) → CH g i xs = CH h i ys → ∀ j x y, xs[j]? = some x → ys[j]? = some y → g (i + j) x = h (i + j) y
 | i, [], ys, _, _, _, _, j, x, y, hx, _ => by simp at hx
 | i, x :: xs, [], hl, _, _, _, _, _, _, _, _ => by simp at hl
 | i, x :: xs, y :: ys, hl, hg, hh, e, j, x', y', hx, hy => by
  rw [CH, CH] at e
  have e1 := List.append_inj e ((hg i x).trans (hh i y).symm)
  cases j with
  | zero => simp at hx hy; subst hx; subst hy; exact e1.1
  | succ j =>
   have := Oe (i := i + 1) (by simpa using hl) hg hh e1.2 j x' y' (by simpa using hx) (by simpa using hy)
   rwa [show i + 1 + j = i + (j + 1) from by omega] at this
theorem NY {p : Ad} {m : Af} (hp : Bf p) (hm : BM p m) : ∀ x, x ∈ Jy m → 0 ≤ x ∧ x ≤ 255 := by
 intro x hx
 unfold Jy at hx
 rcases List.mem_append.1 hx with h | h
 ·obtain ⟨j, b, hb, hk⟩ := Gl.1 h
  have hw : ∀ n : Int, 0 ≤ IntKind.wrap .u8 n ∧ IntKind.wrap .u8 n ≤ 255 := fun n => by
   simp [IntKind.wrap, IntKind.signed, IntKind.bits]; omega
  unfold Fp at hk
  rcases List.mem_cons.1 hk with e | e
  ·subst e; exact hw _
  ·rcases List.mem_cons.1 e with e | e
   ·subst e; exact hw _
   ·cases e
 ·obtain ⟨j, hj⟩ := List.mem_iff_getElem?.1 h
  have hl := (List.getElem?_eq_some_iff.1 hj).1
  have := hm.range j (by rw [← hm.held]; exact hl)
  rw [List.getD_eq_getElem?_getD, hj] at this
  exact this
theorem G4 {n : Int} (h : 0 ≤ n ∧ n ≤ 255) : IntKind.wrap .u8 n = n := by
 simp [IntKind.wrap, IntKind.signed, IntKind.bits]; omega
theorem Uc {p : Ad} {m x : Af} (hp : Bf p) (hm : BM p m) (hx : BM p x) (h : (Cp (Jy m) == Cp (Jy x)) = true) : m = x := by
 have e := PW (NY hp hm) (NY hp hx) h
 unfold Jy at e
 have hbl : m.fBase.length = x.fBase.length := hm.base.trans hx.base.symm
 have hfl : ∀ y : Af, (CH (Fp y) 0 y.fBase).length = 2 * y.fBase.length := fun y => by
  have : ∀ (i : Nat) (l : List Int), (CH (Fp y) i l).length = 2 * l.length := by
   intro i l
   induction l generalizing i with
   | nil => rfl
   | cons b l ih => rw [CH, List.length_append, ih, List.length_cons]; simp [Fp]; omega
  exact this 0 _
 obtain ⟨e1, e2⟩ := List.append_inj e (by rw [hfl, hfl, hbl])
 have key : ∀ j, j < p.fVersions.length → m.fBase.getD j 0 = x.fBase.getD j 0 ∧ m.fNext.getD j 0 = x.fNext.getD j 0 := fun j hj => by
  have h1 : m.fBase[j]? = some (m.fBase.getD j 0) := by rw [List.getD_eq_getElem?_getD]; simp [hm.base, hj]
  have h2 : x.fBase[j]? = some (x.fBase.getD j 0) := by rw [List.getD_eq_getElem?_getD]; simp [hx.base, hj]
  have h3 := Oe (c := 2) hbl (fun _ _ => by simp [Fp]) (fun _ _ => by simp [Fp]) e1 j _ _ h1 h2
  rw [Nat.zero_add] at h3
  have v := Hf hp hj
  have b1 := hm.b0 j hj
  have b2 := hx.b0 j hj
  have n1 := hm.n0 j hj
  have n2 := hx.n0 j hj
  unfold Fp at h3
  rw [CJ (n := m.fNext.getD j 0 + 1) (by omega) (by omega), CJ (n := x.fNext.getD j 0 + 1) (by omega) (by omega), G4 (n := m.fBase.getD j 0) (by omega), G4 (n := x.fBase.getD j 0) (by omega), G4 (n := m.fNext.getD j 0 + 1) (by omega), G4 (n := x.fNext.getD j 0 + 1) (by omega), List.cons.injEq, List.cons.injEq] at h3
  exact ⟨h3.1, by omega⟩
 have hB : m.fBase = x.fBase := EU hbl fun q hq => (key q (by rw [← hm.base]; exact hq)).1
 have hN : m.fNext = x.fNext := EU (hm.next.trans hx.next.symm) fun q hq => (key q (by rw [← hm.next]; exact hq)).2
 cases m; cases x
 simp only at hB hN e2
 rw [hB, hN, e2]
end Go.Lift

/- The possible steps of a mix, in order: both implementations. -/
namespace Go.Lift
open Go
def H3 (i : Nat) (n : Int) : List Ah := (List.range n.toNat).map fun v => ⟨1, (i : Int), ((v : Nat) : Int), ⟩
def Ea (p : Ad) : List Ah := CH H3 0 p.fVersions ++ ((List.range p.fVersions.length).map fun i => (⟨2, ((i : Nat) : Int), 0⟩ : Ah)) ++ ((List.range p.fTables.length).map fun i => (⟨3, ((i : Nat) : Int), 0⟩ : Ah))
def EX (p : Ad) (m : Af) : List Ah := (Ea p).filter fun s => (A2 p m s).2 == 0
theorem Rr {p : Ad} (hp : Bf p) : (Ea p).length ≤ 54 := by
 have h1 : (CH H3 0 p.fVersions).length ≤ 6 * p.fVersions.length := Fn fun j x hx => by
  have := hp.ver x (List.mem_of_getElem? hx)
  simp [H3]; omega
 have := hp.nv
 have := hp.nt
 unfold Ea
 simp only [List.length_append, List.length_map, List.length_range]
 omega
theorem Ql (N : Nat) (hN : N ≤ 1000000) (h20 : 100 ≤ N) {p : Ad} (hp : Bf p) : G5 N p = some (Ea p) := by
 have hnv := hp.nv
 have hnt := hp.nt
 unfold G5
 have l1 := FL (CU N p fun v2 => Cc N p (fun v10 => Br N p (fun v14 => some v14) N (v10, 0)) N (v2, 0)) (fun a i => (a, i)) p.fVersions (fun v2 => Cc N p (fun v10 => Br N p (fun v14 => some v14) N (v10, 0)) N (v2, 0)) H3 6 100
  (fun i x hx => by have := hp.ver x (List.mem_of_getElem? hx); simp [H3]; omega)
  (fun n i x a hx hl => by
   have hi := (List.getElem?_eq_some_iff.1 hx).1
   have hx6 := hp.ver x (List.mem_of_getElem? hx)
   obtain ⟨k, hk⟩ := Int.eq_ofNat_of_zero_le (show 0 ≤ x by omega)
   rw [CU, AL (by simp only; omega)]
   simp only [A3, hx, Option.bind_some, AM (show i < 1000000 by omega)]
   subst hk
   obtain ⟨a', e, ha⟩ := Ey (D6 N (a, (i : Int)) (k : Int) fun v6 => CU N p (fun v2 => Cc N p (fun v10 => Br N p (fun v14 => some v14) N (v10, 0)) N (v2, 0)) n (v6, ((i + 1 : Nat) : Int))) (fun b v => (b, v)) k (fun v6 => CU N p (fun v2 => Cc N p (fun v10 => Br N p (fun v14 => some v14) N (v10, 0)) N (v2, 0)) n (v6, ((i + 1 : Nat) : Int)))
    (fun v b => b = a ++ (List.range v).map fun v => (⟨1, (i : Int), ((v : Nat) : Int)⟩ : Ah))
    (fun n v b hv hb => by
     subst hb
     rw [D6, AL (by simp only; omega), Az (by simp [Dz]; simp [H3] at hl; omega), AM (by omega)]
     exact ⟨_, rfl, by rw [List.range_succ, List.map_append, List.append_assoc]; rfl⟩)
    (fun n b hb => by rw [D6, AH (by simp)]) N 0 a (Nat.zero_le _) (by omega) (by simp)
   have e' : D6 N (a, (i : Int)) (k : Int) (fun v6 => CU N p (fun v2 => Cc N p (fun v10 => Br N p (fun v14 => some v14) N (v10, 0)) N (v2, 0)) n (v6, ((i + 1 : Nat) : Int))) N (a, 0) = _ := e
   rw [e', ha]; rfl)
  (fun n a => by rw [CU, AH (by simp)]) N [] (by omega) (by simp; omega)
 have l1' : CU N p (fun v2 => Cc N p (fun v10 => Br N p (fun v14 => some v14) N (v10, 0)) N (v2, 0)) N (([] : List Ah), 0) = _ := l1
 rw [l1', List.nil_append]
 have hA : (CH H3 0 p.fVersions).length ≤ 6 * p.fVersions.length := Fn fun j x hx => by
  have := hp.ver x (List.mem_of_getElem? hx)
  simp [H3]; omega
 generalize hAe : CH H3 0 p.fVersions = A at hA
 obtain ⟨b', e2, hb⟩ := Ey (Cc N p fun v10 => Br N p (fun v14 => some v14) N (v10, 0)) (fun b v => (b, v)) p.fVersions.length (fun v10 => Br N p (fun v14 => some v14) N (v10, 0))
  (fun v b => b = A ++ (List.range v).map fun i => (⟨2, ((i : Nat) : Int), 0⟩ : Ah))
  (fun n v b hv hb => by
   subst hb
   rw [Cc, AL (by simp only; omega), Az (by simp [Dz]; omega), AM (by omega)]
   exact ⟨_, rfl, by rw [List.range_succ, List.map_append, List.append_assoc]; rfl⟩)
  (fun n b hb => by rw [Cc, AH (by simp)]) N 0 A (Nat.zero_le _) (by omega) (by simp)
 have e2' : Cc N p (fun v10 => Br N p (fun v14 => some v14) N (v10, 0)) N (A, 0) = _ := e2
 rw [e2', hb]
 generalize hBe : A ++ (List.range p.fVersions.length).map (fun i => (⟨2, ((i : Nat) : Int), 0⟩ : Ah)) = B
 have hB : B.length ≤ 50 := by rw [← hBe]; simp; omega
 obtain ⟨c', e3, hc⟩ := Ey (Br N p fun v14 => some v14) (fun b v => (b, v)) p.fTables.length (fun v14 => some v14)
  (fun v b => b = B ++ (List.range v).map fun i => (⟨3, ((i : Nat) : Int), 0⟩ : Ah))
  (fun n v b hv hb => by
   subst hb
   rw [Br, AL (by simp only; omega), Az (by simp [Dz]; omega), AM (by omega)]
   exact ⟨_, rfl, by rw [List.range_succ, List.map_append, List.append_assoc]; rfl⟩)
  (fun n b hb => by rw [Br, AH (by simp)]) N 0 B (Nat.zero_le _) (by omega) (by simp)
 have e3' : Br N p (fun v14 => some v14) N (B, 0) = _ := e3
 rw [e3', hc, ← hBe, ← hAe]; rfl
end Go.Lift

/- Enabled: the possible steps. -/
namespace Go.Lift
open Go
theorem LS {p : Ad} (hp : Bf p) {s : Ah} (h : s ∈ Ea p) : Fx s = true ∧ EY p s = true := by
 have hnv := hp.nv
 unfold Ea at h
 rcases List.mem_append.1 h with h | h
 ·rcases List.mem_append.1 h with h | h
  ·obtain ⟨j, x, hx, hk⟩ := Gl.1 h
   rw [Nat.zero_add] at hk
   unfold H3 at hk
   obtain ⟨v, hv, rfl⟩ := List.mem_map.1 hk
   have hx6 := hp.ver x (List.mem_of_getElem? hx)
   have hv := List.mem_range.1 hv
   have hj := (List.getElem?_eq_some_iff.1 hx).1
   refine ⟨by unfold Fx; simp, ?_⟩
   unfold EY
   have e : p.fVersions.getD j 0 = x := by rw [List.getD_eq_getElem?_getD, hx]; rfl
   simp only
   rw [if_neg (by omega), decide_eq_true (by omega), Int.toNat_natCast, e, decide_eq_true (by omega), Bool.or_true]; rfl
  ·obtain ⟨v, hv, rfl⟩ := List.mem_map.1 h
   have hv := List.mem_range.1 hv
   refine ⟨by unfold Fx; simp, ?_⟩
   unfold EY
   simp only
   rw [if_neg (by omega), decide_eq_true (by omega)]; rfl
 ·obtain ⟨v, hv, rfl⟩ := List.mem_map.1 h
  have hv := List.mem_range.1 hv
  refine ⟨by unfold Fx; simp, ?_⟩
  unfold EY
  simp only
  rw [if_pos trivial, decide_eq_true (by omega)]
theorem Ts {p : Ad} {m : Af} {s : Ah} (hv : Fx s = true) (hx : EY p s = true) : ((A2 p m s).2 == 0) = (E4 p m s).isSome := by
 unfold A2
 rw [hv, hx, if_neg (by simp), if_neg (by simp)]
 cases E4 p m s <;> rfl
theorem Qx (N : Nat) (hN : N ≤ 1000000) (h20 : 100 ≤ N) {p : Ad} {m : Af} (hp : Bf p) (hm : BM p m) {s : Ah} (h : s ∈ Ea p) :
  C6 N s p.fVersions p.fNow p.fTarget p.fTables m.fBase m.fNext m.fHeld = some (!((A2 p m s).2 == 0)) := by
 obtain ⟨hv, hx⟩ := LS hp h
 unfold C6
 obtain ⟨o, e, _⟩ := Kn N hN h20 hp hm hv hx
 have e' : ET N ⟨p.fVersions, p.fNow, p.fTarget, p.fTables⟩ ⟨m.fBase, m.fNext, m.fHeld⟩ s = some (o, (E4 p m s).isSome) := e
 rw [e', Ts hv hx]; rfl
theorem QK (N : Nat) (hN : N ≤ 1000000) (a : List Ah) (f : Ah → Option Bool) (g : Ah → Bool) (h : a.length < N) (hf : ∀ x, x ∈ a → f x = some (g x)) :
  BK N a f = some ((Da (fun i x => if g x = true then some (i : Int) else none) 0 a).getD (-1)) := by
 unfold BK
 have := Cm (A4 N a f fun _ => some (-1)) a (some (-1)) (fun i x => if g x = true then some (i : Int) else none)
  (fun n i x hx => by
   have hi := (List.getElem?_eq_some_iff.1 hx).1
   rw [A4, AL (by omega), A3, hx]
   simp only [Option.bind_some]
   rw [hf x (List.mem_of_getElem? hx), AM (by omega)]
   simp only [Option.bind_some]
   cases g x <;> rfl)
  (fun n => by rw [A4, AH (by simp)]) N 0 (Nat.zero_le _) (by omega)
 refine this.trans ?_
 rw [List.drop_zero]
 cases Da (fun i x => if g x = true then some (i : Int) else none) 0 a <;> rfl
end Go.Lift

/- Enabled gives the possible steps. -/
namespace Go.Lift
open Go
theorem NG {α : Type} {l : List α} {i : Nat} {v : α} (h : i < l.length) : (l.set i v).take (i + 1) = l.take i ++ [v] := by
 rw [List.take_add_one, List.take_set_of_le (Nat.le_refl i)]
 congr 1
 simp [h]
theorem Qd (N : Nat) (hN : N ≤ 1000000) (a : List Ah) (f : Ah → Option Bool) (g : Ah → Bool) (h : a.length < N) (h9 : a.length ≤ 1000) (hf : ∀ x, x ∈ a → f x = some (g x)) :
  ∃ X n, BD N a f = some (n, X) ∧ n ≤ X.length ∧ X.take n = a.filter fun x => !g x := by
 unfold BD
 rw [QK N hN a f g h hf]
 simp only [Option.bind_some]
 cases hs : Da (fun i x => if g x = true then some (i : Int) else none) 0 a with
 | none =>
  refine ⟨a, a.length, rfl, Nat.le_refl _, ?_⟩
  rw [List.take_length]
  symm
  rw [List.filter_eq_self]
  intro x hx
  obtain ⟨j, hj⟩ := List.mem_iff_getElem?.1 hx
  have := Er hs j x hj
  cases hg : g x
  ·rfl
  ·rw [hg] at this; cases this
 | some r =>
  obtain ⟨j, x, hx, hr⟩ := D0 hs
  rw [Nat.zero_add] at hr
  split at hr
  ·rename_i hg
   cases hr
   have hj := (List.getElem?_eq_some_iff.1 hx).1
   have e0 : ((some (j : Int)).getD (-1) == (-1 : Int)) = false := beq_eq_false_iff_ne.2 (by simp only [Option.getD_some]; omega)
   rw [e0, Av]
   simp only [Option.getD_some]
   rw [AM (by omega)]
   -- what lies before the first that goes is kept
   have hpre : (a.take (j + 1)).filter (fun x => !g x) = a.take j := by
    rw [List.take_add_one, hx, List.filter_append]
    have h1 : (a.take j).filter (fun x => !g x) = a.take j := by
     rw [List.filter_eq_self]
     intro y hy
     obtain ⟨q, hq⟩ := List.mem_iff_getElem?.1 hy
     have hql := (List.getElem?_eq_some_iff.1 hq).1
     simp at hql
     rw [List.getElem?_take_of_lt (by omega)] at hq
     cases hgy : g y
     ·rfl
     ·exfalso
      have : ∀ (xs : List Ah) (i j q : Nat) (y : Ah), Da (fun i x => if g x = true then some (i : Int) else none) i xs = some ((i + j : Nat) : Int) → q < j → xs[q]? = some y → g y = true → False := by
       intro xs
       induction xs with
       | nil => intro i j q y _ _ hq; simp at hq
       | cons z zs ih =>
        intro i j q y hs hqj hq hgy
        rw [FI] at hs
        cases hz : g z
        ·rw [hz] at hs
         cases q with
         | zero => simp at hq; subst hq; rw [hz] at hgy; cases hgy
         | succ q =>
          cases j with
          | zero => omega
          | succ j => exact ih (i + 1) j q y (by rw [show i + 1 + j = i + (j + 1) from by omega]; exact hs) (by omega) (by simpa using hq) hgy
        ·rw [hz] at hs
         have hs : (some (i : Int)) = some ((i + j : Nat) : Int) := hs
         have := Option.some.inj hs
         omega
      exact this a 0 j q y (by rw [Nat.zero_add]; exact hs) (by omega) hq hgy
    rw [h1]
    simp [hg]
   obtain ⟨b, e, hb⟩ := Ey (AX N f fun v4 => (Ei ((0 : Int) ≤ v4.2 ∧ (v4.2).toNat ≤ v4.1.length ∧ v4.1.length ≤ v4.1.length)).bind fun _ =>
     (Ei ((0 : Int) ≤ v4.2 ∧ 0 ≤ (v4.2).toNat ∧ (v4.2).toNat ≤ (Ix v4.1 ((v4.2).toNat) (List.replicate ((v4.1.length - (v4.2).toNat)) ((Ah.mk 0 0 0)))).length)).bind fun _ =>
     some ((v4.2).toNat, Ix v4.1 ((v4.2).toNat) (List.replicate ((v4.1.length - (v4.2).toNat)) ((Ah.mk 0 0 0)))))
    (fun (b : List Ah × Nat) i => (b.1, ((b.2 : Nat) : Int), i)) a.length (fun b => (Ei ((0 : Int) ≤ ((b.2 : Nat) : Int) ∧ (((b.2 : Nat) : Int)).toNat ≤ b.1.length ∧ b.1.length ≤ b.1.length)).bind fun _ =>
     (Ei ((0 : Int) ≤ ((b.2 : Nat) : Int) ∧ 0 ≤ (((b.2 : Nat) : Int)).toNat ∧ (((b.2 : Nat) : Int)).toNat ≤ (Ix b.1 ((((b.2 : Nat) : Int)).toNat) (List.replicate ((b.1.length - (((b.2 : Nat) : Int)).toNat)) ((Ah.mk 0 0 0)))).length)).bind fun _ =>
     some ((((b.2 : Nat) : Int)).toNat, Ix b.1 ((((b.2 : Nat) : Int)).toNat) (List.replicate ((b.1.length - (((b.2 : Nat) : Int)).toNat)) ((Ah.mk 0 0 0)))))
    (fun i b => b.1.length = a.length ∧ b.2 ≤ i ∧ b.1.drop i = a.drop i ∧ b.1.take b.2 = (a.take i).filter fun x => !g x)
    (fun n i b hi hb => by
     obtain ⟨b1, b2, b3, b4⟩ := hb
     rw [AX, AL (by simp only; omega)]
     have hai : a[i]? = some a[i] := by simp [hi]
     have hbi : b.1[i]? = some a[i] := by
      have := congrArg (fun l => l[0]?) b3
      simp only [List.getElem?_drop, Nat.add_zero] at this
      rw [this, hai]
     simp only [Bb, A3, hbi, Option.bind_some]
     rw [hf a[i] (List.getElem_mem hi), AM (i := i) (by omega)]
     simp only [Option.bind_some]
     have hnext : b.1.drop (i + 1) = a.drop (i + 1) := by
      have := congrArg (List.drop 1) b3
      rwa [List.drop_drop, List.drop_drop] at this
     cases hgi : g a[i]
     ·rw [Bool.not_false, AN]
      have hbj : b.1[b.2]? = some b.1[b.2] := by simp [show b.2 < b.1.length from by omega]
      rw [hbj, AM (i := b.2) (by omega)]
      refine ⟨(b.1.set b.2 a[i], b.2 + 1), rfl, by simpa using b1, by simp only; omega, ?_, ?_⟩
      ·simp only
       rw [List.drop_set_of_lt (by omega), hnext]
      ·simp only
       rw [NG (by omega), b4, List.take_add_one, hai, List.filter_append]
       simp [hgi]
     ·rw [Bool.not_true, Av]
      refine ⟨b, rfl, b1, by omega, hnext, ?_⟩
      rw [b4, List.take_add_one, hai, List.filter_append]
      simp [hgi])
    (fun n b hb => by rw [AX, AH (by simp [hb.1])]) N (j + 1) (a, j) (by omega) (by omega) ⟨rfl, by simp only; omega, rfl, hpre.symm⟩
   obtain ⟨b1, b2, b3, b4⟩ := hb
   have e' : AX N f (fun v4 => (Ei ((0 : Int) ≤ v4.2 ∧ (v4.2).toNat ≤ v4.1.length ∧ v4.1.length ≤ v4.1.length)).bind fun _ =>
     (Ei ((0 : Int) ≤ v4.2 ∧ 0 ≤ (v4.2).toNat ∧ (v4.2).toNat ≤ (Ix v4.1 ((v4.2).toNat) (List.replicate ((v4.1.length - (v4.2).toNat)) ((Ah.mk 0 0 0)))).length)).bind fun _ =>
     some ((v4.2).toNat, Ix v4.1 ((v4.2).toNat) (List.replicate ((v4.1.length - (v4.2).toNat)) ((Ah.mk 0 0 0))))) N (a, (j : Int), ((j + 1 : Nat) : Int)) = _ := e
   rw [e']
   have hsl : (Ix b.1 b.2 (List.replicate (b.1.length - b.2) (Ah.mk 0 0 0))).length = b.1.length := I8 (by rw [List.length_replicate]; omega)
   simp only [Int.toNat_natCast]
   rw [Az ⟨by omega, by omega, Nat.le_refl _⟩, Az ⟨by omega, by omega, by rw [hsl]; omega⟩]
   refine ⟨_, _, rfl, by rw [hsl]; omega, ?_⟩
   unfold Ix
   rw [List.append_assoc, List.take_append_of_le_length (by simp; omega), List.take_take, Nat.min_self, b4, List.take_length]
  ·cases hr
theorem Q2 (N : Nat) (hN : N ≤ 1000000) (h20 : 100 ≤ N) {p : Ad} {m : Af} (hv : BQ p = 0) (hm : BM p m) : Fh N p m = some (EX p m, 0) := by
 obtain ⟨hp, _⟩ := CK hv
 unfold Fh
 rw [Hu N p m hN (by omega) (Ij hm), Fw hv hm]
 simp only [Option.bind_some, bne_self_eq_false, Av]
 rw [Ql N hN h20 hp]
 simp only [Option.bind_some]
 have hl := Rr hp
 obtain ⟨X, n, e, h1, h2⟩ := Qd N hN (Ea p) (fun x => C6 N x p.fVersions p.fNow p.fTarget p.fTables m.fBase m.fNext m.fHeld) (fun s => !((A2 p m s).2 == 0)) (by omega) (by omega) (fun x hx => Qx N hN h20 hp hm hx)
 rw [e]
 simp only [Option.bind_some]
 rw [Az h1, h2]
 unfold EX
 simp
end Go.Lift

/- The reference's list of possible steps is the same. -/
namespace Go.Lift
open Go
theorem Ha {β : Type} (g : Nat → List β) : ∀ n : Nat, CH (fun i (_ : Nat) => g i) 0 (List.range n) = (List.range n).flatMap g
 | 0 => rfl
 | n + 1 => by rw [List.range_succ, Lt, Ha g n, List.flatMap_append]; simp [CH]
def TN (p : Ad) (m : Af) (s : Ah) : Bool := (A2 p m s).2 == 0
def gS (p : Ad) (m : Af) (k : Int) (i v : Nat) : List Ah := if TN p m ⟨k, (i : Int), (v : Int)⟩ = true then [⟨k, (i : Int), (v : Int)⟩] else []
def bS (p : Ad) (m : Af) (k : Int) (i : Nat) : List Ah := (List.range 6).flatMap (gS p m k i)
def Q8 (p : Ad) : Nat := max p.fVersions.length p.fTables.length
def kS (p : Ad) (m : Af) (k : Int) : List Ah := (List.range (Q8 p)).flatMap (bS p m k)
theorem Jx {β : Type} (f : Nat → β) (q : β → Bool) : ∀ n : Nat, ((List.range n).flatMap fun v => if q (f v) = true then [f v] else []) = ((List.range n).map f).filter q
 | 0 => rfl
 | n + 1 => by
  rw [List.range_succ, List.flatMap_append, Jx f q n, List.map_append, List.filter_append]
  cases h : q (f n) <;> simp [h]
theorem JV {β : Type} (g : Nat → List β) (a : Nat) (h : ∀ v, a ≤ v → g v = []) : ∀ n, a ≤ n → (List.range n).flatMap g = (List.range a).flatMap g
 | 0, hn => by rw [Nat.le_zero.1 hn]
 | n + 1, hn => by
  by_cases h1 : a = n + 1
  ·rw [h1]
  ·rw [List.range_succ, List.flatMap_append, JV g a h n (by omega)]
   simp [h n (by omega)]
theorem So (p : Ad) (m : Af) (k : Int) (i v : Nat) : (gS p m k i v).length ≤ 1 := by unfold gS; split <;> simp
theorem Ta (p : Ad) (m : Af) (k : Int) (i : Nat) : (bS p m k i).length ≤ 6 := by
 unfold bS
 rw [← Ha]
 have := Fn (g := fun i' (_ : Nat) => gS p m k i i') (c := 1) (i := 0) (xs := List.range 6) fun j x _ => So p m k i _
 simpa using this
theorem Vt {p : Ad} (hp : Bf p) (m : Af) (k : Int) : (kS p m k).length ≤ 72 := by
 have h1 := hp.nv
 have h2 := hp.nt
 unfold kS
 rw [← Ha]
 have := Fn (g := fun i' (_ : Nat) => bS p m k i') (c := 6) (i := 0) (xs := List.range (Q8 p)) fun j x _ => Ta p m k _
 simp only [List.length_range] at this
 have h3 : Q8 p ≤ 12 := by unfold Q8; omega
 omega
theorem Vr {p : Ad} {m : Af} {s : Ah} (h : TN p m s = true) : Fx s = true ∧ EY p s = true := by
 unfold TN A2 at h
 split at h
 ·cases h
 ·rename_i h1
  split at h
  ·cases h
  ·rename_i h2
   exact ⟨by simpa using h1, by simpa using h2⟩
theorem KW {p : Ad} {m : Af} {k : Int} {i v : Nat} (h : TN p m ⟨k, (i : Int), (v : Int)⟩ = true) : (k = 3 → i < p.fTables.length) ∧ (k ≠ 3 → i < p.fVersions.length) ∧ (k = 1 → (v : Int) < p.fVersions.getD i 0) ∧ (k ≠ 1 → v = 0) := by
 obtain ⟨h1, h2⟩ := Vr h
 obtain ⟨a1, a2, a3, a4, a5⟩ := GV h1
 obtain ⟨b1, b2, b3⟩ := HB h2
 simp only [Int.toNat_natCast] at *
 exact ⟨fun e => by have := b1 e; omega, fun e => by have := b2 e; omega, b3, fun e => by have := a5 e; omega⟩
theorem TA {p : Ad} (hp : Bf p) (m : Af) : kS p m 1 ++ kS p m 2 ++ kS p m 3 = EX p m := by
 have hnv := hp.nv
 have hnt := hp.nt
 unfold EX Ea
 rw [List.filter_append, List.filter_append]
 have e1 : kS p m 1 = (CH H3 0 p.fVersions).filter fun s => (A2 p m s).2 == 0 := by
  unfold kS
  rw [JV (bS p m 1) p.fVersions.length (fun i hi => by
   unfold bS
   rw [List.flatMap_eq_nil_iff]
   intro v _
   unfold gS
   rw [if_neg]
   intro h
   have := (KW h).2.1 (by decide)
   omega) (Q8 p) (by unfold Q8; omega)]
  have e : ∀ (xs : List Int) (i : Nat), (∀ j x, xs[j]? = some x → 1 ≤ x ∧ x ≤ 6 ∧ p.fVersions.getD (i + j) 0 = x) → ((List.range xs.length).flatMap fun j => bS p m 1 (i + j)) = (CH H3 i xs).filter fun s => (A2 p m s).2 == 0 := by
   intro xs
   induction xs with
   | nil => intro i _; rfl
   | cons x xs ih =>
    intro i hx
    rw [List.length_cons, List.range_succ_eq_map, List.flatMap_cons, List.flatMap_map, CH, List.filter_append]
    have ih' := ih (i + 1) (fun j y hy => by
     have := hx (j + 1) y (by simpa using hy)
     rw [show i + 1 + j = i + (j + 1) from by omega]; exact this)
    have hx0 := hx 0 x rfl
    rw [Nat.add_zero] at hx0
    congr 1
    ·rw [Nat.add_zero]
     unfold bS H3
     rw [JV (gS p m 1 i) x.toNat (fun v hv => by
      unfold gS
      rw [if_neg]
      intro h
      have := (KW h).2.2.1 rfl
      rw [hx0.2.2] at this
      omega) 6 (by omega)]
     exact Jx (fun v => (⟨1, (i : Int), ((v : Nat) : Int)⟩ : Ah)) (TN p m) x.toNat
    ·rw [← ih']
     congr 1
     funext j
     rw [show i + (j + 1) = i + 1 + j from by omega]
  have := e p.fVersions 0 (fun j x hx => by
   have h1 := hp.ver x (List.mem_of_getElem? hx)
   refine ⟨h1.1, h1.2, ?_⟩
   rw [Nat.zero_add, List.getD_eq_getElem?_getD, hx]; rfl)
  simp only [Nat.zero_add] at this
  exact this
 have e23 : ∀ (k : Int) (n : Nat), k ≠ 1 → n ≤ Q8 p → (∀ i v, TN p m ⟨k, ((i : Nat) : Int), ((v : Nat) : Int)⟩ = true → i < n) → kS p m k = (((List.range n).map fun i => (⟨k, ((i : Nat) : Int), 0⟩ : Ah)).filter fun s => (A2 p m s).2 == 0) := by
  intro k n hk hn hi
  unfold kS
  rw [JV (bS p m k) n (fun i hi' => by
   unfold bS
   rw [List.flatMap_eq_nil_iff]
   intro v _
   unfold gS
   rw [if_neg]
   intro h
   have := hi i v h
   omega) (Q8 p) hn]
  show _ = List.filter (TN p m) _
  rw [← Jx (fun i => (⟨k, ((i : Nat) : Int), 0⟩ : Ah)) (TN p m) n]
  congr 1
  funext i
  unfold bS
  rw [JV (gS p m k i) 1 (fun v hv => by
   unfold gS
   rw [if_neg]
   intro h
   have := (KW h).2.2.2 hk
   omega) 6 (by omega)]
  simp [gS]
 rw [e1, e23 2 p.fVersions.length (by decide) (by unfold Q8; omega) (fun i v h => (KW h).2.1 (by decide)), e23 3 p.fTables.length (by decide) (by unfold Q8; omega) (fun i v h => (KW h).1 rfl)]
theorem PF (a b : Nat) : R3 (a : Int) (b : Int) = ((max a b : Nat) : Int) := by
 unfold R3
 omega
theorem Oz (N : Nat) (hN : N ≤ 1000000) (h20 : 100 ≤ N) {p : Ad} {m : Af} (hv : BQ p = 0) (hm : BM p m) : D7 N p m = some (EX p m) := by
 obtain ⟨hp, _⟩ := CK hv
 have hnv := hp.nv
 have hnt := hp.nt
 have hmx : Q8 p ≤ 12 := by unfold Q8; omega
 unfold D7
 have hmix := Fw hv hm
 -- one number
 have inn : ∀ (k : Int) (c0 a : List Ah) (i : Nat) (d0 : List Ah) (j : List Ah → Option (List Ah)), a.length ≤ 1000 →
   B3 N p m (c0, k) (d0, (i : Int)) j N (a, 0) = j (a ++ bS p m k i) := by
  intro k c0 a i d0 j ha
  have := FL (B3 N p m (c0, k) (d0, (i : Int)) j) (fun a i => (a, i)) (List.range 6) j (fun v _ => gS p m k i v) 1 2000
   (fun v x _ => So _ _ _ _ _)
   (fun n v x a hx hl => by
    have hi := (List.getElem?_eq_some_iff.1 hx).1
    simp only [List.length_range] at hi
    rw [B3, AL (by simp only; omega)]
    simp only [Bb]
    rw [KQ N hN h20 (Ij hm), if_pos hmix]
    simp only [Option.bind_some, AM (show v < 1000000 by omega)]
    unfold gS TN
    cases hq : (A2 p m ⟨k, (i : Int), (v : Int)⟩).2 == 0
    ·rw [Av, if_neg (by simp), List.append_nil]
    ·rw [AN, if_pos rfl, Az (by simp [Dz]; unfold gS TN at hl; rw [hq] at hl; simp at hl; omega)])
   (fun n a => by rw [B3, AH (by simp)]) N a (by simp; omega) (by simp; omega)
  rw [Ha] at this
  exact this
 have mid : ∀ (k : Int) (c0 a : List Ah) (j : List Ah → Option (List Ah)), a.length ≤ 500 →
   B1 N p m (c0, k) j N (a, 0) = j (a ++ kS p m k) := by
  intro k c0 a j ha
  have := FL (B1 N p m (c0, k) j) (fun a i => (a, i)) (List.range (Q8 p)) j (fun i _ => bS p m k i) 6 900
   (fun v x _ => Ta _ _ _ _)
   (fun n i x a hx hl => by
    have hi := (List.getElem?_eq_some_iff.1 hx).1
    simp only [List.length_range] at hi
    rw [B1, AL (by simp only; rw [PF]; unfold Q8 at hi; omega)]
    rw [inn k c0 a i a _ (by omega)]
    simp only [AM (show i < 1000000 by omega)])
   (fun n a => by rw [B1, AH (by simp [PF, Q8])]) N a (by simp; omega) (by simp; omega)
  rw [Ha] at this
  exact this
 have hk := Vt hp m
 have go : ∀ (k : Int) (n : Nat) (a : List Ah), k ≤ 3 → 1 ≤ k → a.length ≤ 300 → Bt N p m (fun v2 => some v2) (n + 1) (a, k) = Bt N p m (fun v2 => some v2) n (a ++ kS p m k, k + 1) := by
  intro k n a h1 h2 ha
  rw [Bt, AL h1]
  rw [mid k a a _ (by omega), CJ (by omega) (by omega)]
 obtain ⟨N', hN'⟩ : ∃ q, N = q + 4 := ⟨N - 4, by omega⟩
 have e0 : Bt N p m (fun v2 => some v2) N ([], 1) = Bt N p m (fun v2 => some v2) (N' + 4) ([], 1) := by rw [hN']
 rw [e0, go 1 (N' + 3) [] (by decide) (by decide) (by simp), List.nil_append]
 rw [show (1 : Int) + 1 = 2 from rfl, go 2 (N' + 2) _ (by decide) (by decide) (by have := hk 1; omega)]
 rw [show (2 : Int) + 1 = 3 from rfl, go 3 (N' + 1) _ (by decide) (by decide) (by have h1 := hk 1; have h2 := hk 2; rw [List.length_append]; omega)]
 rw [Bt, AH (by simp), TA hp]
end Go.Lift

/- Breadth-first search in plain Lean: the ways that it finds are the least ones, by length and then by the ranks of their steps. No condition. -/
namespace Go.Lift
namespace Bfs
section
variable {α σ : Type}
def code (rk : σ → Nat) (K : Nat) (w : List σ) : Nat := w.foldl (fun c s => c * K + rk s) 0
theorem Gn (rk : σ → Nat) (K : Nat) (w : List σ) (s : σ) : code rk K (w ++ [s]) = code rk K w * K + rk s := by
 simp [code]
theorem Nb (rk : σ → Nat) (K : Nat) : code rk K ([] : List σ) = 0 := rfl
def Dig (rk : σ → Nat) (K : Nat) (w : List σ) : Prop := ∀ s, s ∈ w → 1 ≤ rk s ∧ rk s ≤ K
theorem Dig.snoc {rk : σ → Nat} {K : Nat} {w : List σ} {s : σ} (h : Dig rk K w) (hs : 1 ≤ rk s ∧ rk s ≤ K) : Dig rk K (w ++ [s]) := by
 intro x hx; rcases List.mem_append.1 hx with h1 | h1
 ·exact h x h1
 ·rw [List.mem_singleton.1 h1]; exact hs
theorem Oq {c d K a b : Nat} (h : c < d) (_ : 1 ≤ b) (ha : a ≤ K) : c * K + a < d * K + b := by
 have : c * K + K ≤ d * K := by rw [← Nat.succ_mul]; exact Nat.mul_le_mul_right K h
 omega
theorem Ul {c d K a : Nat} (h : c ≤ d) : c * K + a ≤ d * K + a := Nat.add_le_add_right (Nat.mul_le_mul_right K h) a
theorem list_snoc {β : Type} (l : List β) : l = [] ∨ ∃ u s, l = u ++ [s] := by
 cases h : l.reverse with
 | nil => exact .inl (List.reverse_eq_nil_iff.1 h)
 | cons s r => exact .inr ⟨r.reverse, s, by rw [← List.reverse_cons, ← h, List.reverse_reverse]⟩
theorem Pt {rk : σ → Nat} {K : Nat} : ∀ (n : Nat) {u w : List σ}, u.length = n → Dig rk K u → Dig rk K w → w.length < u.length → code rk K w < code rk K u
 | 0, u, w, hn, _, _, h => by omega
 | n + 1, u, w, hn, hu, hw, h => by
  rcases list_snoc u with rfl | ⟨u', s, rfl⟩
  ·simp at hn
  have hs := hu s (by simp)
  have hu' : Dig rk K u' := fun x hx => hu x (by simp [hx])
  rw [Gn]
  rcases list_snoc w with rfl | ⟨w', t, rfl⟩
  ·rw [Nb]; omega
  have ht := hw t (by simp)
  have hw' : Dig rk K w' := fun x hx => hw x (by simp [hx])
  rw [Gn]
  simp only [List.length_append, List.length_singleton] at hn h
  exact Oq (Pt n (by omega) hu' hw' (by omega)) hs.1 ht.2
theorem len_le {rk : σ → Nat} {K : Nat} {u w : List σ} (hu : Dig rk K u) (hw : Dig rk K w) (h : code rk K u ≤ code rk K w) : u.length ≤ w.length :=
 Nat.le_of_not_lt fun hlt => absurd (Pt _ rfl hu hw hlt) (Nat.not_lt.2 h)
abbrev Nd (α σ : Type) := α × Int × σ
def put [DecidableEq α] (i : Nat) (l : List (Nd α σ)) (q : σ × α) : List (Nd α σ) := if (l.any fun n => decide (n.1 = q.2)) = true then l else l ++ [(q.2, (i : Int), q.1)]
def inner [DecidableEq α] (most i : Nat) : List (σ × α) → List (Nd α σ) → Option (List (Nd α σ))
 | [], l => some l
 | q :: qs, l => if most < (put i l q).length then none else inner most i qs (put i l q)
def go [DecidableEq α] (nxt : α → List (σ × α)) (most : Nat) : Nat → Nat → List (Nd α σ) → Option (List (Nd α σ))
 | 0, _, _ => none
 | n + 1, i, l => match l[i]? with
  | none => some l
  | some nd => (inner most i (nxt nd.1) l).bind fun l' => go nxt most n (i + 1) l'
structure Inv (nxt : α → List (σ × α)) (rk : σ → Nat) (K : Nat) (root : α) (i : Nat) (done : List (σ × α)) (l : List (Nd α σ)) (ws : List (List σ)) : Prop where
 len : ws.length = l.length
 root : ∃ s, l[0]? = some (root, -1, s)
 root' : ws[0]? = some []
 par : ∀ (k : Nat) x f s, 0 < k → l[k]? = some (x, f, s) → ∃ (j : Nat) (y : α) (g : Int) (t : σ) (w : List σ), f = (j : Int) ∧ j < k ∧ l[j]? = some (y, g, t) ∧ (s, x) ∈ nxt y ∧ ws[j]? = some w ∧ ws[k]? = some (w ++ [s]) ∧ (j < i ∨ (j = i ∧ (s, x) ∈ done))
 nodup : ∀ (a b : Nat) x f s g t, l[a]? = some (x, f, s) → l[b]? = some (x, g, t) → a = b
 inc : ∀ (a b : Nat) u w, ws[a]? = some u → ws[b]? = some w → a < b → code rk K u < code rk K w
 dig : ∀ (k : Nat) w, ws[k]? = some w → Dig rk K w
 closed : ∀ (j : Nat) x f s w, l[j]? = some (x, f, s) → ws[j]? = some w → ∀ q, (j < i ∧ q ∈ nxt x) ∨ (j = i ∧ q ∈ done) → ∃ (k : Nat) (f' : Int) (s' : σ) (w' : List σ), l[k]? = some (q.2, f', s') ∧ ws[k]? = some w' ∧ code rk K w' ≤ code rk K (w ++ [q.1])
theorem get_app {β : Type} {l : List β} {y x : β} {k : Nat} (h : (l ++ [y])[k]? = some x) : l[k]? = some x ∨ (k = l.length ∧ x = y) := by
 rcases Nat.lt_trichotomy k l.length with h1 | h1 | h1
 ·rw [List.getElem?_append_left h1] at h; exact .inl h
 ·subst h1; simp at h; exact .inr ⟨rfl, h.symm⟩
 ·rw [List.getElem?_eq_none (by simp; omega)] at h; cases h
theorem get_app_of {β : Type} {l : List β} {y x : β} {k : Nat} (h : l[k]? = some x) : (l ++ [y])[k]? = some x := by
 rw [List.getElem?_append_left ((List.getElem?_eq_some_iff.1 h).1)]; exact h
theorem get_app_new {β : Type} {l : List β} {y : β} : (l ++ [y])[l.length]? = some y := by simp
theorem lt_get {β : Type} {l : List β} {k : Nat} {x : β} (h : l[k]? = some x) : k < l.length := (List.getElem?_eq_some_iff.1 h).1
theorem get_ex {β : Type} {l : List β} {k : Nat} (h : k < l.length) : ∃ x, l[k]? = some x := ⟨l[k], List.getElem?_eq_getElem h⟩
theorem TX [DecidableEq α] {nxt : α → List (σ × α)} {rk : σ → Nat} {K : Nat} {root : α} {i : Nat} {done : List (σ × α)} {l : List (Nd α σ)} {ws : List (List σ)} {x : α} {f : Int} {s : σ} {q : σ × α}
  (hI : Inv nxt rk K root i done l ws) (hx : l[i]? = some (x, f, s)) (hq : q ∈ nxt x) (hd : ∀ r, r ∈ done → rk r.1 < rk q.1) (hr : 1 ≤ rk q.1 ∧ rk q.1 ≤ K) :
  ∃ ws', Inv nxt rk K root i (done ++ [q]) (put i l q) ws' ∧ (∀ (k : Nat) w, ws[k]? = some w → ws'[k]? = some w) ∧ (∀ (k : Nat) n, l[k]? = some n → (put i l q)[k]? = some n) := by
 obtain ⟨w0, hw0⟩ := get_ex (l := ws) (k := i) (by rw [hI.len]; exact lt_get hx)
 unfold put
 by_cases hin : (l.any fun n => decide (n.1 = q.2)) = true
 ·rw [if_pos hin]
  refine ⟨ws, ⟨hI.len, hI.root, hI.root', ?_, hI.nodup, hI.inc, hI.dig, ?_⟩, fun _ _ h => h, fun _ _ h => h⟩
  ·intro k y g t hk hy
   obtain ⟨j, y', g', t', w, h1, h2, h3, h4, h5, h6, h7⟩ := hI.par k y g t hk hy
   exact ⟨j, y', g', t', w, h1, h2, h3, h4, h5, h6, h7.imp id fun h => ⟨h.1, List.mem_append_left _ h.2⟩⟩
  ·intro j y g t w hy hw r hr'
   by_cases hold : (j < i ∧ r ∈ nxt y) ∨ (j = i ∧ r ∈ done)
   ·exact hI.closed j y g t w hy hw r hold
   ·have hjr : j = i ∧ r = q := by
     rcases hr' with h | ⟨h1, h2⟩
     ·exact absurd (.inl h) hold
     ·rcases List.mem_append.1 h2 with h3 | h3
      ·exact absurd (.inr ⟨h1, h3⟩) hold
      ·exact ⟨h1, List.mem_singleton.1 h3⟩
    obtain ⟨rfl, rfl⟩ := hjr
    rw [hw0] at hw; cases hw
    obtain ⟨n, hn1, hn2⟩ := List.any_eq_true.1 hin
    obtain ⟨k, hk⟩ := List.mem_iff_getElem?.1 hn1
    obtain ⟨nx, nf, ns⟩ := n
    have hn2 : nx = r.2 := of_decide_eq_true hn2
    subst hn2
    obtain ⟨wk, hwk⟩ := get_ex (l := ws) (k := k) (by rw [hI.len]; exact lt_get hk)
    refine ⟨k, nf, ns, wk, hk, hwk, ?_⟩
    rw [Gn]
    rcases Nat.eq_zero_or_pos k with rfl | hk0
    ·rw [hI.root'] at hwk; cases hwk; rw [Nb]; omega
    ·obtain ⟨j', y', g', t', w, h1, h2, h3, h4, h5, h6, h7⟩ := hI.par k _ _ _ hk0 hk
     rw [h6] at hwk; cases hwk
     rw [Gn]
     have hdg : 1 ≤ rk ns ∧ rk ns ≤ K := hI.dig k _ h6 ns (by simp)
     rcases h7 with h7 | ⟨h7, h8⟩
     ·exact Nat.le_of_lt (Oq (hI.inc _ _ _ _ h5 hw0 h7) hr.1 hdg.2)
     ·subst h7; rw [hw0] at h5; cases h5
      have := hd _ h8
      simp only at this; omega
 ·rw [if_neg hin]
  have hnew : ∀ (k : Nat) y g t, l[k]? = some (y, g, t) → y ≠ q.2 := fun k y g t hy e => hin (List.any_eq_true.2 ⟨_, List.mem_of_getElem? hy, decide_eq_true e⟩)
  have hbig : ∀ (k : Nat) u, ws[k]? = some u → code rk K u < code rk K (w0 ++ [q.1]) := by
   intro k u hu
   rw [Gn]
   obtain ⟨⟨nx, nf, ns⟩, hk⟩ := get_ex (l := l) (k := k) (by rw [← hI.len]; exact lt_get hu)
   rcases Nat.eq_zero_or_pos k with rfl | hk0
   ·rw [hI.root'] at hu; cases hu; rw [Nb]; omega
   ·obtain ⟨j', y', g', t', w, h1, h2, h3, h4, h5, h6, h7⟩ := hI.par k _ _ _ hk0 hk
    rw [h6] at hu; cases hu
    rw [Gn]
    have hdg : 1 ≤ rk ns ∧ rk ns ≤ K := hI.dig k _ h6 ns (by simp)
    rcases h7 with h7 | ⟨h7, h8⟩
    ·exact Oq (hI.inc _ _ _ _ h5 hw0 h7) hr.1 hdg.2
    ·subst h7; rw [hw0] at h5; cases h5
     have := hd _ h8
     simp only at this; omega
  refine ⟨ws ++ [w0 ++ [q.1]], ⟨by simp [hI.len], ?_, get_app_of hI.root', ?_, ?_, ?_, ?_, ?_⟩, fun _ _ h => get_app_of h, fun _ _ h => get_app_of h⟩
  ·obtain ⟨s0, hs0⟩ := hI.root; exact ⟨s0, get_app_of hs0⟩
  ·intro k y g t hk hy
   rcases get_app hy with hy | ⟨hk1, hy⟩
   ·obtain ⟨j, y', g', t', w, h1, h2, h3, h4, h5, h6, h7⟩ := hI.par k y g t hk hy
    exact ⟨j, y', g', t', w, h1, h2, get_app_of h3, h4, get_app_of h5, get_app_of h6, h7.imp id fun h => ⟨h.1, List.mem_append_left _ h.2⟩⟩
   ·cases hy
    refine ⟨i, x, f, s, w0, rfl, by rw [hk1]; exact lt_get hx, get_app_of hx, hq, get_app_of hw0, by rw [hk1, ← hI.len]; exact get_app_new, .inr ⟨rfl, by simp⟩⟩
  ·intro a b y g t g' t' ha hb
   rcases get_app ha with ha | ⟨ha1, ha⟩ <;> rcases get_app hb with hb | ⟨hb1, hb⟩
   ·exact hI.nodup a b y g t g' t' ha hb
   ·cases hb; exact absurd rfl (hnew _ _ _ _ ha)
   ·cases ha; exact absurd rfl (hnew _ _ _ _ hb)
   ·omega
  ·intro a b u w ha hb hab
   rcases get_app ha with ha | ⟨ha1, ha⟩ <;> rcases get_app hb with hb | ⟨hb1, hb⟩
   ·exact hI.inc a b u w ha hb hab
   ·rw [hb]; exact hbig _ _ ha
   ·have := lt_get hb; omega
   ·omega
  ·intro k w hw
   rcases get_app hw with hw | ⟨hw1, hw⟩
   ·exact hI.dig k w hw
   ·rw [hw]; exact (hI.dig _ _ hw0).snoc hr
  ·intro j y g t w hy hw r hr'
   rcases get_app hy with hy1 | ⟨hy1, hy2⟩
   ·have hw1 : ws[j]? = some w := by
     rcases get_app hw with h | ⟨h, _⟩
     ·exact h
     ·have := lt_get hy1; rw [← hI.len] at this; omega
    by_cases hold : (j < i ∧ r ∈ nxt y) ∨ (j = i ∧ r ∈ done)
    ·obtain ⟨k, f', s', w', h1, h2, h3⟩ := hI.closed j y g t w hy1 hw1 r hold
     exact ⟨k, f', s', w', get_app_of h1, get_app_of h2, h3⟩
    ·have hjr : j = i ∧ r = q := by
      rcases hr' with h | ⟨h1, h2⟩
      ·exact absurd (.inl h) hold
      ·rcases List.mem_append.1 h2 with h3 | h3
       ·exact absurd (.inr ⟨h1, h3⟩) hold
       ·exact ⟨h1, List.mem_singleton.1 h3⟩
     obtain ⟨rfl, rfl⟩ := hjr
     rw [hw0] at hw1; cases hw1
     exact ⟨l.length, _, _, _, get_app_new, by rw [← hI.len]; exact get_app_new, Nat.le_refl _⟩
   ·have := lt_get hx
    rcases hr' with h | h <;> omega
theorem N4 [DecidableEq α] {nxt : α → List (σ × α)} {rk : σ → Nat} {K : Nat} {root : α} {i most : Nat} {x : α} {f : Int} {s : σ} (hP : (nxt x).Pairwise fun a b => rk a.1 < rk b.1) (hD : ∀ q, q ∈ nxt x → 1 ≤ rk q.1 ∧ rk q.1 ≤ K) :
  ∀ (qs done : List (σ × α)) (l l' : List (Nd α σ)) (ws : List (List σ)), done ++ qs = nxt x → Inv nxt rk K root i done l ws → l[i]? = some (x, f, s) → inner most i qs l = some l' →
   ∃ ws', Inv nxt rk K root i (nxt x) l' ws' ∧ (∀ (k : Nat) w, ws[k]? = some w → ws'[k]? = some w) ∧ (∀ (k : Nat) n, l[k]? = some n → l'[k]? = some n)
 | [], done, l, l', ws, he, hI, hx, h => by
  cases h; rw [List.append_nil] at he; subst he; exact ⟨ws, hI, fun _ _ h => h, fun _ _ h => h⟩
 | q :: qs, done, l, l', ws, he, hI, hx, h => by
  have hqm : q ∈ nxt x := by rw [← he]; simp
  have hlt : ∀ r, r ∈ done → rk r.1 < rk q.1 := fun r hr => by
   rw [← he] at hP
   exact (List.pairwise_append.1 hP).2.2 r hr q (by simp)
  obtain ⟨ws1, h1, h2, h3⟩ := TX hI hx hqm hlt (hD q hqm)
  simp only [inner] at h
  split at h
  ·cases h
  ·obtain ⟨ws2, g1, g2, g3⟩ := N4 hP hD qs (done ++ [q]) _ l' ws1 (by rw [List.append_assoc]; exact he) h1 (h3 _ _ hx) h
   exact ⟨ws2, g1, fun k w hw => g2 k w (h2 k w hw), fun k n hn => g3 k n (h3 k n hn)⟩
theorem TD {nxt : α → List (σ × α)} {rk : σ → Nat} {K : Nat} {root : α} {i : Nat} {x : α} {f : Int} {s : σ} {l : List (Nd α σ)} {ws : List (List σ)} (h : Inv nxt rk K root i (nxt x) l ws) (hx : l[i]? = some (x, f, s)) : Inv nxt rk K root (i + 1) [] l ws := by
 refine ⟨h.len, h.root, h.root', ?_, h.nodup, h.inc, h.dig, ?_⟩
 ·intro k y g t hk hy
  obtain ⟨j, y', g', t', w, h1, h2, h3, h4, h5, h6, h7⟩ := h.par k y g t hk hy
  exact ⟨j, y', g', t', w, h1, h2, h3, h4, h5, h6, .inl (by rcases h7 with h7 | h7 <;> omega)⟩
 ·intro j y g t w hy hw r hr
  rcases hr with ⟨h1, h2⟩ | ⟨_, h2⟩
  ·refine h.closed j y g t w hy hw r ?_
   by_cases hj : j < i
   ·exact .inl ⟨hj, h2⟩
   ·have : j = i := by omega
    subst this; rw [hx] at hy; cases hy; exact .inr ⟨rfl, h2⟩
  ·cases h2
theorem inv_go [DecidableEq α] {nxt : α → List (σ × α)} {rk : σ → Nat} {K : Nat} {root : α} {most : Nat} (P : α → Prop) (hP : ∀ x, P x → (nxt x).Pairwise fun a b => rk a.1 < rk b.1) (hD : ∀ x, P x → ∀ q, q ∈ nxt x → (1 ≤ rk q.1 ∧ rk q.1 ≤ K) ∧ P q.2) (hroot : P root) :
  ∀ (n i : Nat) (l l' : List (Nd α σ)) (ws : List (List σ)), i ≤ l.length → Inv nxt rk K root i [] l ws → (∀ (k : Nat) x f s, l[k]? = some (x, f, s) → P x) → go nxt most n i l = some l' → ∃ ws', Inv nxt rk K root l'.length [] l' ws' ∧ (∀ (k : Nat) x f s, l'[k]? = some (x, f, s) → P x)
 | 0, i, l, l', ws, _, _, _, h => by cases h
 | n + 1, i, l, l', ws, hi, hI, hA, h => by
  simp only [go] at h
  split at h
  ·rename_i hn
   cases h
   have : i = l.length := by
    have := List.getElem?_eq_none_iff.1 hn; omega
   subst this
   exact ⟨ws, hI, hA⟩
  ·rename_i nd hn
   obtain ⟨x, f, s⟩ := nd
   cases hin : inner most i (nxt x) l with
   | none => rw [hin] at h; cases h
   | some l1 =>
    rw [hin] at h
    have hx := hA _ _ _ _ hn
    obtain ⟨ws1, h1, h2, h3⟩ := N4 (hP x hx) (fun q hq => (hD x hx q hq).1) (nxt x) [] l l1 ws rfl hI hn hin
    have hA1 : ∀ (k : Nat) y g t, l1[k]? = some (y, g, t) → P y := fun k y g t hy => by
     rcases Nat.eq_zero_or_pos k with rfl | hk
     ·obtain ⟨s0, hs0⟩ := h1.root; rw [hs0] at hy; cases hy; exact hroot
     ·obtain ⟨j, y', g', t', w, e1, e2, e3, e4, e5, e6, e7⟩ := h1.par k y g t hk hy
      have hj : P y' := by
       have hjl : j < l.length := by rcases e7 with h | h <;> have := lt_get hn <;> omega
       obtain ⟨⟨z, zf, zs⟩, hz⟩ := get_ex hjl
       have := h3 _ _ hz
       rw [e3] at this; cases this
       exact hA _ _ _ _ hz
      exact (hD y' hj _ e4).2
    exact inv_go P hP hD hroot n (i + 1) l1 l' ws1 (by have := lt_get (h3 _ _ hn); omega) (TD h1 (h3 _ _ hn)) hA1 h
theorem inv_start {nxt : α → List (σ × α)} {rk : σ → Nat} {K : Nat} {root : α} {s : σ} : Inv nxt rk K root 0 [] [(root, -1, s)] [[]] := by
 refine ⟨rfl, ⟨s, rfl⟩, rfl, ?_, ?_, ?_, ?_, ?_⟩
 ·intro k x f s hk h; rw [List.getElem?_eq_none (by simp; omega)] at h; cases h
 ·intro a b x f s g t ha hb; have := lt_get ha; have := lt_get hb; simp at *; omega
 ·intro a b u w ha hb hab; have := lt_get hb; simp at this; omega
 ·intro k w hw
  have := lt_get hw; simp at this; subst this; simp at hw; subst hw
  intro s hs; cases hs
 ·intro j x f s w _ _ q h
  rcases h with h | h
  ·omega
  ·cases h.2
def run (nxt : α → List (σ × α)) (x : α) : List σ → α → Prop
 | [], y => y = x
 | s :: w, y => ∃ z, (s, z) ∈ nxt x ∧ run nxt z w y
theorem Fb {nxt : α → List (σ × α)} : ∀ {u w : List σ} {x y : α}, run nxt x (u ++ w) y ↔ ∃ z, run nxt x u z ∧ run nxt z w y
 | [], w, x, y => by simp [run]
 | s :: u, w, x, y => by
  simp only [List.cons_append, run]
  constructor
  ·rintro ⟨z, h1, h2⟩
   obtain ⟨z', h3, h4⟩ := Fb.1 h2
   exact ⟨z', ⟨z, h1, h3⟩, h4⟩
  ·rintro ⟨z', ⟨z, h1, h3⟩, h4⟩
   exact ⟨z, h1, Fb.2 ⟨z', h3, h4⟩⟩
theorem way_run {nxt : α → List (σ × α)} {rk : σ → Nat} {K : Nat} {root : α} {i : Nat} {l : List (Nd α σ)} {ws : List (List σ)} (h : Inv nxt rk K root i [] l ws) : ∀ (n k : Nat) {x : α} {f : Int} {s : σ} {w : List σ}, k < n → l[k]? = some (x, f, s) → ws[k]? = some w → run nxt root w x
 | 0, k, _, _, _, _, hk, _, _ => by omega
 | n + 1, k, x, f, s, w, hk, hx, hw => by
  rcases Nat.eq_zero_or_pos k with rfl | hk0
  ·obtain ⟨s0, hs0⟩ := h.root; rw [hs0] at hx; cases hx
   rw [h.root'] at hw; cases hw; rfl
  ·obtain ⟨j, y', g', t', w', e1, e2, e3, e4, e5, e6, e7⟩ := h.par k _ _ _ hk0 hx
   rw [e6] at hw; cases hw
   exact Fb.2 ⟨y', way_run h n j (by omega) e3 e5, x, e4, rfl⟩
theorem reach_node {nxt : α → List (σ × α)} {rk : σ → Nat} {K : Nat} {root : α} {l : List (Nd α σ)} {ws : List (List σ)} (h : Inv nxt rk K root l.length [] l ws) : ∀ (n : Nat) {w : List σ} {y : α}, w.length = n → run nxt root w y → ∃ (k : Nat) (f : Int) (s : σ) (u : List σ), l[k]? = some (y, f, s) ∧ ws[k]? = some u ∧ code rk K u ≤ code rk K w
 | 0, w, y, hn, hr => by
  rw [List.length_eq_zero_iff.1 hn] at hr ⊢
  simp only [run] at hr; subst hr
  obtain ⟨s, hs⟩ := h.root
  exact ⟨0, _, _, _, hs, h.root', Nat.le_refl _⟩
 | n + 1, w, y, hn, hr => by
  rcases list_snoc w with rfl | ⟨w', s, rfl⟩
  ·simp at hn
  obtain ⟨z, h1, h2⟩ := Fb.1 hr
  simp only [run] at h2
  obtain ⟨z', h2, rfl⟩ := h2
  simp only [List.length_append, List.length_singleton] at hn
  obtain ⟨k, f, t, u, g1, g2, g3⟩ := reach_node h n (by omega) h1
  obtain ⟨k', f', s', u', e1, e2, e3⟩ := h.closed k z f t u g1 g2 (s, y) (.inl ⟨lt_get g1, h2⟩)
  refine ⟨k', f', s', u', e1, e2, Nat.le_trans e3 ?_⟩
  rw [Gn, Gn]
  exact Ul g3
theorem M3 [DecidableEq α] {most more i : Nat} (hm : most ≤ more) : ∀ (qs : List (σ × α)) (l l' : List (Nd α σ)), inner most i qs l = some l' → inner more i qs l = some l'
 | [], l, l', h => h
 | q :: qs, l, l', h => by
  simp only [inner] at h ⊢
  split at h
  ·cases h
  ·rw [if_neg (by omega)]; exact M3 hm qs _ _ h
theorem go_more [DecidableEq α] {nxt : α → List (σ × α)} {most more : Nat} (hm : most ≤ more) : ∀ (n m i : Nat) (l l' : List (Nd α σ)), n ≤ m → go nxt most n i l = some l' → go nxt more m i l = some l'
 | 0, m, i, l, l', _, h => by cases h
 | n + 1, m, i, l, l', hnm, h => by
  obtain ⟨m, rfl⟩ : ∃ k, m = k + 1 := ⟨m - 1, by omega⟩
  simp only [go] at h ⊢
  cases hl : l[i]? with
  | none => rw [hl] at h; exact h
  | some nd =>
   rw [hl] at h
   simp only at h ⊢
   cases hin : inner most i (nxt nd.1) l with
   | none => rw [hin] at h; cases h
   | some l1 =>
    rw [hin] at h
    rw [M3 hm _ _ _ hin]
    exact go_more hm n m (i + 1) l1 l' (by omega) h
theorem inner_len [DecidableEq α] {most i : Nat} : ∀ (qs : List (σ × α)) (l l' : List (Nd α σ)), l.length ≤ most → inner most i qs l = some l' → l'.length ≤ most
 | [], l, l', h0, h => by cases h; exact h0
 | q :: qs, l, l', h0, h => by
  simp only [inner] at h
  split at h
  ·cases h
  ·exact inner_len qs _ _ (by omega) h
theorem go_len [DecidableEq α] {nxt : α → List (σ × α)} {most : Nat} : ∀ (n i : Nat) (l l' : List (Nd α σ)), l.length ≤ most → go nxt most n i l = some l' → l'.length ≤ most
 | 0, i, l, l', _, h => by cases h
 | n + 1, i, l, l', h0, h => by
  simp only [go] at h
  split at h
  ·cases h; exact h0
  ·rename_i nd hn
   cases hin : inner most i (nxt nd.1) l with
   | none => rw [hin] at h; cases h
   | some l1 => rw [hin] at h; exact go_len n (i + 1) l1 l' (inner_len _ _ _ h0 hin) h
end
end Bfs
end Go.Lift

/- The region of a mix: the reference's list of nodes is the breadth-first search. -/
namespace Go.Lift
open Go
theorem P6 : ∀ {l : List Int}, V0 l = 0 → ∀ x, x ∈ l → x = 0
 | [], _, x, hx => by cases hx
 | y :: ys, h, x, hx => by
  unfold V0 at h
  split at h
  ·rename_i hy
   rcases List.mem_cons.1 hx with rfl | hx
   ·exact hy
   ·exact P6 h x hx
  ·rename_i hy; exact absurd h hy
theorem NP {a b : Af} (h : QE a b = 0) : a = b := by
 have := P6 h
 have h1 := Mt _ _ (this (Hv a.fBase b.fBase) (by simp))
 have h2 := Mt _ _ (this (Hv a.fNext b.fNext) (by simp))
 have h3 := Mt _ _ (this (Hv a.fHeld b.fHeld) (by simp))
 cases a; cases b; simp only at h1 h2 h3; subst h1; subst h2; subst h3; rfl
instance X5 : DecidableEq Af := fun a b => if h : QE a b = 0 then isTrue (NP h) else isFalse (fun e => h (by rw [e]; exact N7 b))
theorem SV (a b : Af) : (QE a b == 0) = decide (a = b) := by
 by_cases h : a = b
 ·rw [decide_eq_true h, h, N7]; rfl
 ·rw [decide_eq_false h]
  exact beq_eq_false_iff_ne.2 fun e => h (NP e)
def NV (p : Ad) (m : Af) (ss : List Ah) : List (Ah × Af) := ss.filterMap fun s => if Bv p (A2 p m s).1 = true then some (s, (A2 p m s).1) else none
def H4 (p : Ad) (m : Af) : List (Ah × Af) := NV p m (EX p m)
def KN (s : Ah) : Nat := if s.fKind = 1 then 1 + 8 * s.fIndex.toNat + s.fVersion.toNat else if s.fKind = 2 then 60 + s.fIndex.toNat else 70 + s.fIndex.toNat
theorem G8 {p : Ad} {m : Af} {s : Ah} (h : s ∈ EX p m) : s ∈ Ea p ∧ (A2 p m s).2 = 0 := by
 unfold EX at h
 have := List.mem_filter.1 h
 exact ⟨this.1, by simpa using this.2⟩
theorem Rn {p : Ad} {m : Af} {ss : List Ah} {q : Ah × Af} : q ∈ NV p m ss ↔ q.1 ∈ ss ∧ q.2 = (A2 p m q.1).1 ∧ Bv p q.2 = true := by
 unfold NV
 rw [List.mem_filterMap]
 constructor
 ·rintro ⟨s, h1, h2⟩
  split at h2
  ·rename_i h3; cases h2; exact ⟨h1, rfl, h3⟩
  ·cases h2
 ·rintro ⟨h1, h2, h3⟩
  refine ⟨q.1, h1, ?_⟩
  rw [← h2, if_pos h3]
theorem K9 {p : Ad} {m : Af} {q : Ah × Af} : q ∈ H4 p m ↔ q.1 ∈ EX p m ∧ q.2 = (A2 p m q.1).1 ∧ Bv p q.2 = true := Rn
theorem QX {p : Ad} {m : Af} (hp : Bf p) (hm : BM p m) {q : Ah × Af} (h : q ∈ H4 p m) : BM p q.2 ∧ Bv p q.2 = true := by
 obtain ⟨h1, h2, h3⟩ := K9.1 h
 exact ⟨by rw [h2]; exact II hp hm (G8 h1).2, h3⟩
theorem MY {p : Ad} (hp : Bf p) {s : Ah} (h : s ∈ Ea p) : s.fKind ≤ 3 ∧ 1 ≤ KN s ∧ KN s ≤ 100 := by
 obtain ⟨h1, h2⟩ := LS hp h
 obtain ⟨a1, a2, a3, a4, a5⟩ := GV h1
 obtain ⟨b1, b2, b3⟩ := HB h2
 have hnv := hp.nv
 have hnt := hp.nt
 have hk : s.fKind ≤ 3 := by
  unfold Ea at h
  rcases List.mem_append.1 h with h | h
  ·rcases List.mem_append.1 h with h | h
   ·obtain ⟨j, x, hx, hk⟩ := Gl.1 h
    unfold H3 at hk
    obtain ⟨v, hv, rfl⟩ := List.mem_map.1 hk
    exact (by decide : (1 : Int) ≤ 3)
   ·obtain ⟨v, hv, rfl⟩ := List.mem_map.1 h
    exact (by decide : (2 : Int) ≤ 3)
  ·obtain ⟨v, hv, rfl⟩ := List.mem_map.1 h
   exact (by decide : (3 : Int) ≤ 3)
 refine ⟨hk, ?_⟩
 unfold KN
 by_cases h1 : s.fKind = 1
 ·rw [if_pos h1]
  have := b2 (by omega)
  have h3 := b3 h1
  have h4 := (Hf hp (i := s.fIndex.toNat) (by omega)).2
  omega
 ·rw [if_neg h1]
  by_cases h2 : s.fKind = 2
  ·rw [if_pos h2]
   have := b2 (by omega)
   omega
  ·rw [if_neg h2]
   have := b1 (by omega)
   omega
theorem UG (i : Nat) (n : Int) : (H3 i n).Pairwise fun a b => KN a < KN b := by
 unfold H3
 rw [List.pairwise_map]
 refine List.Pairwise.imp ?_ List.pairwise_lt_range
 intro a b h
 simp [KN]; omega
theorem Uu {p : Ad} (hp : Bf p) : (Ea p).Pairwise fun a b => KN a < KN b := by
 have hnv := hp.nv
 have hnt := hp.nt
 have e1 : ∀ (xs : List Int) (i : Nat), (∀ x, x ∈ xs → x ≤ 6) → (CH H3 i xs).Pairwise fun a b => KN a < KN b := by
  intro xs
  induction xs with
  | nil => intro i _; exact List.Pairwise.nil
  | cons x xs ih =>
   intro i hx
   rw [CH, List.pairwise_append]
   refine ⟨UG i x, ih (i + 1) fun y hy => hx y (List.mem_cons_of_mem _ hy), ?_⟩
   intro a ha b hb
   unfold H3 at ha
   obtain ⟨v, hv, rfl⟩ := List.mem_map.1 ha
   obtain ⟨j, y, hy, hb⟩ := Gl.1 hb
   unfold H3 at hb
   obtain ⟨w, hw, rfl⟩ := List.mem_map.1 hb
   have := hx x (by simp)
   have := List.mem_range.1 hv
   simp [KN]; omega
 unfold Ea
 rw [List.pairwise_append, List.pairwise_append]
 refine ⟨⟨e1 _ 0 fun x hx => (hp.ver x hx).2, ?_, ?_⟩, ?_, ?_⟩
 ·rw [List.pairwise_map]
  refine List.Pairwise.imp ?_ List.pairwise_lt_range
  intro a b h
  simp [KN]; omega
 ·intro a ha b hb
  obtain ⟨w, hw, rfl⟩ := List.mem_map.1 hb
  obtain ⟨j, y, hy, ha⟩ := Gl.1 ha
  unfold H3 at ha
  obtain ⟨v, hv, rfl⟩ := List.mem_map.1 ha
  have := List.mem_range.1 hv
  have := (hp.ver y (List.mem_of_getElem? hy)).2
  have := (List.getElem?_eq_some_iff.1 hy).1
  simp [KN]; omega
 ·rw [List.pairwise_map]
  refine List.Pairwise.imp ?_ List.pairwise_lt_range
  intro a b h
  simp [KN]; omega
 ·intro a ha b hb
  obtain ⟨w, hw, rfl⟩ := List.mem_map.1 hb
  have hw := List.mem_range.1 hw
  rcases List.mem_append.1 ha with ha | ha
  ·obtain ⟨j, y, hy, ha⟩ := Gl.1 ha
   unfold H3 at ha
   obtain ⟨v, hv, rfl⟩ := List.mem_map.1 ha
   have := List.mem_range.1 hv
   have := (hp.ver y (List.mem_of_getElem? hy)).2
   have := (List.getElem?_eq_some_iff.1 hy).1
   simp [KN]; omega
  ·obtain ⟨v, hv, rfl⟩ := List.mem_map.1 ha
   have := List.mem_range.1 hv
   simp [KN]; omega
theorem Vn {p : Ad} {m : Af} {ss : List Ah} (h : ss.Pairwise fun a b => KN a < KN b) : (NV p m ss).Pairwise fun a b => KN a.1 < KN b.1 := by
 unfold NV
 rw [List.pairwise_filterMap]
 refine List.Pairwise.imp ?_ h
 intro a b hab x hx y hy
 split at hx
 ·cases hx
  split at hy
  ·cases hy; exact hab
  ·cases hy
 ·cases hx
theorem VX {p : Ad} (hp : Bf p) (m : Af) : (H4 p m).Pairwise fun a b => KN a.1 < KN b.1 := Vn ((Uu hp).filter _)
theorem UU {p : Ad} {s : Ah} (hv : Fx s = true) (hx : EY p s = true) (hk : s.fKind ≠ 4) : s ∈ Ea p := by
 obtain ⟨a1, a2, a3, a4, a5⟩ := GV hv
 obtain ⟨b1, b2, b3⟩ := HB hx
 obtain ⟨k, i, v⟩ := s
 simp only at *
 unfold Ea
 obtain ⟨i, rfl⟩ := Int.eq_ofNat_of_zero_le a3
 by_cases h1 : k = 1
 ·subst h1
  have h2 := b2 (by decide)
  have h3 := b3 rfl
  obtain ⟨v, rfl⟩ := Int.eq_ofNat_of_zero_le a4
  refine List.mem_append_left _ (List.mem_append_left _ (Gl.2 ⟨i, p.fVersions.getD i 0, ?_, ?_⟩))
  ·rw [List.getD_eq_getElem?_getD]
   have hi : i < p.fVersions.length := by omega
   simp [hi]
  ·unfold H3
   refine List.mem_map.2 ⟨v, List.mem_range.2 ?_, by simp⟩
   simp only [Int.toNat_natCast] at h3
   omega
 ·have hv0 := a5 h1
  subst hv0
  by_cases h2 : k = 2
  ·subst h2
   have := b2 (by decide)
   exact List.mem_append_left _ (List.mem_append_right _ (List.mem_map.2 ⟨i, List.mem_range.2 (by omega), rfl⟩))
  ·have h3 : k = 3 := by omega
   subst h3
   have := b1 rfl
   exact List.mem_append_right _ (List.mem_map.2 ⟨i, List.mem_range.2 (by omega), rfl⟩)
theorem Oh {p : Ad} {m x : Af} {s : Ah} : Kq p m s = some x → (s, x) ∈ H4 p m := by
 intro h
 obtain ⟨h1, h2, h3, h4, h5⟩ := Sa.1 h
 unfold Kq at h
 split at h
 ·rename_i h6
  cases h
  refine K9.2 ⟨?_, rfl, h6.2.2⟩
  unfold EX
  exact List.mem_filter.2 ⟨UU h1 h2 h4, by simpa using h6.1⟩
 ·cases h
theorem Sg {p : Ad} (hp : Bf p) {m x : Af} {s : Ah} (h : (s, x) ∈ H4 p m) : Kq p m s = some x := by
 obtain ⟨h1, h2, h3⟩ := K9.1 h
 have h1 : s ∈ EX p m := h1
 obtain ⟨h4, h5⟩ := G8 h1
 have := (MY hp h4).1
 have h2 : x = (A2 p m s).1 := h2
 have h3 : Bv p x = true := h3
 unfold Kq
 rw [if_pos ⟨h5, by omega, by rw [← h2]; exact h3⟩, h2]
theorem KY {p : Ad} (hp : Bf p) : ∀ {w : List Ah} {m x : Af}, LF p m w = some x ↔ Bfs.run (H4 p) m w x
 | [], m, x => by simp only [LF, Bfs.run, Option.some.injEq]; exact eq_comm
 | s :: w, m, x => by
  simp only [LF, Bfs.run]
  constructor
  ·intro h
   cases hs : Kq p m s with
   | none => rw [hs] at h; cases h
   | some z => rw [hs] at h; exact ⟨z, Oh hs, (KY hp).1 h⟩
  ·rintro ⟨z, h1, h2⟩
   rw [Sg hp h1]
   exact (KY hp).2 h2
abbrev If := Bfs.Nd Af Ah
def Hw (n : If) : AC := ⟨n.1, n.2.1, n.2.2⟩
def Mf : Ah := ⟨0, 0, 0⟩
theorem SC {N : Nat} {p : Ad} {a b : Af} (hN : N ≤ 1000000) (h20 : 100 ≤ N) (hp : Bf p) (ha : BM p a) (hb : BM p b) : D3 N a b = some (decide (a = b)) := by
 have hnv := hp.nv
 have hnt := hp.nt
 unfold D3
 rw [PU hN (by rw [ha.base]; omega) (by rw [ha.next]; omega) (by rw [ha.held]; omega) (by rw [hb.held]; omega) (Ij ha) (Ij hb)]
 simp only [Option.bind_some]
 rw [SV]
theorem P5 {N : Nat} (hN : N ≤ 1000000) (h20 : 100 ≤ N) {p : Ad} (hp : Bf p) {x : Af} (hx : BM p x) {l : List If} (hl : l.length < N) (hA : ∀ n, n ∈ l → BM p n.1) :
  ∃ r, DG N (l.map Hw) x = some r ∧ decide (r < 0) = !(l.any fun n => decide (n.1 = x)) := by
 unfold DG
 have := Cm (Ch N (l.map Hw) x fun _ => some (-1)) l (some (-1)) (fun i n => if n.1 = x then some (i : Int) else none)
  (fun n i nd hnd => by
   have hi := (List.getElem?_eq_some_iff.1 hnd).1
   rw [Ch, AL (by rw [List.length_map]; omega), A3, List.getElem?_map, hnd]
   simp only [Option.map_some, Option.bind_some, Hw]
   have e := SC hN h20 hp (hA nd (List.mem_of_getElem? hnd)) hx
   rw [show (Af.mk nd.1.fBase nd.1.fNext nd.1.fHeld) = nd.1 from rfl, e, AM (by omega)]
   simp only [Option.bind_some]
   by_cases h : nd.1 = x
   ·rw [decide_eq_true h, if_pos h]; rfl
   ·rw [decide_eq_false h, if_neg h]; rfl)
  (fun n => by rw [Ch, AH (by simp)]) N 0 (Nat.zero_le _) (by omega)
 have e' : Ch N (l.map Hw) x (fun _ => some (-1)) N 0 = _ := this
 rw [e', List.drop_zero]
 cases hs : Da (fun i (n : If) => if n.1 = x then some (i : Int) else none) 0 l with
 | none =>
  refine ⟨_, rfl, ?_⟩
  have : (l.any fun n => decide (n.1 = x)) = false := by
   rw [List.any_eq_false]
   intro n hn
   obtain ⟨j, hj⟩ := List.mem_iff_getElem?.1 hn
   have := Er hs j n hj
   split at this
   ·cases this
   ·rename_i h; simpa using h
  rw [this]; rfl
 | some r =>
  refine ⟨_, rfl, ?_⟩
  obtain ⟨j, n, hj, hr⟩ := D0 hs
  split at hr
  ·rename_i h
   cases hr
   have : (l.any fun n => decide (n.1 = x)) = true := List.any_eq_true.2 ⟨n, List.mem_of_getElem? hj, decide_eq_true h⟩
   rw [this]
   exact decide_eq_false (by omega)
  ·cases hr
theorem PQ {i : Nat} {l : List If} {q : Ah × Af} {k : Nat} {n : If} (h : l[k]? = some n) : (Bfs.put i l q)[k]? = some n := by
 unfold Bfs.put
 split
 ·exact h
 ·exact Bfs.get_app_of h
theorem RG {i : Nat} {l : List If} {q : Ah × Af} {n : If} (h : n ∈ Bfs.put i l q) : n ∈ l ∨ n.1 = q.2 := by
 unfold Bfs.put at h
 split at h
 ·exact .inl h
 ·rcases List.mem_append.1 h with h | h
  ·exact .inl h
  ·rw [List.mem_singleton.1 h]; exact .inr rfl
theorem Qq {p : Ad} {m : Af} {s : Ah} {ss : List Ah} : NV p m (s :: ss) = if Bv p (A2 p m s).1 = true then (s, (A2 p m s).1) :: NV p m ss else NV p m ss := by
 unfold NV
 rw [List.filterMap_cons]
 split <;> rename_i h
 ·split at h
  ·cases h
  ·rename_i h2; rw [if_neg h2]
 ·split at h
  ·rename_i h2; cases h; rw [if_pos h2]
  ·cases h
theorem IT {p : Ad} {most i : Nat} : ∀ {qs : List (Ah × Af)} {l l' : List If}, Bfs.inner most i qs l = some l' → (∀ q, q ∈ qs → BM p q.2 ∧ Bv p q.2 = true) → (∀ n, n ∈ l → BM p n.1 ∧ Bv p n.1 = true) → (∀ n, n ∈ l' → BM p n.1 ∧ Bv p n.1 = true) ∧ (∀ (k : Nat) n, l[k]? = some n → l'[k]? = some n)
 | [], l, l', h, _, hA => by cases h; exact ⟨hA, fun _ _ h => h⟩
 | q :: qs, l, l', h, hq, hA => by
  simp only [Bfs.inner] at h
  split at h
  ·cases h
  ·obtain ⟨h1, h2⟩ := IT h (fun q hq' => hq q (List.mem_cons_of_mem _ hq')) (fun n hn => by
    rcases RG hn with h | h
    ·exact hA n h
    ·rw [h]; exact hq q (by simp))
   exact ⟨h1, fun k n hn => h2 k n (PQ hn)⟩
theorem O4 (N : Nat) (hN : N ≤ 1000000) (h20 : 100 ≤ N) {p : Ad} {m : Af} (hp : Bf p) (hm : BM p m) {s : Ah} (hs : s ∈ EX p m) : ∃ b, Cw N p m s = some ((A2 p m s).1, b) := by
 obtain ⟨h1, h2⟩ := G8 hs
 obtain ⟨h3, h4⟩ := LS hp h1
 rw [K0 N hN h20 hp hm h3 h4]
 unfold A2 at h2 ⊢
 rw [h3, h4, if_neg (by simp), if_neg (by simp)] at h2 ⊢
 cases h : E4 p m s with
 | none => rw [h] at h2; cases h2
 | some x => exact ⟨true, rfl⟩
theorem IR {N : Nat} (hN : N ≤ 1000000) (h20 : 100 ≤ N) {p : Ad} (hp : Bf p) {m : Af} (hm : BM p m) {f : Int} {t : Ah} {most i : Nat} (hmo : most ≤ 20000) {v1 : List AC × Int} (hv1 : v1.2 = (i : Int)) (ss : List Ah) (hss : ∀ s, s ∈ ss → s ∈ EX p m) (hsl : ss.length ≤ 1000) (j : List AC → Option (List AC × Bool)) :
  ∀ (n k : Nat) (l : List If), k ≤ ss.length → ss.length - k < n → l[i]? = some (m, f, t) → (∀ n, n ∈ l → BM p n.1 ∧ Bv p n.1 = true) → l.length ≤ most → (l.length < N ∧ most < N ∨ ∃ l', Bfs.inner most i (NV p m (ss.drop k)) l = some l' ∧ l'.length < N) →
   BL N p (most : Int) v1 ss j n (l.map Hw, (k : Int)) = match Bfs.inner most i (NV p m (ss.drop k)) l with
    | none => some ([], false)
    | some l' => j (l'.map Hw)
 | 0, k, l, _, h, _, _, _, _ => by omega
 | n + 1, k, l, hk, h, hi, hA, hlm, hfu => by
  by_cases h1 : k < ss.length
  ·have hs : ss[k]? = some ss[k] := by simp [h1]
   have hsm := hss _ (List.mem_of_getElem? hs)
   have hl1 : l.length < N := by
    rcases hfu with h | ⟨l', h, h2⟩
    ·exact h.1
    ·have hk := (IT (p := p) h (fun q hq => by
      obtain ⟨g1, g2, g3⟩ := Rn.1 hq
      exact ⟨by rw [g2]; exact II hp hm (G8 (hss _ (List.mem_of_mem_drop g1))).2, g3⟩) hA).2
     by_cases h0 : l.length = 0
     ·omega
     ·have := hk (l.length - 1) l[l.length - 1] (by simp)
      have := (List.getElem?_eq_some_iff.1 this).1
      omega
   rw [BL, AL (by simp only; omega)]
   simp only [Bb, hv1, A3, List.getElem?_map, hi, hs, Option.map_some, Option.bind_some, Hw]
   obtain ⟨b, ea⟩ := O4 N hN h20 hp hm hsm
   rw [show (Af.mk m.fBase m.fNext m.fHeld) = m from rfl, ea]
   simp only [Option.bind_some]
   have hxo := II hp hm (G8 hsm).2
   rw [GY N p _ hN h20 hp hxo]
   simp only [Option.bind_some]
   rw [Gp hs, Qq] at hfu ⊢
   cases hr : Bv p (A2 p m ss[k]).1
   ·rw [hr] at hfu
    rw [Av, Av, if_neg (by simp), AH (by rw [List.length_map]; omega), AM (by omega)]
    rw [if_neg (by simp)] at hfu
    exact IR hN h20 hp hm hmo hv1 ss hss hsl j n (k + 1) l (by omega) (by omega) hi hA hlm hfu
   ·rw [hr] at hfu
    rw [AN, if_pos rfl]
    rw [if_pos rfl] at hfu
    obtain ⟨r, er, hr2⟩ := P5 hN h20 hp hxo hl1 (fun n hn => (hA n hn).1)
    have er' : DG N (l.map fun n => AC.mk n.1 n.2.1 n.2.2) (A2 p m ss[k]).1 = some r := er
    have em : (l.map fun n : If => AC.mk n.1 n.2.1 n.2.2) = l.map Hw := rfl
    rw [← em, er']
    simp only [Option.bind_some]
    rw [hr2]
    have hput : Bfs.put i l (ss[k], (A2 p m ss[k]).1) = if (l.any fun n => decide (n.1 = (A2 p m ss[k]).1)) = true then l else l ++ [((A2 p m ss[k]).1, (i : Int), ss[k])] := rfl
    simp only [Bfs.inner] at hfu ⊢
    have hA2 : ∀ n, n ∈ Bfs.put i l (ss[k], (A2 p m ss[k]).1) → BM p n.1 ∧ Bv p n.1 = true := fun n hn => by
     rcases RG hn with h | h
     ·exact hA n h
     ·rw [h]; exact ⟨hxo, hr⟩
    have hi2 : (Bfs.put i l (ss[k], (A2 p m ss[k]).1))[i]? = some (m, f, t) := PQ hi
    have main : (A0 (decide ((most : Int) < (((Bfs.put i l (ss[k], (A2 p m ss[k]).1)).map Hw).length : Int))) (some (([] : List AC), false)) (BL N p (most : Int) v1 ss j n ((Bfs.put i l (ss[k], (A2 p m ss[k]).1)).map Hw, (IntKind.wrap .i64 ((k : Int) + 1))))) =
      match (if most < (Bfs.put i l (ss[k], (A2 p m ss[k]).1)).length then none else Bfs.inner most i (NV p m (ss.drop (k + 1))) (Bfs.put i l (ss[k], (A2 p m ss[k]).1))) with
      | none => some ([], false)
      | some l' => j (l'.map Hw) := by
     by_cases hb : most < (Bfs.put i l (ss[k], (A2 p m ss[k]).1)).length
     ·rw [if_pos hb, AL (by rw [List.length_map]; omega)]
     ·rw [if_neg hb] at hfu
      rw [if_neg hb, AH (by rw [List.length_map]; omega), AM (by omega)]
      exact IR hN h20 hp hm hmo hv1 ss hss hsl j n (k + 1) _ (by omega) (by omega) hi2 hA2 (by omega) (hfu.imp (fun h => ⟨by omega, h.2⟩) id)
    cases hin : (l.any fun n => decide (n.1 = (A2 p m ss[k]).1))
    ·rw [hin] at hput
     rw [Bool.not_false, AN, Az (by simp [Dz]; omega)]
     rw [if_neg (by simp)] at hput
     rw [hput, List.map_append] at main
     rw [hput]
     exact main
    ·rw [hin] at hput
     rw [Bool.not_true, Av]
     rw [if_pos rfl] at hput
     rw [hput] at main
     rw [hput]
     exact main
  ·have : k = ss.length := by omega
   subst this
   rw [BL, AH (by simp), List.drop_eq_nil_of_le (Nat.le_refl _)]
   rfl
end Go.Lift

/- The region of a mix: the reference's whole list. -/
namespace Go.Lift
open Go
theorem RC {p : Ad} {m : Af} (hm : BM p m) (hr : Bv p m = true) : ∀ n, n ∈ ([(m, -1, Mf)] : List If) → BM p n.1 ∧ Bv p n.1 = true := fun n hn => by
 rw [List.mem_singleton.1 hn]; exact ⟨hm, hr⟩
theorem N0 {p : Ad} (hp : Bf p) (m : Af) : (EX p m).length ≤ 54 := Nat.le_trans (List.length_filter_le _ _) (Rr hp)
theorem Ju {N : Nat} (hN : N ≤ 1000000) (h20 : 100 ≤ N) {p : Ad} (hv : BQ p = 0) {most : Nat} (hmo : most ≤ 20000) (j : List AC → Option (List AC × Bool)) :
  ∀ (n i : Nat) (l : List If), i ≤ l.length → (∀ n, n ∈ l → BM p n.1 ∧ Bv p n.1 = true) → l.length ≤ most → (most < N ∧ most < n + i ∨ ∃ l', Bfs.go (H4 p) most n i l = some l' ∧ l'.length < N) →
   BH N p (most : Int) j n (l.map Hw, (i : Int)) = match Bfs.go (H4 p) most n i l with
    | none => some ([], false)
    | some l' => j (l'.map Hw)
 | 0, i, l, hi, _, hlm, hfu => by
  rcases hfu with h | ⟨l', h, _⟩
  ·omega
  ·cases h
 | n + 1, i, l, hi, hA, hlm, hfu => by
  obtain ⟨hp, _⟩ := CK hv
  simp only [Bfs.go] at hfu ⊢
  rw [BH]
  by_cases h1 : i < l.length
  ·obtain ⟨⟨m, f, t⟩, hx⟩ := Bfs.get_ex h1
   have hm := (hA _ (List.mem_of_getElem? hx)).1
   rw [hx] at hfu ⊢
   simp only at hfu ⊢
   rw [AL (by rw [List.length_map]; omega)]
   simp only [A3, List.getElem?_map, hx, Option.map_some, Option.bind_some, Hw]
   rw [show (Af.mk m.fBase m.fNext m.fHeld) = m from rfl, Oz N hN h20 hv hm]
   simp only [Option.bind_some]
   have hgo : NV p m ((EX p m).drop 0) = H4 p m := rfl
   have hsl := N0 hp m
   have e := IR hN h20 hp hm hmo (v1 := (l.map Hw, (i : Int))) rfl (EX p m) (fun s hs => hs) (by omega) (fun (v7 : (List AC)) =>
    BH N p (most : Int) j n (v7, (IntKind.wrap .i64 ((i : Int) + 1)))) N 0 l (Nat.zero_le _) (by omega) hx hA hlm (by
     rcases hfu with ⟨g1, g2⟩ | ⟨l', h, hl'⟩
     ·exact .inl ⟨by omega, g1⟩
     ·right
      rw [hgo]
      cases hin : Bfs.inner most i (H4 p m) l with
      | none => rw [hin] at h; cases h
      | some l1 =>
       rw [hin] at h
       refine ⟨l1, rfl, ?_⟩
       have : l1.length ≤ l'.length := by
        have : ∀ (n i : Nat) (l l' : List If), Bfs.go (H4 p) most n i l = some l' → l.length ≤ l'.length := by
         intro n
         induction n with
         | zero => intro i l l' h; cases h
         | succ n ih =>
          intro i l l' h
          simp only [Bfs.go] at h
          split at h
          ·cases h; exact Nat.le_refl _
          ·rename_i nd _
           cases hin : Bfs.inner most i (H4 p nd.1) l with
           | none => rw [hin] at h; cases h
           | some l1 =>
            rw [hin] at h
            refine Nat.le_trans ?_ (ih _ _ _ h)
            have : ∀ (qs : List (Ah × Af)) (l l1 : List If), Bfs.inner most i qs l = some l1 → l.length ≤ l1.length := by
             intro qs
             induction qs with
             | nil => intro l l1 h; cases h; exact Nat.le_refl _
             | cons q qs ih =>
              intro l l1 h
              simp only [Bfs.inner] at h
              split at h
              ·cases h
              ·refine Nat.le_trans ?_ (ih _ _ h)
               unfold Bfs.put; split
               ·exact Nat.le_refl _
               ·simp
            exact this _ _ _ hin
        exact this _ _ _ _ h
       omega)
   have e' : BL N p (most : Int) (l.map Hw, (i : Int)) (EX p m) (fun (v7 : (List AC)) => BH N p (most : Int) j n (v7, (IntKind.wrap .i64 ((i : Int) + 1)))) N (l.map Hw, 0) = _ := e
   rw [e', hgo]
   cases hin : Bfs.inner most i (H4 p m) l with
   | none => rfl
   | some l1 =>
    rw [hin] at hfu
    obtain ⟨k1, k2⟩ := IT hin (fun q hq => QX hp hm hq) hA
    have := (List.getElem?_eq_some_iff.1 (k2 _ _ hx)).1
    simp only [Option.bind_some] at hfu ⊢
    rw [AM (by omega)]
    exact Ju hN h20 hv hmo j n (i + 1) l1 (by omega) k1 (Bfs.inner_len _ _ _ hlm hin) (hfu.imp (fun h => ⟨h.1, by omega⟩) id)
  ·have hi' : i = l.length := by omega
   subst hi'
   rw [List.getElem?_eq_none (Nat.le_refl _)]
   rw [AH (by simp)]
def HX (p : Ad) (m : Af) (most n : Nat) : Option (List If) := Bfs.go (H4 p) most n 0 [(m, -1, Mf)]
theorem K1 {N : Nat} (hN : N ≤ 1000000) (h20 : 100 ≤ N) {p : Ad} (hv : BQ p = 0) {m : Af} (hm : BM p m) (hr : Bv p m = true) {most : Nat} (hmo : most ≤ 20000) (h1 : 1 ≤ most) (hfu : most < N ∨ ∃ l', HX p m most N = some l' ∧ l'.length < N) :
  Cv N p m (most : Int) = some (match HX p m most N with
   | none => ([], false)
   | some l' => (l'.map Hw, true)) := by
 unfold Cv
 have e := Ju hN h20 hv hmo (fun (v2 : (List AC)) => some (v2, true)) N 0 [(m, -1, Mf)] (Nat.zero_le _) (RC hm hr) h1 (hfu.imp (fun h => ⟨h, by omega⟩) id)
 have e' : BH N p (most : Int) (fun (v2 : (List AC)) => some (v2, true)) N (([(AC.mk m ((-1)) ((Ah.mk 0 0 0)))] : List AC), 0) = _ := e
 rw [e']
 unfold HX
 cases Bfs.go (H4 p) most N 0 [(m, -1, Mf)] <;> rfl
structure UO (p : Ad) (m : Af) (l : List If) (ws : List (List Ah)) : Prop where
 inv : Bfs.Inv (H4 p) KN 100 m l.length [] l ws
 ok : ∀ (k : Nat) x f s, l[k]? = some (x, f, s) → BM p x ∧ Bv p x = true
theorem Vp {p : Ad} (hp : Bf p) {m : Af} (hm : BM p m) (hr : Bv p m = true) {most n : Nat} {l : List If} (h : HX p m most n = some l) : ∃ ws, UO p m l ws := by
 obtain ⟨ws, h1, h2⟩ := Bfs.inv_go (rk := KN) (K := 100) (fun x => BM p x ∧ Bv p x = true) (fun x _ => VX hp x) (fun x hx q hq => by
  refine ⟨?_, QX hp hx.1 hq⟩
  exact (MY hp (G8 (K9.1 hq).1).1).2) ⟨hm, hr⟩ n 0 [(m, -1, Mf)] l [[]] (Nat.zero_le _) Bfs.inv_start (fun k x f s hk => by
   have := Bfs.lt_get hk
   simp at this; subst this
   cases hk; exact ⟨hm, hr⟩) h
 exact ⟨ws, h1, h2⟩
theorem TS {p : Ad} (hp : Bf p) {m : Af} {l : List If} {ws : List (List Ah)} (h : UO p m l ws) {k : Nat} {x : Af} {f : Int} {s : Ah} {w : List Ah} (hx : l[k]? = some (x, f, s)) (hw : ws[k]? = some w) : LF p m w = some x :=
 (KY hp).2 (Bfs.way_run h.inv (k + 1) k (Nat.lt_succ_self k) hx hw)
theorem N9 {p : Ad} (hp : Bf p) {m x : Af} {l : List If} {ws : List (List Ah)} (h : UO p m l ws) {w : List Ah} (hw : LF p m w = some x) : ∃ (k : Nat) (f : Int) (s : Ah) (u : List Ah), l[k]? = some (x, f, s) ∧ ws[k]? = some u ∧ Bfs.code KN 100 u ≤ Bfs.code KN 100 w :=
 Bfs.reach_node h.inv w.length rfl ((KY hp).1 hw)
theorem OL {p : Ad} {m : Af} {l : List If} {ws : List (List Ah)} (h : UO p m l ws) : ∀ (n k : Nat) {w : List Ah}, k < n → ws[k]? = some w → w.length ≤ k
 | 0, k, _, hk, _ => by omega
 | n + 1, k, w, hk, hw => by
  obtain ⟨⟨x, f, s⟩, hx⟩ := Bfs.get_ex (l := l) (k := k) (by rw [← h.inv.len]; exact Bfs.lt_get hw)
  rcases Nat.eq_zero_or_pos k with rfl | hk0
  ·rw [h.inv.root'] at hw; cases hw; exact Nat.le_refl _
  ·obtain ⟨j, y', g', t', w', e1, e2, e3, e4, e5, e6, e7⟩ := h.inv.par k _ _ _ hk0 hx
   rw [e6] at hw; cases hw
   have := OL h n j (by omega) e5
   simp; omega
theorem Lk {p : Ad} {m : Af} {l : List If} {ws : List (List Ah)} (h : UO p m l ws) (N : Nat) (j : List Ah → Option (List Ah)) : ∀ (n k : Nat) {w acc : List Ah}, k < n → ws[k]? = some w → acc.length + k ≤ 20000 →
  Ez N (l.map Hw) j n ((k : Int), acc) = j (w ++ acc)
 | 0, k, _, _, hk, _, _ => by omega
 | n + 1, k, w, acc, hk, hw, ha => by
  obtain ⟨⟨x, f, s⟩, hx⟩ := Bfs.get_ex (l := l) (k := k) (by rw [← h.inv.len]; exact Bfs.lt_get hw)
  rw [Ez]
  simp only [A3, List.getElem?_map, hx, Option.map_some, Option.bind_some, Hw]
  rcases Nat.eq_zero_or_pos k with rfl | hk0
  ·obtain ⟨s0, hs0⟩ := h.inv.root; rw [hs0] at hx; cases hx
   rw [h.inv.root'] at hw; cases hw
   rw [AH (by decide)]; rfl
  ·obtain ⟨i, y', g', t', w', e1, e2, e3, e4, e5, e6, e7⟩ := h.inv.par k _ _ _ hk0 hx
   rw [e6] at hw; cases hw
   subst e1
   rw [AL (Int.natCast_nonneg i), Az (by simp [Dz]; omega)]
   have := Lk h N j n i (w := w') (acc := [Ah.mk s.fKind s.fIndex s.fVersion] ++ acc) (by omega) e5 (by simp; omega)
   rw [this, List.append_assoc]
def I2 (p : Ad) (l : List If) : Option Nat := Da (fun i (n : If) => if FQ p n.1 = true then some i else none) 0 l
theorem NQ {p : Ad} {l : List If} {k : Nat} (h : I2 p l = some k) : (∃ x f s, l[k]? = some (x, f, s) ∧ FQ p x = true) ∧ ∀ j x f s, j < k → l[j]? = some (x, f, s) → FQ p x = false := by
 have : ∀ (xs : List If) (i k : Nat), Da (fun i (n : If) => if FQ p n.1 = true then some i else none) i xs = some (i + k) → (∃ x f s, xs[k]? = some (x, f, s) ∧ FQ p x = true) ∧ ∀ j x f s, j < k → xs[j]? = some (x, f, s) → FQ p x = false := by
  intro xs
  induction xs with
  | nil => intro i k h; cases h
  | cons n xs ih =>
   intro i k h
   rw [FI] at h
   cases hg : FQ p n.1
   ·rw [hg] at h
    simp only [Bool.false_eq_true, if_false] at h
    cases k with
    | zero =>
     exfalso
     obtain ⟨j, x, _, hj⟩ := D0 h
     split at hj
     ·have := Option.some.inj hj; omega
     ·cases hj
    | succ k =>
     obtain ⟨⟨x, f, s, h1, h2⟩, h3⟩ := ih (i + 1) k (by rw [show i + 1 + k = i + (k + 1) from by omega]; exact h)
     refine ⟨⟨x, f, s, by simpa using h1, h2⟩, ?_⟩
     intro j x f s hj hx
     cases j with
     | zero => simp at hx; subst hx; exact hg
     | succ j => exact h3 j x f s (by omega) (by simpa using hx)
   ·rw [hg] at h
    simp only [if_true, Option.some.injEq] at h
    have : k = 0 := by omega
    subst this
    exact ⟨⟨n.1, n.2.1, n.2.2, rfl, hg⟩, fun j _ _ _ hj => by omega⟩
 exact this l 0 k (by rw [Nat.zero_add]; exact h)
theorem RZ {p : Ad} {l : List If} (h : I2 p l = none) {k : Nat} {x : Af} {f : Int} {s : Ah} (hx : l[k]? = some (x, f, s)) : FQ p x = false := by
 have := Er h k _ hx
 split at this
 ·cases this
 ·rename_i h; simpa using h
def Lh (p : Ad) (l : List If) (ws : List (List Ah)) : List Ah × Int := match I2 p l with
 | none => ([], 14)
 | some k => (ws.getD k [], 0)
theorem Pq {N : Nat} (hN : N ≤ 1000000) (h20 : 100 ≤ N) {p : Ad} (hv : BQ p = 0) {m : Af} (hm : BM p m) (hr : Bv p m = true) {l : List If} (hs : HX p m 20000 N = some l) (hl : l.length < N) {ws : List (List Ah)} (h : UO p m l ws) :
  DH N p m = some (Lh p l ws) := by
 obtain ⟨hp, _⟩ := CK hv
 have hl2 : l.length ≤ 20000 := Bfs.go_len _ _ _ _ (by simp) hs
 unfold DH
 rw [GD N p m hN (by omega), Fw hv hm]
 simp only [Option.bind_some, bne_self_eq_false, Av]
 rw [GY N p m hN h20 hp hm, hr]
 simp only [Option.bind_some, Bool.not_true, Av]
 have e := K1 hN h20 hv hm hr (most := 20000) (by omega) (by omega) (.inr ⟨l, hs, hl⟩)
 rw [hs] at e
 have e' : Cv N p m 20000 = some (l.map Hw, true) := e
 rw [e']
 simp only [Option.bind_some, Bool.not_true, Av]
 have := Cm (CW N p (l.map Hw, true) fun _ => some (([] : List Ah), 14)) l (some ([], 14)) (fun i n => (if FQ p n.1 = true then some i else none).map fun k => (ws.getD k [], 0))
  (fun n i nd hnd => by
   have hi := (List.getElem?_eq_some_iff.1 hnd).1
   rw [CW, AL (by simp only [List.length_map]; omega)]
   simp only [A3, List.getElem?_map, hnd, Option.map_some, Option.bind_some, Hw]
   have hok := (h.ok _ _ _ _ (show l[i]? = some (nd.1, nd.2.1, nd.2.2) from hnd)).1
   rw [show (Af.mk nd.1.fBase nd.1.fNext nd.1.fHeld) = nd.1 from rfl, Mc N p nd.1 hN h20 (Ij hok), AM (by omega)]
   simp only [Option.bind_some]
   cases hg : FQ p nd.1
   ·rfl
   ·rw [AN, if_pos rfl]
    obtain ⟨w, hw⟩ := Bfs.get_ex (l := ws) (k := i) (by rw [h.inv.len]; exact hi)
    have e2 := Lk h N (fun v2 => some v2) N i (w := w) (acc := []) (by omega) hw (by simp; omega)
    unfold HU
    rw [e2, List.append_nil]
    simp only [Option.bind_some, Option.map_some, BC]
    rw [List.getD_eq_getElem?_getD, hw]; rfl)
  (fun n => by rw [CW, AH (by simp)]) N 0 (Nat.zero_le _) (by omega)
 have e3 : CW N p (l.map Hw, true) (fun _ => some (([] : List Ah), 14)) N 0 = _ := this
 rw [e3, List.drop_zero, IH]
 unfold Lh I2
 cases Da (fun i (n : If) => if FQ p n.1 = true then some i else none) 0 l <;> rfl
end Go.Lift

/- The region of a mix: the program's list of nodes is the same. -/
namespace Go.Lift
open Go
def DT (n : AD) : If := (n.fM, n.fFrom, n.fBy)
def HJ (x : Af) : List (Af × Int) → Option Int
 | [] => none
 | e :: r => if x = e.1 then some e.2 else HJ x r
def Ke (q : List (Af × Int)) : List (ByteArray × Int) := q.map fun e => (Cp (Jy e.1), e.2)
theorem TO {p : Ad} (hp : Bf p) {x y : Af} (hx : BM p x) (hy : BM p y) : (Cp (Jy x) == Cp (Jy y)) = decide (x = y) := by
 by_cases h : x = y
 ·rw [decide_eq_true h, h, OU]
 ·rw [decide_eq_false h]
  cases hb : Cp (Jy x) == Cp (Jy y)
  ·rfl
  ·exact absurd (Uc hp hx hy hb) h
theorem MF {p : Ad} (hp : Bf p) {x : Af} (hx : BM p x) : ∀ {q : List (Af × Int)}, (∀ e, e ∈ q → BM p e.1) → JE (Cp (Jy x)) (Ke q) = HJ x q
 | [], _ => rfl
 | e :: q, h => by
  have ih := MF hp hx (q := q) fun e he => h e (List.mem_cons_of_mem _ he)
  show (if (Cp (Jy x) == Cp (Jy e.1)) = true then some e.2 else JE (Cp (Jy x)) (Ke q)) = if x = e.1 then some e.2 else HJ x q
  rw [TO hp hx (h e (by simp)), ih]
  by_cases h : x = e.1
  ·rw [decide_eq_true h, if_pos rfl, if_pos h]
  ·rw [decide_eq_false h, if_neg (by simp), if_neg h]
theorem JF (x y : Af) (r : Int) : ∀ q : List (Af × Int), HJ x (q ++ [(y, r)]) = match HJ x q with
  | some v => some v
  | none => if x = y then some r else none
 | [] => rfl
 | e :: q => by
  simp only [List.cons_append, HJ]
  by_cases h : x = e.1
  ·rw [if_pos h, if_pos h]
  ·rw [if_neg h, if_neg h, JF x y r q]
theorem TF (q : List (Af × Int)) (x : Af) (r : Int) : Ke (q ++ [(x, r)]) = Ke q ++ [(Cp (Jy x), r)] := by simp [Ke]
structure Mr (p : Ad) (q : List (Af × Int)) (l : List If) : Prop where
 ok : ∀ e, e ∈ q → BM p e.1
 none : ∀ x, BM p x → HJ x q = none → ∀ n, n ∈ l → n.1 ≠ x
 some : ∀ x r, BM p x → HJ x q = some r → (r = -1 ∧ Bv p x = false) ∨ ∃ (j : Nat) (f : Int) (s : Ah), r = (j : Int) ∧ l[j]? = some (x, f, s)
structure KB (p : Ad) (i : Nat) (done : List (Ah × Af)) (pl : List AD) : Prop where
 to : ∀ (b : Nat) nd, pl[b]? = some nd → ∀ r, r ∈ nd.fNext → ∃ s y, ((b < i ∧ (s, y) ∈ H4 p nd.fM) ∨ (b = i ∧ (s, y) ∈ done)) ∧ ∃ (a : Nat) (f : Int) (t : Ah), r = (a : Int) ∧ (pl.map DT)[a]? = some (y, f, t)
 of : ∀ (b : Nat) nd, pl[b]? = some nd → ∀ s y, ((b < i ∧ (s, y) ∈ H4 p nd.fM) ∨ (b = i ∧ (s, y) ∈ done)) → ∃ (a : Nat) (f : Int) (t : Ah), ((a : Nat) : Int) ∈ nd.fNext ∧ (pl.map DT)[a]? = some (y, f, t)
def J6 (pl : List AD) (i : Nat) (nd : AD) (r : Int) : List AD := if 0 ≤ r then pl.set i ⟨nd.fM, nd.fFrom, nd.fBy, nd.fNext ++ [r]⟩ else pl
theorem K5 {pl : List AD} {i : Nat} {nd : AD} {r : Int} (h : pl[i]? = some nd) : (J6 pl i nd r).map DT = pl.map DT := by
 unfold J6
 split
 ·apply List.ext_getElem?
  intro k
  rw [List.getElem?_map, List.getElem?_map, List.getElem?_set]
  by_cases hk : i = k
  ·subst hk
   rw [if_pos rfl, if_pos (Bfs.lt_get h), h]; rfl
  ·rw [if_neg hk]
 ·rfl
theorem J0 {pl : List AD} {i : Nat} {nd : AD} {r : Int} (h : pl[i]? = some nd) {b : Nat} {nb : AD} (hb : (J6 pl i nd r)[b]? = some nb) : (b ≠ i ∧ pl[b]? = some nb) ∨ (b = i ∧ nb.fM = nd.fM ∧ nb.fFrom = nd.fFrom ∧ nb.fBy = nd.fBy ∧ nb.fNext = if 0 ≤ r then nd.fNext ++ [r] else nd.fNext) := by
 unfold J6 at hb
 split at hb
 ·rename_i hr
  rw [List.getElem?_set] at hb
  by_cases hk : i = b
  ·subst hk
   rw [if_pos rfl, if_pos (Bfs.lt_get h)] at hb
   cases hb
   exact .inr ⟨rfl, rfl, rfl, rfl, by rw [if_pos hr]⟩
  ·rw [if_neg hk] at hb
   exact .inl ⟨fun e => hk e.symm, hb⟩
 ·rename_i hr
  by_cases hk : b = i
  ·subst hk; rw [h] at hb; cases hb
   exact .inr ⟨rfl, rfl, rfl, rfl, by rw [if_neg hr]⟩
  ·exact .inl ⟨hk, hb⟩
theorem P8 {p : Ad} {i : Nat} {done : List (Ah × Af)} {pl pl2 : List AD} {nd : AD} {s : Ah} {x : Af} {a : Nat} {f : Int} {t : Ah} (h : KB p i done pl)
  (hkeep : ∀ (b : Nat) nb, pl2[b]? = some nb → pl[b]? = some nb ∨ (i < b ∧ nb.fNext = [])) (hk2 : ∀ (b : Nat) n, (pl.map DT)[b]? = some n → (pl2.map DT)[b]? = some n) (hi : pl2[i]? = some nd) (ha : (pl2.map DT)[a]? = some (x, f, t)) : KB p i (done ++ [(s, x)]) (J6 pl2 i nd (a : Int)) := by
 constructor
 ·intro b nb hb r hr
  rw [K5 hi]
  rcases J0 hi hb with ⟨h1, h2⟩ | ⟨h1, h2, h3, h4, h5⟩
  ·rcases hkeep b nb h2 with h3 | ⟨h3, h4⟩
   ·obtain ⟨s', y, g1, a', f', t', g2, g3⟩ := h.to b nb h3 r hr
    refine ⟨s', y, ?_, a', f', t', g2, hk2 _ _ g3⟩
    rcases g1 with g1 | g1
    ·exact .inl g1
    ·exact absurd g1.1 h1
   ·rw [h4] at hr; cases hr
  ·subst h1
   rw [h5, if_pos (Int.natCast_nonneg a)] at hr
   rcases List.mem_append.1 hr with hr | hr
   ·rcases hkeep b nd hi with h6 | ⟨h6, _⟩
    ·obtain ⟨s', y, g1, a', f', t', g2, g3⟩ := h.to b nd h6 r hr
     refine ⟨s', y, ?_, a', f', t', g2, hk2 _ _ g3⟩
     rcases g1 with g1 | g1
     ·exact .inl ⟨g1.1, by rw [h2]; exact g1.2⟩
     ·exact .inr ⟨rfl, List.mem_append_left _ g1.2⟩
    ·omega
   ·rw [List.mem_singleton.1 hr]
    exact ⟨s, x, .inr ⟨rfl, by simp⟩, a, f, t, rfl, ha⟩
 ·intro b nb hb s' y hs
  rw [K5 hi]
  rcases J0 hi hb with ⟨h1, h2⟩ | ⟨h1, h2, h3, h4, h5⟩
  ·rcases hkeep b nb h2 with h3 | ⟨h3, h4⟩
   ·obtain ⟨a', f', t', g2, g3⟩ := h.of b nb h3 s' y (by
     rcases hs with hs | hs
     ·exact .inl hs
     ·exact absurd hs.1 h1)
    exact ⟨a', f', t', g2, hk2 _ _ g3⟩
   ·rcases hs with hs | hs <;> omega
  ·subst h1
   rw [h5, if_pos (Int.natCast_nonneg a)]
   rcases hkeep b nd hi with h6 | ⟨h6, _⟩
   ·rcases hs with hs | ⟨_, hs⟩
    ·omega
    ·rcases List.mem_append.1 hs with hs | hs
     ·obtain ⟨a', f', t', g2, g3⟩ := h.of b nd h6 s' y (.inr ⟨rfl, hs⟩)
      exact ⟨a', f', t', List.mem_append_left _ g2, hk2 _ _ g3⟩
     ·cases List.mem_singleton.1 hs
      exact ⟨a, f, t, by simp, ha⟩
   ·omega
theorem FZ {N : Nat} (hN : N ≤ 1000000) (h20 : 100 ≤ N) {p : Ad} (hv : BQ p = 0) {m : Af} (hm : BM p m) {most i : Nat} (hmo : most ≤ 20000) {v2 : List AD × List (ByteArray × Int) × Int} (hv2 : v2.2.2 = (i : Int)) (ss : List Ah) (e0 : Int) (hss : ∀ s, s ∈ ss → s ∈ EX p m) (hsl : ss.length ≤ 1000) (j : List AD × List (ByteArray × Int) → Option (List AD × Int)) :
  ∀ (n k : Nat) (pl : List AD) (q : List (Af × Int)) (l' : List If), k ≤ ss.length → ss.length - k < n → (∃ nd, pl[i]? = some nd ∧ nd.fM = m) → (∀ n, n ∈ pl.map DT → BM p n.1 ∧ Bv p n.1 = true) → pl.length ≤ most → Mr p q (pl.map DT) → KB p i (NV p m (ss.take k)) pl →
   (∃ nd, pl[i]? = some nd ∧ nd.fNext.length ≤ k) → Bfs.inner most i (NV p m (ss.drop k)) (pl.map DT) = some l' →
   ∃ pl' q', Cg N p v2 (ss, e0) j n (pl, Ke q, (k : Int)) = j (pl', Ke q') ∧ pl'.map DT = l' ∧ Mr p q' l' ∧ KB p i (NV p m ss) pl' ∧ (∀ (b : Nat) nb, pl'[b]? = some nb → b ≠ i → pl[b]? = some nb ∨ nb.fNext = [])
 | 0, k, pl, q, l', _, h, _, _, _, _, _, _, _ => by omega
 | n + 1, k, pl, q, l', hk, h, hi, hA, hlm, hpl, hnx, hfl, hin => by
  obtain ⟨hp, _⟩ := CK hv
  obtain ⟨nd, hnd, hndm⟩ := hi
  obtain ⟨nd', hnd', hfl⟩ := hfl
  rw [hnd] at hnd'; cases hnd'
  by_cases h1 : k < ss.length
  ·have hs : ss[k]? = some ss[k] := by simp [h1]
   have hsm := hss _ (List.mem_of_getElem? hs)
   have hstep := (G8 hsm).2
   have hxo := II hp hm hstep
   have hil := Bfs.lt_get hnd
   rw [Cg, AL (by simp only; omega)]
   simp only [Bb, hv2, A3, hnd, hs, Option.bind_some]
   rw [show (Af.mk nd.fM.fBase nd.fM.fNext nd.fM.fHeld) = m from hndm, NC N hN h20 (Ij hm), if_pos (Fw hv hm)]
   simp only [Option.bind_some]
   rw [hstep, bne_self_eq_false, Av, Tq N hN h20 hp hxo]
   simp only [Option.bind_some]
   rw [MF hp hxo hpl.ok]
   have htk : ss.take (k + 1) = ss.take k ++ [ss[k]] := by rw [List.take_add_one, hs]; rfl
   have hgo : NV p m (ss.take (k + 1)) = if Bv p (A2 p m ss[k]).1 = true then NV p m (ss.take k) ++ [(ss[k], (A2 p m ss[k]).1)] else NV p m (ss.take k) := by
    rw [htk]; unfold NV; rw [List.filterMap_append]
    cases hr : Bv p (A2 p m ss[k]).1 <;> simp [hr]
   rw [Gp hs, Qq] at hin
   -- what follows when the node's number is known
   have tail : ∀ (pl2 : List AD) (q2 : List (Af × Int)) (r : Int) (nd2 : AD), pl2[i]? = some nd2 → nd2.fM = m → nd2.fNext.length ≤ k → pl2.length ≤ most →
     A0 (decide (0 ≤ r)) ((BS pl2 (i : Int)).bind fun v26 => (Ei (v26.fNext.length + (([r] : List Int)).length ≤ Dz)).bind fun _ => (BS pl2 (i : Int)).bind fun v28 =>
      A0 (decide ((20000 : Int) < ((pl2.set ((i : Int)).toNat (AD.mk (Af.mk v28.fM.fBase v28.fM.fNext v28.fM.fHeld) v28.fFrom (Ah.mk v28.fBy.fKind v28.fBy.fIndex v28.fBy.fVersion) (v26.fNext ++ ([r] : List Int)))).length : Int))) (some (([] : List AD), 3))
       (Cg N p v2 (ss, e0) j n (pl2.set ((i : Int)).toNat (AD.mk (Af.mk v28.fM.fBase v28.fM.fNext v28.fM.fHeld) v28.fFrom (Ah.mk v28.fBy.fKind v28.fBy.fIndex v28.fBy.fVersion) (v26.fNext ++ ([r] : List Int))), Ke q2, (IntKind.wrap .i64 ((k : Int) + 1)))))
      (A0 (decide ((20000 : Int) < (pl2.length : Int))) (some (([] : List AD), 3)) (Cg N p v2 (ss, e0) j n (pl2, Ke q2, (IntKind.wrap .i64 ((k : Int) + 1))))) =
     Cg N p v2 (ss, e0) j n (J6 pl2 i nd2 r, Ke q2, ((k + 1 : Nat) : Int)) := by
    intro pl2 q2 r nd2 h2 h3 h4 h5
    by_cases hr : 0 ≤ r
    ·rw [AL hr]
     simp only [A3, h2, Option.bind_some, Int.toNat_natCast]
     rw [Az (by simp [Dz]; omega), AH (by rw [List.length_set]; omega), AM (by omega)]
     unfold J6; rw [if_pos hr]
    ·rw [AH hr, AH (by omega), AM (by omega)]
     unfold J6; rw [if_neg hr]
   cases hlq : HJ (A2 p m ss[k]).1 q with
   | some r =>
    simp only [Option.isSome_some, Bool.not_true, Av, Option.getD_some]
    have ht := tail pl q r nd hnd hndm hfl hlm
    simp only [A3, hnd, Option.bind_some] at ht
    rw [show (Af.mk nd.fM.fBase nd.fM.fNext nd.fM.fHeld) = m from hndm] at ht
    rw [ht]
    rcases hpl.some _ _ hxo hlq with ⟨hr, hnr⟩ | ⟨a, f, t, hr, ha⟩
    ·subst hr
     rw [hnr, if_neg (by simp)] at hin
     rw [hnr, if_neg (by simp)] at hgo
     have hadd : J6 pl i nd (-1) = pl := by unfold J6; rw [if_neg (by decide)]
     rw [hadd]
     exact FZ hN h20 hv hm hmo hv2 ss e0 hss hsl j n (k + 1) pl q l' (by omega) (by omega) ⟨nd, hnd, hndm⟩ hA hlm hpl (by rw [hgo]; exact hnx) ⟨nd, hnd, by omega⟩ hin
    ·subst hr
     have hrob : Bv p (A2 p m ss[k]).1 = true := (hA _ (List.mem_of_getElem? ha)).2
     rw [hrob, if_pos rfl] at hin hgo
     have hput : Bfs.put i (pl.map DT) (ss[k], (A2 p m ss[k]).1) = pl.map DT := by
      unfold Bfs.put
      rw [if_pos]
      exact List.any_eq_true.2 ⟨_, List.mem_of_getElem? ha, decide_eq_true rfl⟩
     simp only [Bfs.inner] at hin
     rw [hput, if_neg (by rw [List.length_map]; omega)] at hin
     have hpr := K5 (r := (a : Int)) hnd
     have hnx2 := P8 (s := ss[k]) hnx (pl2 := pl) (fun b nb hb => .inl hb) (fun b n hb => hb) hnd ha
     obtain ⟨nd3, hnd3⟩ := Bfs.get_ex (l := J6 pl i nd (a : Int)) (k := i) (by
      have := congrArg List.length hpr; simp only [List.length_map] at this; omega)
     obtain ⟨g1, g2⟩ | ⟨_, g2, g3, g4, g5⟩ := J0 hnd hnd3
     ·exact absurd rfl g1
     obtain ⟨pl', q', r1, r2, r3, r4, r5⟩ := FZ hN h20 hv hm hmo hv2 ss e0 hss hsl j n (k + 1) (J6 pl i nd (a : Int)) q l' (by omega) (by omega) ⟨nd3, hnd3, by rw [g2]; exact hndm⟩ (by rw [hpr]; exact hA) (by have := congrArg List.length hpr; simp only [List.length_map] at this; omega)  (by rw [hpr]; exact hpl) (by rw [hgo]; exact hnx2) ⟨nd3, hnd3, by rw [g5]; split <;> (try simp only [List.length_append, List.length_singleton]) <;> omega⟩ (by rw [hpr]; exact hin)
     refine ⟨pl', q', r1, r2, r3, r4, ?_⟩
     intro b nb hb hbi
     rcases r5 b nb hb hbi with h2 | h2
     ·rcases J0 hnd h2 with ⟨_, h3⟩ | ⟨h3, _⟩
      ·exact .inl h3
      ·exact absurd h3 hbi
     ·exact .inr h2
   | none =>
    simp only [Option.isSome_none, Bool.not_false, AN]
    rw [In N p _ hN h20 (Ij hxo) (Fw hv hxo)]
    simp only [Option.bind_some, bne_self_eq_false, Av]
    have hms : ∀ r, K2 (Cp (Jy (A2 p m ss[k]).1)) r (Ke q) = Ke (q ++ [((A2 p m ss[k]).1, r)]) := fun r => by
     rw [TF]; exact J1 _ _ (by rw [MF hp hxo hpl.ok, hlq])
    have hok2 : ∀ r e, e ∈ q ++ [((A2 p m ss[k]).1, r)] → BM p e.1 := fun r e he => by
     rcases List.mem_append.1 he with he | he
     ·exact hpl.ok e he
     ·rw [List.mem_singleton.1 he]; exact hxo
    cases hrob : Bv p (A2 p m ss[k]).1
    ·rw [Bool.not_false, AN]
     rw [hrob, if_neg (by simp)] at hin hgo
     rw [hms]
     have ht := tail pl (q ++ [((A2 p m ss[k]).1, -1)]) (-1) nd hnd hndm hfl hlm
     simp only [A3, hnd, Option.bind_some] at ht
     rw [show (Af.mk nd.fM.fBase nd.fM.fNext nd.fM.fHeld) = m from hndm] at ht
     rw [ht]
     have hadd : J6 pl i nd (-1) = pl := by unfold J6; rw [if_neg (by decide)]
     rw [hadd]
     refine FZ hN h20 hv hm hmo hv2 ss e0 hss hsl j n (k + 1) pl _ l' (by omega) (by omega) ⟨nd, hnd, hndm⟩ hA hlm ⟨hok2 (-1), ?_, ?_⟩ (by rw [hgo]; exact hnx) ⟨nd, hnd, by omega⟩ hin
     ·intro x hx hq
      rw [JF] at hq
      cases hq2 : HJ x q with
      | none => exact hpl.none x hx hq2
      | some v => rw [hq2] at hq; cases hq
     ·intro x r hx hq
      rw [JF] at hq
      cases hq2 : HJ x q with
      | none =>
       rw [hq2] at hq
       simp only at hq
       split at hq
       ·rename_i he
        cases hq; left; exact ⟨rfl, by rw [he]; exact hrob⟩
       ·cases hq
      | some v => rw [hq2] at hq; cases hq; exact hpl.some x _ hx hq2
    ·rw [Bool.not_true, Av]
     rw [hrob, if_pos rfl] at hin hgo
     rw [hms]
     have hnew : ((pl.map DT).any fun n => decide (n.1 = (A2 p m ss[k]).1)) = false := by
      rw [List.any_eq_false]
      intro n hn
      simpa using hpl.none _ hxo hlq n hn
     have hput : Bfs.put i (pl.map DT) (ss[k], (A2 p m ss[k]).1) = (pl ++ [AD.mk (A2 p m ss[k]).1 (i : Int) ss[k] []]).map DT := by
      unfold Bfs.put
      rw [hnew, if_neg (by simp), List.map_append]; rfl
     simp only [Bfs.inner] at hin
     rw [hput] at hin
     split at hin
     ·cases hin
     rename_i hmm
     rw [List.length_map, List.length_append, List.length_singleton] at hmm
     rw [Az (by simp [Dz]; omega)]
     have hnd2 : (pl ++ [AD.mk (A2 p m ss[k]).1 (i : Int) ss[k] []])[i]? = some nd := Bfs.get_app_of hnd
     have ht := tail (pl ++ [AD.mk (A2 p m ss[k]).1 (i : Int) ss[k] []]) (q ++ [((A2 p m ss[k]).1, (pl.length : Int))]) (pl.length : Int) nd hnd2 hndm hfl (by rw [List.length_append, List.length_singleton]; omega)
     simp only [A3] at ht
     rw [ht]
     have hpr := K5 (r := (pl.length : Int)) hnd2
     have hlast : ((pl ++ [AD.mk (A2 p m ss[k]).1 (i : Int) ss[k] []]).map DT)[pl.length]? = some ((A2 p m ss[k]).1, (i : Int), ss[k]) := by
      rw [List.getElem?_map, Bfs.get_app_new]; rfl
     have hold : ∀ (b : Nat) n, (pl.map DT)[b]? = some n → ((pl ++ [AD.mk (A2 p m ss[k]).1 (i : Int) ss[k] []]).map DT)[b]? = some n := fun b n hb => by
      rw [List.map_append]; exact Bfs.get_app_of hb
     have hkeep : ∀ (b : Nat) nb, (pl ++ [AD.mk (A2 p m ss[k]).1 (i : Int) ss[k] []])[b]? = some nb → pl[b]? = some nb ∨ (i < b ∧ nb.fNext = []) := fun b nb hb => by
      rcases Bfs.get_app hb with h2 | ⟨h2, h3⟩
      ·exact .inl h2
      ·exact .inr ⟨by omega, by rw [h3]⟩
     have hnx2 := P8 (s := ss[k]) hnx hkeep hold hnd2 hlast
     have hpl2 : Mr p (q ++ [((A2 p m ss[k]).1, (pl.length : Int))]) ((pl ++ [AD.mk (A2 p m ss[k]).1 (i : Int) ss[k] []]).map DT) := by
      refine ⟨hok2 _, ?_, ?_⟩
      ·intro x hx hq n hn
       rw [JF] at hq
       cases hq2 : HJ x q with
       | none =>
        rw [hq2] at hq
        simp only at hq
        split at hq
        ·cases hq
        ·rename_i hne
         rw [List.map_append] at hn
         rcases List.mem_append.1 hn with hn | hn
         ·exact hpl.none x hx hq2 n hn
         ·simp at hn; subst hn
          exact fun e => hne e.symm
       | some v => rw [hq2] at hq; cases hq
      ·intro x r hx hq
       rw [JF] at hq
       cases hq2 : HJ x q with
       | none =>
        rw [hq2] at hq
        simp only at hq
        split at hq
        ·rename_i he
         cases hq
         exact .inr ⟨pl.length, _, _, rfl, by rw [he]; exact hlast⟩
        ·cases hq
       | some v =>
        rw [hq2] at hq; cases hq
        rcases hpl.some x _ hx hq2 with g | ⟨a, f, t, g1, g2⟩
        ·exact .inl g
        ·exact .inr ⟨a, f, t, g1, hold _ _ g2⟩
     obtain ⟨nd3, hnd3⟩ := Bfs.get_ex (l := J6 (pl ++ [AD.mk (A2 p m ss[k]).1 (i : Int) ss[k] []]) i nd (pl.length : Int)) (k := i) (by
      have := congrArg List.length hpr; simp only [List.length_map, List.length_append, List.length_singleton] at this; omega)
     obtain ⟨g1, g2⟩ | ⟨_, g2, g3, g4, g5⟩ := J0 hnd2 hnd3
     ·exact absurd rfl g1
     obtain ⟨pl', q', r1, r2, r3, r4, r5⟩ := FZ hN h20 hv hm hmo hv2 ss e0 hss hsl j n (k + 1) (J6 (pl ++ [AD.mk (A2 p m ss[k]).1 (i : Int) ss[k] []]) i nd (pl.length : Int)) _ l' (by omega) (by omega) ⟨nd3, hnd3, by rw [g2]; exact hndm⟩ (by
       rw [hpr]
       intro n hn
       rw [List.map_append] at hn
       rcases List.mem_append.1 hn with hn | hn
       ·exact hA n hn
       ·simp at hn; subst hn; exact ⟨hxo, hrob⟩) (by have := congrArg List.length hpr; simp only [List.length_map, List.length_append, List.length_singleton] at this; omega)  (by rw [hpr]; exact hpl2) (by rw [hgo]; exact hnx2) ⟨nd3, hnd3, by rw [g5]; split <;> (try simp only [List.length_append, List.length_singleton]) <;> omega⟩ (by rw [hpr]; exact hin)
     refine ⟨pl', q', r1, r2, r3, r4, ?_⟩
     intro b nb hb hbi
     rcases r5 b nb hb hbi with h2 | h2
     ·rcases J0 hnd2 h2 with ⟨_, h3⟩ | ⟨h3, _⟩
      ·rcases hkeep b nb h3 with h4 | ⟨_, h4⟩
       ·exact .inl h4
       ·exact .inr h4
      ·exact absurd h3 hbi
     ·exact .inr h2
  ·have : k = ss.length := by omega
   subst this
   rw [List.drop_eq_nil_of_le (Nat.le_refl _)] at hin
   have hin : some (pl.map DT) = some l' := hin
   cases hin
   rw [List.take_length] at hnx
   rw [Cg, AH (by simp)]
   exact ⟨pl, q, rfl, rfl, hpl, hnx, fun b nb hb _ => .inl hb⟩
end Go.Lift

