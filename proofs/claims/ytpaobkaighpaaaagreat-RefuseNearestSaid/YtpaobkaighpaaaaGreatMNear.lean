/- Lemmas for RefuseNearestSaid, which YtpaobkaighpaaaaGreatFinR6 proves. -/
import Derived.Test.YtpaobkaighpaaaaGreatDec
import Derived.KernelRfl
/- Plain words of the shallow programs. -/
namespace Go.Lift
theorem Dj {α : Type} (xs : List α) (i : Nat) : A5 xs (i : Int) = xs[i]? := by
 unfold A5; simp
theorem Ex {n : Int} (h0 : -9223372036854775808 ≤ n) (h1 : n ≤ 9223372036854775807) : IntKind.wrap .i64 n = n := by
 simp [IntKind.wrap, IntKind.signed, IntKind.bits]; omega
theorem BU {i : Nat} (h : i < 1000000) : IntKind.wrap .i64 ((i : Int) + 1) = ((i + 1 : Nat) : Int) := by
 rw [Ex (by omega) (by omega)]; simp
@[simp] theorem Dh {α : Type} {a b : Option α} : AO true a b = a := rfl
@[simp] theorem A7 {α : Type} {a b : Option α} : AO false a b = b := rfl
theorem BT {α : Type} {p : Prop} [Decidable p] {a b : Option α} (h : p) : AO (decide p) a b = a := by simp [h]
theorem Bt {α : Type} {p : Prop} [Decidable p] {a b : Option α} (h : ¬ p) : AO (decide p) a b = b := by simp [h]
def Iy : List Int → List Int → Int
 | [], [] => 0
 | [], _ :: _ => -1
 | _ :: _, [] => 1
 | a :: as1, b :: bs => if a < b then -1 else if b < a then 1 else Iy as1 bs
theorem Iz {α : Type} {xs : List α} {i : Nat} {x : α} (h : xs[i]? = some x) : xs.drop i = x :: xs.drop (i + 1) := by
 obtain ⟨hi, rfl⟩ := List.getElem?_eq_some_iff.1 h
 exact List.drop_eq_getElem_cons hi
theorem PK (N : Nat) (a b : List Int) (hb : a.length < 1000000) : ∀ (n i : Nat), i ≤ a.length → i ≤ b.length → a.length - i < n →
  DJ N a b (fun _ => AO (decide ((a.length : Int) < (b.length : Int))) (some (-1)) (AO (decide ((b.length : Int) < (a.length : Int))) (some 1) (some 0))) n (i : Int) = some (Iy (a.drop i) (b.drop i))
 | 0, i, _, _, h => by omega
 | n + 1, i, hi, hj, h => by
  unfold DJ
  simp only [Bd]
  by_cases h1 : i < a.length
  ·rw [BT (p := (i : Int) < (a.length : Int)) (by omega)]
   have ha : a[i]? = some a[i] := by simp [h1]
   rw [Iz ha]
   by_cases h2 : i < b.length
   ·have hbb : b[i]? = some b[i] := by simp [h2]
    rw [show decide ((i : Int) < (b.length : Int)) = true from decide_eq_true (by omega), Dh, Dj, Dj, ha, hbb, Iz hbb]
    simp only [Option.bind_some, Iy]
    rw [BU (by omega), PK N a b hb n (i + 1) (by omega) (by omega) (by omega)]
    by_cases h3 : a[i] < b[i]
    ·simp [h3]
    ·by_cases h4 : b[i] < a[i]
     ·simp [h3, h4]
     ·simp [h3, h4]
   ·rw [show decide ((i : Int) < (b.length : Int)) = false from decide_eq_false (by omega), A7, Bt (by omega), BT (by omega), List.drop_eq_nil_of_le (by omega : b.length ≤ i)]
    simp [Iy]
  ·rw [Bt (p := (i : Int) < (a.length : Int)) (by omega), A7, List.drop_eq_nil_of_le (by omega : a.length ≤ i)]
   by_cases h2 : a.length < b.length
   ·rw [BT (by omega)]
    have hbb : b[i]? = some b[i] := by simp [show i < b.length from by omega]
    rw [Iz hbb]; simp [Iy]
   ·rw [Bt (by omega), Bt (by omega), List.drop_eq_nil_of_le (by omega : b.length ≤ i)]
    simp [Iy]
theorem MP {N : Nat} {a b : List Int} (h : a.length < N) (hN : N ≤ 1000000) : DO N a b = some (Iy a b) := by
 have := PK N a b (by omega) N 0 (by omega) (by omega) (by omega)
 simpa [DO] using this
end Go.Lift

/- MixCompare: the order on mixes. -/
namespace Go.Lift
theorem NI : ∀ a : List Int, Iy a a = 0
 | [] => rfl
 | a :: as1 => by simp [Iy, NI as1]
theorem Mq : ∀ a b : List Int, Iy a b = 0 → a = b
 | [], [], _ => rfl
 | [], _ :: _, h => by simp [Iy] at h
 | _ :: _, [], h => by simp [Iy] at h
 | a :: as1, b :: bs, h => by
  unfold Iy at h
  split at h
  ·omega
  ·split at h
   ·omega
   ·rw [Mq as1 bs h, show a = b from by omega]
def TI : List Int → Int
 | [] => 0
 | x :: xs => if x = 0 then TI xs else x
theorem U3 (N : Nat) (a : List Int) (hb : a.length < 1000000) (hw : KY J4 a) : ∀ (n i : Nat), i ≤ a.length → a.length - i < n →
  C8 N a (fun v => some v) n (a.take i, (i : Int)) = some a
 | 0, i, _, h => by omega
 | n + 1, i, hi, h => by
  unfold C8
  by_cases h1 : i < a.length
  ·have ha : a[i]? = some a[i] := by simp [h1]
   rw [BT (by simpa using h1)]
   simp only
   rw [Dj, ha]
   have hr : IntKind.wrap .i64 a[i] = a[i] := by
    have := hw a[i] (List.getElem_mem h1)
    unfold J4 at this
    have h2 : 0 ≤ a[i] ∧ a[i] ≤ 255 := by simpa [Lit.wf, IntKind.min, IntKind.max, IntKind.signed, IntKind.bits] using this
    exact Ex (by omega) (by omega)
   simp only [Option.bind_some, hr]
   have hlen : (a.take i).length + ([a[i]] : List Int).length ≤ Gf := by
    simp [Gf]; omega
   rw [show Fu ((a.take i).length + ([a[i]] : List Int).length ≤ Gf) = some () from by unfold Fu; rw [if_pos hlen]]
   simp only [Option.bind_some]
   rw [BU (by omega), show a.take i ++ [a[i]] = a.take (i + 1) from by rw [List.take_add_one, ha]; rfl]
   exact U3 N a hb hw n (i + 1) (by omega) (by omega)
  ·rw [Bt (by simpa using h1)]
   simp only
   rw [List.take_of_length_le (by omega)]
theorem L9 {N : Nat} {a : List Int} (h : a.length < N) (hN : N ≤ 1000000) (hw : KY J4 a) : DH N a = some a := by
 have := U3 N a (by omega) hw N 0 (by omega) (by omega)
 simpa [DH] using this
def WU (a : Ah) : Prop := a.fBase.length ≤ 8 ∧ a.fNext.length ≤ 8 ∧ a.fHeld.length ≤ 14
def Qk (a b : Ah) : Int := TI [Iy a.fBase b.fBase, Iy a.fNext b.fNext, Iy a.fHeld b.fHeld]
theorem NO (a : Ah) : Qk a a = 0 := by unfold Qk; simp [NI, TI]
end Go.Lift

/- The law MixCompare in plain words. -/
namespace Go.Lift
end Go.Lift

/- Search loops in plain words; the two tests of a problem give the same answer. -/
namespace Go.Lift
def EQ {α R : Type} (f : Nat → α → Option R) : Nat → List α → Option R
 | _, [] => none
 | i, x :: xs => match f i x with
  | some r => some r
  | none => EQ f (i + 1) xs
theorem IC {α R : Type} (f : Nat → α → Option R) (i : Nat) (x : α) (xs : List α) : EQ f i (x :: xs) = match f i x with
  | some r => some r
  | none => EQ f (i + 1) xs := rfl
def B8 {R : Type} (a : Option R) (b : Option R) : Option R := match a with
 | some r => some r
 | none => b
theorem EM {α R : Type} (L : Nat → Int → Option R) (xs : List α) (j : Option R) (f : Nat → α → Option R)
  (hs : ∀ (n i : Nat) (x : α), xs[i]? = some x → L (n + 1) (i : Int) = B8 (f i x) (L n ((i + 1 : Nat) : Int))) (he : ∀ n : Nat, L (n + 1) (xs.length : Int) = j) :
  ∀ n i : Nat, i ≤ xs.length → xs.length - i < n → L n (i : Int) = B8 (EQ f i (xs.drop i)) j
 | 0, i, _, h => by omega
 | n + 1, i, hi, h => by
  by_cases h1 : i < xs.length
  ·have hx : xs[i]? = some xs[i] := by simp [h1]
   rw [hs n i _ hx, Iz hx, EM L xs j f hs he n (i + 1) (by omega) (by omega)]
   rw [IC]
   cases f i xs[i] <;> rfl
  ·have : i = xs.length := by omega
   subst this
   rw [he n, List.drop_eq_nil_of_le (Nat.le_refl _)]
   rfl
theorem Nt (N : Nat) (k n : Int) : El N k n = some (decide (0 ≤ k) && decide (k < n)) := by
 unfold El
 simp only [Bd]
 by_cases h : 0 ≤ k
 ·rw [BT h]; simp [h]
 ·rw [Bt h]; simp [h]
theorem LC (N : Nat) (t : AQ) : BI N t = some (t.fKind == 3 || t.fKind == 4) := by
 unfold BI
 simp only [Bd]
 cases h : t.fKind == 3 <;> simp
def sq (l : List (List Bool)) (n m : Int) : Bool := decide ((l.length : Int) = n) && l.all fun r => decide ((r.length : Int) = m)
theorem Na {α : Type} (p : α → Bool) {R : Type} (r : Nat → R) : ∀ (i : Nat) (xs : List α), (EQ (fun i x => if p x then none else some (r i)) i xs).isNone = xs.all p
 | i, [] => rfl
 | i, x :: xs => by
  unfold EQ
  cases h : p x <;> simp [h, Na p r (i + 1) xs]
theorem Nv (N : Nat) (l : List (List Bool)) (n m : Int) (h : n < (N : Int)) (hN : N ≤ 1000000) : DS N l n m = some (sq l n m) := by
 unfold DS sq
 by_cases h1 : (l.length : Int) = n
 ·subst h1
  simp only [bne_self_eq_false, A7, decide_true, Bool.true_and]
  have := EM (CM N l (l.length : Int) m (fun _ => some true)) l (some true) (fun _ r => if decide ((r.length : Int) = m) then none else some false)
   (fun n i x hx => by
    have hi := (List.getElem?_eq_some_iff.1 hx).1
    rw [CM, BT (by omega), Dj, hx]
    simp only [Option.bind_some]
    rw [BU (by omega)]
    by_cases h2 : (x.length : Int) = m
    ·simp [h2, B8]
    ·have : ((x.length : Int) != m) = true := by simpa using h2
     simp [h2, this, B8])
   (fun n => by rw [CM, Bt (by omega)]) N 0 (by omega) (by omega)
  simp only [Int.ofNat_zero, List.drop_zero] at this
  rw [this]
  have h3 := Na (fun r : List Bool => decide ((r.length : Int) = m)) (fun _ => false) 0 l
  cases hsc : EQ (fun (_ : Nat) (r : List Bool) => if decide ((r.length : Int) = m) = true then none else some false) 0 l with
  | none => rw [hsc] at h3; rw [← h3]; rfl
  | some b =>
   rw [hsc] at h3
   rw [← h3]
   have : ∀ (i : Nat) (xs : List (List Bool)) b, EQ (fun (_ : Nat) (r : List Bool) => if decide ((r.length : Int) = m) = true then none else some false) i xs = some b → b = false := by
    intro i xs
    induction xs generalizing i with
    | nil => intro b hb; cases hb
    | cons x xs ih =>
     intro b hb
     unfold EQ at hb
     split at hb
     ·rename_i r hr; cases hb; split at hr <;> simp at hr; exact hr
     ·exact ih _ b hb
   rw [this 0 l b hsc]; rfl
 ·have : ((l.length : Int) != n) = true := by simpa using h1
  simp [this, h1]
end Go.Lift

/- The tests of a table and of a problem: both implementations give one answer. -/
namespace Go.Lift
theorem NT (N : Nat) (l : List (List Bool)) (n m : Int) (h : n < (N : Int)) (hN : N ≤ 1000000) : Fe N l n m = some (sq l n m) := by
 unfold Fe sq
 simp only [Bd]
 by_cases h1 : (l.length : Int) = n
 ·subst h1
  simp only [beq_self_eq_true, Dh, decide_true, Bool.true_and]
  have := EM (Bs N l (fun x => Ef N x m) (fun _ => some (-1))) l (some (-1)) (fun i r => if decide ((r.length : Int) = m) then none else some (i : Int))
   (fun n i x hx => by
    have hi := (List.getElem?_eq_some_iff.1 hx).1
    rw [Bs, BT (by omega), Dj, hx]
    simp only [Option.bind_some, Ef]
    rw [BU (by omega)]
    by_cases h2 : (x.length : Int) = m
    ·simp [h2, B8]
    ·have : ((x.length : Int) != m) = true := by simpa using h2
     simp [h2, this, B8])
   (fun n => by rw [Bs, Bt (by omega)]) N 0 (by omega) (by omega)
  simp only [Int.ofNat_zero, List.drop_zero] at this
  unfold Do DQ
  rw [this]
  have h3 := Na (fun r : List Bool => decide ((r.length : Int) = m)) (fun i : Nat => (i : Int)) 0 l
  cases hsc : EQ (fun (i : Nat) (r : List Bool) => if decide ((r.length : Int) = m) = true then none else some (i : Int)) 0 l with
  | none => rw [hsc] at h3; rw [← h3]; rfl
  | some b =>
   rw [hsc] at h3
   rw [← h3]
   have : ∀ (i : Nat) (xs : List (List Bool)) b, EQ (fun (i : Nat) (r : List Bool) => if decide ((r.length : Int) = m) = true then none else some (i : Int)) i xs = some b → 0 ≤ b := by
    intro i xs
    induction xs generalizing i with
    | nil => intro b hb; cases hb
    | cons x xs ih =>
     intro b hb
     rw [IC] at hb
     split at hb
     ·rename_i r hr
      cases hb
      split at hr
      ·cases hr
      ·cases hr; omega
     ·exact ih _ b hb
   have := this 0 l b hsc
   simp [B8, this]
 ·have : ((l.length : Int) == n) = false := by simpa using h1
  simp [this, h1]
end Go.Lift

/- The test of a table: both implementations give one answer. -/
namespace Go.Lift
def IL (l : List (List Bool)) : Option Int := EQ (fun i row => if row.getD i false then none else some 1) 0 l
theorem Pe {row : List Bool} {i : Nat} (h : i < row.length) : A5 row (i : Int) = some (row.getD i false) := by
 rw [Dj, List.getD_eq_getElem?_getD]; simp [h]
theorem Su (N : Nat) (t : AQ) (h : t.fRewrite.length < N) (hN : N ≤ 1000000) (hsq : ∀ row, row ∈ t.fRewrite → row.length = t.fRewrite.length) (j : Option Int) :
  Ce N t (fun _ => j) N 0 = B8 (IL t.fRewrite) j := by
 have := EM (Ce N t (fun _ => j)) t.fRewrite j (fun i row => if row.getD i false then none else some 1)
  (fun n i x hx => by
   have hi := (List.getElem?_eq_some_iff.1 hx).1
   have hl := hsq x (List.mem_of_getElem? hx)
   rw [Ce, BT (by omega), Dj, hx]
   simp only [Option.bind_some]
   rw [Pe (by omega), BU (by omega)]
   simp only [Option.bind_some]
   cases x.getD i false <;> rfl)
  (fun n => by rw [Ce, Bt (by omega)]) N 0 (by omega) (by omega)
 simpa [IL] using this
theorem NC (N : Nat) (t : AQ) (h : t.fRewrite.length < N) (hN : N ≤ 1000000) (hsq : ∀ row, row ∈ t.fRewrite → row.length = t.fRewrite.length) (j : Option Int) :
  Dw N t (fun _ => j) N 0 = B8 (IL t.fRewrite) j := by
 have := EM (Dw N t (fun _ => j)) t.fRewrite j (fun i row => if row.getD i false then none else some 1)
  (fun n i x hx => by
   have hi := (List.getElem?_eq_some_iff.1 hx).1
   have hl := hsq x (List.mem_of_getElem? hx)
   rw [Dw, BT (by omega), Dj, hx]
   simp only [Option.bind_some]
   rw [Pe (by omega), BU (by omega)]
   simp only [Option.bind_some]
   cases x.getD i false <;> rfl)
  (fun n => by rw [Dw, Bt (by omega)]) N 0 (by omega) (by omega)
 simpa [IL] using this
theorem Ms {l : List (List Bool)} {n m : Int} (h : sq l n m = true) : (l.length : Int) = n ∧ ∀ row, row ∈ l → (row.length : Int) = m := by
 unfold sq at h
 simp only [Bool.and_eq_true, decide_eq_true_eq, List.all_eq_true] at h
 exact h
def Eo (p : Al) (t : AQ) : Int :=
 if t.fKind < 1 ∨ 4 < t.fKind ∨ (t.fAware = true ∧ (t.fKind = 3 ∨ t.fKind = 4)) then 1
 else if t.fFrom < 0 ∨ (p.fVersions.length : Int) ≤ t.fFrom ∨ t.fTo < 0 ∨ (p.fVersions.length : Int) ≤ t.fTo then 4
 else
  let f := p.fVersions.getD t.fFrom.toNat 0
  let g := p.fVersions.getD t.fTo.toNat 0
  if sq t.fOK f g = false then 6
  else if t.fKind = 4 then (if sq t.fRewrite f f = false then 6 else (IL t.fRewrite).getD 0)
  else if t.fRewrite.length = 0 then 0 else 6
theorem H0 {α : Type} {xs : List α} {i : Int} {d : α} (h0 : 0 ≤ i) (h1 : i < (xs.length : Int)) : A5 xs i = some (xs.getD i.toNat d) := by
 obtain ⟨k, rfl⟩ := Int.eq_ofNat_of_zero_le h0
 rw [Dj, List.getD_eq_getElem?_getD, Int.toNat_natCast]
 simp [show k < xs.length from by omega]
theorem Rx {t : AQ} (A B : Option Int) (hk : ¬ (t.fAware = true ∧ (t.fKind = 3 ∨ t.fKind = 4))) : AO t.fAware (AO (t.fKind == 3 || t.fKind == 4) A B) B = B := by
 cases ha : t.fAware
 ·rfl
 ·have : (t.fKind == 3 || t.fKind == 4) = false := by
   rw [Bool.or_eq_false_iff]
   constructor
   ·simp only [beq_eq_false_iff_ne]; intro h; exact hk ⟨ha, .inl h⟩
   ·simp only [beq_eq_false_iff_ne]; intro h; exact hk ⟨ha, .inr h⟩
  rw [this]; rfl
theorem LI {p : Al} {i : Int} (hv : ∀ v, v ∈ p.fVersions → 1 ≤ v ∧ v ≤ 6) (h0 : 0 ≤ i) (h1 : i < (p.fVersions.length : Int)) : 1 ≤ p.fVersions.getD i.toNat 0 ∧ p.fVersions.getD i.toNat 0 ≤ 6 := by
 refine hv _ ?_
 rw [List.getD_eq_getElem?_getD, List.getElem?_eq_getElem (by omega)]
 exact List.getElem_mem _
theorem Qi (N : Nat) (p : Al) (t : AQ) (hN : N ≤ 1000000) (h6 : 7 ≤ N) (hv : ∀ v, v ∈ p.fVersions → 1 ≤ v ∧ v ≤ 6) : EH N p t = some (Eo p t) := by
 unfold EH Eo
 simp only [Bd, LC, Option.bind_some]
 by_cases k1 : t.fKind < 1
 ·simp [k1]
 by_cases k2 : 4 < t.fKind
 ·simp [k1, k2]
 rw [Bt k1, Bt k2]
 by_cases hk : t.fAware = true ∧ (t.fKind = 3 ∨ t.fKind = 4)
 ·obtain ⟨ha, k | k⟩ := hk <;> simp [ha, k]
 rw [A7, Rx _ _ hk, if_neg (fun h => h.elim k1 fun h => h.elim k2 hk)]
 by_cases f1 : t.fFrom < 0
 ·simp [f1]
 by_cases f2 : (p.fVersions.length : Int) ≤ t.fFrom
 ·simp [f1, f2]
 by_cases f3 : t.fTo < 0
 ·simp [f1, f2, f3]
 by_cases f4 : (p.fVersions.length : Int) ≤ t.fTo
 ·simp [f1, f2, f3, f4]
 rw [Bt f1, Bt f2, Bt f3, if_neg (fun h => h.elim f1 fun h => h.elim f2 fun h => h.elim f3 f4)]
 have hf := LI hv (i := t.fFrom) (by omega) (by omega)
 rw [decide_eq_false f4, A7, H0 (d := 0) (by omega : 0 ≤ t.fFrom) (by omega), H0 (d := 0) (by omega : 0 ≤ t.fTo) (by omega)]
 simp only [Option.bind_some]
 generalize p.fVersions.getD t.fFrom.toNat 0 = f at *
 generalize p.fVersions.getD t.fTo.toNat 0 = g at *
 rw [Nv N t.fOK f g (by omega) hN, Nv N t.fRewrite f f (by omega) hN]
 simp only [Option.bind_some]
 cases hq : sq t.fOK f g
 ·rfl
 simp only [Bool.not_true, A7]
 by_cases k4 : t.fKind = 4
 ·have : (t.fKind != 4) = false := by simp [k4]
  rw [this, A7]
  simp only [k4, if_true]
  cases hr : sq t.fRewrite f f
  ·rfl
  ·have h7 := Ms hr
   simp only [Bool.not_true, A7]
   rw [Su N t (by omega) hN (fun row hm => by have := h7.2 row hm; omega)]
   cases IL t.fRewrite <;> simp [B8]
 ·have : (t.fKind != 4) = true := by simpa using k4
  rw [this, Dh]
  simp only [k4, if_false]
  by_cases hr : t.fRewrite.length = 0
  ·simp [hr]
  ·have : ((t.fRewrite.length : Int) != 0) = true := bne_iff_ne.2 (by omega)
   rw [this]; simp [hr]
theorem Sv (N : Nat) (k : Int) (a : Bool) : GP N k a = some (k == 1 || (k == 2 || ((k == 3 || k == 4) && !a))) := by
 unfold GP
 simp only [Bd]
 cases h1 : k == 1 <;> cases h2 : k == 2 <;> cases h3 : k == 3 <;> cases h4 : k == 4 <;> cases a <;> rfl
theorem MM (N : Nat) (p : Al) (t : AQ) (hN : N ≤ 1000000) (h6 : 7 ≤ N) (hv : ∀ v, v ∈ p.fVersions → 1 ≤ v ∧ v ≤ 6) : Gp N p t = some (Eo p t) := by
 unfold Gp Eo
 simp only [Bd, Sv, Nt, Option.bind_some]
 by_cases hb : t.fKind < 1 ∨ 4 < t.fKind ∨ (t.fAware = true ∧ (t.fKind = 3 ∨ t.fKind = 4))
 ·have : (t.fKind == 1 || (t.fKind == 2 || ((t.fKind == 3 || t.fKind == 4) && !t.fAware))) = false := by
   rcases hb with h | h | ⟨ha, h | h⟩
   ·rw [beq_eq_false_iff_ne.2 (by omega : t.fKind ≠ 1), beq_eq_false_iff_ne.2 (by omega : t.fKind ≠ 2), beq_eq_false_iff_ne.2 (by omega : t.fKind ≠ 3), beq_eq_false_iff_ne.2 (by omega : t.fKind ≠ 4)]; rfl
   ·rw [beq_eq_false_iff_ne.2 (by omega : t.fKind ≠ 1), beq_eq_false_iff_ne.2 (by omega : t.fKind ≠ 2), beq_eq_false_iff_ne.2 (by omega : t.fKind ≠ 3), beq_eq_false_iff_ne.2 (by omega : t.fKind ≠ 4)]; rfl
   ·simp [ha, h]
   ·simp [ha, h]
  rw [this, if_pos hb]; rfl
 ·have : (t.fKind == 1 || (t.fKind == 2 || ((t.fKind == 3 || t.fKind == 4) && !t.fAware))) = true := by
   have hk : t.fKind = 1 ∨ t.fKind = 2 ∨ t.fKind = 3 ∨ t.fKind = 4 := by
    have h1 : ¬ t.fKind < 1 := fun h => hb (.inl h)
    have h2 : ¬ 4 < t.fKind := fun h => hb (.inr (.inl h))
    omega
   rcases hk with h | h | h | h
   ·simp [h]
   ·simp [h]
   ·cases ha : t.fAware
    ·simp [h]
    ·exact (hb (.inr (.inr ⟨ha, .inl h⟩))).elim
   ·cases ha : t.fAware
    ·simp [h]
    ·exact (hb (.inr (.inr ⟨ha, .inr h⟩))).elim
  rw [this, if_neg hb]
  simp only [Bool.not_true, A7]
  by_cases f1 : t.fFrom < 0
  ·simp [f1, show ¬ (0 ≤ t.fFrom) from by omega]
  by_cases f2 : (p.fVersions.length : Int) ≤ t.fFrom
  ·simp [f2, show ¬ (t.fFrom < (p.fVersions.length : Int)) from by omega]
  by_cases f3 : t.fTo < 0
  ·simp [f3, show 0 ≤ t.fFrom from by omega, show t.fFrom < (p.fVersions.length : Int) from by omega, show ¬ (0 ≤ t.fTo) from by omega]
  by_cases f4 : (p.fVersions.length : Int) ≤ t.fTo
  ·simp [f4, show 0 ≤ t.fFrom from by omega, show t.fFrom < (p.fVersions.length : Int) from by omega, show ¬ (t.fTo < (p.fVersions.length : Int)) from by omega]
  rw [if_neg (fun h => h.elim f1 fun h => h.elim f2 fun h => h.elim f3 f4)]
  have hf := LI hv (i := t.fFrom) (by omega) (by omega)
  have hg := LI hv (i := t.fTo) (by omega) (by omega)
  rw [decide_eq_true (by omega : 0 ≤ t.fFrom), decide_eq_true (by omega : t.fFrom < (p.fVersions.length : Int)), decide_eq_true (by omega : 0 ≤ t.fTo), decide_eq_true (by omega : t.fTo < (p.fVersions.length : Int)), H0 (d := 0) (by omega : 0 ≤ t.fFrom) (by omega), H0 (d := 0) (by omega : 0 ≤ t.fTo) (by omega)]
  simp only [Bool.and_self, Bool.not_true, A7, Option.bind_some]
  generalize p.fVersions.getD t.fFrom.toNat 0 = f at *
  generalize p.fVersions.getD t.fTo.toNat 0 = g at *
  rw [NT N t.fOK f g (by omega) hN, NT N t.fRewrite f f (by omega) hN]
  simp only [Option.bind_some]
  cases hq : sq t.fOK f g
  ·rfl
  simp only [Bool.not_true, A7]
  by_cases k4 : t.fKind = 4
  ·simp only [k4, beq_self_eq_true, Dh, if_true]
   cases hr : sq t.fRewrite f f
   ·rfl
   ·have h7 := Ms hr
    simp only [Bool.not_true, A7]
    rw [NC N t (by omega) hN (fun row hm => by have := h7.2 row hm; omega)]
    cases IL t.fRewrite <;> simp [B8]
  ·have : (t.fKind == 4) = false := beq_eq_false_iff_ne.2 k4
   rw [this, A7]
   simp only [k4, if_false, Bool.not_false, Dh]
   by_cases hr : t.fRewrite.length = 0
   ·rw [NC N t (by omega) hN (fun row hm => by rw [List.eq_nil_of_length_eq_zero hr] at hm; cases hm), List.eq_nil_of_length_eq_zero hr]
    simp [IL, EQ, B8]
   ·rw [decide_eq_true (by omega : 0 < (t.fRewrite.length : Int))]
    simp [hr]
end Go.Lift

/- The test of a problem: both implementations give one answer. -/
namespace Go.Lift
def Ga (p : Al) (i : Nat) (v : Int) : Option Int :=
 if v < 1 ∨ 6 < v ∨ p.fNow.getD i 0 < 0 ∨ v ≤ p.fNow.getD i 0 ∨ p.fTarget.getD i 0 < 0 ∨ v ≤ p.fTarget.getD i 0 then some 7 else none
def Lc (p : Al) (_ : Nat) (t : AQ) : Option Int := if Eo p t = 0 then none else some (Eo p t)
def DT (p : Al) : Int :=
 if 6 < p.fVersions.length ∨ 12 < p.fTables.length then 3
 else if p.fNow.length ≠ p.fVersions.length ∨ p.fTarget.length ≠ p.fVersions.length then 6
 else ((B8 (EQ (Ga p) 0 p.fVersions) (EQ (Lc p) 0 p.fTables)).getD 0)
theorem HZ {α R : Type} {f : Nat → α → Option R} : ∀ {i : Nat} {xs : List α}, EQ f i xs = none → ∀ j x, xs[j]? = some x → f (i + j) x = none
 | _, [], _, j, x, hx => by simp at hx
 | i, y :: ys, h, j, x, hx => by
  rw [IC] at h
  split at h
  ·cases h
  ·rename_i h0
   cases j with
   | zero => simp at hx; subst hx; exact h0
   | succ j =>
    have := HZ h j x (by simpa using hx)
    rwa [show i + 1 + j = i + (j + 1) from by omega] at this
theorem MD {p : Al} (h : EQ (Ga p) 0 p.fVersions = none) : ∀ v, v ∈ p.fVersions → 1 ≤ v ∧ v ≤ 6 := by
 intro v hv
 obtain ⟨i, hi⟩ := List.mem_iff_getElem?.1 hv
 have := HZ h i v hi
 unfold Ga at this
 split at this
 ·cases this
 ·rename_i hn
  constructor
  ·exact Int.not_lt.1 fun h => hn (.inl h)
  ·exact Int.not_lt.1 fun h => hn (.inr (.inl h))
theorem FL {α : Type} {xs : List α} {i : Nat} {d : α} (h : i < xs.length) : A5 xs (i : Int) = some (xs.getD i d) := by
 rw [Dj, List.getD_eq_getElem?_getD]; simp [h]
theorem Po (N : Nat) (p : Al) (hN : N ≤ 1000000) (h1 : p.fVersions.length < N) (h2 : p.fNow.length = p.fVersions.length) (h3 : p.fTarget.length = p.fVersions.length) (j : Option Int) :
  Bm N p (fun _ => j) N 0 = B8 (EQ (Ga p) 0 p.fVersions) j := by
 have := EM (Bm N p (fun _ => j)) p.fVersions j (Ga p)
  (fun n i x hx => by
   have hi := (List.getElem?_eq_some_iff.1 hx).1
   rw [Bm, BT (by omega), Dj, hx]
   simp only [Option.bind_some, Bd]
   rw [FL (d := 0) (by omega), FL (d := 0) (by omega), BU (by omega)]
   simp only [Option.bind_some]
   unfold Ga
   generalize p.fNow.getD i 0 = a
   generalize p.fTarget.getD i 0 = b
   by_cases k1 : x < 1 <;> by_cases k2 : 6 < x <;> by_cases k3 : a < 0 <;> by_cases k4 : x ≤ a <;> by_cases k5 : b < 0 <;> by_cases k6 : x ≤ b <;> simp [k1, k2, k3, k4, k5, k6, B8])
  (fun n => by rw [Bm, Bt (by omega)]) N 0 (by omega) (by omega)
 simpa using this
theorem N4 (N : Nat) (p : Al) (hN : N ≤ 1000000) (h1 : p.fVersions.length < N) (h2 : p.fNow.length = p.fVersions.length) (h3 : p.fTarget.length = p.fVersions.length) (j : Option Int) :
  Cc N p (fun _ => j) N 0 = B8 (EQ (Ga p) 0 p.fVersions) j := by
 have := EM (Cc N p (fun _ => j)) p.fVersions j (Ga p)
  (fun n i x hx => by
   have hi := (List.getElem?_eq_some_iff.1 hx).1
   rw [Cc, BT (by omega), Dj, hx]
   simp only [Option.bind_some, Bd, Nt]
   rw [FL (d := 0) (by omega), FL (d := 0) (by omega), BU (by omega)]
   simp only [Option.bind_some]
   unfold Ga
   generalize p.fNow.getD i 0 = a
   generalize p.fTarget.getD i 0 = b
   have e1 : decide (0 ≤ a) = !decide (a < 0) := by rw [← decide_not]; congr 1; simp
   have e2 : decide (a < x) = !decide (x ≤ a) := by rw [← decide_not]; congr 1; simp
   have e3 : decide (0 ≤ b) = !decide (b < 0) := by rw [← decide_not]; congr 1; simp
   have e4 : decide (b < x) = !decide (x ≤ b) := by rw [← decide_not]; congr 1; simp
   rw [e1, e2, e3, e4]
   by_cases k1 : x < 1 <;> by_cases k2 : 6 < x <;> by_cases k3 : a < 0 <;> by_cases k4 : x ≤ a <;> by_cases k5 : b < 0 <;> by_cases k6 : x ≤ b <;> simp [k1, k2, k3, k4, k5, k6, B8])
  (fun n => by rw [Cc, Bt (by omega)]) N 0 (by omega) (by omega)
 simpa using this
theorem Rd (N : Nat) (p : Al) (hN : N ≤ 1000000) (h6 : 7 ≤ N) (h1 : p.fTables.length < N) (hv : ∀ v, v ∈ p.fVersions → 1 ≤ v ∧ v ≤ 6) (j : Option Int) :
  Bf N p (fun _ => j) N 0 = B8 (EQ (Lc p) 0 p.fTables) j := by
 have := EM (Bf N p (fun _ => j)) p.fTables j (Lc p)
  (fun n i x hx => by
   have hi := (List.getElem?_eq_some_iff.1 hx).1
   rw [Bf, BT (by omega), Dj, hx]
   simp only [Option.bind_some]
   rw [Qi N p x hN h6 hv, BU (by omega)]
   simp only [Option.bind_some]
   unfold Lc
   by_cases k : Eo p x = 0
   ·simp [k, B8]
   ·rw [bne_iff_ne.2 k, if_neg k]; rfl)
  (fun n => by rw [Bf, Bt (by omega)]) N 0 (by omega) (by omega)
 simpa using this
theorem PC (N : Nat) (p : Al) (hN : N ≤ 1000000) (h6 : 7 ≤ N) (h1 : p.fTables.length < N) (hv : ∀ v, v ∈ p.fVersions → 1 ≤ v ∧ v ≤ 6) (j : Option Int) :
  BX N p (fun _ => j) N 0 = B8 (EQ (Lc p) 0 p.fTables) j := by
 have := EM (BX N p (fun _ => j)) p.fTables j (Lc p)
  (fun n i x hx => by
   have hi := (List.getElem?_eq_some_iff.1 hx).1
   rw [BX, BT (by omega), Dj, hx]
   simp only [Option.bind_some]
   rw [MM N p x hN h6 hv, BU (by omega)]
   simp only [Option.bind_some]
   unfold Lc
   by_cases k : Eo p x = 0
   ·simp [k, B8]
   ·rw [bne_iff_ne.2 k, if_neg k]; rfl)
  (fun n => by rw [BX, Bt (by omega)]) N 0 (by omega) (by omega)
 simpa using this
theorem KU (N : Nat) (p : Al) (hN : N ≤ 1000000) (h : 20 ≤ N) : B7 N p = some (DT p) := by
 unfold B7 DT
 simp only [Bd]
 by_cases k1 : 6 < p.fVersions.length
 ·rw [BT (by omega)]; simp [k1]
 rw [Bt (by omega)]
 by_cases k2 : 12 < p.fTables.length
 ·rw [decide_eq_true (by omega : (12 : Int) < (p.fTables.length : Int))]; simp [k2]
 rw [decide_eq_false (by omega : ¬ (12 : Int) < (p.fTables.length : Int)), A7, if_neg (by omega)]
 by_cases k3 : p.fNow.length = p.fVersions.length
 ·by_cases k4 : p.fTarget.length = p.fVersions.length
  ·rw [k3, k4]
   simp only [bne_self_eq_false, A7, ne_eq, not_true_eq_false, or_self, if_false]
   rw [Po N p hN (by omega) k3 k4]
   cases hs : EQ (Ga p) 0 p.fVersions with
   | some r => rfl
   | none =>
    simp only [B8]
    rw [Rd N p hN (by omega) (by omega) (MD hs)]
    cases EQ (Lc p) 0 p.fTables <;> rfl
  ·have : ((p.fTarget.length : Int) != (p.fVersions.length : Int)) = true := bne_iff_ne.2 (by omega)
   rw [this, k3]; simp [k4]
 ·have : ((p.fNow.length : Int) != (p.fVersions.length : Int)) = true := bne_iff_ne.2 (by omega)
  rw [this]; simp [k3]
theorem Lb (N : Nat) (p : Al) (hN : N ≤ 1000000) (h : 20 ≤ N) : CS N p = some (DT p) := by
 unfold CS DT
 simp only [Bd]
 by_cases k1 : 6 < p.fVersions.length
 ·rw [BT (by omega)]; simp [k1]
 rw [Bt (by omega)]
 by_cases k2 : 12 < p.fTables.length
 ·rw [decide_eq_true (by omega : (12 : Int) < (p.fTables.length : Int))]; simp [k2]
 rw [decide_eq_false (by omega : ¬ (12 : Int) < (p.fTables.length : Int)), A7, if_neg (by omega)]
 by_cases k3 : p.fNow.length = p.fVersions.length
 ·by_cases k4 : p.fTarget.length = p.fVersions.length
  ·rw [k3, k4]
   simp only [bne_self_eq_false, A7, ne_eq, not_true_eq_false, or_self, if_false]
   rw [N4 N p hN (by omega) k3 k4]
   cases hs : EQ (Ga p) 0 p.fVersions with
   | some r => rfl
   | none =>
    simp only [B8]
    rw [PC N p hN (by omega) (by omega) (MD hs)]
    cases EQ (Lc p) 0 p.fTables <;> rfl
  ·have : ((p.fTarget.length : Int) != (p.fVersions.length : Int)) = true := bne_iff_ne.2 (by omega)
   rw [this, k3]; simp [k4]
 ·have : ((p.fNow.length : Int) != (p.fVersions.length : Int)) = true := bne_iff_ne.2 (by omega)
  rw [this]; simp [k3]
end Go.Lift

/- The test of a mix: both implementations give one answer. -/
namespace Go.Lift
theorem IY {n : Int} (h : J4 n) : 0 ≤ n ∧ n ≤ 255 := by
 unfold J4 at h
 simpa [Lit.wf, IntKind.min, IntKind.max, IntKind.signed, IntKind.bits] using h
theorem Nb : ∀ k : Fin 256, Ed .u8 0 (k.val : Int) = 0 := by decide +kernel
theorem Nl : ∀ k : Fin 256, Ed .u8 (k.val : Int) 0 = (k.val : Int) := by decide +kernel
theorem R5 {n : Int} (h : J4 n) : Ed .u8 0 n = 0 := by
 have := IY h
 obtain ⟨k, rfl⟩ := Int.eq_ofNat_of_zero_le this.1
 exact Nb ⟨k, by omega⟩
theorem QK {n : Int} (h : J4 n) : Ed .u8 n 0 = n := by
 have := IY h
 obtain ⟨k, rfl⟩ := Int.eq_ofNat_of_zero_le this.1
 exact Nl ⟨k, by omega⟩
theorem F4 {α R : Type} {f : Nat → α → Option R} : ∀ {i : Nat} {xs : List α} {r : R}, EQ f i xs = some r → ∃ j x, xs[j]? = some x ∧ f (i + j) x = some r
 | _, [], _, h => by cases h
 | i, y :: ys, r, h => by
  rw [IC] at h
  split at h
  ·rename_i r' h0
   cases h
   exact ⟨0, y, rfl, h0⟩
  ·obtain ⟨j, x, h1, h2⟩ := F4 h
   exact ⟨j + 1, x, by simpa using h1, by rwa [show i + (j + 1) = i + 1 + j from by omega]⟩
structure Gb (p : Al) : Prop where
 nv : p.fVersions.length ≤ 6
 nt : p.fTables.length ≤ 12
 now : p.fNow.length = p.fVersions.length
 tgt : p.fTarget.length = p.fVersions.length
 ver : ∀ v, v ∈ p.fVersions → 1 ≤ v ∧ v ≤ 6
 tab : ∀ t, t ∈ p.fTables → Eo p t = 0
theorem PA (l : List (List Bool)) : (IL l).getD 0 = 0 ∨ (IL l).getD 0 = 1 := by
 cases h : IL l with
 | none => exact .inl rfl
 | some r =>
  obtain ⟨j, x, _, h⟩ := F4 h
  split at h
  ·cases h
  ·cases h; exact .inr rfl
theorem N2 (p : Al) (t : AQ) : Eo p t = 0 ∨ Eo p t = 1 ∨ Eo p t = 4 ∨ Eo p t = 6 := by
 unfold Eo
 split
 ·exact .inr (.inl rfl)
 split
 ·exact .inr (.inr (.inl rfl))
 simp only
 split
 ·exact .inr (.inr (.inr rfl))
 split
 ·split
  ·exact .inr (.inr (.inr rfl))
  ·rcases PA t.fRewrite with h | h
   ·exact .inl h
   ·exact .inr (.inl h)
 ·split
  ·exact .inl rfl
  ·exact .inr (.inr (.inr rfl))
theorem Ip (p : Al) : (DT p = 0 ∧ Gb p) ∨ (DT p = 1 ∨ DT p = 3 ∨ DT p = 4 ∨ DT p = 6 ∨ DT p = 7) := by
 unfold DT
 split
 ·simp
 rename_i k1
 split
 ·simp
 rename_i k2
 cases hs : EQ (Ga p) 0 p.fVersions with
 | some r =>
  obtain ⟨j, x, _, h⟩ := F4 hs
  unfold Ga at h
  split at h
  ·cases h; simp [B8]
  ·cases h
 | none =>
  cases ht : EQ (Lc p) 0 p.fTables with
  | some r =>
   obtain ⟨j, t, _, h⟩ := F4 ht
   unfold Lc at h
   split at h
   ·cases h
   ·rename_i hne
    cases h
    simp only [B8, Option.getD_some]
    right
    rcases N2 p t with h | h | h | h
    ·exact (hne h).elim
    ·exact .inl h
    ·exact .inr (.inr (.inl h))
    ·exact .inr (.inr (.inr (.inl h)))
  | none =>
   left
   refine ⟨rfl, by omega, by omega, by omega, by omega, MD hs, fun t hm => ?_⟩
   obtain ⟨j, hj⟩ := List.mem_iff_getElem?.1 hm
   have := HZ ht j t hj
   unfold Lc at this
   split at this
   ·assumption
   ·cases this
end Go.Lift

/- The test of a mix: both implementations give one answer. -/
namespace Go.Lift
def Kd (m : Ah) (s : Nat) : Int :=
 if 0 ≤ m.fNext.getD s 0 then Oy .u8 (DD .u8 1 (m.fBase.getD s 0)) (DD .u8 1 (m.fNext.getD s 0)) else DD .u8 1 (m.fBase.getD s 0)
def LG (m : Ah) (i : Nat) (v : Int) : Option Int :=
 if m.fBase.getD i 0 < 0 ∨ v ≤ m.fBase.getD i 0 ∨ m.fNext.getD i 0 < -1 ∨ v ≤ m.fNext.getD i 0 then some 7
 else if m.fBase.getD i 0 = m.fNext.getD i 0 then some 1 else none
def Ee (t : AQ) : Bool := t.fKind == 3 || t.fKind == 4
def Sz (p : Al) (t : AQ) : Int := IntKind.wrap .u8 (DD .u8 1 (p.fVersions.getD t.fFrom.toNat 0) - 1)
def Jr (p : Al) (m : Ah) (i : Nat) (t : AQ) : Option Int :=
 if Ee t = true then (if Ed .u8 (Kd m t.fFrom.toNat) (m.fHeld.getD i 0) ≠ 0 ∨ Ed .u8 (m.fHeld.getD i 0) (Sz p t) ≠ 0 then some 1 else none)
 else if m.fHeld.getD i 0 ≠ 0 then some 1 else none
def IE (p : Al) (m : Ah) : Int :=
 if DT p ≠ 0 then DT p
 else if m.fBase.length ≠ p.fVersions.length ∨ m.fNext.length ≠ p.fVersions.length ∨ m.fHeld.length ≠ p.fTables.length then 6
 else (B8 (EQ (LG m) 0 p.fVersions) (EQ (Jr p m) 0 p.fTables)).getD 0
theorem Pq {p : Al} {t : AQ} (h : Eo p t = 0) : 0 ≤ t.fFrom ∧ t.fFrom < (p.fVersions.length : Int) ∧ 0 ≤ t.fTo ∧ t.fTo < (p.fVersions.length : Int) := by
 unfold Eo at h
 split at h
 ·cases h
 ·split at h
  ·cases h
  ·omega
theorem Pn (N : Nat) (m : Ah) (s : Int) (h0 : 0 ≤ s) (h1 : s < (m.fBase.length : Int)) (h2 : s < (m.fNext.length : Int)) (hb : 0 ≤ m.fBase.getD s.toNat 0) : E5 N m s = some (Kd m s.toNat) := by
 unfold E5 Kd
 rw [H0 (d := 0) h0 h1, H0 (d := 0) h0 h2]
 simp only [Option.bind_some, Bd]
 rw [show Fu (0 ≤ m.fBase.getD s.toNat 0) = some () from by unfold Fu; rw [if_pos hb]]
 simp only [Option.bind_some]
 by_cases h : 0 ≤ m.fNext.getD s.toNat 0
 ·rw [BT h, if_pos h, show Fu (0 ≤ m.fNext.getD s.toNat 0) = some () from by unfold Fu; rw [if_pos h]]; rfl
 ·rw [Bt h, if_neg h]
theorem MT (N : Nat) (m : Ah) (s : Int) (h0 : 0 ≤ s) (h1 : s < (m.fBase.length : Int)) (h2 : s < (m.fNext.length : Int)) (hb : 0 ≤ m.fBase.getD s.toNat 0) : Da N m s = some (Kd m s.toNat) := by
 unfold Da Kd
 rw [H0 (d := 0) h0 h1, H0 (d := 0) h0 h2]
 simp only [Option.bind_some, Bd]
 rw [show Fu (0 ≤ m.fBase.getD s.toNat 0) = some () from by unfold Fu; rw [if_pos hb]]
 simp only [Option.bind_some]
 by_cases h : 0 ≤ m.fNext.getD s.toNat 0
 ·rw [BT h, if_pos h, show Fu (0 ≤ m.fNext.getD s.toNat 0) = some () from by unfold Fu; rw [if_pos h]]; rfl
 ·rw [Bt h, if_neg h]
theorem Ov (N : Nat) (p : Al) (m : Ah) (hN : N ≤ 1000000) (h1 : p.fVersions.length < N) (h2 : m.fBase.length = p.fVersions.length) (h3 : m.fNext.length = p.fVersions.length) (j : Option Int) :
  Em N p m (fun _ => j) N 0 = B8 (EQ (LG m) 0 p.fVersions) j := by
 have := EM (Em N p m (fun _ => j)) p.fVersions j (LG m)
  (fun n i x hx => by
   have hi := (List.getElem?_eq_some_iff.1 hx).1
   rw [Em, BT (by omega), Dj, hx]
   simp only [Option.bind_some, Bd]
   rw [FL (d := 0) (by omega), FL (d := 0) (by omega), BU (by omega)]
   simp only [Option.bind_some]
   unfold LG
   generalize m.fBase.getD i 0 = a
   generalize m.fNext.getD i 0 = b
   by_cases k7 : a = b
   ·subst k7
    by_cases k3 : a < 0 <;> by_cases k4 : x ≤ a <;> by_cases k5 : a < -1 <;> simp [k3, k4, k5, B8]
   ·have k8 : (a == b) = false := beq_eq_false_iff_ne.2 k7
    by_cases k3 : a < 0 <;> by_cases k4 : x ≤ a <;> by_cases k5 : b < -1 <;> by_cases k6 : x ≤ b <;> simp [k3, k4, k5, k6, k7, k8, B8])
  (fun n => by rw [Em, Bt (by omega)]) N 0 (by omega) (by omega)
 simpa using this
theorem Oq (N : Nat) (p : Al) (m : Ah) (hN : N ≤ 1000000) (h1 : p.fVersions.length < N) (h2 : m.fBase.length = p.fVersions.length) (h3 : m.fNext.length = p.fVersions.length) (j : Option Int) :
  Cu N p m (fun _ => j) N 0 = B8 (EQ (LG m) 0 p.fVersions) j := by
 have := EM (Cu N p m (fun _ => j)) p.fVersions j (LG m)
  (fun n i x hx => by
   have hi := (List.getElem?_eq_some_iff.1 hx).1
   rw [Cu, BT (by omega), show A5 p.fVersions (i : Int) = some x from by rw [Dj, hx]]
   simp only [Option.bind_some, Bd]
   rw [FL (d := 0) (by omega), FL (d := 0) (by omega), BU (by omega)]
   simp only [Option.bind_some]
   unfold LG
   generalize m.fBase.getD i 0 = a
   generalize m.fNext.getD i 0 = b
   by_cases k7 : a = b
   ·subst k7
    by_cases k3 : a < 0 <;> by_cases k4 : x ≤ a <;> by_cases k5 : a < -1 <;> simp [k3, k4, k5, B8]
   ·have k8 : (a == b) = false := beq_eq_false_iff_ne.2 k7
    by_cases k3 : a < 0 <;> by_cases k4 : x ≤ a <;> by_cases k5 : b < -1 <;> by_cases k6 : x ≤ b <;> simp [k3, k4, k5, k6, k7, k8, B8])
  (fun n => by rw [Cu, Bt (by omega)]) N 0 (by omega) (by omega)
 simpa using this
end Go.Lift

/- The test of a mix, the whole: both implementations give one answer. -/
namespace Go.Lift
structure Kv (p : Al) (m : Ah) : Prop where
 base : m.fBase.length = p.fVersions.length
 next : m.fNext.length = p.fVersions.length
 held : m.fHeld.length = p.fTables.length
 b0 : ∀ i, i < p.fVersions.length → 0 ≤ m.fBase.getD i 0 ∧ m.fBase.getD i 0 < p.fVersions.getD i 0
 n0 : ∀ i, i < p.fVersions.length → -1 ≤ m.fNext.getD i 0 ∧ m.fNext.getD i 0 < p.fVersions.getD i 0
 ne : ∀ i, i < p.fVersions.length → m.fBase.getD i 0 ≠ m.fNext.getD i 0
theorem N1 {p : Al} {m : Ah} (h2 : m.fBase.length = p.fVersions.length) (h3 : m.fNext.length = p.fVersions.length) (h4 : m.fHeld.length = p.fTables.length) (h : EQ (LG m) 0 p.fVersions = none) : Kv p m := by
 have key : ∀ i, i < p.fVersions.length → ¬ (m.fBase.getD i 0 < 0 ∨ p.fVersions.getD i 0 ≤ m.fBase.getD i 0 ∨ m.fNext.getD i 0 < -1 ∨ p.fVersions.getD i 0 ≤ m.fNext.getD i 0) ∧ ¬ m.fBase.getD i 0 = m.fNext.getD i 0 := by
  intro i hi
  have hx : p.fVersions[i]? = some (p.fVersions.getD i 0) := by rw [List.getD_eq_getElem?_getD]; simp [hi]
  have := HZ h i _ hx
  rw [Nat.zero_add] at this
  unfold LG at this
  split at this
  ·cases this
  ·split at this
   ·cases this
   ·rename_i k1 k2; exact ⟨k1, k2⟩
 exact ⟨h2, h3, h4, fun i hi => by have := (key i hi).1; omega, fun i hi => by have := (key i hi).1; omega, fun i hi => (key i hi).2⟩
theorem O4 {m : Ah} (hw : KY J4 m.fHeld) {i : Nat} (h : i < m.fHeld.length) : J4 (m.fHeld.getD i 0) := by
 refine hw _ ?_
 rw [List.getD_eq_getElem?_getD, List.getElem?_eq_getElem h]
 exact List.getElem_mem _
theorem Nh (N : Nat) (t : AQ) : Fy N t = some (Ee t) := by
 unfold Fy Ee
 simp only [Bd]
 cases h : t.fKind == 3 <;> simp
theorem Je (N : Nat) (t : AQ) : BI N t = some (Ee t) := LC N t
theorem PD (N : Nat) (p : Al) (m : Ah) (hN : N ≤ 1000000) (h1 : p.fTables.length < N) (hp : Gb p) (hm : Kv p m) (hw : KY J4 m.fHeld) (j : Option Int) :
  D5 N p m (fun _ => j) N 0 = B8 (EQ (Jr p m) 0 p.fTables) j := by
 have := EM (D5 N p m (fun _ => j)) p.fTables j (Jr p m)
  (fun n i x hx => by
   have hi := (List.getElem?_eq_some_iff.1 hx).1
   have hin := Pq (hp.tab x (List.mem_of_getElem? hx))
   have hheld := O4 hw (show i < m.fHeld.length from by rw [hm.held]; exact hi)
   have hv := LI hp.ver hin.1 hin.2.1
   rw [D5, BT (by omega), Dj, hx]
   simp only [Option.bind_some, Bd, Nh]
   rw [Pn N m x.fFrom hin.1 (by rw [hm.base]; exact hin.2.1) (by rw [hm.next]; exact hin.2.1) (hm.b0 _ (by omega)).1, H0 (d := 0) hin.1 hin.2.1, FL (d := 0) (show i < m.fHeld.length from by rw [hm.held]; exact hi), BU (by omega)]
   simp only [Option.bind_some]
   rw [show Fu (0 ≤ p.fVersions.getD x.fFrom.toNat 0) = some () from by unfold Fu; rw [if_pos (by omega)]]
   simp only [Option.bind_some]
   unfold Jr Sz
   rw [R5 hheld, QK hheld]
   generalize Ed .u8 (Kd m x.fFrom.toNat) (m.fHeld.getD i 0) = A
   generalize Ed .u8 (m.fHeld.getD i 0) (IntKind.wrap .u8 (DD .u8 1 (p.fVersions.getD x.fFrom.toNat 0) - 1)) = B
   generalize m.fHeld.getD i 0 = H
   cases Ee x
   ·simp only [A7, bne_self_eq_false]
    by_cases k : H = 0
    ·simp [k, B8]
    ·have : (H != 0) = true := bne_iff_ne.2 k
     simp [k, this, B8]
   ·simp only [Dh]
    by_cases k : A = 0
    ·by_cases k2 : B = 0
     ·simp [k, k2, B8]
     ·have : (B != 0) = true := bne_iff_ne.2 k2
      simp [k, k2, this, B8]
    ·have : (A != 0) = true := bne_iff_ne.2 k
     simp [k, this, B8])
  (fun n => by rw [D5, Bt (by omega)]) N 0 (by omega) (by omega)
 simpa using this
theorem Ps (N : Nat) (p : Al) (m : Ah) (hN : N ≤ 1000000) (h1 : p.fTables.length < N) (hp : Gb p) (hm : Kv p m) (j : Option Int) :
  Cd N p m (fun _ => j) N 0 = B8 (EQ (Jr p m) 0 p.fTables) j := by
 have := EM (Cd N p m (fun _ => j)) p.fTables j (Jr p m)
  (fun n i x hx => by
   have hi := (List.getElem?_eq_some_iff.1 hx).1
   have hin := Pq (hp.tab x (List.mem_of_getElem? hx))
   have hv := LI hp.ver hin.1 hin.2.1
   rw [Cd, BT (by omega), Dj, hx]
   simp only [Option.bind_some, Bd, Je]
   rw [MT N m x.fFrom hin.1 (by rw [hm.base]; exact hin.2.1) (by rw [hm.next]; exact hin.2.1) (hm.b0 _ (by omega)).1, H0 (d := 0) hin.1 hin.2.1, FL (d := 0) (show i < m.fHeld.length from by rw [hm.held]; exact hi), BU (by omega)]
   simp only [Option.bind_some]
   rw [show Fu (0 ≤ p.fVersions.getD x.fFrom.toNat 0) = some () from by unfold Fu; rw [if_pos (by omega)]]
   simp only [Option.bind_some]
   unfold Jr Sz
   generalize Ed .u8 (Kd m x.fFrom.toNat) (m.fHeld.getD i 0) = A
   generalize Ed .u8 (m.fHeld.getD i 0) (IntKind.wrap .u8 (DD .u8 1 (p.fVersions.getD x.fFrom.toNat 0) - 1)) = B
   generalize m.fHeld.getD i 0 = H
   cases Ee x
   ·simp only [Bool.not_false, Dh, A7]
    by_cases k : H = 0
    ·simp [k, B8]
    ·have : (H != 0) = true := bne_iff_ne.2 k
     simp [k, this, B8]
   ·simp only [Bool.not_true, A7, Dh]
    by_cases k : A = 0
    ·by_cases k2 : B = 0
     ·simp [k, k2, B8]
     ·have : (B != 0) = true := bne_iff_ne.2 k2
      simp [k, k2, this, B8]
    ·have : (A != 0) = true := bne_iff_ne.2 k
     by_cases k2 : B = 0
     ·simp [k, k2, this, B8]
     ·have h5 : (B != 0) = true := bne_iff_ne.2 k2
      simp [k, h5, B8])
  (fun n => by rw [Cd, Bt (by omega)]) N 0 (by omega) (by omega)
 simpa using this
theorem Oi (N : Nat) (p : Al) (m : Ah) (hN : N ≤ 1000000) (h : 20 ≤ N) (hw : KY J4 m.fHeld) : EW N p m = some (IE p m) := by
 unfold EW IE
 rw [Lb N p hN h]
 simp only [Option.bind_some, Bd]
 by_cases k0 : DT p = 0
 ·have hp : Gb p := by
   rcases Ip p with h | h
   ·exact h.2
   ·omega
  have hnv := hp.nv
  have hnt := hp.nt
  rw [k0]
  simp only [bne_self_eq_false, A7, ne_eq, not_true_eq_false, if_false]
  by_cases k1 : m.fBase.length = p.fVersions.length
  ·by_cases k2 : m.fNext.length = p.fVersions.length
   ·by_cases k3 : m.fHeld.length = p.fTables.length
    ·rw [k1, k2, k3]
     simp only [bne_self_eq_false, A7, not_true_eq_false, or_self, if_false]
     rw [Ov N p m hN (by omega) k1 k2]
     cases hs : EQ (LG m) 0 p.fVersions with
     | some r => rfl
     | none =>
      simp only [B8]
      rw [PD N p m hN (by omega) hp (N1 k1 k2 k3 hs) hw]
      cases EQ (Jr p m) 0 p.fTables <;> rfl
    ·have : ((m.fHeld.length : Int) != (p.fTables.length : Int)) = true := bne_iff_ne.2 (by omega)
     rw [this, k1, k2]; simp [k3]
   ·have : ((m.fNext.length : Int) != (p.fVersions.length : Int)) = true := bne_iff_ne.2 (by omega)
    rw [this, k1]; simp [k2]
  ·have : ((m.fBase.length : Int) != (p.fVersions.length : Int)) = true := bne_iff_ne.2 (by omega)
   rw [this]; simp [k1]
 ·rw [bne_iff_ne.2 k0]; simp [k0]
theorem N8 (N : Nat) (p : Al) (m : Ah) (hN : N ≤ 1000000) (h : 20 ≤ N) : EG N p m = some (IE p m) := by
 unfold EG IE
 rw [KU N p hN h]
 simp only [Option.bind_some, Bd]
 by_cases k0 : DT p = 0
 ·have hp : Gb p := by
   rcases Ip p with h | h
   ·exact h.2
   ·omega
  have hnv := hp.nv
  have hnt := hp.nt
  rw [k0]
  simp only [bne_self_eq_false, A7, ne_eq, not_true_eq_false, if_false]
  by_cases k1 : m.fBase.length = p.fVersions.length
  ·by_cases k2 : m.fNext.length = p.fVersions.length
   ·by_cases k3 : m.fHeld.length = p.fTables.length
    ·rw [k1, k2, k3]
     simp only [bne_self_eq_false, A7, not_true_eq_false, or_self, if_false]
     rw [Oq N p m hN (by omega) k1 k2]
     cases hs : EQ (LG m) 0 p.fVersions with
     | some r => rfl
     | none =>
      simp only [B8]
      rw [Ps N p m hN (by omega) hp (N1 k1 k2 k3 hs)]
      cases EQ (Jr p m) 0 p.fTables <;> rfl
    ·have : ((m.fHeld.length : Int) != (p.fTables.length : Int)) = true := bne_iff_ne.2 (by omega)
     rw [this, k1, k2]; simp [k3]
   ·have : ((m.fNext.length : Int) != (p.fVersions.length : Int)) = true := bne_iff_ne.2 (by omega)
    rw [this, k1]; simp [k2]
  ·have : ((m.fBase.length : Int) != (p.fVersions.length : Int)) = true := bne_iff_ne.2 (by omega)
   rw [this]; simp [k1]
 ·rw [bne_iff_ne.2 k0]; simp [k0]
end Go.Lift

/- Loops of the shallow programs as folds along lists. -/
namespace Go.Lift
@[simp] theorem EN {α β : Type} (k : α) (f : α → β) : Bd k f = f k := rfl
@[simp] theorem Rv {p : Prop} [Decidable p] (h : p) : Fu p = some () := by unfold Fu; rw [if_pos h]
theorem BD {β : Type} {p : Prop} [Decidable p] (h : p) (f : Unit → Option β) : (Fu p).bind f = f () := by rw [Rv h]; rfl
def KJ {α A : Type} (f : Nat → α → A → A) : Nat → List α → A → A
 | _, [], a => a
 | i, x :: xs, a => KJ f (i + 1) xs (f i x a)
end Go.Lift

/- Sets as bits, the mixes that are valid, and the conflicts of a mix: both implementations give one answer. -/
namespace Go.Lift
def GR (s : Int) (v : Nat) : Bool := s.toNat.testBit v
def MA (m : Ah) (s v : Nat) : Bool := decide (m.fBase.getD s 0 = (v : Int)) || decide (m.fNext.getD s 0 = (v : Int))
theorem Mt {s : Int} {v : Nat} (h1 : s ≤ 255) (hv : 8 ≤ v) : GR s v = false := by
 unfold GR
 apply Nat.testBit_lt_two_pow
 have : (2 : Nat) ^ 8 ≤ 2 ^ v := Nat.pow_le_pow_right (by omega) hv
 omega
theorem SE : ∀ (b : Fin 8) (v : Fin 8), GR (DD .u8 1 (b.val : Int)) v.val = decide (b.val = v.val) ∧ 0 ≤ DD .u8 1 (b.val : Int) ∧ DD .u8 1 (b.val : Int) ≤ 255 := by decide +kernel
theorem Sl : ∀ (b n : Fin 8) (v : Fin 8), GR (Oy .u8 (DD .u8 1 (b.val : Int)) (DD .u8 1 (n.val : Int))) v.val = (decide (b.val = v.val) || decide (n.val = v.val))
  ∧ 0 ≤ Oy .u8 (DD .u8 1 (b.val : Int)) (DD .u8 1 (n.val : Int)) ∧ Oy .u8 (DD .u8 1 (b.val : Int)) (DD .u8 1 (n.val : Int)) ≤ 255 := by decide +kernel
theorem ON {m : Ah} {s : Nat} (hb0 : 0 ≤ m.fBase.getD s 0) (hb1 : m.fBase.getD s 0 < 8) (hn1 : m.fNext.getD s 0 < 8) :
  (∀ v, GR (Kd m s) v = MA m s v) ∧ 0 ≤ Kd m s ∧ Kd m s ≤ 255 := by
 unfold Kd MA
 obtain ⟨b, hb⟩ := Int.eq_ofNat_of_zero_le hb0
 rw [hb] at hb1 ⊢
 by_cases h : 0 ≤ m.fNext.getD s 0
 ·obtain ⟨n, hn⟩ := Int.eq_ofNat_of_zero_le h
  rw [hn] at hn1 ⊢
  rw [if_pos (by omega)]
  have h1 := Sl ⟨b, by omega⟩ ⟨n, by omega⟩
  refine ⟨fun v => ?_, (h1 0).2⟩
  by_cases hv : v < 8
  ·rw [(h1 ⟨v, hv⟩).1]
   simp only [Int.ofNat_inj]
  ·rw [Mt (h1 0).2.2 (by omega)]
   simp; omega
 ·rw [if_neg h]
  have h1 := SE ⟨b, by omega⟩
  refine ⟨fun v => ?_, (h1 0).2⟩
  have h3 : decide (m.fNext.getD s 0 = (v : Int)) = false := decide_eq_false (by omega)
  rw [h3, Bool.or_false]
  by_cases hv : v < 8
  ·rw [(h1 ⟨v, hv⟩).1]
   simp only [Int.ofNat_inj]
  ·rw [Mt (h1 0).2.2 (by omega)]
   simp; omega
theorem Ri {a : Nat} (h : a < 256) : (BitVec.ofInt 8 (a : Int)).toNat = a := by
 simp; omega
theorem MC {a b : Int} (ha : 0 ≤ a ∧ a ≤ 255) (hb : 0 ≤ b ∧ b ≤ 255) : Ed .u8 a b = 0 ↔ ∀ v, GR a v = true → GR b v = true := by
 obtain ⟨a, rfl⟩ := Int.eq_ofNat_of_zero_le ha.1
 obtain ⟨b, rfl⟩ := Int.eq_ofNat_of_zero_le hb.1
 have hA := Ri (a := a) (by omega)
 have hB := Ri (a := b) (by omega)
 unfold Ed GR
 simp only [IntKind.bits, Int.toNat_natCast]
 have hx : ∀ x : BitVec 8, IntKind.wrap .u8 (x.toNat : Int) = (x.toNat : Int) := by
  intro x
  have := x.isLt
  simp [IntKind.wrap, IntKind.signed, IntKind.bits]
  omega
 rw [hx]
 constructor
 ·intro h v hv
  have h0 : (BitVec.ofInt 8 (a : Int) &&& ~~~BitVec.ofInt 8 (b : Int)) = (BitVec.ofNat 8 0) := by
   apply BitVec.eq_of_toNat_eq
   simp only [BitVec.toNat_ofNat, Nat.zero_mod]
   exact Int.ofNat_inj.1 h
  by_cases hv8 : v < 8
  ·have h1 : (BitVec.ofInt 8 (a : Int) &&& ~~~BitVec.ofInt 8 (b : Int)).getLsbD v = false := by rw [h0]; simp
   rw [BitVec.getLsbD_and, BitVec.getLsbD_not] at h1
   have e1 : (BitVec.ofInt 8 (a : Int)).getLsbD v = a.testBit v := by unfold BitVec.getLsbD; rw [hA]
   have e2 : (BitVec.ofInt 8 (b : Int)).getLsbD v = b.testBit v := by unfold BitVec.getLsbD; rw [hB]
   rw [e1, e2, hv] at h1
   simpa [hv8] using h1
  ·have := Mt (s := (a : Int)) (v := v) (by omega) (by omega)
   unfold GR at this
   rw [Int.toNat_natCast, hv] at this
   cases this
 ·intro h
  have h0 : (BitVec.ofInt 8 (a : Int) &&& ~~~BitVec.ofInt 8 (b : Int)) = (BitVec.ofNat 8 0) := by
   apply BitVec.eq_of_getLsbD_eq
   intro i hi
   rw [BitVec.getLsbD_and, BitVec.getLsbD_not]
   have e1 : (BitVec.ofInt 8 (a : Int)).getLsbD i = a.testBit i := by unfold BitVec.getLsbD; rw [hA]
   have e2 : (BitVec.ofInt 8 (b : Int)).getLsbD i = b.testBit i := by unfold BitVec.getLsbD; rw [hB]
   rw [e1, e2]
   have := h i
   cases h3 : a.testBit i
   ·simp
   ·rw [this h3]; simp
  have h2 : ∀ x : BitVec 8, x = (BitVec.ofNat 8 0) → (x.toNat : Int) = 0 := fun x hx => by rw [hx]; rfl
  exact h2 _ h0
theorem S1 : ∀ n : Fin 9, (∀ v : Fin 8, GR (IntKind.wrap .u8 (DD .u8 1 (n.val : Int) - 1)) v.val = decide (v.val < n.val)) ∧ 0 ≤ IntKind.wrap .u8 (DD .u8 1 (n.val : Int) - 1) ∧ IntKind.wrap .u8 (DD .u8 1 (n.val : Int) - 1) ≤ 255 := by decide +kernel
theorem Qd {n : Int} (h0 : 0 ≤ n) (h1 : n ≤ 8) : (∀ v, GR (IntKind.wrap .u8 (DD .u8 1 n - 1)) v = decide ((v : Int) < n)) ∧ 0 ≤ IntKind.wrap .u8 (DD .u8 1 n - 1) ∧ IntKind.wrap .u8 (DD .u8 1 n - 1) ≤ 255 := by
 obtain ⟨n, rfl⟩ := Int.eq_ofNat_of_zero_le h0
 have h := S1 ⟨n, by omega⟩
 refine ⟨fun v => ?_, h.2⟩
 by_cases hv : v < 8
 ·rw [h.1 ⟨v, hv⟩]; simp
 ·rw [Mt h.2.2 (by omega)]
  symm; apply decide_eq_false; omega
structure L2 (p : Al) (m : Ah) : Prop extends Kv p m where
 range : ∀ i, i < p.fTables.length → 0 ≤ m.fHeld.getD i 0 ∧ m.fHeld.getD i 0 ≤ 255
 low : ∀ i t, p.fTables[i]? = some t → Ee t = true → ∀ v, MA m t.fFrom.toNat v = true → GR (m.fHeld.getD i 0) v = true
 high : ∀ i t, p.fTables[i]? = some t → Ee t = true → ∀ v, GR (m.fHeld.getD i 0) v = true → (v : Int) < p.fVersions.getD t.fFrom.toNat 0
 none : ∀ i t, p.fTables[i]? = some t → Ee t = false → m.fHeld.getD i 0 = 0
theorem LS {p : Al} (hp : Gb p) {i : Nat} (hi : i < p.fVersions.length) : 1 ≤ p.fVersions.getD i 0 ∧ p.fVersions.getD i 0 ≤ 6 := by
 have := LI (i := (i : Int)) hp.ver (by omega) (by omega)
 simpa using this
theorem RH {p : Al} {m : Ah} (hp : Gb p) (hm : Kv p m) {s : Nat} (hs : s < p.fVersions.length) :
  (∀ v, GR (Kd m s) v = MA m s v) ∧ 0 ≤ Kd m s ∧ Kd m s ≤ 255 := by
 have h1 := hm.b0 s hs
 have h2 := hm.n0 s hs
 have h3 := LS hp hs
 exact ON h1.1 (by omega) (by omega)
theorem R6 {p : Al} {m : Ah} (hp : Gb p) (hm : Kv p m) {i : Nat} {t : AQ} (ht : p.fTables[i]? = some t) (hr : 0 ≤ m.fHeld.getD i 0 ∧ m.fHeld.getD i 0 ≤ 255) :
  Jr p m i t = none ↔ ((Ee t = true → (∀ v, MA m t.fFrom.toNat v = true → GR (m.fHeld.getD i 0) v = true) ∧ (∀ v, GR (m.fHeld.getD i 0) v = true → (v : Int) < p.fVersions.getD t.fFrom.toNat 0)) ∧ (Ee t = false → m.fHeld.getD i 0 = 0)) := by
 have hin := Pq (hp.tab t (List.mem_of_getElem? ht))
 have hrun := RH hp hm (s := t.fFrom.toNat) (by omega)
 have hver := LS hp (i := t.fFrom.toNat) (by omega)
 have hall := Qd (n := p.fVersions.getD t.fFrom.toNat 0) (by omega) (by omega)
 unfold Jr Sz
 have e1 := MC hrun.2 hr
 have e2 := MC hr hall.2
 cases hst : Ee t
 ·simp
 ·simp only [if_true, true_implies, Bool.true_eq_false, false_implies, and_true, ite_eq_right_iff, reduceCtorEq, imp_false, not_or, Decidable.not_not]
  rw [e1, e2]
  simp only [hrun.1, hall.1, decide_eq_true_eq]
theorem K4 {p : Al} {m : Ah} (hw : KY J4 m.fHeld) (h : IE p m = 0) : Gb p ∧ L2 p m := by
 unfold IE at h
 split at h
 ·rename_i k; exact (k h).elim
 ·rename_i k0
  have hp : Gb p := by
   rcases Ip p with h | h
   ·exact h.2
   ·omega
  split at h
  ·cases h
  ·rename_i k1
   have b1 : m.fBase.length = p.fVersions.length := Decidable.not_not.1 fun h => k1 (.inl h)
   have b2 : m.fNext.length = p.fVersions.length := Decidable.not_not.1 fun h => k1 (.inr (.inl h))
   have b3 : m.fHeld.length = p.fTables.length := Decidable.not_not.1 fun h => k1 (.inr (.inr h))
   cases hs : EQ (LG m) 0 p.fVersions with
   | some r =>
    obtain ⟨j, x, _, he⟩ := F4 hs
    rw [hs] at h
    unfold LG at he
    simp only [B8, Option.getD_some] at h
    split at he
    ·cases he; cases h
    ·split at he
     ·cases he; cases h
     ·cases he
   | none =>
    have hm := N1 b1 b2 b3 hs
    rw [hs] at h
    simp only [B8] at h
    cases ht : EQ (Jr p m) 0 p.fTables with
    | some r =>
     obtain ⟨j, x, _, he⟩ := F4 ht
     rw [ht] at h
     simp only [Option.getD_some] at h
     subst h
     unfold Jr at he
     split at he
     ·split at he <;> cases he
     ·split at he <;> cases he
    | none =>
     have hr : ∀ i, i < p.fTables.length → 0 ≤ m.fHeld.getD i 0 ∧ m.fHeld.getD i 0 ≤ 255 := fun i hi => IY (O4 hw (by omega))
     have key : ∀ i t, p.fTables[i]? = some t → _ := fun i t hi => (R6 hp hm hi (hr i (List.getElem?_eq_some_iff.1 hi).1)).1 (by have := HZ ht i t hi; rwa [Nat.zero_add] at this)
     exact ⟨hp, hm, hr, fun i t hi hst => ((key i t hi).1 hst).1, fun i t hi hst => ((key i t hi).1 hst).2, fun i t hi hst => (key i t hi).2 hst⟩
theorem Iv {α R : Type} {f : Nat → α → Option R} : ∀ {i : Nat} {xs : List α}, (∀ j x, xs[j]? = some x → f (i + j) x = none) → EQ f i xs = none
 | _, [], _ => rfl
 | i, y :: ys, h => by
  rw [IC, show f i y = none from h 0 y rfl]
  exact Iv fun j x hx => by
   have := h (j + 1) x (by simpa using hx)
   rwa [show i + (j + 1) = i + 1 + j from by omega] at this
theorem Ox {p : Al} (hp : Gb p) (hr : ∀ i, i < p.fVersions.length → 0 ≤ p.fNow.getD i 0 ∧ p.fNow.getD i 0 < p.fVersions.getD i 0 ∧ 0 ≤ p.fTarget.getD i 0 ∧ p.fTarget.getD i 0 < p.fVersions.getD i 0) : DT p = 0 := by
 have := hp.nv
 have := hp.nt
 have := hp.now
 have := hp.tgt
 unfold DT
 rw [if_neg (by omega), if_neg (by omega)]
 have h1 : EQ (Ga p) 0 p.fVersions = none := Iv fun j x hx => by
  have hj := (List.getElem?_eq_some_iff.1 hx).1
  have h1 := hr j hj
  have h2 := LS hp hj
  have e : p.fVersions.getD j 0 = x := by rw [List.getD_eq_getElem?_getD, hx]; rfl
  rw [e] at h1 h2
  unfold Ga
  rw [Nat.zero_add, if_neg (by omega)]
 have h2 : EQ (Lc p) 0 p.fTables = none := Iv fun j x hx => by
  unfold Lc
  rw [if_pos (hp.tab x (List.mem_of_getElem? hx))]
 rw [h1, h2]; rfl
theorem IP {p : Al} (h : DT p = 0) : Gb p ∧ ∀ i, i < p.fVersions.length → 0 ≤ p.fNow.getD i 0 ∧ p.fNow.getD i 0 < p.fVersions.getD i 0 ∧ 0 ≤ p.fTarget.getD i 0 ∧ p.fTarget.getD i 0 < p.fVersions.getD i 0 := by
 have hp : Gb p := by
  rcases Ip p with h | h
  ·exact h.2
  ·omega
 refine ⟨hp, fun i hi => ?_⟩
 have h1 := hp.nv
 have h2 := hp.nt
 have h3 := hp.now
 have h4 := hp.tgt
 unfold DT at h
 rw [if_neg (by omega), if_neg (by omega)] at h
 cases hs : EQ (Ga p) 0 p.fVersions with
 | some r =>
  obtain ⟨j, x, _, he⟩ := F4 hs
  rw [hs] at h
  unfold Ga at he
  split at he
  ·cases he; cases h
  ·cases he
 | none =>
  have hx : p.fVersions[i]? = some (p.fVersions.getD i 0) := by rw [List.getD_eq_getElem?_getD]; simp [hi]
  have := HZ hs i _ hx
  rw [Nat.zero_add] at this
  unfold Ga at this
  split at this
  ·cases this
  ·rename_i hn; omega
end Go.Lift

/- The conflicts of a mix: both implementations give one answer. -/
namespace Go.Lift
def hC (m : Ah) (t : AQ) (v : Nat) (ok : Bool) : Bool := MA m t.fTo.toNat v && ok
structure Tc (p : Al) (t : AQ) : Prop where
 kind : 1 ≤ t.fKind ∧ t.fKind ≤ 4
 aware : t.fAware = true → Ee t = false
 from0 : 0 ≤ t.fFrom ∧ t.fFrom < (p.fVersions.length : Int)
 to0 : 0 ≤ t.fTo ∧ t.fTo < (p.fVersions.length : Int)
 okL : (t.fOK.length : Int) = p.fVersions.getD t.fFrom.toNat 0
 okR : ∀ row, row ∈ t.fOK → (row.length : Int) = p.fVersions.getD t.fTo.toNat 0
 reL : t.fKind = 4 → (t.fRewrite.length : Int) = p.fVersions.getD t.fFrom.toNat 0
 reR : ∀ row, row ∈ t.fRewrite → (row.length : Int) = p.fVersions.getD t.fFrom.toNat 0
 reD : t.fKind = 4 → IL t.fRewrite = none
 reN : t.fKind ≠ 4 → t.fRewrite = []
theorem RE {p : Al} {t : AQ} (h : Eo p t = 0) : Tc p t := by
 unfold Eo at h
 split at h
 ·cases h
 rename_i h1
 split at h
 ·cases h
 rename_i h2
 simp only at h
 split at h
 ·cases h
 rename_i h3
 have h3 : sq t.fOK (p.fVersions.getD t.fFrom.toNat 0) (p.fVersions.getD t.fTo.toNat 0) = true := by simpa using h3
 have h3 := Ms h3
 have ha : t.fAware = true → Ee t = false := by
  intro ha
  unfold Ee
  rw [Bool.or_eq_false_iff, beq_eq_false_iff_ne, beq_eq_false_iff_ne]
  exact ⟨fun hk => h1 (.inr (.inr ⟨ha, .inl hk⟩)), fun hk => h1 (.inr (.inr ⟨ha, .inr hk⟩))⟩
 split at h
 ·rename_i h4
  split at h
  ·cases h
  rename_i h5
  have h5 : sq t.fRewrite (p.fVersions.getD t.fFrom.toNat 0) (p.fVersions.getD t.fFrom.toNat 0) = true := by simpa using h5
  have h5 := Ms h5
  refine ⟨by omega, ha, by omega, by omega, h3.1, h3.2, fun _ => h5.1, h5.2, fun _ => ?_, fun h => (h h4).elim⟩
  cases hd : IL t.fRewrite with
  | none => rfl
  | some r =>
   obtain ⟨j, x, _, hx⟩ := F4 hd
   rw [hd] at h
   split at hx
   ·cases hx
   ·cases hx; cases h
 ·rename_i h4
  split at h
  ·rename_i h5
   have h5 := List.eq_nil_of_length_eq_zero h5
   refine ⟨by omega, ha, by omega, by omega, h3.1, h3.2, fun h => (h4 h).elim, fun row hr => ?_, fun h => (h4 h).elim, fun _ => h5⟩
   rw [h5] at hr; cases hr
  ·cases h
end Go.Lift

/- The conflicts of a mix: both implementations give one answer. -/
namespace Go.Lift
end Go.Lift

/- The drafts: what the recipes give is a valid problem and a valid mix. -/
namespace Go.Lift
theorem H3 {A S R : Type} (L : Nat → S → Option R) (mk : A → Int → S) (len : Nat) (j : A → Option R) (I : Nat → A → Prop)
  (hs : ∀ (n i : Nat) (a : A), i < len → I i a → ∃ a', L (n + 1) (mk a (i : Int)) = L n (mk a' ((i + 1 : Nat) : Int)) ∧ I (i + 1) a')
  (he : ∀ (n : Nat) (a : A), I len a → L (n + 1) (mk a (len : Int)) = j a) :
  ∀ (n i : Nat) (a : A), i ≤ len → len - i < n → I i a → ∃ a', L n (mk a (i : Int)) = j a' ∧ I len a'
 | 0, i, _, _, h, _ => by omega
 | n + 1, i, a, hi, h, ha => by
  by_cases h1 : i < len
  ·obtain ⟨a', e1, e2⟩ := hs n i a h1 ha
   rw [e1]
   exact H3 L mk len j I hs he n (i + 1) _ (by omega) (by omega) e2
  ·have : i = len := by omega
   subst this
   exact ⟨a, he n a ha, ha⟩
theorem I6 {α : Type} {xs ys : List α} {i : Nat} {d : α} (h : i < xs.length) : (xs ++ ys).getD i d = xs.getD i d := by
 rw [List.getD_eq_getElem?_getD, List.getD_eq_getElem?_getD, List.getElem?_append_left h]
theorem I9 {α : Type} {xs : List α} {y : α} {i : Nat} {d : α} (h : i = xs.length) : (xs ++ [y]).getD i d = y := by
 subst h; rw [List.getD_eq_getElem?_getD, List.getElem?_append_right (Nat.le_refl _)]; simp
theorem GV {α : Type} {P : Nat → α → Prop} {xs : List α} {y : α} {d : α} {n : Nat} (hn : xs.length = n) (h : ∀ k, k < n → P k (xs.getD k d)) (hy : P n y) : ∀ k, k < n + 1 → P k ((xs ++ [y]).getD k d) := by
 intro k hk
 by_cases h1 : k < n
 ·rw [I6 (by omega)]; exact h k h1
 ·have : k = n := by omega
  subst this
  rw [I9 hn.symm]; exact hy
theorem PN (x : BitVec 8) : IntKind.wrap .u8 (x.toNat : Int) = (x.toNat : Int) := by
 have := x.isLt
 simp [IntKind.wrap, IntKind.signed, IntKind.bits]
 omega
theorem QL {a : Int} (h : 0 ≤ a ∧ a ≤ 255) : IntKind.wrap .u8 a = a := by
 simp [IntKind.wrap, IntKind.signed, IntKind.bits]
 omega
theorem JH {a : Nat} (h : a < 256) (i : Nat) : (BitVec.ofInt 8 (a : Int)).toNat.testBit i = a.testBit i := by rw [Ri h]
theorem Ss {a b : Int} (ha : 0 ≤ a ∧ a ≤ 255) (hb : 0 ≤ b ∧ b ≤ 255) : (∀ v, GR (Oy .u8 a b) v = (GR a v || GR b v)) ∧ 0 ≤ Oy .u8 a b ∧ Oy .u8 a b ≤ 255 := by
 obtain ⟨a, rfl⟩ := Int.eq_ofNat_of_zero_le ha.1
 obtain ⟨b, rfl⟩ := Int.eq_ofNat_of_zero_le hb.1
 have e : Oy .u8 (a : Int) (b : Int) = ((BitVec.ofInt 8 (a : Int) ||| BitVec.ofInt 8 (b : Int)).toNat : Int) := PN _
 have hlt := (BitVec.ofInt 8 (a : Int) ||| BitVec.ofInt 8 (b : Int)).isLt
 rw [e]
 refine ⟨fun v => ?_, by omega, by omega⟩
 unfold GR
 simp only [Int.toNat_natCast, BitVec.toNat_or, Nat.testBit_or]
 rw [JH (by omega), JH (by omega)]
theorem Rt {a b : Int} (ha : 0 ≤ a ∧ a ≤ 255) (hb : 0 ≤ b ∧ b ≤ 255) : (∀ v, GR (Gn .u8 a b) v = (GR a v && GR b v)) ∧ 0 ≤ Gn .u8 a b ∧ Gn .u8 a b ≤ 255 := by
 obtain ⟨a, rfl⟩ := Int.eq_ofNat_of_zero_le ha.1
 obtain ⟨b, rfl⟩ := Int.eq_ofNat_of_zero_le hb.1
 have e : Gn .u8 (a : Int) (b : Int) = ((BitVec.ofInt 8 (a : Int) &&& BitVec.ofInt 8 (b : Int)).toNat : Int) := PN _
 have hlt := (BitVec.ofInt 8 (a : Int) &&& BitVec.ofInt 8 (b : Int)).isLt
 rw [e]
 refine ⟨fun v => ?_, by omega, by omega⟩
 unfold GR
 simp only [Int.toNat_natCast, BitVec.toNat_and, Nat.testBit_and]
 rw [JH (by omega), JH (by omega)]
theorem KC {l : List Int} (hw : KY J4 l) (i : Nat) : 0 ≤ l.getD i 0 ∧ l.getD i 0 ≤ 255 := by
 by_cases h : i < l.length
 ·have : l.getD i 0 ∈ l := by rw [List.getD_eq_getElem?_getD, List.getElem?_eq_getElem h]; exact List.getElem_mem _
  exact IY (hw _ this)
 ·rw [List.getD_eq_getElem?_getD, List.getElem?_eq_none (by omega)]
  exact ⟨by decide, by decide⟩
theorem LK (N : Nat) {l : List Int} (hw : KY J4 l) (i : Nat) : DP N l (i : Int) = some (l.getD i 0) := by
 unfold DP
 have h2 := KC hw i
 by_cases h : i < l.length
 ·rw [BT (by omega), FL (d := 0) h]
  simp only [Option.bind_some]
  rw [Ex (by omega) (by omega)]
 ·rw [Bt (by omega), List.getD_eq_getElem?_getD, List.getElem?_eq_none (by omega)]; rfl
theorem Nr (N : Nat) {l : List Int} (hw : KY J4 l) (i : Nat) : Ej N l (i : Int) = some (l.getD i 0) := by
 unfold Ej
 have h2 := KC hw i
 by_cases h : i < l.length
 ·rw [BT (by omega), FL (d := 0) h]
  simp only [Option.bind_some]
  rw [Ex (by omega) (by omega)]
 ·rw [Bt (by omega), List.getD_eq_getElem?_getD, List.getElem?_eq_none (by omega)]; rfl
def Tt (n b : Int) : Int := Int.tmod b n
def Tr (n b k : Int) : Int := if 0 < Int.tmod k n then Int.tmod (Int.tmod b n + Int.tmod k n) n else -1
theorem E6 {a n : Int} (ha : 0 ≤ a) (hn : 0 < n) : 0 ≤ Int.tmod a n ∧ Int.tmod a n < n := ⟨Int.tmod_nonneg n ha, Int.tmod_lt_of_pos a hn⟩
theorem Q7 {n b k : Int} (hn : 0 < n) (hb : 0 ≤ b) (hk : 0 ≤ k) : (0 ≤ Tt n b ∧ Tt n b < n) ∧ (-1 ≤ Tr n b k ∧ Tr n b k < n) ∧ Tt n b ≠ Tr n b k := by
 unfold Tt Tr
 have h1 := E6 hb hn
 have h2 := E6 hk hn
 split
 ·rename_i h
  have h3 := E6 (a := Int.tmod b n + Int.tmod k n) (by omega) hn
  refine ⟨h1, by omega, fun he => ?_⟩
  generalize Int.tmod b n = x at *
  generalize Int.tmod k n = y at *
  rw [Int.tmod_eq_emod_of_nonneg (by omega)] at he
  by_cases hxy : x + y < n
  ·rw [Int.emod_eq_of_lt (by omega) hxy] at he; omega
  ·have : (x + y) % n = x + y - n := by
    rw [← Int.emod_eq_of_lt (show 0 ≤ x + y - n by omega) (show x + y - n < n by omega)]
    simp
   omega
 ·exact ⟨h1, by omega, by omega⟩
structure Wh (p : Al) (x : BV) (m : Ah) : Prop where
 bl : m.fBase.length = p.fVersions.length
 nl : m.fNext.length = p.fVersions.length
 hl : m.fHeld.length = p.fTables.length
 b : ∀ k, k < p.fVersions.length → m.fBase.getD k 0 = Tt (p.fVersions.getD k 0) (x.fBase.getD k 0)
 n : ∀ k, k < p.fVersions.length → m.fNext.getD k 0 = Tr (p.fVersions.getD k 0) (x.fBase.getD k 0) (x.fNext.getD k 0)
 r : ∀ k, k < p.fTables.length → 0 ≤ m.fHeld.getD k 0 ∧ m.fHeld.getD k 0 ≤ 255
 s : ∀ k t, p.fTables[k]? = some t → Ee t = true → ∀ v, GR (m.fHeld.getD k 0) v = (MA m t.fFrom.toNat v || (GR (x.fHeld.getD k 0) v && decide ((v : Int) < p.fVersions.getD t.fFrom.toNat 0)))
 z : ∀ k t, p.fTables[k]? = some t → Ee t = false → m.fHeld.getD k 0 = 0
def RC (p : Al) (x : BV) (bs ns : List Int) (k : Nat) (y : Int) : Prop :=
 ∀ t, p.fTables[k]? = some t → Ee t = true → ∀ v, GR y v = (MA ⟨bs, ns, []⟩ t.fFrom.toNat v || (GR (x.fHeld.getD k 0) v && decide ((v : Int) < p.fVersions.getD t.fFrom.toNat 0)))
def RW (p : Al) (k : Nat) (y : Int) : Prop := ∀ t, p.fTables[k]? = some t → Ee t = false → y = 0
theorem Ws (N : Nat) (p : Al) (x : BV) (hN : N ≤ 1000000) (h20 : 20 ≤ N) (hp : Gb p) (hw : Ft x) : ∃ m, Fk N p x = some m ∧ Wh p x m ∧ L2 p m := by
 obtain ⟨w1, w2, w3, _⟩ := hw
 have hnv := hp.nv
 have hnt := hp.nt
 unfold Fk
 obtain ⟨⟨bs, ns⟩, e, h1, h2, h3, h4⟩ := H3 (A := List Int × List Int) (C6 N p x fun v2 => Bo N p x v2 (fun v15 => some (Ah.mk v2.1 v2.2 v15)) N ([], 0)) (fun a k => (a.1, a.2, k)) p.fVersions.length
  (fun v2 => Bo N p x v2 (fun v15 => some (Ah.mk v2.1 v2.2 v15)) N ([], 0))
  (fun i a => a.1.length = i ∧ a.2.length = i ∧ (∀ k, k < i → a.1.getD k 0 = Tt (p.fVersions.getD k 0) (x.fBase.getD k 0)) ∧ (∀ k, k < i → a.2.getD k 0 = Tr (p.fVersions.getD k 0) (x.fBase.getD k 0) (x.fNext.getD k 0)))
  (fun n i a hi ha => by
   obtain ⟨bs, ns⟩ := a
   obtain ⟨h1, h2, h3, h4⟩ := ha
   simp only at h1 h2 h3 h4
   have hv := LS hp hi
   have hb := KC w1 i
   have hk := KC w2 i
   have m1 := E6 (n := p.fVersions.getD i 0) hb.1 (by omega)
   have m2 := E6 (n := p.fVersions.getD i 0) hk.1 (by omega)
   refine ⟨(bs ++ [Tt (p.fVersions.getD i 0) (x.fBase.getD i 0)], ns ++ [Tr (p.fVersions.getD i 0) (x.fBase.getD i 0) (x.fNext.getD i 0)]), ?_, ?_⟩
   ·rw [C6]
    simp only [EN]
    rw [BT (by omega), FL (d := 0) hi, LK N w1, LK N w2]
    simp only [Option.bind_some]
    rw [BD (by omega), BU (by omega), Ex (n := _ + _) (by omega) (by omega)]
    simp only [BD (show p.fVersions.getD i 0 ≠ 0 by omega)]
    have l1 : bs.length + ([Int.tmod (x.fBase.getD i 0) (p.fVersions.getD i 0)] : List Int).length ≤ Gf := by rw [h1]; unfold Gf; simp; omega
    have l2 : ∀ y : Int, ns.length + ([y] : List Int).length ≤ Gf := by intro y; rw [h2]; unfold Gf; simp; omega
    simp only [BD l1, BD (l2 _)]
    unfold Tt Tr
    by_cases h : 0 < Int.tmod (x.fNext.getD i 0) (p.fVersions.getD i 0)
    ·rw [BT h, if_pos h]
    ·rw [Bt h, if_neg h]
   ·refine ⟨by simp [h1], by simp [h2], GV (P := fun k y => y = _) h1 h3 rfl, GV (P := fun k y => y = _) h2 h4 rfl⟩)
  (fun n a _ => by
   rw [C6]
   simp only [EN]
   rw [Bt (by omega)]) N 0 ([], []) (Nat.zero_le _) (by omega) ⟨rfl, rfl, fun k hk => by omega, fun k hk => by omega⟩
 simp only at h1 h2 h3 h4
 have e' : C6 N p x (fun v2 => Bo N p x v2 (fun v15 => some (Ah.mk v2.1 v2.2 v15)) N ([], 0)) N ([], [], 0) = _ := e
 rw [e']
 have hrng : ∀ k, k < p.fVersions.length → (0 ≤ bs.getD k 0 ∧ bs.getD k 0 < p.fVersions.getD k 0) ∧ (-1 ≤ ns.getD k 0 ∧ ns.getD k 0 < p.fVersions.getD k 0) ∧ bs.getD k 0 ≠ ns.getD k 0 := by
  intro k hk
  rw [h3 k hk, h4 k hk]
  exact Q7 (by have := LS hp hk; omega) (KC w1 k).1 (KC w2 k).1
 obtain ⟨hs, e2, g1, g2, g3, g4⟩ := H3 (A := List Int) (Bo N p x (bs, ns) (fun v15 => some (Ah.mk bs ns v15))) (fun a k => (a, k)) p.fTables.length (fun v15 => some (Ah.mk bs ns v15))
  (fun i a => a.length = i ∧ (∀ k, k < i → 0 ≤ a.getD k 0 ∧ a.getD k 0 ≤ 255) ∧
   (∀ k, k < i → RC p x bs ns k (a.getD k 0)) ∧
   (∀ k, k < i → RW p k (a.getD k 0)))
  (fun n i a hi ha => by
   obtain ⟨k1, k2, k3, k4⟩ := ha
   have hx : p.fTables[i]? = some p.fTables[i] := by simp [hi]
   generalize p.fTables[i] = t at hx
   have ht := RE (hp.tab t (List.mem_of_getElem? hx))
   have hfr := ht.from0
   have hv := LS hp (i := t.fFrom.toNat) (by omega)
   have hr := hrng t.fFrom.toNat (by omega)
   have hrun := ON (m := ⟨bs, ns, a⟩) (s := t.fFrom.toNat) hr.1.1 (show bs.getD _ 0 < 8 by omega) (show ns.getD _ 0 < 8 by omega)
   have hall := Qd (n := p.fVersions.getD t.fFrom.toNat 0) (by omega) (by omega)
   have hh := KC w3 i
   have e1 := Rt hh hall.2
   have e2 := Ss hrun.2 e1.2
   cases hst : Ee t
   ·refine ⟨a ++ [0], ?_, by simp [k1], GV (P := fun _ y => 0 ≤ y ∧ y ≤ 255) k1 k2 (by omega), GV (P := RC p x bs ns) k1 k3 (fun t' ht' hs' => by rw [hx] at ht'; cases ht'; rw [hst] at hs'; cases hs'), GV (P := RW p) k1 k4 (fun _ _ _ => rfl)⟩
    rw [Bo]
    simp only [EN]
    rw [BT (by omega), Dj, hx]
    simp only [Option.bind_some, Je, hst, A7]
    rw [BD (by rw [k1]; unfold Gf; simp; omega), BU (by omega)]
   ·refine ⟨a ++ [Oy .u8 (Kd ⟨bs, ns, a⟩ t.fFrom.toNat) (Gn .u8 (x.fHeld.getD i 0) (IntKind.wrap .u8 (DD .u8 1 (p.fVersions.getD t.fFrom.toNat 0) - 1)))], ?_, by simp [k1], GV (P := fun _ y => 0 ≤ y ∧ y ≤ 255) k1 k2 e2.2, GV (P := RC p x bs ns) k1 k3 (fun t' ht' _ v => by
      rw [hx] at ht'; cases ht'
      rw [e2.1, e1.1, hall.1, hrun.1]; rfl), GV (P := RW p) k1 k4 (fun t' ht' hs' => by rw [hx] at ht'; cases ht'; rw [hst] at hs'; cases hs')⟩
    rw [Bo]
    simp only [EN]
    rw [BT (by omega), Dj, hx]
    simp only [Option.bind_some, Je, hst, Dh]
    rw [H0 (d := 0) hfr.1 hfr.2]
    simp only [Option.bind_some]
    rw [BD (by omega), MT N ⟨bs, ns, a⟩ t.fFrom hfr.1 (show _ < (bs.length : Int) by omega) (show _ < (ns.length : Int) by omega) hr.1.1, LK N w3]
    simp only [Option.bind_some]
    rw [BD (by rw [k1]; unfold Gf; simp; omega), BU (by omega), QL hh])
  (fun n a _ => by
   rw [Bo]
   simp only [EN]
   rw [Bt (by omega)]) N 0 [] (Nat.zero_le _) (by omega) ⟨rfl, fun k hk => by omega, fun k hk => by omega, fun k hk => by omega⟩
 have e2' : Bo N p x (bs, ns) (fun v15 => some (Ah.mk bs ns v15)) N ([], 0) = _ := e2
 refine ⟨⟨bs, ns, hs⟩, e2', ⟨h1, h2, g1, h3, h4, g2, fun k t ht hst => g3 k (List.getElem?_eq_some_iff.1 ht).1 t ht hst, fun k t ht hst => g4 k (List.getElem?_eq_some_iff.1 ht).1 t ht hst⟩, ?_⟩
 refine ⟨⟨h1, h2, g1, fun i hi => (hrng i hi).1, fun i hi => (hrng i hi).2.1, fun i hi => (hrng i hi).2.2⟩, g2, ?_, ?_, fun k t ht hst => g4 k (List.getElem?_eq_some_iff.1 ht).1 t ht hst⟩
 ·intro k t ht hst v hv
  rw [g3 k (List.getElem?_eq_some_iff.1 ht).1 t ht hst v]
  rw [show MA ⟨bs, ns, []⟩ t.fFrom.toNat v = true from hv]; rfl
 ·intro k t ht hst v hv
  have hin := (RE (hp.tab t (List.mem_of_getElem? ht))).from0
  have hr := hrng t.fFrom.toNat (by omega)
  have hv : GR (hs.getD k 0) v = true := hv
  rw [g3 k (List.getElem?_eq_some_iff.1 ht).1 t ht hst v] at hv
  simp only [Bool.or_eq_true, Bool.and_eq_true, decide_eq_true_eq, MA] at hv
  rcases hv with (h | h) | h
  ·omega
  ·omega
  ·exact h.2
end Go.Lift

/- The drafts of problems: what the recipe gives is a valid problem. -/
namespace Go.Lift
theorem Tn {l : List (List Bool)} {n m : Int} (h1 : (l.length : Int) = n) (h2 : ∀ row, row ∈ l → (row.length : Int) = m) : sq l n m = true := by
 unfold sq
 simp only [Bool.and_eq_true, decide_eq_true_eq, List.all_eq_true]
 exact ⟨h1, h2⟩
theorem Uj {p : Al} {t : AQ} (h : Tc p t) : Eo p t = 0 := by
 have hk := h.kind
 have hf := h.from0
 have ht := h.to0
 unfold Eo
 rw [if_neg, if_neg (by omega)]
 ·simp only [Tn h.okL h.okR]
  rw [if_neg (by simp)]
  by_cases h4 : t.fKind = 4
  ·rw [if_pos h4, Tn (h.reL h4) h.reR, if_neg (by simp), h.reD h4]; rfl
  ·rw [if_neg h4, h.reN h4]; rfl
 ·rintro (h1 | h1 | ⟨h1, h2⟩)
  ·omega
  ·omega
  ·have := h.aware h1
   unfold Ee at this
   rw [Bool.or_eq_false_iff, beq_eq_false_iff_ne, beq_eq_false_iff_ne] at this
   omega
theorem QM (N : Nat) (m bad : Int) (diag : Bool) (i : Nat) (acc : List (List Bool)) {R : Type} (j : List Bool → Option (List (List Bool))) (hN : N ≤ 1000000) (h20 : 20 ≤ N) (hm : 0 ≤ m ∧ m ≤ 6) (hi : i < 6) :
  ∃ row, CF N m bad diag (acc, (i : Int)) j N ([], 0) = j row ∧ (row.length : Int) = m ∧ (diag = true → (i : Int) < m → row.getD i false = true) := by
 obtain ⟨M, rfl⟩ := Int.eq_ofNat_of_zero_le hm.1
 obtain ⟨row, e, h1, h2⟩ := H3 (A := List Bool) (CF N (M : Int) bad diag (acc, (i : Int)) j) (fun a k => (a, k)) M j
  (fun k a => a.length = k ∧ ∀ q, q < k → diag = true → q = i → a.getD q false = true)
  (fun n k a hk ha => by
   refine ⟨a ++ [(diag && decide (i = k)) || (Int.tmod (E2 .u16 bad ((3 * i + k : Nat) : Int)) 2 == 0)], ?_, by simp [ha.1], GV (P := fun q y => diag = true → q = i → y = true) ha.1 ha.2 (fun h1 h2 => by simp [h1, h2])⟩
   rw [CF]
   simp only [EN]
   rw [BT (by omega), BU (by omega), Ex (n := 3 * (i : Int)) (by omega) (by omega), Ex (n := 3 * (i : Int) + (k : Int)) (by omega) (by omega)]
   have l1 : ∀ y : Bool, a.length + ([y] : List Bool).length ≤ Gf := by intro y; rw [ha.1]; unfold Gf; simp; omega
   simp only [BD (l1 _), BD (show (0 : Int) ≤ 3 * (i : Int) + (k : Int) by omega)]
   have e1 : ((3 * i + k : Nat) : Int) = 3 * (i : Int) + (k : Int) := by omega
   rw [e1]
   have e2 : (((i : Nat) : Int) == ((k : Nat) : Int)) = decide (i = k) := by
    by_cases h : i = k
    ·simp [h]
    ·rw [decide_eq_false h]; exact beq_eq_false_iff_ne.2 (by omega)
   rw [e2]
   cases diag <;> cases decide (i = k) <;> rfl)
  (fun n a _ => by
   rw [CF]
   simp only [EN]
   rw [Bt (by omega)]) N 0 [] (Nat.zero_le _) (by omega) ⟨rfl, fun q hq => by omega⟩
 exact ⟨row, e, by omega, fun hd hlt => h2 i (by omega) hd rfl⟩
theorem Qa (N : Nat) (n m bad : Int) (diag : Bool) (hN : N ≤ 1000000) (h20 : 20 ≤ N) (hn : 0 ≤ n ∧ n ≤ 6) (hm : 0 ≤ m ∧ m ≤ 6) :
  ∃ l, Ei N n m bad diag = some l ∧ (l.length : Int) = n ∧ (∀ row, row ∈ l → (row.length : Int) = m) ∧ (diag = true → n = m → IL l = none) := by
 obtain ⟨M, rfl⟩ := Int.eq_ofNat_of_zero_le hn.1
 unfold Ei
 obtain ⟨l, e, h1, h2⟩ := H3 (A := List (List Bool)) (CJ N (M : Int) m bad diag (fun v => some v)) (fun a k => (a, k)) M some
  (fun k a => a.length = k ∧ ∀ q, q < k → (((a.getD q []).length : Nat) : Int) = m ∧ (diag = true → (q : Int) < m → (a.getD q []).getD q false = true))
  (fun n k a hk ha => by
   obtain ⟨row, e, h1, h2⟩ := QM (R := Unit) N m bad diag k a (fun (v5 : List Bool) =>
    (Fu (a.length + (([v5] : List (List Bool))).length ≤ Gf)).bind fun _ =>
    CJ N (M : Int) m bad diag (fun v => some v) n (a ++ (([v5] : List (List Bool))), (IntKind.wrap .i64 ((k : Int) + 1)))) hN h20 hm (by omega)
   refine ⟨a ++ [row], ?_, by simp [ha.1], GV (P := fun q y => ((y.length : Nat) : Int) = m ∧ (diag = true → (q : Int) < m → y.getD q false = true)) ha.1 ha.2 ⟨h1, h2⟩⟩
   rw [CJ]
   simp only [EN]
   rw [BT (by omega), e, BD (by rw [ha.1]; unfold Gf; simp; omega), BU (by omega)])
  (fun n a _ => by
   rw [CJ]
   simp only [EN]
   rw [Bt (by omega)]) N 0 [] (Nat.zero_le _) (by omega) ⟨rfl, fun q hq => by omega⟩
 have key : ∀ q row, l[q]? = some row → l.getD q [] = row := fun q row hq => by rw [List.getD_eq_getElem?_getD, hq]; rfl
 refine ⟨l, e, by omega, fun row hr => ?_, fun hd hnm => ?_⟩
 ·obtain ⟨q, hq⟩ := List.mem_iff_getElem?.1 hr
  have := (h2 q (by have := (List.getElem?_eq_some_iff.1 hq).1; omega)).1
  rwa [key q row hq] at this
 ·unfold IL
  refine Iv fun q row hq => ?_
  have hlt := (List.getElem?_eq_some_iff.1 hq).1
  have := (h2 q (by omega)).2 hd (by omega)
  rw [key q row hq] at this
  rw [Nat.zero_add, this]; rfl
structure Th (p : Al) : Prop where
 valid : DT p = 0
 nv : p.fVersions.length ≤ 3
 nt : p.fTables.length ≤ 4
 v3 : ∀ v, v ∈ p.fVersions → v ≤ 3
theorem Qm {p q : Al} (h : p.fVersions = q.fVersions) (t : AQ) : Eo p t = Eo q t := by
 unfold Eo; rw [h]
theorem WE (N : Nat) (d : C0) (hN : N ≤ 1000000) (h20 : 20 ≤ N) (hw : Ge d) : ∃ p ok, Fm N d = some (p, ok) ∧ (ok = true → Th p) := by
 obtain ⟨w1, w2, w3, w4, _⟩ := hw
 unfold Fm
 simp only [EN]
 by_cases k1 : 3 < d.fVersions.length
 ·rw [BT (by omega)]; exact ⟨_, false, rfl, fun h => by cases h⟩
 by_cases k2 : 4 < d.fLinks.length
 ·rw [Bt (by omega), decide_eq_true (by omega : (4 : Int) < (d.fLinks.length : Int))]; exact ⟨_, false, rfl, fun h => by cases h⟩
 rw [Bt (by omega), decide_eq_false (by omega : ¬ (4 : Int) < (d.fLinks.length : Int)), A7]
 obtain ⟨⟨vs, ns, ts⟩, e, h1, h2, h3, h4⟩ := H3 (A := List Int × List Int × List Int) (C7 N d fun v5 => BH N d v5 (fun v16 => some (Al.mk v5.1 v5.2.1 v5.2.2 v16, true)) N ([], 0)) (fun a k => (a.1, a.2.1, a.2.2, k)) d.fVersions.length
  (fun v5 => BH N d v5 (fun v16 => some (Al.mk v5.1 v5.2.1 v5.2.2 v16, true)) N ([], 0))
  (fun i a => a.1.length = i ∧ a.2.1.length = i ∧ a.2.2.length = i ∧ (∀ k, k < i → (1 ≤ a.1.getD k 0 ∧ a.1.getD k 0 ≤ 3) ∧ (0 ≤ a.2.1.getD k 0 ∧ a.2.1.getD k 0 < a.1.getD k 0) ∧ (0 ≤ a.2.2.getD k 0 ∧ a.2.2.getD k 0 < a.1.getD k 0)))
  (fun n i a hi ha => by
   obtain ⟨vs, ns, ts⟩ := a
   obtain ⟨h1, h2, h3, h4⟩ := ha
   simp only at h1 h2 h3 h4
   have hv := KC w1 i
   have hb := KC w2 i
   have hk := KC w3 i
   have hm := E6 (n := 3) hv.1 (by omega)
   obtain ⟨v, hvd⟩ : ∃ v, v = 1 + Int.tmod (d.fVersions.getD i 0) 3 := ⟨_, rfl⟩
   have m1 := E6 (n := v) hb.1 (by omega)
   have m2 := E6 (n := v) hk.1 (by omega)
   refine ⟨(vs ++ [v], ns ++ [Int.tmod (d.fNow.getD i 0) v], ts ++ [Int.tmod (d.fTarget.getD i 0) v]), ?_, by simp [h1], by simp [h2], by simp [h3], ?_⟩
   ·rw [C7]
    simp only [EN]
    rw [BT (by omega), FL (d := 0) hi, Nr N w2, Nr N w3]
    simp only [Option.bind_some]
    rw [Ex (n := Int.tmod _ _) (by omega) (by omega), Ex (n := 1 + _) (by omega) (by omega), ← hvd, BU (by omega)]
    have l1 : ∀ y : Int, vs.length + ([y] : List Int).length ≤ Gf := by intro y; rw [h1]; unfold Gf; simp; omega
    have l2 : ∀ y : Int, ns.length + ([y] : List Int).length ≤ Gf := by intro y; rw [h2]; unfold Gf; simp; omega
    have l3 : ∀ y : Int, ts.length + ([y] : List Int).length ≤ Gf := by intro y; rw [h3]; unfold Gf; simp; omega
    simp only [BD (l1 _), BD (l2 _), BD (l3 _), BD (show v ≠ 0 by omega)]
   ·intro k hk
    simp only
    by_cases hki : k < i
    ·rw [I6 (by omega), I6 (by omega), I6 (by omega)]; exact h4 k hki
    ·have : k = i := by omega
     subst this
     rw [I9 h1.symm, I9 h2.symm, I9 h3.symm]
     omega)
  (fun n a _ => by
   rw [C7]
   simp only [EN]
   rw [Bt (by omega)]) N 0 ([], [], []) (Nat.zero_le _) (by omega) ⟨rfl, rfl, rfl, fun k hk => by omega⟩
 simp only at h1 h2 h3 h4
 have e' : C7 N d (fun v5 => BH N d v5 (fun v16 => some (Al.mk v5.1 v5.2.1 v5.2.2 v16, true)) N ([], 0)) N ([], [], [], 0) = _ := e
 rw [e']
 have hvs : ∀ v, v ∈ vs → 1 ≤ v ∧ v ≤ 3 := by
  intro v hv
  obtain ⟨q, hq⟩ := List.mem_iff_getElem?.1 hv
  have := (h4 q (by have := (List.getElem?_eq_some_iff.1 hq).1; omega)).1
  rwa [List.getD_eq_getElem?_getD, hq] at this
 have fin : ∀ tabs : List AQ, tabs.length ≤ 4 → (∀ t, t ∈ tabs → Eo ⟨vs, ns, ts, []⟩ t = 0) → Th ⟨vs, ns, ts, tabs⟩ := by
  intro tabs ht h
  have hp : Gb ⟨vs, ns, ts, tabs⟩ := ⟨show vs.length ≤ 6 by omega, show tabs.length ≤ 12 by omega, show ns.length = vs.length by omega, show ts.length = vs.length by omega, fun v hv => by have := hvs v hv; omega, fun t ht => by rw [← h t ht]; exact Qm rfl t⟩
  exact ⟨Ox hp fun i hi => by have := h4 i (by have : i < vs.length := hi; omega); simp only; omega, show vs.length ≤ 3 by omega, ht, fun v hv => (hvs v hv).2⟩
 by_cases k3 : vs.length = 0
 ·refine ⟨_, true, ?_, fun _ => fin [] (by simp) (fun t ht => by cases ht)⟩
  obtain ⟨M, rfl⟩ : ∃ M, N = M + 1 := ⟨N - 1, by omega⟩
  rw [BH]
  simp only [EN]
  rw [k3]
  by_cases k4 : (0 : Int) < (d.fLinks.length : Int)
  ·rw [BT k4]; rfl
  ·rw [Bt k4]; rfl
 obtain ⟨tabs, e2, g1, g2⟩ := H3 (A := List AQ) (BH N d (vs, ns, ts) (fun v16 => some (Al.mk vs ns ts v16, true))) (fun a k => (a, k)) d.fLinks.length (fun v16 => some (Al.mk vs ns ts v16, true))
  (fun i a => a.length = i ∧ ∀ t, t ∈ a → Eo ⟨vs, ns, ts, []⟩ t = 0)
  (fun n i a hi ha => by
   have hx : d.fLinks[i]? = some d.fLinks[i] := by simp [hi]
   generalize d.fLinks[i] = l at hx
   obtain ⟨u1, u2, u3, _, u5, u6, _⟩ := w4 l (List.mem_of_getElem? hx)
   have u1 := IY u1
   have u2 := IY u2
   have u3 := IY u3
   have mk := E6 (n := 4) u1.1 (by omega)
   have hL : (0 : Int) < (vs.length : Int) := by omega
   have mf := E6 (n := (vs.length : Int)) u2.1 hL
   have mt := E6 (n := (vs.length : Int)) u3.1 hL
   rw [BH]
   simp only [EN]
   rw [BT (by omega), decide_eq_true hL, Dh, Dj, hx]
   simp only [Option.bind_some]
   rw [BD (by omega), BD (by omega), Ex (n := l.fFrom) (by omega) (by omega), Ex (n := l.fTo) (by omega) (by omega), Ex (n := Int.tmod l.fKind 4) (by omega) (by omega), Ex (n := 1 + _) (by omega) (by omega), BU (by omega)]
   simp only [LC, Option.bind_some]
   rw [H0 (d := 0) mf.1 mf.2, H0 (d := 0) mt.1 mt.2]
   simp only [Option.bind_some]
   have hA : ∀ q : Int, 0 ≤ q → q < (vs.length : Int) → 1 ≤ vs.getD q.toNat 0 ∧ vs.getD q.toNat 0 ≤ 3 := fun q h0 h1 => (h4 q.toNat (by omega)).1
   have hf := hA _ mf.1 mf.2
   have ht := hA _ mt.1 mt.2
   obtain ⟨A, eA, a1, a2, _⟩ := Qa N (vs.getD (Int.tmod l.fFrom (vs.length : Int)).toNat 0) (vs.getD (Int.tmod l.fTo (vs.length : Int)).toNat 0) l.fBad false hN h20 (by omega) (by omega)
   obtain ⟨B, eB, b1, b2, b3⟩ := Qa N (vs.getD (Int.tmod l.fFrom (vs.length : Int)).toNat 0) (vs.getD (Int.tmod l.fFrom (vs.length : Int)).toNat 0) l.fLost true hN h20 (by omega) (by omega)
   rw [eA, eB]
   simp only [Option.bind_some]
   have l1 : ∀ y : AQ, a.length + ([y] : List AQ).length ≤ Gf := by intro y; rw [ha.1]; unfold Gf; simp; omega
   simp only [BD (l1 _)]
   obtain ⟨kd, hkd⟩ : ∃ kd, kd = 1 + Int.tmod l.fKind 4 := ⟨_, rfl⟩
   rw [← hkd]
   have fin2 : ∀ (aw : Bool) (re : List (List Bool)), (aw = true → (kd == 3 || kd == 4) = false) → ((kd = 4 → re = B) ∧ (kd ≠ 4 → re = [])) →
     Eo ⟨vs, ns, ts, []⟩ (AQ.mk kd (Int.tmod l.fFrom (vs.length : Int)) (Int.tmod l.fTo (vs.length : Int)) aw A re) = 0 := by
    intro aw re haw hre
    refine Uj ⟨show 1 ≤ kd ∧ kd ≤ 4 by omega, haw, mf, mt, a1, a2, fun h => by rw [hre.1 h]; exact b1, fun row hr => ?_, fun h => by rw [hre.1 h]; exact b3 rfl rfl, fun h => hre.2 h⟩
    by_cases h4 : kd = 4
    ·simp only at hr; rw [hre.1 h4] at hr; exact b2 row hr
    ·simp only at hr; rw [hre.2 h4] at hr; cases hr
   have app : ∀ t, Eo ⟨vs, ns, ts, []⟩ t = 0 → (a ++ [t]).length = i + 1 ∧ ∀ t', t' ∈ a ++ [t] → Eo ⟨vs, ns, ts, []⟩ t' = 0 := by
    intro t ht
    refine ⟨by simp [ha.1], fun t' ht' => ?_⟩
    rcases List.mem_append.1 ht' with h | h
    ·exact ha.2 t' h
    ·rw [List.mem_singleton.1 h]; exact ht
   by_cases h4 : kd = 4
   ·have e4 : (kd == 4) = true := beq_iff_eq.2 h4
    have hre : (kd = 4 → B = B) ∧ (kd ≠ 4 → B = []) := ⟨fun _ => rfl, fun h => (h h4).elim⟩
    rw [e4]
    simp only [Dh, Bool.or_true, Bool.not_true]
    cases l.fAware
    ·exact ⟨_, rfl, app _ (fin2 false B (fun h => by cases h) hre)⟩
    ·exact ⟨_, rfl, app _ (fin2 false B (fun h => by cases h) hre)⟩
   ·have e4 : (kd == 4) = false := beq_eq_false_iff_ne.2 h4
    have hre : (kd = 4 → ([] : List (List Bool)) = B) ∧ (kd ≠ 4 → ([] : List (List Bool)) = []) := ⟨fun h => (h4 h).elim, fun _ => rfl⟩
    rw [e4]
    simp only [A7, Bool.or_false]
    cases l.fAware
    ·exact ⟨_, rfl, app _ (fin2 false [] (fun h => by cases h) hre)⟩
    ·cases e3 : kd == 3
     ·exact ⟨_, rfl, app _ (fin2 true [] (fun _ => by rw [e3, e4]; rfl) hre)⟩
     ·exact ⟨_, rfl, app _ (fin2 false [] (fun h => by cases h) hre)⟩)
  (fun n a _ => by
   rw [BH]
   simp only [EN]
   rw [Bt (by omega), A7]) N 0 [] (Nat.zero_le _) (by omega) ⟨rfl, fun t ht => by cases ht⟩
 exact ⟨_, true, e2, fun _ => fin tabs (by omega) g2⟩
end Go.Lift

/- The mixes that result from aborts: both implementations give one list. -/
namespace Go.Lift
structure Qq (m x : Ah) : Prop where
 base : x.fBase = m.fBase
 held : x.fHeld = m.fHeld
 len : x.fNext.length = m.fNext.length
 next : ∀ q, q < m.fNext.length → x.fNext.getD q 0 = m.fNext.getD q 0 ∨ (0 ≤ m.fNext.getD q 0 ∧ x.fNext.getD q 0 = -1)
theorem Qq.refl (m : Ah) : Qq m m := ⟨rfl, rfl, rfl, fun _ _ => .inl rfl⟩
theorem Qq.trans {a b c : Ah} (h1 : Qq a b) (h2 : Qq b c) : Qq a c :=
 ⟨h2.base.trans h1.base, h2.held.trans h1.held, h2.len.trans h1.len, fun q hq => by
  have e1 := h1.next q hq
  have e2 := h2.next q (by rw [h1.len]; exact hq)
  omega⟩
theorem Nq (N : Nat) (l : List Int) (h : l.length ≤ Gf) : Bc N l = some l := by
 unfold Bc
 rw [BD (by simpa using h)]; rfl
theorem Qs (N : Nat) (l : List Int) (h : l.length ≤ Gf) : Bg N l = some l := by
 unfold Bg
 rw [BD (by simpa using h)]; rfl
end Go.Lift

/- Aborts, the first mix that is to blame, and robustness: both implementations give one answer. -/
namespace Go.Lift
theorem Ta {p : Al} {m : Ah} (hm : L2 p m) : KY J4 m.fHeld := by
 intro x hx
 obtain ⟨q, hq⟩ := List.mem_iff_getElem?.1 hx
 have h1 := (List.getElem?_eq_some_iff.1 hq).1
 have := hm.range q (by rw [← hm.held]; exact h1)
 rw [List.getD_eq_getElem?_getD, hq] at this
 unfold J4
 simp only [Option.getD_some] at this
 simp [Lit.wf, IntKind.min, IntKind.max, IntKind.signed, IntKind.bits]
 omega
def Ju : Ah := ⟨[], [], []⟩
end Go.Lift

/- The laws of the mixes in plain words: MixConflicts, MixAborts, MixAborted, MixGoal, MixValid. -/
namespace Go.Lift
theorem Pf {N : Nat} {a b : Ah} (hN : N ≤ 1000000) (h1 : a.fBase.length < N) (h2 : a.fNext.length < N) (h3 : a.fHeld.length < N) (h4 : b.fHeld.length < N) (wa : KY J4 a.fHeld) (wb : KY J4 b.fHeld) : Eh N a b = some (Qk a b) := by
 unfold Eh
 rw [MP h1 hN, MP h2 hN, L9 h3 hN wa, L9 h4 hN wb]
 simp only [Option.bind_some]
 rw [MP h3 hN]
 unfold Qk TI
 by_cases h1 : Iy a.fBase b.fBase = 0
 ·simp only [h1, TI]
  by_cases h2 : Iy a.fNext b.fNext = 0
  ·simp only [h2]
   by_cases h3 : Iy a.fHeld b.fHeld = 0 <;> simp [h3]
  ·have : (Iy a.fNext b.fNext != 0) = true := by simpa using h2
   simp [h2, this]
 ·have : (Iy a.fBase b.fBase != 0) = true := by simpa using h1
  simp [h1, this]
theorem Mf {N : Nat} {a : Ah} (hN : N ≤ 1000000) (h1 : a.fBase.length < N) (h2 : a.fNext.length < N) (h3 : a.fHeld.length < N) (wa : KY J4 a.fHeld) : Bz N a a = some true := by
 unfold Bz
 rw [Pf hN h1 h2 h3 h3 wa wa, NO]; rfl
theorem QD {N : Nat} {p : Al} {a : Ah} (hN : N ≤ 1000000) (h20 : 100 ≤ N) (hp : Gb p) (ha : L2 p a) : Bz N a a = some true := by
 have := hp.nv
 have := hp.nt
 exact Mf hN (by rw [ha.base]; omega) (by rw [ha.next]; omega) (by rw [ha.held]; omega) (Ta ha)
end Go.Lift

/- The laws of the mixes in plain words: MixGoal, MixValid. -/
namespace Go.Lift
end Go.Lift

/- The first mix in plain words, and the law MixStart. -/
namespace Go.Lift
open Go
end Go.Lift

/- Bits of sets of versions: or, and-not, the lowest bit. -/
namespace Go.Lift
open Go
end Go.Lift

/- Steps: both implementations give one answer. -/
namespace Go.Lift
open Go
def U1 (s : AH) : Bool := decide (1 ≤ s.fKind ∧ s.fKind ≤ 4 ∧ 0 ≤ s.fIndex ∧ 0 ≤ s.fVersion) && (s.fKind == 1 || s.fVersion == 0)
def U7 (p : Al) (s : AH) : Bool :=
 if s.fKind = 3 then decide (s.fIndex < (p.fTables.length : Int)) else decide (s.fIndex < (p.fVersions.length : Int)) && (s.fKind != 1 || decide (s.fVersion < p.fVersions.getD s.fIndex.toNat 0))
def WS (s : AH) (t : AQ) : Bool := t.fFrom == s.fIndex && Ee t
def WR (s : AH) (i : Nat) (t : AQ) (a : List Int) : List Int := if WS s t = true then a.set i (Oy .u8 (a.getD i 0) (DD .u8 1 s.fVersion)) else a
def T1 (p : Al) (s : AH) (held : List Int) : List Int := KJ (WR s) 0 p.fTables held
def UT (m : Ah) (t : AQ) (u : Nat) : Bool := (t.fRewrite.getD u []).getD (m.fBase.getD t.fFrom.toNat 0).toNat false
def Wd (m : Ah) (i : Nat) (t : AQ) (u : Nat) : Bool := GR (m.fHeld.getD i 0) u && !MA m t.fFrom.toNat u
def TJ (p : Al) (m : Ah) (i : Nat) (t : AQ) : Bool := t.fKind == 4 && (List.range 8).any fun u => Wd m i t u && !UT m t u
def Ul (p : Al) (m : Ah) (s : AH) : Option Ah :=
 let i := s.fIndex.toNat
 if s.fKind = 1 then (if 0 ≤ m.fNext.getD i 0 ∨ m.fBase.getD i 0 = s.fVersion then none else some ⟨m.fBase, m.fNext.set i s.fVersion, T1 p s m.fHeld⟩)
 else if s.fKind = 3 then match p.fTables[i]? with
  | none => none
  | some t => if Ee t = false ∨ m.fHeld.getD i 0 = Kd m t.fFrom.toNat ∨ TJ p m i t = true then none else some ⟨m.fBase, m.fNext, m.fHeld.set i (Kd m t.fFrom.toNat)⟩
 else if m.fNext.getD i 0 < 0 then none
 else some ⟨if s.fKind = 2 then m.fBase.set i (m.fNext.getD i 0) else m.fBase, m.fNext.set i (-1), m.fHeld⟩
def T5 (p : Al) (m : Ah) (s : AH) : Ah × Int :=
 if U1 s = false then (Ju, 1) else if U7 p s = false then (Ju, 4) else match Ul p m s with
  | none => (Ju, 11)
  | some x => (x, 0)
end Go.Lift

/- Steps: clearing, and the whole of Apply. -/
namespace Go.Lift
open Go
section clear
variable {p : Al} {m : Ah} {i : Nat} {t : AQ}
end clear
end Go.Lift

/- Apply: both implementations give applyP; a step leads from a valid mix to a valid mix. -/
namespace Go.Lift
open Go
end Go.Lift

/- A step leads from a valid mix to a valid mix; Apply of both implementations. -/
namespace Go.Lift
open Go
end Go.Lift

/- Failure and Check: both implementations give one answer; the laws PlanCheck and PlanFailure. -/
namespace Go.Lift
open Go
section
variable {N : Nat} {p : Al} {l : List AH}
end
end Go.Lift

/- The law PlanErrors in plain words. -/
namespace Go.Lift
open Go
end Go.Lift

/- Trim: both implementations give one list. -/
namespace Go.Lift
open Go
end Go.Lift

/- A plan without a step: what can be left out. -/
namespace Go.Lift
open Go
structure Ut (p : Al) (m x : Ah) : Prop where
 base : m.fBase = x.fBase
 next : m.fNext = x.fNext
 held : ∀ i, i < p.fTables.length → ∀ v, GR (m.fHeld.getD i 0) v = true → GR (x.fHeld.getD i 0) v = true
theorem Ut.refl (p : Al) (m : Ah) : Ut p m m := ⟨rfl, rfl, fun _ _ _ h => h⟩
theorem Ut.trans {p : Al} {a b c : Ah} (h : Ut p a b) (g : Ut p b c) : Ut p a c := ⟨h.base.trans g.base, h.next.trans g.next, fun i hi v hv => g.held i hi v (h.held i hi v hv)⟩
end Go.Lift

/- A step between two mixes; openings and closings; the law PlanTrim. -/
namespace Go.Lift
open Go
end Go.Lift

/- The law PlanTrim in plain words. -/
namespace Go.Lift
open Go
end Go.Lift

/- The keys of mixes. -/
namespace Go.Lift
open Go
end Go.Lift

/- Keys tell mixes. -/
namespace Go.Lift
open Go
end Go.Lift

/- The possible steps of a mix, in order: both implementations. -/
namespace Go.Lift
open Go
end Go.Lift

/- Enabled: the possible steps. -/
namespace Go.Lift
open Go
end Go.Lift

/- Enabled gives the possible steps. -/
namespace Go.Lift
open Go
end Go.Lift

/- The reference's list of possible steps is the same. -/
namespace Go.Lift
open Go
end Go.Lift

/- Breadth-first search in plain Lean: the ways that it finds are the least ones, by length and then by the ranks of their steps. No condition. -/
namespace Go.Lift
namespace Bfs
section
variable {α σ : Type}
def code (rk : σ → Nat) (K : Nat) (w : List σ) : Nat := w.foldl (fun c s => c * K + rk s) 0
def V5 (rk : σ → Nat) (K : Nat) (w : List σ) : Prop := ∀ s, s ∈ w → 1 ≤ rk s ∧ rk s ≤ K
theorem V5.snoc {rk : σ → Nat} {K : Nat} {w : List σ} {s : σ} (h : V5 rk K w) (hs : 1 ≤ rk s ∧ rk s ≤ K) : V5 rk K (w ++ [s]) := by
 intro x hx; rcases List.mem_append.1 hx with h1 | h1
 ·exact h x h1
 ·rw [List.mem_singleton.1 h1]; exact hs
abbrev Nd (α σ : Type) := α × Int × σ
def put [DecidableEq α] (i : Nat) (l : List (Nd α σ)) (q : σ × α) : List (Nd α σ) := if (l.any fun n => decide (n.1 = q.2)) = true then l else l ++ [(q.2, (i : Int), q.1)]
def Rb [DecidableEq α] (most i : Nat) : List (σ × α) → List (Nd α σ) → Option (List (Nd α σ))
 | [], l => some l
 | q :: qs, l => if most < (put i l q).length then none else Rb most i qs (put i l q)
def go [DecidableEq α] (nxt : α → List (σ × α)) (most : Nat) : Nat → Nat → List (Nd α σ) → Option (List (Nd α σ))
 | 0, _, _ => none
 | n + 1, i, l => match l[i]? with
  | none => some l
  | some nd => (Rb most i (nxt nd.1) l).bind fun l' => go nxt most n (i + 1) l'
def run (nxt : α → List (σ × α)) (x : α) : List σ → α → Prop
 | [], y => y = x
 | s :: w, y => ∃ z, (s, z) ∈ nxt x ∧ run nxt z w y
theorem IU {nxt : α → List (σ × α)} : ∀ {u w : List σ} {x y : α}, run nxt x (u ++ w) y ↔ ∃ z, run nxt x u z ∧ run nxt z w y
 | [], w, x, y => by simp [run]
 | s :: u, w, x, y => by
  simp only [List.cons_append, run]
  constructor
  ·rintro ⟨z, h1, h2⟩
   obtain ⟨z', h3, h4⟩ := IU.1 h2
   exact ⟨z', ⟨z, h1, h3⟩, h4⟩
  ·rintro ⟨z', ⟨z, h1, h3⟩, h4⟩
   exact ⟨z, h1, IU.2 ⟨z', h3, h4⟩⟩
end
end Bfs
end Go.Lift

/- The region of a mix: the reference's list of nodes is the breadth-first search. -/
namespace Go.Lift
open Go
theorem O8 : ∀ {l : List Int}, TI l = 0 → ∀ x, x ∈ l → x = 0
 | [], _, x, hx => by cases hx
 | y :: ys, h, x, hx => by
  unfold TI at h
  split at h
  ·rename_i hy
   rcases List.mem_cons.1 hx with rfl | hx
   ·exact hy
   ·exact O8 h x hx
  ·rename_i hy; exact absurd h hy
theorem Qv {a b : Ah} (h : Qk a b = 0) : a = b := by
 have := O8 h
 have h1 := Mq _ _ (this (Iy a.fBase b.fBase) (by simp))
 have h2 := Mq _ _ (this (Iy a.fNext b.fNext) (by simp))
 have h3 := Mq _ _ (this (Iy a.fHeld b.fHeld) (by simp))
 cases a; cases b; simp only at h1 h2 h3; subst h1; subst h2; subst h3; rfl
instance WK : DecidableEq Ah := fun a b => if h : Qk a b = 0 then isTrue (Qv h) else isFalse (fun e => h (by rw [e]; exact NO b))
end Go.Lift

/- The region of a mix: the reference's whole list. -/
namespace Go.Lift
open Go
end Go.Lift

/- The region of a mix: the program's list of nodes is the same. -/
namespace Go.Lift
open Go
end Go.Lift

/- Ways to goals: From and Find, both implementations. -/
namespace Go.Lift
open Go
end Go.Lift

/- The laws PlanFind, PlanFrom, PlanShortest. -/
namespace Go.Lift
open Go
end Go.Lift

/- The law PlanRest. -/
namespace Go.Lift
open Go
end Go.Lift

/- The blocks of mixes, both implementations. -/
namespace Go.Lift
open Go
theorem NV : EJ 1000 = some true := by kernel_rfl
def Mh (p : Al) (_ : Nat) (m : Ah) : Option Int := if IE p m = 0 then none else some (IE p m)
def Mm (p : Al) (l : List Ah) : Int := if DT p ≠ 0 then DT p else (EQ (Mh p) 0 l).getD 0
theorem Pi (N : Nat) (hN : N ≤ 1000000) (h20 : 100 ≤ N) (p : Al) (l : List Ah) (hl : l.length < N) : EF N p l = some (Mm p l) := by
 unfold EF
 rw [KU N p hN (by omega)]
 simp only [Option.bind_some]
 unfold Mm
 by_cases hv : DT p = 0
 ·rw [hv, bne_self_eq_false, A7, if_neg (by simp)]
  have := EM (Cv N p l fun _ => some 0) l (some 0) (Mh p)
   (fun n i m hm => by
    have hi := (List.getElem?_eq_some_iff.1 hm).1
    rw [Cv, BT (by omega), Dj, hm]
    simp only [Option.bind_some]
    rw [N8 N p m hN (by omega), BU (by omega)]
    simp only [Option.bind_some]
    unfold Mh
    by_cases h : IE p m = 0
    ·rw [h, bne_self_eq_false, A7, if_pos rfl]; rfl
    ·rw [bne_iff_ne.2 h, Dh, if_neg h]; rfl)
   (fun n => by rw [Cv, Bt (by simp)]) N 0 (Nat.zero_le _) (by omega)
  have e : Cv N p l (fun _ => some 0) N 0 = _ := this
  rw [e, List.drop_zero]
  cases EQ (Mh p) 0 l <;> rfl
 ·rw [bne_iff_ne.2 hv, Dh, if_pos hv]
theorem Oc {p : Al} {l : List Ah} (h : Mm p l = 0) : DT p = 0 ∧ ∀ m, m ∈ l → IE p m = 0 := by
 unfold Mm at h
 by_cases hv : DT p = 0
 ·refine ⟨hv, fun m hm => ?_⟩
  rw [if_neg (by simp [hv])] at h
  obtain ⟨j, hj⟩ := List.mem_iff_getElem?.1 hm
  cases hs : EQ (Mh p) 0 l with
  | none =>
   have := HZ hs j m hj
   unfold Mh at this
   split at this
   ·assumption
   ·cases this
  | some r =>
   rw [hs] at h
   obtain ⟨k, x, _, hr⟩ := F4 hs
   unfold Mh at hr
   split at hr
   ·cases hr
   ·rename_i hne
    cases hr; exact absurd h hne
 ·rw [if_pos hv] at h; exact absurd h hv
end Go.Lift

/- The nearest mix, both implementations. -/
namespace Go.Lift
open Go
def UW (p : Al) (m : Ah) (s : Nat) : Bool := m.fBase.getD s 0 == p.fTarget.getD s 0 && decide (m.fNext.getD s 0 < 0)
def Mk (p : Al) (m : Ah) (k : Nat) : Nat := ((List.range k).filter (UW p m)).length
theorem NK (p : Al) (m : Ah) (k : Nat) : Mk p m (k + 1) = Mk p m k + if UW p m k = true then 1 else 0 := by
 unfold Mk
 rw [List.range_succ, List.filter_append, List.length_append]
 cases h : UW p m k <;> simp [h]
theorem PY (p : Al) (m : Ah) (k : Nat) : Mk p m k ≤ k := by
 unfold Mk
 exact Nat.le_trans (List.length_filter_le _ _) (by simp)
def QA (p : Al) (m : Ah) : Int := (Mk p m p.fTarget.length : Int)
theorem SX (N : Nat) (h20 : 100 ≤ N) {p : Al} {m : Ah} (hp : Gb p) (hm : L2 p m) (j : Int → Option (Int × Ah × Int)) : Ct N p m j N (0, 0) = j (QA p m) := by
 have hnv := hp.nv
 have h1 := hm.base
 have h2 := hm.next
 have h3 := hp.tgt
 obtain ⟨a, e, ha⟩ := H3 (Ct N p m j) (fun (a i : Int) => (a, i)) p.fTarget.length j (fun i a => a = (Mk p m i : Int))
  (fun n i a hi ha => by
   subst ha
   rw [Ct, BT (by simp only; omega)]
   simp only [EN]
   rw [FL (d := 0) hi]
   simp only [Option.bind_some]
   rw [FL (d := 0) (show i < m.fBase.length by omega)]
   simp only [Option.bind_some]
   rw [BU (show i < 1000000 by omega)]
   have hc := PY p m i
   have hs := NK p m i
   unfold UW at hs
   cases hb : m.fBase.getD i 0 == p.fTarget.getD i 0
   ·rw [hb] at hs
    rw [A7, A7]
    exact ⟨_, rfl, by rw [hs]; simp⟩
   ·rw [hb] at hs
    rw [Dh, FL (d := 0) (show i < m.fNext.length by omega)]
    simp only [Option.bind_some]
    by_cases hn : m.fNext.getD i 0 < 0
    ·rw [decide_eq_true hn] at hs ⊢
     rw [Dh, BU (show Mk p m i < 1000000 by omega)]
     exact ⟨_, rfl, by rw [hs]; simp⟩
    ·rw [decide_eq_false hn] at hs ⊢
     rw [A7]
     exact ⟨_, rfl, by rw [hs]; simp⟩)
  (fun n a ha => by rw [Ct, Bt (by simp)]) N 0 0 (Nat.zero_le _) (by omega) (by simp [Mk])
 have e' : Ct N p m j N (0, 0) = _ := e
 rw [e', ha]; rfl
theorem OD (N : Nat) (h20 : 100 ≤ N) {p : Al} {m : Ah} (hp : Gb p) (hm : L2 p m) {l : List Ah} {q : Nat} (hq : l[q]? = some m) (x y : Int) (j : Int → Option (Int × Ah × Int)) : Br N p l (x, y, (q : Int)) j N (0, 0) = j (QA p m) := by
 have hnv := hp.nv
 have h1 := hm.base
 have h2 := hm.next
 have h3 := hp.tgt
 obtain ⟨a, e, ha⟩ := H3 (Br N p l (x, y, (q : Int)) j) (fun (a i : Int) => (a, i)) p.fTarget.length j (fun i a => a = (Mk p m i : Int))
  (fun n i a hi ha => by
   subst ha
   rw [Br, BT (by simp only; omega)]
   simp only [EN, Dj, hq, Option.bind_some]
   have e2 : m.fNext[i]? = some (m.fNext.getD i 0) := by
    have := FL (d := 0) (show i < m.fNext.length by omega); rwa [Dj] at this
   have e1 : m.fBase[i]? = some (m.fBase.getD i 0) := by
    have := FL (d := 0) (show i < m.fBase.length by omega); rwa [Dj] at this
   have e3 : p.fTarget[i]? = some (p.fTarget.getD i 0) := by
    have := FL (d := 0) hi; rwa [Dj] at this
   rw [e2]
   simp only [Option.bind_some]
   rw [BU (show i < 1000000 by omega)]
   have hc := PY p m i
   have hs := NK p m i
   unfold UW at hs
   by_cases hn : m.fNext.getD i 0 < 0
   ·rw [decide_eq_true hn] at hs ⊢
    rw [Dh, e1]
    simp only [Option.bind_some]
    rw [e3]
    simp only [Option.bind_some]
    cases hb : m.fBase.getD i 0 == p.fTarget.getD i 0
    ·rw [hb] at hs
     rw [A7]
     exact ⟨_, rfl, by rw [hs]; simp⟩
    ·rw [hb] at hs
     rw [Dh, BU (show Mk p m i < 1000000 by omega)]
     exact ⟨_, rfl, by rw [hs]; simp⟩
   ·rw [decide_eq_false hn] at hs ⊢
    rw [A7, A7]
    exact ⟨_, rfl, by rw [hs]; simp⟩)
  (fun n a ha => by rw [Br, Bt (by simp)]) N 0 0 (Nat.zero_le _) (by omega) (by simp [Mk])
 have e' : Br N p l (x, y, (q : Int)) j N (0, 0) = _ := e
 rw [e', ha]; rfl
def J8 (p : Al) (i : Nat) (m : Ah) (a : Int × Int) : Int × Int := if a.1 < QA p m then (QA p m, (i : Int)) else a
theorem PM (p : Al) : ∀ (l : List Ah) (i : Nat) (a : Int × Int), (KJ (J8 p) i l a).2 = a.2 ∨ ∃ k : Nat, i ≤ k ∧ k < i + l.length ∧ (KJ (J8 p) i l a).2 = (k : Int)
 | [], i, a => .inl rfl
 | m :: l, i, a => by
  rw [KJ]
  rcases PM p l (i + 1) (J8 p i m a) with h | ⟨k, h1, h2, h3⟩
  ·rw [h]
   unfold J8
   split
   ·exact .inr ⟨i, Nat.le_refl _, by simp, rfl⟩
   ·exact .inl rfl
  ·exact .inr ⟨k, by omega, by simp only [List.length_cons]; omega, h3⟩
theorem NF (N : Nat) (hN : N ≤ 1000000) (h20 : 100 ≤ N) {p : Al} (hv : DT p = 0) (l : List Ah) (hl : l.length ≤ 1000) (hw : ∀ m, m ∈ l → KY J4 m.fHeld) (j : Int × Int → Option (Int × Ah × Int)) : ∀ (n i : Nat) (a : Int × Int), i ≤ l.length → l.length - i < n →
  D6 N p l j n (a.1, a.2, (i : Int)) = match EQ (Mh p) i (l.drop i) with
   | some e => some (0, Ju, e)
   | none => j (KJ (J8 p) i (l.drop i) a)
 | 0, i, a, _, h => by omega
 | n + 1, i, a, hi, h => by
  obtain ⟨hp, _⟩ := IP hv
  rw [D6]
  by_cases h1 : i < l.length
  ·have hm : l[i]? = some l[i] := by simp [h1]
   have hmm := List.mem_of_getElem? hm
   rw [BT (by simp only; omega)]
   simp only [EN, Dj, hm, Option.bind_some]
   rw [Oi N p _ hN (by omega) (hw _ hmm), Iz hm, IC, KJ]
   simp only [Option.bind_some]
   unfold Mh
   by_cases hvm : IE p l[i] = 0
   ·rw [if_pos hvm, hvm, bne_self_eq_false, A7]
    have hmo := (K4 (hw _ hmm) hvm).2
    rw [SX N h20 hp hmo, BU (by omega)]
    have ih := NF N hN h20 hv l hl hw j n (i + 1) (J8 p i l[i] a) (by omega) (by omega)
    unfold J8 at ih ⊢
    by_cases hb : a.1 < QA p l[i]
    ·rw [if_pos hb] at ih ⊢
     rw [BT hb]; exact ih
    ·rw [if_neg hb] at ih ⊢
     rw [Bt hb]; exact ih
   ·rw [if_neg hvm, bne_iff_ne.2 hvm, Dh]; rfl
  ·have : i = l.length := by omega
   subst this
   rw [Bt (by simp), List.drop_eq_nil_of_le (Nat.le_refl _)]; rfl
theorem KF (N : Nat) (hN : N ≤ 1000000) (h20 : 100 ≤ N) {p : Al} (hv : DT p = 0) (l : List Ah) (hl : l.length ≤ 1000) (hm : ∀ m, m ∈ l → L2 p m) (j : Int × Int → Option (Int × Ah × Int)) : ∀ (n i : Nat) (a : Int × Int), i ≤ l.length → l.length - i < n →
  C9 N p l j n (a.1, a.2, (i : Int)) = j (KJ (J8 p) i (l.drop i) a)
 | 0, i, a, _, h => by omega
 | n + 1, i, a, hi, h => by
  obtain ⟨hp, _⟩ := IP hv
  rw [C9]
  by_cases h1 : i < l.length
  ·have hx : l[i]? = some l[i] := by simp [h1]
   rw [BT (by simp only; omega)]
   simp only [EN]
   rw [OD N h20 hp (hm _ (List.mem_of_getElem? hx)) hx, Iz hx, KJ, BU (by omega)]
   have ih := KF N hN h20 hv l hl hm j n (i + 1) (J8 p i l[i] a) (by omega) (by omega)
   unfold J8 at ih ⊢
   by_cases hb : a.1 < QA p l[i]
   ·rw [if_pos hb] at ih ⊢
    rw [BT hb]; exact ih
   ·rw [if_neg hb] at ih ⊢
    rw [Bt hb]; exact ih
  ·have : i = l.length := by omega
   subst this
   rw [Bt (by simp), List.drop_eq_nil_of_le (Nat.le_refl _)]; rfl
def OS (p : Al) (l : List Ah) : Int × Int := KJ (J8 p) 0 l (-1, 0)
def MR (p : Al) (l : List Ah) : Int × Ah × Int :=
 if DT p ≠ 0 then (0, Ju, DT p) else if l.length = 0 then (0, Ju, 10) else if Mm p l ≠ 0 then (0, Ju, Mm p l) else ((OS p l).1, l.getD (OS p l).2.toNat Ju, 0)
theorem Mv {p : Al} {l : List Ah} (h : l.length ≠ 0) : ∃ k : Nat, (OS p l).2 = (k : Int) ∧ k < l.length := by
 rcases PM p l 0 (-1, 0) with h1 | ⟨k, h1, h2, h3⟩
 ·exact ⟨0, h1, by omega⟩
 ·exact ⟨k, h3, by omega⟩
theorem Px (N : Nat) (hN : N ≤ 1000000) (h20 : 100 ≤ N) (p : Al) (l : List Ah) (hl : l.length < N) (hl2 : l.length ≤ 1000) (hw : ∀ m, m ∈ l → KY J4 m.fHeld) : DR N p l = some (MR p l) := by
 unfold DR MR
 rw [Lb N p hN (by omega)]
 simp only [Option.bind_some]
 by_cases hv : DT p = 0
 ·rw [hv, bne_self_eq_false, A7, if_neg (by simp)]
  by_cases h0 : l.length = 0
  ·rw [if_pos h0, show ((l.length : Int) == 0) = true from by rw [h0]; rfl, Dh]; rfl
  ·rw [if_neg h0, show ((l.length : Int) == 0) = false from beq_eq_false_iff_ne.2 (by omega), A7]
   obtain ⟨hp, _⟩ := IP hv
   have e := NF N hN h20 hv l hl2 hw (fun (v5 : Int × Int) =>
    (A5 l v5.2).bind fun v22 =>
    (Bc N v22.fBase).bind fun v23 =>
    (Bc N v22.fNext).bind fun v24 =>
    (Bg N v22.fHeld).bind fun v25 =>
    some (v5.1, (Ah.mk v23 v24 v25), 0)) N 0 (-1, 0) (Nat.zero_le _) (by omega)
   refine Eq.trans e ?_
   rw [List.drop_zero]
   have her : Mm p l = (EQ (Mh p) 0 l).getD 0 := by unfold Mm; rw [if_neg (by simp [hv])]
   cases hs : EQ (Mh p) 0 l with
   | some r =>
    rw [hs] at her
    have hne : Mm p l ≠ 0 := by
     rw [her]
     obtain ⟨k, x, _, hr⟩ := F4 hs
     unfold Mh at hr
     split at hr
     ·cases hr
     ·rename_i hne; cases hr; exact hne
    rw [if_pos hne, her]; rfl
   | none =>
    rw [hs] at her
    have h00 : Mm p l = 0 := her
    rw [if_neg (by simp [h00])]
    obtain ⟨_, hall⟩ := Oc h00
    obtain ⟨k, hk, hkl⟩ := Mv (p := p) h0
    have hm : l[k]? = some l[k] := by simp [hkl]
    have hmo := (K4 (hw _ (List.mem_of_getElem? hm)) (hall _ (List.mem_of_getElem? hm))).2
    have hnv := hp.nv
    have hnt := hp.nt
    show (A5 l (OS p l).2).bind _ = _
    rw [hk, Dj, hm]
    simp only [Option.bind_some, Int.toNat_natCast]
    rw [Nq N _ (by rw [hmo.base]; simp [Gf]; omega)]
    simp only [Option.bind_some]
    rw [Nq N _ (by rw [hmo.next]; simp [Gf]; omega)]
    simp only [Option.bind_some]
    rw [Qs N _ (by rw [hmo.held]; simp [Gf]; omega)]
    simp only [Option.bind_some]
    rw [List.getD_eq_getElem?_getD, hm]; rfl
 ·rw [bne_iff_ne.2 hv, Dh, if_pos hv]; rfl
theorem MO (N : Nat) (hN : N ≤ 1000000) (h20 : 100 ≤ N) (p : Al) (l : List Ah) (hl : l.length < N) (hl2 : l.length ≤ 1000) (hw : ∀ m, m ∈ l → KY J4 m.fHeld) : Db N p l = some (MR p l) := by
 unfold Db MR
 rw [KU N p hN (by omega)]
 simp only [Option.bind_some]
 by_cases hv : DT p = 0
 ·rw [hv, bne_self_eq_false, A7, if_neg (by simp)]
  by_cases h0 : l.length = 0
  ·rw [if_pos h0, show ((l.length : Int) == 0) = true from by rw [h0]; rfl, Dh]; rfl
  ·rw [if_neg h0, show ((l.length : Int) == 0) = false from beq_eq_false_iff_ne.2 (by omega), A7]
   rw [Pi N hN h20 p l hl]
   simp only [Option.bind_some]
   by_cases h00 : Mm p l = 0
   ·rw [h00, bne_self_eq_false, A7, if_neg (by simp)]
    obtain ⟨_, hall⟩ := Oc h00
    have e := KF N hN h20 hv l hl2 (fun m hm => (K4 (hw m hm) (hall m hm)).2) (fun (v7 : Int × Int) =>
     (A5 l v7.2).bind fun v23 =>
     some (v7.1, v23, 0)) N 0 (-1, 0) (Nat.zero_le _) (by omega)
    refine Eq.trans e ?_
    rw [List.drop_zero]
    obtain ⟨k, hk, hkl⟩ := Mv (p := p) h0
    have hm : l[k]? = some l[k] := by simp [hkl]
    show (A5 l (OS p l).2).bind _ = _
    rw [hk, Dj, hm]
    simp only [Option.bind_some, Int.toNat_natCast]
    rw [List.getD_eq_getElem?_getD, hm]; rfl
   ·rw [bne_iff_ne.2 h00, Dh, if_pos h00]; rfl
 ·rw [bne_iff_ne.2 hv, Dh, if_pos hv]; rfl
theorem LD (N : Nat) (hN : N ≤ 1000000) (h20 : 100 ≤ N) : Bz N Ju Ju = some true := Mf hN (by simp [Ju]; omega) (by simp [Ju]; omega) (by simp [Ju]; omega) (fun x hx => by cases hx)
theorem Py (N : Nat) (hN : N ≤ 1000000) (h20 : 100 ≤ N) (p : Al) (l : List Ah) (hw : ∀ m, m ∈ l → KY J4 m.fHeld) : Bz N (MR p l).2.1 (MR p l).2.1 = some true := by
 unfold MR
 split
 ·exact LD N hN h20
 ·rename_i hv
  have hv : DT p = 0 := Decidable.byContradiction hv
  split
  ·exact LD N hN h20
  ·rename_i h0
   split
   ·exact LD N hN h20
   ·rename_i h00
    have h00 : Mm p l = 0 := Decidable.byContradiction h00
    obtain ⟨hp, _⟩ := IP hv
    obtain ⟨_, hall⟩ := Oc h00
    obtain ⟨k, hk, hkl⟩ := Mv (p := p) h0
    have hm : l[k]? = some l[k] := by simp [hkl]
    have hmo := (K4 (hw _ (List.mem_of_getElem? hm)) (hall _ (List.mem_of_getElem? hm))).2
    simp only
    rw [hk, Int.toNat_natCast, List.getD_eq_getElem?_getD, hm]
    exact QD hN h20 hp hmo
theorem Kx (d : C0) (l : List BV) (wd : Ge d) (wl : KY Ft l) : Df 1000 d l = some true := by
 obtain ⟨p, ok, e, hok⟩ := WE 1000 d (by omega) (by omega) wd
 unfold Df
 rw [e]
 simp only [Option.bind_some, EN, NV, Bool.not_true, A7]
 cases ok
 ·rfl
 simp only [Bool.not_true, A7]
 by_cases h6 : (6 : Int) < (l.length : Int)
 ·rw [decide_eq_true h6, Dh]
 rw [decide_eq_false h6, A7]
 have hg := hok rfl
 obtain ⟨hp, _⟩ := IP hg.valid
 obtain ⟨ms, e2, hms⟩ := H3 (BB 1000 l (p, true) fun (v9 : (List Ah)) =>
    (DR 1000 p v9).bind fun v14 =>
    (Db 1000 p v9).bind fun v15 =>
    AO ((v14.1 == v15.1))
     (AO ((v14.2.2 == v15.2.2))
      ((Bz 1000 v14.2.1 v15.2.1).bind fun v19 =>
      some v19)
      (some false))
     (some false)) (fun (a : List Ah) i => (a, i)) l.length (fun (v9 : (List Ah)) =>
    (DR 1000 p v9).bind fun v14 =>
    (Db 1000 p v9).bind fun v15 =>
    AO ((v14.1 == v15.1))
     (AO ((v14.2.2 == v15.2.2))
      ((Bz 1000 v14.2.1 v15.2.1).bind fun v19 =>
      some v19)
      (some false))
     (some false)) (fun i a => a.length = i ∧ ∀ m, m ∈ a → L2 p m)
  (fun n i a hi ha => by
   have hx : l[i]? = some l[i] := by simp [hi]
   obtain ⟨m, e3, _, hm⟩ := Ws 1000 p l[i] (by omega) (by omega) hp (wl _ (List.mem_of_getElem? hx))
   rw [BB, BT (by simp only; omega)]
   simp only [Dj, hx, Option.bind_some, e3]
   rw [BD (by simp [Gf]; omega), BU (by omega)]
   refine ⟨_, rfl, by simp [ha.1], fun y hy => ?_⟩
   rcases List.mem_append.1 hy with hy | hy
   ·exact ha.2 y hy
   ·rw [List.mem_singleton.1 hy]; exact hm)
  (fun n a ha => by rw [BB, Bt (by simp)]) 1000 0 [] (Nat.zero_le _) (by omega) ⟨rfl, fun m hm => by cases hm⟩
 refine Eq.trans e2 ?_
 have hw : ∀ m, m ∈ ms → KY J4 m.fHeld := fun m hm => Ta (hms.2 m hm)
 rw [Px 1000 (by omega) (by omega) p ms (by omega) (by omega) hw, MO 1000 (by omega) (by omega) p ms (by omega) (by omega) hw]
 simp only [Option.bind_some, beq_self_eq_true, Dh]
 rw [Py 1000 (by omega) (by omega) p ms hw]; rfl
end Go.Lift

