/- Lemmas for ReachPlaySaid, which YtfnobkfnohhmmaaGreatFinW7 proves. -/
import Derived.Test.YtfnobkfnohhmmaaGreatDec
import Derived.KernelRfl
/- Plain words of the shallow programs. -/
namespace Go.Lift
theorem Cj {α : Type} (xs : List α) (i : Nat) : A5 xs (i : Int) = xs[i]? := by
 unfold A5; simp
theorem Ea {n : Int} (h0 : -9223372036854775808 ≤ n) (h1 : n ≤ 9223372036854775807) : IntKind.wrap .i64 n = n := by
 simp [IntKind.wrap, IntKind.signed, IntKind.bits]; omega
theorem BY {i : Nat} (h : i < 1000000) : IntKind.wrap .i64 ((i : Int) + 1) = ((i + 1 : Nat) : Int) := by
 rw [Ea (by omega) (by omega)]; simp
@[simp] theorem AQ {α : Type} {a b : Option α} : AS true a b = a := rfl
@[simp] theorem Ay {α : Type} {a b : Option α} : AS false a b = b := rfl
theorem A7 {α : Type} {p : Prop} [Decidable p] {a b : Option α} (h : p) : AS (decide p) a b = a := by simp [h]
theorem A0 {α : Type} {p : Prop} [Decidable p] {a b : Option α} (h : ¬ p) : AS (decide p) a b = b := by simp [h]
def Hd : List Int → List Int → Int
 | [], [] => 0
 | [], _ :: _ => -1
 | _ :: _, [] => 1
 | a :: as1, b :: bs => if a < b then -1 else if b < a then 1 else Hd as1 bs
theorem Hi {α : Type} {xs : List α} {i : Nat} {x : α} (h : xs[i]? = some x) : xs.drop i = x :: xs.drop (i + 1) := by
 obtain ⟨hi, rfl⟩ := List.getElem?_eq_some_iff.1 h
 exact List.drop_eq_getElem_cons hi
theorem OL (N : Nat) (a b : List Int) (hb : a.length < 1000000) : ∀ (n i : Nat), i ≤ a.length → i ≤ b.length → a.length - i < n →
  CP N a b (fun _ => AS (decide ((a.length : Int) < (b.length : Int))) (some (-1)) (AS (decide ((b.length : Int) < (a.length : Int))) (some 1) (some 0))) n (i : Int) = some (Hd (a.drop i) (b.drop i))
 | 0, i, _, _, h => by omega
 | n + 1, i, hi, hj, h => by
  unfold CP
  simp only [Bb]
  by_cases h1 : i < a.length
  ·rw [A7 (p := (i : Int) < (a.length : Int)) (by omega)]
   have ha : a[i]? = some a[i] := by simp [h1]
   rw [Hi ha]
   by_cases h2 : i < b.length
   ·have hbb : b[i]? = some b[i] := by simp [h2]
    rw [show decide ((i : Int) < (b.length : Int)) = true from decide_eq_true (by omega), AQ, Cj, Cj, ha, hbb, Hi hbb]
    simp only [Option.bind_some, Hd]
    rw [BY (by omega), OL N a b hb n (i + 1) (by omega) (by omega) (by omega)]
    by_cases h3 : a[i] < b[i]
    ·simp [h3]
    ·by_cases h4 : b[i] < a[i]
     ·simp [h3, h4]
     ·simp [h3, h4]
   ·rw [show decide ((i : Int) < (b.length : Int)) = false from decide_eq_false (by omega), Ay, A0 (by omega), A7 (by omega), List.drop_eq_nil_of_le (by omega : b.length ≤ i)]
    simp [Hd]
  ·rw [A0 (p := (i : Int) < (a.length : Int)) (by omega), Ay, List.drop_eq_nil_of_le (by omega : a.length ≤ i)]
   by_cases h2 : a.length < b.length
   ·rw [A7 (by omega)]
    have hbb : b[i]? = some b[i] := by simp [show i < b.length from by omega]
    rw [Hi hbb]; simp [Hd]
   ·rw [A0 (by omega), A0 (by omega), List.drop_eq_nil_of_le (by omega : b.length ≤ i)]
    simp [Hd]
theorem Lh {N : Nat} {a b : List Int} (h : a.length < N) (hN : N ≤ 1000000) : CS N a b = some (Hd a b) := by
 have := OL N a b (by omega) N 0 (by omega) (by omega) (by omega)
 simpa [CS] using this
end Go.Lift

/- MixCompare: the order on mixes. -/
namespace Go.Lift
theorem Mk : ∀ a : List Int, Hd a a = 0
 | [] => rfl
 | a :: as1 => by simp [Hd, Mk as1]
theorem K0 : ∀ a b : List Int, Hd a b = 0 → a = b
 | [], [], _ => rfl
 | [], _ :: _, h => by simp [Hd] at h
 | _ :: _, [], h => by simp [Hd] at h
 | a :: as1, b :: bs, h => by
  unfold Hd at h
  split at h
  ·omega
  ·split at h
   ·omega
   ·rw [K0 as1 bs h, show a = b from by omega]
def Sx : List Int → Int
 | [] => 0
 | x :: xs => if x = 0 then Sx xs else x
theorem Th (N : Nat) (a : List Int) (hb : a.length < 1000000) (hw : LT Kc a) : ∀ (n i : Nat), i ≤ a.length → a.length - i < n →
  Cm N a (fun v => some v) n (a.take i, (i : Int)) = some a
 | 0, i, _, h => by omega
 | n + 1, i, hi, h => by
  unfold Cm
  by_cases h1 : i < a.length
  ·have ha : a[i]? = some a[i] := by simp [h1]
   rw [A7 (by simpa using h1)]
   simp only
   rw [Cj, ha]
   have hr : IntKind.wrap .i64 a[i] = a[i] := by
    have := hw a[i] (List.getElem_mem h1)
    unfold Kc at this
    have h2 : 0 ≤ a[i] ∧ a[i] ≤ 255 := by simpa [Lit.wf, IntKind.min, IntKind.max, IntKind.signed, IntKind.bits] using this
    exact Ea (by omega) (by omega)
   simp only [Option.bind_some, hr]
   have hlen : (a.take i).length + ([a[i]] : List Int).length ≤ Er := by
    simp [Er]; omega
   rw [show D7 ((a.take i).length + ([a[i]] : List Int).length ≤ Er) = some () from by unfold D7; rw [if_pos hlen]]
   simp only [Option.bind_some]
   rw [BY (by omega), show a.take i ++ [a[i]] = a.take (i + 1) from by rw [List.take_add_one, ha]; rfl]
   exact Th N a hb hw n (i + 1) (by omega) (by omega)
  ·rw [A0 (by simpa using h1)]
   simp only
   rw [List.take_of_length_le (by omega)]
theorem Kz {N : Nat} {a : List Int} (h : a.length < N) (hN : N ≤ 1000000) (hw : LT Kc a) : CI N a = some a := by
 have := Th N a (by omega) hw N 0 (by omega) (by omega)
 simpa [CI] using this
def U6 (a : Ae) : Prop := a.fBase.length ≤ 8 ∧ a.fNext.length ≤ 8 ∧ a.fHeld.length ≤ 14
def Ps (a b : Ae) : Int := Sx [Hd a.fBase b.fBase, Hd a.fNext b.fNext, Hd a.fHeld b.fHeld]
theorem Mr (a : Ae) : Ps a a = 0 := by unfold Ps; simp [Mk, Sx]
end Go.Lift

/- The law MixCompare in plain words. -/
namespace Go.Lift
end Go.Lift

/- Search loops in plain words; the two tests of a problem give the same answer. -/
namespace Go.Lift
def DX {α R : Type} (f : Nat → α → Option R) : Nat → List α → Option R
 | _, [] => none
 | i, x :: xs => match f i x with
  | some r => some r
  | none => DX f (i + 1) xs
theorem H9 {α R : Type} (f : Nat → α → Option R) (i : Nat) (x : α) (xs : List α) : DX f i (x :: xs) = match f i x with
  | some r => some r
  | none => DX f (i + 1) xs := rfl
def BD {R : Type} (a : Option R) (b : Option R) : Option R := match a with
 | some r => some r
 | none => b
theorem DQ {α R : Type} (L : Nat → Int → Option R) (xs : List α) (j : Option R) (f : Nat → α → Option R)
  (hs : ∀ (n i : Nat) (x : α), xs[i]? = some x → L (n + 1) (i : Int) = BD (f i x) (L n ((i + 1 : Nat) : Int))) (he : ∀ n : Nat, L (n + 1) (xs.length : Int) = j) :
  ∀ n i : Nat, i ≤ xs.length → xs.length - i < n → L n (i : Int) = BD (DX f i (xs.drop i)) j
 | 0, i, _, h => by omega
 | n + 1, i, hi, h => by
  by_cases h1 : i < xs.length
  ·have hx : xs[i]? = some xs[i] := by simp [h1]
   rw [hs n i _ hx, Hi hx, DQ L xs j f hs he n (i + 1) (by omega) (by omega)]
   rw [H9]
   cases f i xs[i] <;> rfl
  ·have : i = xs.length := by omega
   subst this
   rw [he n, List.drop_eq_nil_of_le (Nat.le_refl _)]
   rfl
theorem Mp (N : Nat) (k n : Int) : Dv N k n = some (decide (0 ≤ k) && decide (k < n)) := by
 unfold Dv
 simp only [Bb]
 by_cases h : 0 ≤ k
 ·rw [A7 h]; simp [h]
 ·rw [A0 h]; simp [h]
theorem Km (N : Nat) (t : AH) : A4 N t = some (t.fKind == 3 || t.fKind == 4) := by
 unfold A4
 simp only [Bb]
 cases h : t.fKind == 3 <;> simp
def sq (l : List (List Bool)) (n m : Int) : Bool := decide ((l.length : Int) = n) && l.all fun r => decide ((r.length : Int) = m)
theorem LE {α : Type} (p : α → Bool) {R : Type} (r : Nat → R) : ∀ (i : Nat) (xs : List α), (DX (fun i x => if p x then none else some (r i)) i xs).isNone = xs.all p
 | i, [] => rfl
 | i, x :: xs => by
  unfold DX
  cases h : p x <;> simp [h, LE p r (i + 1) xs]
theorem MB (N : Nat) (l : List (List Bool)) (n m : Int) (h : n < (N : Int)) (hN : N ≤ 1000000) : CX N l n m = some (sq l n m) := by
 unfold CX sq
 by_cases h1 : (l.length : Int) = n
 ·subst h1
  simp only [bne_self_eq_false, Ay, decide_true, Bool.true_and]
  have := DQ (B6 N l (l.length : Int) m (fun _ => some true)) l (some true) (fun _ r => if decide ((r.length : Int) = m) then none else some false)
   (fun n i x hx => by
    have hi := (List.getElem?_eq_some_iff.1 hx).1
    rw [B6, A7 (by omega), Cj, hx]
    simp only [Option.bind_some]
    rw [BY (by omega)]
    by_cases h2 : (x.length : Int) = m
    ·simp [h2, BD]
    ·have : ((x.length : Int) != m) = true := by simpa using h2
     simp [h2, this, BD])
   (fun n => by rw [B6, A0 (by omega)]) N 0 (by omega) (by omega)
  simp only [Int.ofNat_zero, List.drop_zero] at this
  rw [this]
  have h3 := LE (fun r : List Bool => decide ((r.length : Int) = m)) (fun _ => false) 0 l
  cases hsc : DX (fun (_ : Nat) (r : List Bool) => if decide ((r.length : Int) = m) = true then none else some false) 0 l with
  | none => rw [hsc] at h3; rw [← h3]; rfl
  | some b =>
   rw [hsc] at h3
   rw [← h3]
   have : ∀ (i : Nat) (xs : List (List Bool)) b, DX (fun (_ : Nat) (r : List Bool) => if decide ((r.length : Int) = m) = true then none else some false) i xs = some b → b = false := by
    intro i xs
    induction xs generalizing i with
    | nil => intro b hb; cases hb
    | cons x xs ih =>
     intro b hb
     unfold DX at hb
     split at hb
     ·rename_i r hr; cases hb; split at hr <;> simp at hr; exact hr
     ·exact ih _ b hb
   rw [this 0 l b hsc]; rfl
 ·have : ((l.length : Int) != n) = true := by simpa using h1
  simp [this, h1]
end Go.Lift

/- The tests of a table and of a problem: both implementations give one answer. -/
namespace Go.Lift
theorem Mn (N : Nat) (l : List (List Bool)) (n m : Int) (h : n < (N : Int)) (hN : N ≤ 1000000) : Ef N l n m = some (sq l n m) := by
 unfold Ef sq
 simp only [Bb]
 by_cases h1 : (l.length : Int) = n
 ·subst h1
  simp only [beq_self_eq_true, AQ, decide_true, Bool.true_and]
  have := DQ (Bd N l (fun x => Do N x m) (fun _ => some (-1))) l (some (-1)) (fun i r => if decide ((r.length : Int) = m) then none else some (i : Int))
   (fun n i x hx => by
    have hi := (List.getElem?_eq_some_iff.1 hx).1
    rw [Bd, A7 (by omega), Cj, hx]
    simp only [Option.bind_some, Do]
    rw [BY (by omega)]
    by_cases h2 : (x.length : Int) = m
    ·simp [h2, BD]
    ·have : ((x.length : Int) != m) = true := by simpa using h2
     simp [h2, this, BD])
   (fun n => by rw [Bd, A0 (by omega)]) N 0 (by omega) (by omega)
  simp only [Int.ofNat_zero, List.drop_zero] at this
  unfold Cz CV
  rw [this]
  have h3 := LE (fun r : List Bool => decide ((r.length : Int) = m)) (fun i : Nat => (i : Int)) 0 l
  cases hsc : DX (fun (i : Nat) (r : List Bool) => if decide ((r.length : Int) = m) = true then none else some (i : Int)) 0 l with
  | none => rw [hsc] at h3; rw [← h3]; rfl
  | some b =>
   rw [hsc] at h3
   rw [← h3]
   have : ∀ (i : Nat) (xs : List (List Bool)) b, DX (fun (i : Nat) (r : List Bool) => if decide ((r.length : Int) = m) = true then none else some (i : Int)) i xs = some b → 0 ≤ b := by
    intro i xs
    induction xs generalizing i with
    | nil => intro b hb; cases hb
    | cons x xs ih =>
     intro b hb
     rw [H9] at hb
     split at hb
     ·rename_i r hr
      cases hb
      split at hr
      ·cases hr
      ·cases hr; omega
     ·exact ih _ b hb
   have := this 0 l b hsc
   simp [BD, this]
 ·have : ((l.length : Int) == n) = false := by simpa using h1
  simp [this, h1]
end Go.Lift

/- The test of a table: both implementations give one answer. -/
namespace Go.Lift
def Hu (l : List (List Bool)) : Option Int := DX (fun i row => if row.getD i false then none else some 1) 0 l
theorem NJ {row : List Bool} {i : Nat} (h : i < row.length) : A5 row (i : Int) = some (row.getD i false) := by
 rw [Cj, List.getD_eq_getElem?_getD]; simp [h]
theorem QI (N : Nat) (t : AH) (h : t.fRewrite.length < N) (hN : N ≤ 1000000) (hsq : ∀ row, row ∈ t.fRewrite → row.length = t.fRewrite.length) (j : Option Int) :
  BG N t (fun _ => j) N 0 = BD (Hu t.fRewrite) j := by
 have := DQ (BG N t (fun _ => j)) t.fRewrite j (fun i row => if row.getD i false then none else some 1)
  (fun n i x hx => by
   have hi := (List.getElem?_eq_some_iff.1 hx).1
   have hl := hsq x (List.mem_of_getElem? hx)
   rw [BG, A7 (by omega), Cj, hx]
   simp only [Option.bind_some]
   rw [NJ (by omega), BY (by omega)]
   simp only [Option.bind_some]
   cases x.getD i false <;> rfl)
  (fun n => by rw [BG, A0 (by omega)]) N 0 (by omega) (by omega)
 simpa [Hu] using this
theorem Mz (N : Nat) (t : AH) (h : t.fRewrite.length < N) (hN : N ≤ 1000000) (hsq : ∀ row, row ∈ t.fRewrite → row.length = t.fRewrite.length) (j : Option Int) :
  CG N t (fun _ => j) N 0 = BD (Hu t.fRewrite) j := by
 have := DQ (CG N t (fun _ => j)) t.fRewrite j (fun i row => if row.getD i false then none else some 1)
  (fun n i x hx => by
   have hi := (List.getElem?_eq_some_iff.1 hx).1
   have hl := hsq x (List.mem_of_getElem? hx)
   rw [CG, A7 (by omega), Cj, hx]
   simp only [Option.bind_some]
   rw [NJ (by omega), BY (by omega)]
   simp only [Option.bind_some]
   cases x.getD i false <;> rfl)
  (fun n => by rw [CG, A0 (by omega)]) N 0 (by omega) (by omega)
 simpa [Hu] using this
theorem K2 {l : List (List Bool)} {n m : Int} (h : sq l n m = true) : (l.length : Int) = n ∧ ∀ row, row ∈ l → (row.length : Int) = m := by
 unfold sq at h
 simp only [Bool.and_eq_true, decide_eq_true_eq, List.all_eq_true] at h
 exact h
def Dw (p : Ah) (t : AH) : Int :=
 if t.fKind < 1 ∨ 4 < t.fKind ∨ (t.fAware = true ∧ (t.fKind = 3 ∨ t.fKind = 4)) then 1
 else if t.fFrom < 0 ∨ (p.fVersions.length : Int) ≤ t.fFrom ∨ t.fTo < 0 ∨ (p.fVersions.length : Int) ≤ t.fTo then 4
 else
  let f := p.fVersions.getD t.fFrom.toNat 0
  let g := p.fVersions.getD t.fTo.toNat 0
  if sq t.fOK f g = false then 6
  else if t.fKind = 4 then (if sq t.fRewrite f f = false then 6 else (Hu t.fRewrite).getD 0)
  else if t.fRewrite.length = 0 then 0 else 6
theorem EE {α : Type} {xs : List α} {i : Int} {d : α} (h0 : 0 ≤ i) (h1 : i < (xs.length : Int)) : A5 xs i = some (xs.getD i.toNat d) := by
 obtain ⟨k, rfl⟩ := Int.eq_ofNat_of_zero_le h0
 rw [Cj, List.getD_eq_getElem?_getD, Int.toNat_natCast]
 simp [show k < xs.length from by omega]
theorem Qp {t : AH} (A B : Option Int) (hk : ¬ (t.fAware = true ∧ (t.fKind = 3 ∨ t.fKind = 4))) : AS t.fAware (AS (t.fKind == 3 || t.fKind == 4) A B) B = B := by
 cases ha : t.fAware
 ·rfl
 ·have : (t.fKind == 3 || t.fKind == 4) = false := by
   rw [Bool.or_eq_false_iff]
   constructor
   ·simp only [beq_eq_false_iff_ne]; intro h; exact hk ⟨ha, .inl h⟩
   ·simp only [beq_eq_false_iff_ne]; intro h; exact hk ⟨ha, .inr h⟩
  rw [this]; rfl
theorem Kt {p : Ah} {i : Int} (hv : ∀ v, v ∈ p.fVersions → 1 ≤ v ∧ v ≤ 6) (h0 : 0 ≤ i) (h1 : i < (p.fVersions.length : Int)) : 1 ≤ p.fVersions.getD i.toNat 0 ∧ p.fVersions.getD i.toNat 0 ≤ 6 := by
 refine hv _ ?_
 rw [List.getD_eq_getElem?_getD, List.getElem?_eq_getElem (by omega)]
 exact List.getElem_mem _
theorem Pk (N : Nat) (p : Ah) (t : AH) (hN : N ≤ 1000000) (h6 : 7 ≤ N) (hv : ∀ v, v ∈ p.fVersions → 1 ≤ v ∧ v ≤ 6) : DL N p t = some (Dw p t) := by
 unfold DL Dw
 simp only [Bb, Km, Option.bind_some]
 by_cases k1 : t.fKind < 1
 ·simp [k1]
 by_cases k2 : 4 < t.fKind
 ·simp [k1, k2]
 rw [A0 k1, A0 k2]
 by_cases hk : t.fAware = true ∧ (t.fKind = 3 ∨ t.fKind = 4)
 ·obtain ⟨ha, k | k⟩ := hk <;> simp [ha, k]
 rw [Ay, Qp _ _ hk, if_neg (fun h => h.elim k1 fun h => h.elim k2 hk)]
 by_cases f1 : t.fFrom < 0
 ·simp [f1]
 by_cases f2 : (p.fVersions.length : Int) ≤ t.fFrom
 ·simp [f1, f2]
 by_cases f3 : t.fTo < 0
 ·simp [f1, f2, f3]
 by_cases f4 : (p.fVersions.length : Int) ≤ t.fTo
 ·simp [f1, f2, f3, f4]
 rw [A0 f1, A0 f2, A0 f3, if_neg (fun h => h.elim f1 fun h => h.elim f2 fun h => h.elim f3 f4)]
 have hf := Kt hv (i := t.fFrom) (by omega) (by omega)
 rw [decide_eq_false f4, Ay, EE (d := 0) (by omega : 0 ≤ t.fFrom) (by omega), EE (d := 0) (by omega : 0 ≤ t.fTo) (by omega)]
 simp only [Option.bind_some]
 generalize p.fVersions.getD t.fFrom.toNat 0 = f at *
 generalize p.fVersions.getD t.fTo.toNat 0 = g at *
 rw [MB N t.fOK f g (by omega) hN, MB N t.fRewrite f f (by omega) hN]
 simp only [Option.bind_some]
 cases hq : sq t.fOK f g
 ·rfl
 simp only [Bool.not_true, Ay]
 by_cases k4 : t.fKind = 4
 ·have : (t.fKind != 4) = false := by simp [k4]
  rw [this, Ay]
  simp only [k4, if_true]
  cases hr : sq t.fRewrite f f
  ·rfl
  ·have h7 := K2 hr
   simp only [Bool.not_true, Ay]
   rw [QI N t (by omega) hN (fun row hm => by have := h7.2 row hm; omega)]
   cases Hu t.fRewrite <;> simp [BD]
 ·have : (t.fKind != 4) = true := by simpa using k4
  rw [this, AQ]
  simp only [k4, if_false]
  by_cases hr : t.fRewrite.length = 0
  ·simp [hr]
  ·have : ((t.fRewrite.length : Int) != 0) = true := bne_iff_ne.2 (by omega)
   rw [this]; simp [hr]
theorem RA (N : Nat) (k : Int) (a : Bool) : FC N k a = some (k == 1 || (k == 2 || ((k == 3 || k == 4) && !a))) := by
 unfold FC
 simp only [Bb]
 cases h1 : k == 1 <;> cases h2 : k == 2 <;> cases h3 : k == 3 <;> cases h4 : k == 4 <;> cases a <;> rfl
theorem LF (N : Nat) (p : Ah) (t : AH) (hN : N ≤ 1000000) (h6 : 7 ≤ N) (hv : ∀ v, v ∈ p.fVersions → 1 ≤ v ∧ v ≤ 6) : Ff N p t = some (Dw p t) := by
 unfold Ff Dw
 simp only [Bb, RA, Mp, Option.bind_some]
 by_cases hb : t.fKind < 1 ∨ 4 < t.fKind ∨ (t.fAware = true ∧ (t.fKind = 3 ∨ t.fKind = 4))
 ·have : (t.fKind == 1 || (t.fKind == 2 || ((t.fKind == 3 || t.fKind == 4) && !t.fAware))) = false := by
   rcases hb with h | h | ⟨ha, h | h⟩
   ·rw [beq_eq_false_iff_ne.2 (by omega : t.fKind ≠ 1), beq_eq_false_iff_ne.2 (by omega : t.fKind ≠ 2), beq_eq_false_iff_ne.2 (by omega : t.fKind ≠ 3), beq_eq_false_iff_ne.2 (by omega : t.fKind ≠ 4)]; rfl
   ·rw [beq_eq_false_iff_ne.2 (by omega : t.fKind ≠ 1), beq_eq_false_iff_ne.2 (by omega : t.fKind ≠ 2), beq_eq_false_iff_ne.2 (by omega : t.fKind ≠ 3), beq_eq_false_iff_ne.2 (by omega : t.fKind ≠ 4)]; rfl
   ·simp [ha, h]
   ·simp [ha, h]
  rw [this, if_pos hb]; rfl
 ·have : (t.fKind == 1 || (t.fKind == 2 || ((t.fKind == 3 || t.fKind == 4) && !t.fAware))) = true := by
   have hk : t.fKind = 1 ∨ t.fKind = 2 ∨ t.fKind = 3 ∨ t.fKind = 4 := by
    have h1 : ¬ t.fKind < 1 := fun h => hb (.inl h)
    have h2 : ¬ 4 < t.fKind := fun h => hb (.inr (.inl h))
    omega
   rcases hk with h | h | h | h
   ·simp [h]
   ·simp [h]
   ·cases ha : t.fAware
    ·simp [h]
    ·exact (hb (.inr (.inr ⟨ha, .inl h⟩))).elim
   ·cases ha : t.fAware
    ·simp [h]
    ·exact (hb (.inr (.inr ⟨ha, .inr h⟩))).elim
  rw [this, if_neg hb]
  simp only [Bool.not_true, Ay]
  by_cases f1 : t.fFrom < 0
  ·simp [f1, show ¬ (0 ≤ t.fFrom) from by omega]
  by_cases f2 : (p.fVersions.length : Int) ≤ t.fFrom
  ·simp [f2, show ¬ (t.fFrom < (p.fVersions.length : Int)) from by omega]
  by_cases f3 : t.fTo < 0
  ·simp [f3, show 0 ≤ t.fFrom from by omega, show t.fFrom < (p.fVersions.length : Int) from by omega, show ¬ (0 ≤ t.fTo) from by omega]
  by_cases f4 : (p.fVersions.length : Int) ≤ t.fTo
  ·simp [f4, show 0 ≤ t.fFrom from by omega, show t.fFrom < (p.fVersions.length : Int) from by omega, show ¬ (t.fTo < (p.fVersions.length : Int)) from by omega]
  rw [if_neg (fun h => h.elim f1 fun h => h.elim f2 fun h => h.elim f3 f4)]
  have hf := Kt hv (i := t.fFrom) (by omega) (by omega)
  have hg := Kt hv (i := t.fTo) (by omega) (by omega)
  rw [decide_eq_true (by omega : 0 ≤ t.fFrom), decide_eq_true (by omega : t.fFrom < (p.fVersions.length : Int)), decide_eq_true (by omega : 0 ≤ t.fTo), decide_eq_true (by omega : t.fTo < (p.fVersions.length : Int)), EE (d := 0) (by omega : 0 ≤ t.fFrom) (by omega), EE (d := 0) (by omega : 0 ≤ t.fTo) (by omega)]
  simp only [Bool.and_self, Bool.not_true, Ay, Option.bind_some]
  generalize p.fVersions.getD t.fFrom.toNat 0 = f at *
  generalize p.fVersions.getD t.fTo.toNat 0 = g at *
  rw [Mn N t.fOK f g (by omega) hN, Mn N t.fRewrite f f (by omega) hN]
  simp only [Option.bind_some]
  cases hq : sq t.fOK f g
  ·rfl
  simp only [Bool.not_true, Ay]
  by_cases k4 : t.fKind = 4
  ·simp only [k4, beq_self_eq_true, AQ, if_true]
   cases hr : sq t.fRewrite f f
   ·rfl
   ·have h7 := K2 hr
    simp only [Bool.not_true, Ay]
    rw [Mz N t (by omega) hN (fun row hm => by have := h7.2 row hm; omega)]
    cases Hu t.fRewrite <;> simp [BD]
  ·have : (t.fKind == 4) = false := beq_eq_false_iff_ne.2 k4
   rw [this, Ay]
   simp only [k4, if_false, Bool.not_false, AQ]
   by_cases hr : t.fRewrite.length = 0
   ·rw [Mz N t (by omega) hN (fun row hm => by rw [List.eq_nil_of_length_eq_zero hr] at hm; cases hm), List.eq_nil_of_length_eq_zero hr]
    simp [Hu, DX, BD]
   ·rw [decide_eq_true (by omega : 0 < (t.fRewrite.length : Int))]
    simp [hr]
end Go.Lift

/- The test of a problem: both implementations give one answer. -/
namespace Go.Lift
def E0 (p : Ah) (i : Nat) (v : Int) : Option Int :=
 if v < 1 ∨ 6 < v ∨ p.fNow.getD i 0 < 0 ∨ v ≤ p.fNow.getD i 0 ∨ p.fTarget.getD i 0 < 0 ∨ v ≤ p.fTarget.getD i 0 then some 7 else none
def Ka (p : Ah) (_ : Nat) (t : AH) : Option Int := if Dw p t = 0 then none else some (Dw p t)
def CT (p : Ah) : Int :=
 if 6 < p.fVersions.length ∨ 12 < p.fTables.length then 3
 else if p.fNow.length ≠ p.fVersions.length ∨ p.fTarget.length ≠ p.fVersions.length then 6
 else ((BD (DX (E0 p) 0 p.fVersions) (DX (Ka p) 0 p.fTables)).getD 0)
theorem GB {α R : Type} {f : Nat → α → Option R} : ∀ {i : Nat} {xs : List α}, DX f i xs = none → ∀ j x, xs[j]? = some x → f (i + j) x = none
 | _, [], _, j, x, hx => by simp at hx
 | i, y :: ys, h, j, x, hx => by
  rw [H9] at h
  split at h
  ·cases h
  ·rename_i h0
   cases j with
   | zero => simp at hx; subst hx; exact h0
   | succ j =>
    have := GB h j x (by simpa using hx)
    rwa [show i + 1 + j = i + (j + 1) from by omega] at this
theorem K7 {p : Ah} (h : DX (E0 p) 0 p.fVersions = none) : ∀ v, v ∈ p.fVersions → 1 ≤ v ∧ v ≤ 6 := by
 intro v hv
 obtain ⟨i, hi⟩ := List.mem_iff_getElem?.1 hv
 have := GB h i v hi
 unfold E0 at this
 split at this
 ·cases this
 ·rename_i hn
  constructor
  ·exact Int.not_lt.1 fun h => hn (.inl h)
  ·exact Int.not_lt.1 fun h => hn (.inr (.inl h))
theorem DS {α : Type} {xs : List α} {i : Nat} {d : α} (h : i < xs.length) : A5 xs (i : Int) = some (xs.getD i d) := by
 rw [Cj, List.getD_eq_getElem?_getD]; simp [h]
theorem Oz (N : Nat) (p : Ah) (hN : N ≤ 1000000) (h1 : p.fVersions.length < N) (h2 : p.fNow.length = p.fVersions.length) (h3 : p.fTarget.length = p.fVersions.length) (j : Option Int) :
  Ba N p (fun _ => j) N 0 = BD (DX (E0 p) 0 p.fVersions) j := by
 have := DQ (Ba N p (fun _ => j)) p.fVersions j (E0 p)
  (fun n i x hx => by
   have hi := (List.getElem?_eq_some_iff.1 hx).1
   rw [Ba, A7 (by omega), Cj, hx]
   simp only [Option.bind_some, Bb]
   rw [DS (d := 0) (by omega), DS (d := 0) (by omega), BY (by omega)]
   simp only [Option.bind_some]
   unfold E0
   generalize p.fNow.getD i 0 = a
   generalize p.fTarget.getD i 0 = b
   by_cases k1 : x < 1 <;> by_cases k2 : 6 < x <;> by_cases k3 : a < 0 <;> by_cases k4 : x ≤ a <;> by_cases k5 : b < 0 <;> by_cases k6 : x ≤ b <;> simp [k1, k2, k3, k4, k5, k6, BD])
  (fun n => by rw [Ba, A0 (by omega)]) N 0 (by omega) (by omega)
 simpa using this
theorem MW (N : Nat) (p : Ah) (hN : N ≤ 1000000) (h1 : p.fVersions.length < N) (h2 : p.fNow.length = p.fVersions.length) (h3 : p.fTarget.length = p.fVersions.length) (j : Option Int) :
  BI N p (fun _ => j) N 0 = BD (DX (E0 p) 0 p.fVersions) j := by
 have := DQ (BI N p (fun _ => j)) p.fVersions j (E0 p)
  (fun n i x hx => by
   have hi := (List.getElem?_eq_some_iff.1 hx).1
   rw [BI, A7 (by omega), Cj, hx]
   simp only [Option.bind_some, Bb, Mp]
   rw [DS (d := 0) (by omega), DS (d := 0) (by omega), BY (by omega)]
   simp only [Option.bind_some]
   unfold E0
   generalize p.fNow.getD i 0 = a
   generalize p.fTarget.getD i 0 = b
   have e1 : decide (0 ≤ a) = !decide (a < 0) := by rw [← decide_not]; congr 1; simp
   have e2 : decide (a < x) = !decide (x ≤ a) := by rw [← decide_not]; congr 1; simp
   have e3 : decide (0 ≤ b) = !decide (b < 0) := by rw [← decide_not]; congr 1; simp
   have e4 : decide (b < x) = !decide (x ≤ b) := by rw [← decide_not]; congr 1; simp
   rw [e1, e2, e3, e4]
   by_cases k1 : x < 1 <;> by_cases k2 : 6 < x <;> by_cases k3 : a < 0 <;> by_cases k4 : x ≤ a <;> by_cases k5 : b < 0 <;> by_cases k6 : x ≤ b <;> simp [k1, k2, k3, k4, k5, k6, BD])
  (fun n => by rw [BI, A0 (by omega)]) N 0 (by omega) (by omega)
 simpa using this
theorem PV (N : Nat) (p : Ah) (hN : N ≤ 1000000) (h6 : 7 ≤ N) (h1 : p.fTables.length < N) (hv : ∀ v, v ∈ p.fVersions → 1 ≤ v ∧ v ≤ 6) (j : Option Int) :
  A6 N p (fun _ => j) N 0 = BD (DX (Ka p) 0 p.fTables) j := by
 have := DQ (A6 N p (fun _ => j)) p.fTables j (Ka p)
  (fun n i x hx => by
   have hi := (List.getElem?_eq_some_iff.1 hx).1
   rw [A6, A7 (by omega), Cj, hx]
   simp only [Option.bind_some]
   rw [Pk N p x hN h6 hv, BY (by omega)]
   simp only [Option.bind_some]
   unfold Ka
   by_cases k : Dw p x = 0
   ·simp [k, BD]
   ·rw [bne_iff_ne.2 k, if_neg k]; rfl)
  (fun n => by rw [A6, A0 (by omega)]) N 0 (by omega) (by omega)
 simpa using this
theorem Ok (N : Nat) (p : Ah) (hN : N ≤ 1000000) (h6 : 7 ≤ N) (h1 : p.fTables.length < N) (hv : ∀ v, v ∈ p.fVersions → 1 ≤ v ∧ v ≤ 6) (j : Option Int) :
  Bw N p (fun _ => j) N 0 = BD (DX (Ka p) 0 p.fTables) j := by
 have := DQ (Bw N p (fun _ => j)) p.fTables j (Ka p)
  (fun n i x hx => by
   have hi := (List.getElem?_eq_some_iff.1 hx).1
   rw [Bw, A7 (by omega), Cj, hx]
   simp only [Option.bind_some]
   rw [LF N p x hN h6 hv, BY (by omega)]
   simp only [Option.bind_some]
   unfold Ka
   by_cases k : Dw p x = 0
   ·simp [k, BD]
   ·rw [bne_iff_ne.2 k, if_neg k]; rfl)
  (fun n => by rw [Bw, A0 (by omega)]) N 0 (by omega) (by omega)
 simpa using this
theorem LH (N : Nat) (p : Ah) (hN : N ≤ 1000000) (h : 20 ≤ N) : B7 N p = some (CT p) := by
 unfold B7 CT
 simp only [Bb]
 by_cases k1 : 6 < p.fVersions.length
 ·rw [A7 (by omega)]; simp [k1]
 rw [A0 (by omega)]
 by_cases k2 : 12 < p.fTables.length
 ·rw [decide_eq_true (by omega : (12 : Int) < (p.fTables.length : Int))]; simp [k2]
 rw [decide_eq_false (by omega : ¬ (12 : Int) < (p.fTables.length : Int)), Ay, if_neg (by omega)]
 by_cases k3 : p.fNow.length = p.fVersions.length
 ·by_cases k4 : p.fTarget.length = p.fVersions.length
  ·rw [k3, k4]
   simp only [bne_self_eq_false, Ay, ne_eq, not_true_eq_false, or_self, if_false]
   rw [Oz N p hN (by omega) k3 k4]
   cases hs : DX (E0 p) 0 p.fVersions with
   | some r => rfl
   | none =>
    simp only [BD]
    rw [PV N p hN (by omega) (by omega) (K7 hs)]
    cases DX (Ka p) 0 p.fTables <;> rfl
  ·have : ((p.fTarget.length : Int) != (p.fVersions.length : Int)) = true := bne_iff_ne.2 (by omega)
   rw [this, k3]; simp [k4]
 ·have : ((p.fNow.length : Int) != (p.fVersions.length : Int)) = true := bne_iff_ne.2 (by omega)
  rw [this]; simp [k3]
theorem J9 (N : Nat) (p : Ah) (hN : N ≤ 1000000) (h : 20 ≤ N) : C0 N p = some (CT p) := by
 unfold C0 CT
 simp only [Bb]
 by_cases k1 : 6 < p.fVersions.length
 ·rw [A7 (by omega)]; simp [k1]
 rw [A0 (by omega)]
 by_cases k2 : 12 < p.fTables.length
 ·rw [decide_eq_true (by omega : (12 : Int) < (p.fTables.length : Int))]; simp [k2]
 rw [decide_eq_false (by omega : ¬ (12 : Int) < (p.fTables.length : Int)), Ay, if_neg (by omega)]
 by_cases k3 : p.fNow.length = p.fVersions.length
 ·by_cases k4 : p.fTarget.length = p.fVersions.length
  ·rw [k3, k4]
   simp only [bne_self_eq_false, Ay, ne_eq, not_true_eq_false, or_self, if_false]
   rw [MW N p hN (by omega) k3 k4]
   cases hs : DX (E0 p) 0 p.fVersions with
   | some r => rfl
   | none =>
    simp only [BD]
    rw [Ok N p hN (by omega) (by omega) (K7 hs)]
    cases DX (Ka p) 0 p.fTables <;> rfl
  ·have : ((p.fTarget.length : Int) != (p.fVersions.length : Int)) = true := bne_iff_ne.2 (by omega)
   rw [this, k3]; simp [k4]
 ·have : ((p.fNow.length : Int) != (p.fVersions.length : Int)) = true := bne_iff_ne.2 (by omega)
  rw [this]; simp [k3]
end Go.Lift

/- The test of a mix: both implementations give one answer. -/
namespace Go.Lift
theorem Hz {n : Int} (h : Kc n) : 0 ≤ n ∧ n ≤ 255 := by
 unfold Kc at h
 simpa [Lit.wf, IntKind.min, IntKind.max, IntKind.signed, IntKind.bits] using h
theorem L9 : ∀ k : Fin 256, CK .u8 0 (k.val : Int) = 0 := by decide +kernel
theorem L2 : ∀ k : Fin 256, CK .u8 (k.val : Int) 0 = (k.val : Int) := by decide +kernel
theorem Px {n : Int} (h : Kc n) : CK .u8 0 n = 0 := by
 have := Hz h
 obtain ⟨k, rfl⟩ := Int.eq_ofNat_of_zero_le this.1
 exact L9 ⟨k, by omega⟩
theorem Py {n : Int} (h : Kc n) : CK .u8 n 0 = n := by
 have := Hz h
 obtain ⟨k, rfl⟩ := Int.eq_ofNat_of_zero_le this.1
 exact L2 ⟨k, by omega⟩
theorem Fq {α R : Type} {f : Nat → α → Option R} : ∀ {i : Nat} {xs : List α} {r : R}, DX f i xs = some r → ∃ j x, xs[j]? = some x ∧ f (i + j) x = some r
 | _, [], _, h => by cases h
 | i, y :: ys, r, h => by
  rw [H9] at h
  split at h
  ·rename_i r' h0
   cases h
   exact ⟨0, y, rfl, h0⟩
  ·obtain ⟨j, x, h1, h2⟩ := Fq h
   exact ⟨j + 1, x, by simpa using h1, by rwa [show i + (j + 1) = i + 1 + j from by omega]⟩
structure DJ (p : Ah) : Prop where
 nv : p.fVersions.length ≤ 6
 nt : p.fTables.length ≤ 12
 now : p.fNow.length = p.fVersions.length
 tgt : p.fTarget.length = p.fVersions.length
 ver : ∀ v, v ∈ p.fVersions → 1 ≤ v ∧ v ≤ 6
 tab : ∀ t, t ∈ p.fTables → Dw p t = 0
theorem OB (l : List (List Bool)) : (Hu l).getD 0 = 0 ∨ (Hu l).getD 0 = 1 := by
 cases h : Hu l with
 | none => exact .inl rfl
 | some r =>
  obtain ⟨j, x, _, h⟩ := Fq h
  split at h
  ·cases h
  ·cases h; exact .inr rfl
theorem MM (p : Ah) (t : AH) : Dw p t = 0 ∨ Dw p t = 1 ∨ Dw p t = 4 ∨ Dw p t = 6 := by
 unfold Dw
 split
 ·exact .inr (.inl rfl)
 split
 ·exact .inr (.inr (.inl rfl))
 simp only
 split
 ·exact .inr (.inr (.inr rfl))
 split
 ·split
  ·exact .inr (.inr (.inr rfl))
  ·rcases OB t.fRewrite with h | h
   ·exact .inl h
   ·exact .inr (.inl h)
 ·split
  ·exact .inl rfl
  ·exact .inr (.inr (.inr rfl))
theorem He (p : Ah) : (CT p = 0 ∧ DJ p) ∨ (CT p = 1 ∨ CT p = 3 ∨ CT p = 4 ∨ CT p = 6 ∨ CT p = 7) := by
 unfold CT
 split
 ·simp
 rename_i k1
 split
 ·simp
 rename_i k2
 cases hs : DX (E0 p) 0 p.fVersions with
 | some r =>
  obtain ⟨j, x, _, h⟩ := Fq hs
  unfold E0 at h
  split at h
  ·cases h; simp [BD]
  ·cases h
 | none =>
  cases ht : DX (Ka p) 0 p.fTables with
  | some r =>
   obtain ⟨j, t, _, h⟩ := Fq ht
   unfold Ka at h
   split at h
   ·cases h
   ·rename_i hne
    cases h
    simp only [BD, Option.getD_some]
    right
    rcases MM p t with h | h | h | h
    ·exact (hne h).elim
    ·exact .inl h
    ·exact .inr (.inr (.inl h))
    ·exact .inr (.inr (.inr (.inl h)))
  | none =>
   left
   refine ⟨rfl, by omega, by omega, by omega, by omega, K7 hs, fun t hm => ?_⟩
   obtain ⟨j, hj⟩ := List.mem_iff_getElem?.1 hm
   have := GB ht j t hj
   unfold Ka at this
   split at this
   ·assumption
   ·cases this
end Go.Lift

/- The test of a mix: both implementations give one answer. -/
namespace Go.Lift
def FH (m : Ae) (s : Nat) : Int :=
 if 0 ≤ m.fNext.getD s 0 then LU .u8 (Co .u8 1 (m.fBase.getD s 0)) (Co .u8 1 (m.fNext.getD s 0)) else Co .u8 1 (m.fBase.getD s 0)
def Jv (m : Ae) (i : Nat) (v : Int) : Option Int :=
 if m.fBase.getD i 0 < 0 ∨ v ≤ m.fBase.getD i 0 ∨ m.fNext.getD i 0 < -1 ∨ v ≤ m.fNext.getD i 0 then some 7
 else if m.fBase.getD i 0 = m.fNext.getD i 0 then some 1 else none
def Cg (t : AH) : Bool := t.fKind == 3 || t.fKind == 4
def Q0 (p : Ah) (t : AH) : Int := IntKind.wrap .u8 (Co .u8 1 (p.fVersions.getD t.fFrom.toNat 0) - 1)
def HJ (p : Ah) (m : Ae) (i : Nat) (t : AH) : Option Int :=
 if Cg t = true then (if CK .u8 (FH m t.fFrom.toNat) (m.fHeld.getD i 0) ≠ 0 ∨ CK .u8 (m.fHeld.getD i 0) (Q0 p t) ≠ 0 then some 1 else none)
 else if m.fHeld.getD i 0 ≠ 0 then some 1 else none
def Hm (p : Ah) (m : Ae) : Int :=
 if CT p ≠ 0 then CT p
 else if m.fBase.length ≠ p.fVersions.length ∨ m.fNext.length ≠ p.fVersions.length ∨ m.fHeld.length ≠ p.fTables.length then 6
 else (BD (DX (Jv m) 0 p.fVersions) (DX (HJ p m) 0 p.fTables)).getD 0
theorem Hw {p : Ah} {t : AH} (h : Dw p t = 0) : 0 ≤ t.fFrom ∧ t.fFrom < (p.fVersions.length : Int) ∧ 0 ≤ t.fTo ∧ t.fTo < (p.fVersions.length : Int) := by
 unfold Dw at h
 split at h
 ·cases h
 ·split at h
  ·cases h
  ·omega
theorem OE (N : Nat) (m : Ae) (s : Int) (h0 : 0 ≤ s) (h1 : s < (m.fBase.length : Int)) (h2 : s < (m.fNext.length : Int)) (hb : 0 ≤ m.fBase.getD s.toNat 0) : D6 N m s = some (FH m s.toNat) := by
 unfold D6 FH
 rw [EE (d := 0) h0 h1, EE (d := 0) h0 h2]
 simp only [Option.bind_some, Bb]
 rw [show D7 (0 ≤ m.fBase.getD s.toNat 0) = some () from by unfold D7; rw [if_pos hb]]
 simp only [Option.bind_some]
 by_cases h : 0 ≤ m.fNext.getD s.toNat 0
 ·rw [A7 h, if_pos h, show D7 (0 ≤ m.fNext.getD s.toNat 0) = some () from by unfold D7; rw [if_pos h]]; rfl
 ·rw [A0 h, if_neg h]
theorem Lo (N : Nat) (m : Ae) (s : Int) (h0 : 0 ≤ s) (h1 : s < (m.fBase.length : Int)) (h2 : s < (m.fNext.length : Int)) (hb : 0 ≤ m.fBase.getD s.toNat 0) : Cq N m s = some (FH m s.toNat) := by
 unfold Cq FH
 rw [EE (d := 0) h0 h1, EE (d := 0) h0 h2]
 simp only [Option.bind_some, Bb]
 rw [show D7 (0 ≤ m.fBase.getD s.toNat 0) = some () from by unfold D7; rw [if_pos hb]]
 simp only [Option.bind_some]
 by_cases h : 0 ≤ m.fNext.getD s.toNat 0
 ·rw [A7 h, if_pos h, show D7 (0 ≤ m.fNext.getD s.toNat 0) = some () from by unfold D7; rw [if_pos h]]; rfl
 ·rw [A0 h, if_neg h]
theorem Nj (N : Nat) (p : Ah) (m : Ae) (hN : N ≤ 1000000) (h1 : p.fVersions.length < N) (h2 : m.fBase.length = p.fVersions.length) (h3 : m.fNext.length = p.fVersions.length) (j : Option Int) :
  Du N p m (fun _ => j) N 0 = BD (DX (Jv m) 0 p.fVersions) j := by
 have := DQ (Du N p m (fun _ => j)) p.fVersions j (Jv m)
  (fun n i x hx => by
   have hi := (List.getElem?_eq_some_iff.1 hx).1
   rw [Du, A7 (by omega), Cj, hx]
   simp only [Option.bind_some, Bb]
   rw [DS (d := 0) (by omega), DS (d := 0) (by omega), BY (by omega)]
   simp only [Option.bind_some]
   unfold Jv
   generalize m.fBase.getD i 0 = a
   generalize m.fNext.getD i 0 = b
   by_cases k7 : a = b
   ·subst k7
    by_cases k3 : a < 0 <;> by_cases k4 : x ≤ a <;> by_cases k5 : a < -1 <;> simp [k3, k4, k5, BD]
   ·have k8 : (a == b) = false := beq_eq_false_iff_ne.2 k7
    by_cases k3 : a < 0 <;> by_cases k4 : x ≤ a <;> by_cases k5 : b < -1 <;> by_cases k6 : x ≤ b <;> simp [k3, k4, k5, k6, k7, k8, BD])
  (fun n => by rw [Du, A0 (by omega)]) N 0 (by omega) (by omega)
 simpa using this
theorem MO (N : Nat) (p : Ah) (m : Ae) (hN : N ≤ 1000000) (h1 : p.fVersions.length < N) (h2 : m.fBase.length = p.fVersions.length) (h3 : m.fNext.length = p.fVersions.length) (j : Option Int) :
  BU N p m (fun _ => j) N 0 = BD (DX (Jv m) 0 p.fVersions) j := by
 have := DQ (BU N p m (fun _ => j)) p.fVersions j (Jv m)
  (fun n i x hx => by
   have hi := (List.getElem?_eq_some_iff.1 hx).1
   rw [BU, A7 (by omega), show A5 p.fVersions (i : Int) = some x from by rw [Cj, hx]]
   simp only [Option.bind_some, Bb]
   rw [DS (d := 0) (by omega), DS (d := 0) (by omega), BY (by omega)]
   simp only [Option.bind_some]
   unfold Jv
   generalize m.fBase.getD i 0 = a
   generalize m.fNext.getD i 0 = b
   by_cases k7 : a = b
   ·subst k7
    by_cases k3 : a < 0 <;> by_cases k4 : x ≤ a <;> by_cases k5 : a < -1 <;> simp [k3, k4, k5, BD]
   ·have k8 : (a == b) = false := beq_eq_false_iff_ne.2 k7
    by_cases k3 : a < 0 <;> by_cases k4 : x ≤ a <;> by_cases k5 : b < -1 <;> by_cases k6 : x ≤ b <;> simp [k3, k4, k5, k6, k7, k8, BD])
  (fun n => by rw [BU, A0 (by omega)]) N 0 (by omega) (by omega)
 simpa using this
end Go.Lift

/- The test of a mix, the whole: both implementations give one answer. -/
namespace Go.Lift
structure MixServ (p : Ah) (m : Ae) : Prop where
 base : m.fBase.length = p.fVersions.length
 next : m.fNext.length = p.fVersions.length
 held : m.fHeld.length = p.fTables.length
 b0 : ∀ i, i < p.fVersions.length → 0 ≤ m.fBase.getD i 0 ∧ m.fBase.getD i 0 < p.fVersions.getD i 0
 n0 : ∀ i, i < p.fVersions.length → -1 ≤ m.fNext.getD i 0 ∧ m.fNext.getD i 0 < p.fVersions.getD i 0
 ne : ∀ i, i < p.fVersions.length → m.fBase.getD i 0 ≠ m.fNext.getD i 0
theorem M9 {p : Ah} {m : Ae} (h2 : m.fBase.length = p.fVersions.length) (h3 : m.fNext.length = p.fVersions.length) (h4 : m.fHeld.length = p.fTables.length) (h : DX (Jv m) 0 p.fVersions = none) : MixServ p m := by
 have key : ∀ i, i < p.fVersions.length → ¬ (m.fBase.getD i 0 < 0 ∨ p.fVersions.getD i 0 ≤ m.fBase.getD i 0 ∨ m.fNext.getD i 0 < -1 ∨ p.fVersions.getD i 0 ≤ m.fNext.getD i 0) ∧ ¬ m.fBase.getD i 0 = m.fNext.getD i 0 := by
  intro i hi
  have hx : p.fVersions[i]? = some (p.fVersions.getD i 0) := by rw [List.getD_eq_getElem?_getD]; simp [hi]
  have := GB h i _ hx
  rw [Nat.zero_add] at this
  unfold Jv at this
  split at this
  ·cases this
  ·split at this
   ·cases this
   ·rename_i k1 k2; exact ⟨k1, k2⟩
 exact ⟨h2, h3, h4, fun i hi => by have := (key i hi).1; omega, fun i hi => by have := (key i hi).1; omega, fun i hi => (key i hi).2⟩
theorem NF {m : Ae} (hw : LT Kc m.fHeld) {i : Nat} (h : i < m.fHeld.length) : Kc (m.fHeld.getD i 0) := by
 refine hw _ ?_
 rw [List.getD_eq_getElem?_getD, List.getElem?_eq_getElem h]
 exact List.getElem_mem _
theorem Jp (N : Nat) (t : AH) : Eq N t = some (Cg t) := by
 unfold Eq Cg
 simp only [Bb]
 cases h : t.fKind == 3 <;> simp
theorem GQ (N : Nat) (t : AH) : A4 N t = some (Cg t) := Km N t
theorem Oi (N : Nat) (p : Ah) (m : Ae) (hN : N ≤ 1000000) (h1 : p.fTables.length < N) (hp : DJ p) (hm : MixServ p m) (hw : LT Kc m.fHeld) (j : Option Int) :
  Da N p m (fun _ => j) N 0 = BD (DX (HJ p m) 0 p.fTables) j := by
 have := DQ (Da N p m (fun _ => j)) p.fTables j (HJ p m)
  (fun n i x hx => by
   have hi := (List.getElem?_eq_some_iff.1 hx).1
   have hin := Hw (hp.tab x (List.mem_of_getElem? hx))
   have hheld := NF hw (show i < m.fHeld.length from by rw [hm.held]; exact hi)
   have hv := Kt hp.ver hin.1 hin.2.1
   rw [Da, A7 (by omega), Cj, hx]
   simp only [Option.bind_some, Bb, Jp]
   rw [OE N m x.fFrom hin.1 (by rw [hm.base]; exact hin.2.1) (by rw [hm.next]; exact hin.2.1) (hm.b0 _ (by omega)).1, EE (d := 0) hin.1 hin.2.1, DS (d := 0) (show i < m.fHeld.length from by rw [hm.held]; exact hi), BY (by omega)]
   simp only [Option.bind_some]
   rw [show D7 (0 ≤ p.fVersions.getD x.fFrom.toNat 0) = some () from by unfold D7; rw [if_pos (by omega)]]
   simp only [Option.bind_some]
   unfold HJ Q0
   rw [Px hheld, Py hheld]
   generalize CK .u8 (FH m x.fFrom.toNat) (m.fHeld.getD i 0) = A
   generalize CK .u8 (m.fHeld.getD i 0) (IntKind.wrap .u8 (Co .u8 1 (p.fVersions.getD x.fFrom.toNat 0) - 1)) = B
   generalize m.fHeld.getD i 0 = H
   cases Cg x
   ·simp only [Ay, bne_self_eq_false]
    by_cases k : H = 0
    ·simp [k, BD]
    ·have : (H != 0) = true := bne_iff_ne.2 k
     simp [k, this, BD]
   ·simp only [AQ]
    by_cases k : A = 0
    ·by_cases k2 : B = 0
     ·simp [k, k2, BD]
     ·have : (B != 0) = true := bne_iff_ne.2 k2
      simp [k, k2, this, BD]
    ·have : (A != 0) = true := bne_iff_ne.2 k
     simp [k, this, BD])
  (fun n => by rw [Da, A0 (by omega)]) N 0 (by omega) (by omega)
 simpa using this
theorem Oy (N : Nat) (p : Ah) (m : Ae) (hN : N ≤ 1000000) (h1 : p.fTables.length < N) (hp : DJ p) (hm : MixServ p m) (j : Option Int) :
  BH N p m (fun _ => j) N 0 = BD (DX (HJ p m) 0 p.fTables) j := by
 have := DQ (BH N p m (fun _ => j)) p.fTables j (HJ p m)
  (fun n i x hx => by
   have hi := (List.getElem?_eq_some_iff.1 hx).1
   have hin := Hw (hp.tab x (List.mem_of_getElem? hx))
   have hv := Kt hp.ver hin.1 hin.2.1
   rw [BH, A7 (by omega), Cj, hx]
   simp only [Option.bind_some, Bb, GQ]
   rw [Lo N m x.fFrom hin.1 (by rw [hm.base]; exact hin.2.1) (by rw [hm.next]; exact hin.2.1) (hm.b0 _ (by omega)).1, EE (d := 0) hin.1 hin.2.1, DS (d := 0) (show i < m.fHeld.length from by rw [hm.held]; exact hi), BY (by omega)]
   simp only [Option.bind_some]
   rw [show D7 (0 ≤ p.fVersions.getD x.fFrom.toNat 0) = some () from by unfold D7; rw [if_pos (by omega)]]
   simp only [Option.bind_some]
   unfold HJ Q0
   generalize CK .u8 (FH m x.fFrom.toNat) (m.fHeld.getD i 0) = A
   generalize CK .u8 (m.fHeld.getD i 0) (IntKind.wrap .u8 (Co .u8 1 (p.fVersions.getD x.fFrom.toNat 0) - 1)) = B
   generalize m.fHeld.getD i 0 = H
   cases Cg x
   ·simp only [Bool.not_false, AQ, Ay]
    by_cases k : H = 0
    ·simp [k, BD]
    ·have : (H != 0) = true := bne_iff_ne.2 k
     simp [k, this, BD]
   ·simp only [Bool.not_true, Ay, AQ]
    by_cases k : A = 0
    ·by_cases k2 : B = 0
     ·simp [k, k2, BD]
     ·have : (B != 0) = true := bne_iff_ne.2 k2
      simp [k, k2, this, BD]
    ·have : (A != 0) = true := bne_iff_ne.2 k
     by_cases k2 : B = 0
     ·simp [k, k2, this, BD]
     ·have h5 : (B != 0) = true := bne_iff_ne.2 k2
      simp [k, h5, BD])
  (fun n => by rw [BH, A0 (by omega)]) N 0 (by omega) (by omega)
 simpa using this
theorem MT (N : Nat) (p : Ah) (m : Ae) (hN : N ≤ 1000000) (h : 20 ≤ N) (hw : LT Kc m.fHeld) : Ek N p m = some (Hm p m) := by
 unfold Ek Hm
 rw [J9 N p hN h]
 simp only [Option.bind_some, Bb]
 by_cases k0 : CT p = 0
 ·have hp : DJ p := by
   rcases He p with h | h
   ·exact h.2
   ·omega
  have hnv := hp.nv
  have hnt := hp.nt
  rw [k0]
  simp only [bne_self_eq_false, Ay, ne_eq, not_true_eq_false, if_false]
  by_cases k1 : m.fBase.length = p.fVersions.length
  ·by_cases k2 : m.fNext.length = p.fVersions.length
   ·by_cases k3 : m.fHeld.length = p.fTables.length
    ·rw [k1, k2, k3]
     simp only [bne_self_eq_false, Ay, not_true_eq_false, or_self, if_false]
     rw [Nj N p m hN (by omega) k1 k2]
     cases hs : DX (Jv m) 0 p.fVersions with
     | some r => rfl
     | none =>
      simp only [BD]
      rw [Oi N p m hN (by omega) hp (M9 k1 k2 k3 hs) hw]
      cases DX (HJ p m) 0 p.fTables <;> rfl
    ·have : ((m.fHeld.length : Int) != (p.fTables.length : Int)) = true := bne_iff_ne.2 (by omega)
     rw [this, k1, k2]; simp [k3]
   ·have : ((m.fNext.length : Int) != (p.fVersions.length : Int)) = true := bne_iff_ne.2 (by omega)
    rw [this, k1]; simp [k2]
  ·have : ((m.fBase.length : Int) != (p.fVersions.length : Int)) = true := bne_iff_ne.2 (by omega)
   rw [this]; simp [k1]
 ·rw [bne_iff_ne.2 k0]; simp [k0]
theorem JS (N : Nat) (p : Ah) (m : Ae) (hN : N ≤ 1000000) (h : 20 ≤ N) : Dc N p m = some (Hm p m) := by
 unfold Dc Hm
 rw [LH N p hN h]
 simp only [Option.bind_some, Bb]
 by_cases k0 : CT p = 0
 ·have hp : DJ p := by
   rcases He p with h | h
   ·exact h.2
   ·omega
  have hnv := hp.nv
  have hnt := hp.nt
  rw [k0]
  simp only [bne_self_eq_false, Ay, ne_eq, not_true_eq_false, if_false]
  by_cases k1 : m.fBase.length = p.fVersions.length
  ·by_cases k2 : m.fNext.length = p.fVersions.length
   ·by_cases k3 : m.fHeld.length = p.fTables.length
    ·rw [k1, k2, k3]
     simp only [bne_self_eq_false, Ay, not_true_eq_false, or_self, if_false]
     rw [MO N p m hN (by omega) k1 k2]
     cases hs : DX (Jv m) 0 p.fVersions with
     | some r => rfl
     | none =>
      simp only [BD]
      rw [Oy N p m hN (by omega) hp (M9 k1 k2 k3 hs)]
      cases DX (HJ p m) 0 p.fTables <;> rfl
    ·have : ((m.fHeld.length : Int) != (p.fTables.length : Int)) = true := bne_iff_ne.2 (by omega)
     rw [this, k1, k2]; simp [k3]
   ·have : ((m.fNext.length : Int) != (p.fVersions.length : Int)) = true := bne_iff_ne.2 (by omega)
    rw [this, k1]; simp [k2]
  ·have : ((m.fBase.length : Int) != (p.fVersions.length : Int)) = true := bne_iff_ne.2 (by omega)
   rw [this]; simp [k1]
 ·rw [bne_iff_ne.2 k0]; simp [k0]
end Go.Lift

/- Loops of the shallow programs as folds along lists. -/
namespace Go.Lift
@[simp] theorem DD {α β : Type} (k : α) (f : α → β) : Bb k f = f k := rfl
@[simp] theorem Qr {p : Prop} [Decidable p] (h : p) : D7 p = some () := by unfold D7; rw [if_pos h]
theorem AX {β : Type} {p : Prop} [Decidable p] (h : p) (f : Unit → Option β) : (D7 p).bind f = f () := by rw [Qr h]; rfl
def Jh {α A : Type} (f : Nat → α → A → A) : Nat → List α → A → A
 | _, [], a => a
 | i, x :: xs, a => Jh f (i + 1) xs (f i x a)
theorem Kg {α A S R : Type} (L : Nat → S → Option R) (mk : A → Int → S) (xs : List α) (j : A → Option R) (f : Nat → α → A → A) (I : Nat → A → Prop)
  (hs : ∀ (n i : Nat) (x : α) (a : A), xs[i]? = some x → I i a → L (n + 1) (mk a (i : Int)) = L n (mk (f i x a) ((i + 1 : Nat) : Int)) ∧ I (i + 1) (f i x a))
  (he : ∀ (n : Nat) (a : A), I xs.length a → L (n + 1) (mk a (xs.length : Int)) = j a) :
  ∀ (n i : Nat) (a : A), i ≤ xs.length → xs.length - i < n → I i a → L n (mk a (i : Int)) = j (Jh f i (xs.drop i) a) ∧ I xs.length (Jh f i (xs.drop i) a)
 | 0, i, _, _, h, _ => by omega
 | n + 1, i, a, hi, h, ha => by
  by_cases h1 : i < xs.length
  ·have hx : xs[i]? = some xs[i] := by simp [h1]
   obtain ⟨e1, e2⟩ := hs n i _ a hx ha
   rw [e1, Hi hx, Jh]
   exact Kg L mk xs j f I hs he n (i + 1) _ (by omega) (by omega) e2
  ·have : i = xs.length := by omega
   subst this
   rw [List.drop_eq_nil_of_le (Nat.le_refl _), Jh]
   exact ⟨he n a ha, ha⟩
end Go.Lift

/- Sets as bits, the mixes that are valid, and the conflicts of a mix: both implementations give one answer. -/
namespace Go.Lift
def DH (s : Int) (v : Nat) : Bool := s.toNat.testBit v
def Jx (m : Ae) (s v : Nat) : Bool := decide (m.fBase.getD s 0 = (v : Int)) || decide (m.fNext.getD s 0 = (v : Int))
theorem Ro : ∀ (s : Fin 256) (v : Fin 8), Fm .u8 (D0 .u8 (s.val : Int) (v.val : Int)) 1 = if DH (s.val : Int) v.val then 1 else 0 := by decide +kernel
theorem Rs {s : Int} {v : Nat} (h0 : 0 ≤ s) (h1 : s ≤ 255) (hv : v < 8) : Fm .u8 (D0 .u8 s (v : Int)) 1 = if DH s v then 1 else 0 := by
 obtain ⟨k, rfl⟩ := Int.eq_ofNat_of_zero_le h0
 exact Ro ⟨k, by omega⟩ ⟨v, hv⟩
theorem Il {s : Int} {v : Nat} (h1 : s ≤ 255) (hv : 8 ≤ v) : DH s v = false := by
 unfold DH
 apply Nat.testBit_lt_two_pow
 have : (2 : Nat) ^ 8 ≤ 2 ^ v := Nat.pow_le_pow_right (by omega) hv
 omega
theorem Ij : ∀ (b : Fin 8) (v : Fin 8), DH (Co .u8 1 (b.val : Int)) v.val = decide (b.val = v.val) ∧ 0 ≤ Co .u8 1 (b.val : Int) ∧ Co .u8 1 (b.val : Int) ≤ 255 := by decide +kernel
theorem Q3 : ∀ (b n : Fin 8) (v : Fin 8), DH (LU .u8 (Co .u8 1 (b.val : Int)) (Co .u8 1 (n.val : Int))) v.val = (decide (b.val = v.val) || decide (n.val = v.val))
  ∧ 0 ≤ LU .u8 (Co .u8 1 (b.val : Int)) (Co .u8 1 (n.val : Int)) ∧ LU .u8 (Co .u8 1 (b.val : Int)) (Co .u8 1 (n.val : Int)) ≤ 255 := by decide +kernel
theorem Qc {m : Ae} {s : Nat} (hb0 : 0 ≤ m.fBase.getD s 0) (hb1 : m.fBase.getD s 0 < 8) (hn1 : m.fNext.getD s 0 < 8) :
  (∀ v, DH (FH m s) v = Jx m s v) ∧ 0 ≤ FH m s ∧ FH m s ≤ 255 := by
 unfold FH Jx
 obtain ⟨b, hb⟩ := Int.eq_ofNat_of_zero_le hb0
 rw [hb] at hb1 ⊢
 by_cases h : 0 ≤ m.fNext.getD s 0
 ·obtain ⟨n, hn⟩ := Int.eq_ofNat_of_zero_le h
  rw [hn] at hn1 ⊢
  rw [if_pos (by omega)]
  have h1 := Q3 ⟨b, by omega⟩ ⟨n, by omega⟩
  refine ⟨fun v => ?_, (h1 0).2⟩
  by_cases hv : v < 8
  ·rw [(h1 ⟨v, hv⟩).1]
   simp only [Int.ofNat_inj]
  ·rw [Il (h1 0).2.2 (by omega)]
   simp; omega
 ·rw [if_neg h]
  have h1 := Ij ⟨b, by omega⟩
  refine ⟨fun v => ?_, (h1 0).2⟩
  have h3 : decide (m.fNext.getD s 0 = (v : Int)) = false := decide_eq_false (by omega)
  rw [h3, Bool.or_false]
  by_cases hv : v < 8
  ·rw [(h1 ⟨v, hv⟩).1]
   simp only [Int.ofNat_inj]
  ·rw [Il (h1 0).2.2 (by omega)]
   simp; omega
theorem P9 {a : Nat} (h : a < 256) : (BitVec.ofInt 8 (a : Int)).toNat = a := by
 simp; omega
theorem Lj {a b : Int} (ha : 0 ≤ a ∧ a ≤ 255) (hb : 0 ≤ b ∧ b ≤ 255) : CK .u8 a b = 0 ↔ ∀ v, DH a v = true → DH b v = true := by
 obtain ⟨a, rfl⟩ := Int.eq_ofNat_of_zero_le ha.1
 obtain ⟨b, rfl⟩ := Int.eq_ofNat_of_zero_le hb.1
 have hA := P9 (a := a) (by omega)
 have hB := P9 (a := b) (by omega)
 unfold CK DH
 simp only [IntKind.bits, Int.toNat_natCast]
 have hx : ∀ x : BitVec 8, IntKind.wrap .u8 (x.toNat : Int) = (x.toNat : Int) := by
  intro x
  have := x.isLt
  simp [IntKind.wrap, IntKind.signed, IntKind.bits]
  omega
 rw [hx]
 constructor
 ·intro h v hv
  have h0 : (BitVec.ofInt 8 (a : Int) &&& ~~~BitVec.ofInt 8 (b : Int)) = (BitVec.ofNat 8 0) := by
   apply BitVec.eq_of_toNat_eq
   simp only [BitVec.toNat_ofNat, Nat.zero_mod]
   exact Int.ofNat_inj.1 h
  by_cases hv8 : v < 8
  ·have h1 : (BitVec.ofInt 8 (a : Int) &&& ~~~BitVec.ofInt 8 (b : Int)).getLsbD v = false := by rw [h0]; simp
   rw [BitVec.getLsbD_and, BitVec.getLsbD_not] at h1
   have e1 : (BitVec.ofInt 8 (a : Int)).getLsbD v = a.testBit v := by unfold BitVec.getLsbD; rw [hA]
   have e2 : (BitVec.ofInt 8 (b : Int)).getLsbD v = b.testBit v := by unfold BitVec.getLsbD; rw [hB]
   rw [e1, e2, hv] at h1
   simpa [hv8] using h1
  ·have := Il (s := (a : Int)) (v := v) (by omega) (by omega)
   unfold DH at this
   rw [Int.toNat_natCast, hv] at this
   cases this
 ·intro h
  have h0 : (BitVec.ofInt 8 (a : Int) &&& ~~~BitVec.ofInt 8 (b : Int)) = (BitVec.ofNat 8 0) := by
   apply BitVec.eq_of_getLsbD_eq
   intro i hi
   rw [BitVec.getLsbD_and, BitVec.getLsbD_not]
   have e1 : (BitVec.ofInt 8 (a : Int)).getLsbD i = a.testBit i := by unfold BitVec.getLsbD; rw [hA]
   have e2 : (BitVec.ofInt 8 (b : Int)).getLsbD i = b.testBit i := by unfold BitVec.getLsbD; rw [hB]
   rw [e1, e2]
   have := h i
   cases h3 : a.testBit i
   ·simp
   ·rw [this h3]; simp
  have h2 : ∀ x : BitVec 8, x = (BitVec.ofNat 8 0) → (x.toNat : Int) = 0 := fun x hx => by rw [hx]; rfl
  exact h2 _ h0
theorem Ru : ∀ n : Fin 9, (∀ v : Fin 8, DH (IntKind.wrap .u8 (Co .u8 1 (n.val : Int) - 1)) v.val = decide (v.val < n.val)) ∧ 0 ≤ IntKind.wrap .u8 (Co .u8 1 (n.val : Int) - 1) ∧ IntKind.wrap .u8 (Co .u8 1 (n.val : Int) - 1) ≤ 255 := by decide +kernel
theorem QJ {n : Int} (h0 : 0 ≤ n) (h1 : n ≤ 8) : (∀ v, DH (IntKind.wrap .u8 (Co .u8 1 n - 1)) v = decide ((v : Int) < n)) ∧ 0 ≤ IntKind.wrap .u8 (Co .u8 1 n - 1) ∧ IntKind.wrap .u8 (Co .u8 1 n - 1) ≤ 255 := by
 obtain ⟨n, rfl⟩ := Int.eq_ofNat_of_zero_le h0
 have h := Ru ⟨n, by omega⟩
 refine ⟨fun v => ?_, h.2⟩
 by_cases hv : v < 8
 ·rw [h.1 ⟨v, hv⟩]; simp
 ·rw [Il h.2.2 (by omega)]
  symm; apply decide_eq_false; omega
structure E8 (p : Ah) (m : Ae) : Prop extends MixServ p m where
 range : ∀ i, i < p.fTables.length → 0 ≤ m.fHeld.getD i 0 ∧ m.fHeld.getD i 0 ≤ 255
 low : ∀ i t, p.fTables[i]? = some t → Cg t = true → ∀ v, Jx m t.fFrom.toNat v = true → DH (m.fHeld.getD i 0) v = true
 high : ∀ i t, p.fTables[i]? = some t → Cg t = true → ∀ v, DH (m.fHeld.getD i 0) v = true → (v : Int) < p.fVersions.getD t.fFrom.toNat 0
 none : ∀ i t, p.fTables[i]? = some t → Cg t = false → m.fHeld.getD i 0 = 0
theorem Ip {p : Ah} (hp : DJ p) {i : Nat} (hi : i < p.fVersions.length) : 1 ≤ p.fVersions.getD i 0 ∧ p.fVersions.getD i 0 ≤ 6 := by
 have := Kt (i := (i : Int)) hp.ver (by omega) (by omega)
 simpa using this
theorem JI {p : Ah} {m : Ae} (hp : DJ p) (hm : MixServ p m) {s : Nat} (hs : s < p.fVersions.length) :
  (∀ v, DH (FH m s) v = Jx m s v) ∧ 0 ≤ FH m s ∧ FH m s ≤ 255 := by
 have h1 := hm.b0 s hs
 have h2 := hm.n0 s hs
 have h3 := Ip hp hs
 exact Qc h1.1 (by omega) (by omega)
theorem N9 {p : Ah} {m : Ae} (hp : DJ p) (hm : MixServ p m) {i : Nat} {t : AH} (ht : p.fTables[i]? = some t) (hr : 0 ≤ m.fHeld.getD i 0 ∧ m.fHeld.getD i 0 ≤ 255) :
  HJ p m i t = none ↔ ((Cg t = true → (∀ v, Jx m t.fFrom.toNat v = true → DH (m.fHeld.getD i 0) v = true) ∧ (∀ v, DH (m.fHeld.getD i 0) v = true → (v : Int) < p.fVersions.getD t.fFrom.toNat 0)) ∧ (Cg t = false → m.fHeld.getD i 0 = 0)) := by
 have hin := Hw (hp.tab t (List.mem_of_getElem? ht))
 have hrun := JI hp hm (s := t.fFrom.toNat) (by omega)
 have hver := Ip hp (i := t.fFrom.toNat) (by omega)
 have hall := QJ (n := p.fVersions.getD t.fFrom.toNat 0) (by omega) (by omega)
 unfold HJ Q0
 have e1 := Lj hrun.2 hr
 have e2 := Lj hr hall.2
 cases hst : Cg t
 ·simp
 ·simp only [if_true, true_implies, Bool.true_eq_false, false_implies, and_true, ite_eq_right_iff, reduceCtorEq, imp_false, not_or, Decidable.not_not]
  rw [e1, e2]
  simp only [hrun.1, hall.1, decide_eq_true_eq]
theorem P6 {p : Ah} {m : Ae} (hw : LT Kc m.fHeld) (h : Hm p m = 0) : DJ p ∧ E8 p m := by
 unfold Hm at h
 split at h
 ·rename_i k; exact (k h).elim
 ·rename_i k0
  have hp : DJ p := by
   rcases He p with h | h
   ·exact h.2
   ·omega
  split at h
  ·cases h
  ·rename_i k1
   have b1 : m.fBase.length = p.fVersions.length := Decidable.not_not.1 fun h => k1 (.inl h)
   have b2 : m.fNext.length = p.fVersions.length := Decidable.not_not.1 fun h => k1 (.inr (.inl h))
   have b3 : m.fHeld.length = p.fTables.length := Decidable.not_not.1 fun h => k1 (.inr (.inr h))
   cases hs : DX (Jv m) 0 p.fVersions with
   | some r =>
    obtain ⟨j, x, _, he⟩ := Fq hs
    rw [hs] at h
    unfold Jv at he
    simp only [BD, Option.getD_some] at h
    split at he
    ·cases he; cases h
    ·split at he
     ·cases he; cases h
     ·cases he
   | none =>
    have hm := M9 b1 b2 b3 hs
    rw [hs] at h
    simp only [BD] at h
    cases ht : DX (HJ p m) 0 p.fTables with
    | some r =>
     obtain ⟨j, x, _, he⟩ := Fq ht
     rw [ht] at h
     simp only [Option.getD_some] at h
     subst h
     unfold HJ at he
     split at he
     ·split at he <;> cases he
     ·split at he <;> cases he
    | none =>
     have hr : ∀ i, i < p.fTables.length → 0 ≤ m.fHeld.getD i 0 ∧ m.fHeld.getD i 0 ≤ 255 := fun i hi => Hz (NF hw (by omega))
     have key : ∀ i t, p.fTables[i]? = some t → _ := fun i t hi => (N9 hp hm hi (hr i (List.getElem?_eq_some_iff.1 hi).1)).1 (by have := GB ht i t hi; rwa [Nat.zero_add] at this)
     exact ⟨hp, hm, hr, fun i t hi hst => ((key i t hi).1 hst).1, fun i t hi hst => ((key i t hi).1 hst).2, fun i t hi hst => (key i t hi).2 hst⟩
theorem EP {α R : Type} {f : Nat → α → Option R} : ∀ {i : Nat} {xs : List α}, (∀ j x, xs[j]? = some x → f (i + j) x = none) → DX f i xs = none
 | _, [], _ => rfl
 | i, y :: ys, h => by
  rw [H9, show f i y = none from h 0 y rfl]
  exact EP fun j x hx => by
   have := h (j + 1) x (by simpa using hx)
   rwa [show i + (j + 1) = i + 1 + j from by omega] at this
theorem ME {p : Ah} (hp : DJ p) (hr : ∀ i, i < p.fVersions.length → 0 ≤ p.fNow.getD i 0 ∧ p.fNow.getD i 0 < p.fVersions.getD i 0 ∧ 0 ≤ p.fTarget.getD i 0 ∧ p.fTarget.getD i 0 < p.fVersions.getD i 0) : CT p = 0 := by
 have := hp.nv
 have := hp.nt
 have := hp.now
 have := hp.tgt
 unfold CT
 rw [if_neg (by omega), if_neg (by omega)]
 have h1 : DX (E0 p) 0 p.fVersions = none := EP fun j x hx => by
  have hj := (List.getElem?_eq_some_iff.1 hx).1
  have h1 := hr j hj
  have h2 := Ip hp hj
  have e : p.fVersions.getD j 0 = x := by rw [List.getD_eq_getElem?_getD, hx]; rfl
  rw [e] at h1 h2
  unfold E0
  rw [Nat.zero_add, if_neg (by omega)]
 have h2 : DX (Ka p) 0 p.fTables = none := EP fun j x hx => by
  unfold Ka
  rw [if_pos (hp.tab x (List.mem_of_getElem? hx))]
 rw [h1, h2]; rfl
theorem EJ {p : Ah} (h : CT p = 0) : DJ p ∧ ∀ i, i < p.fVersions.length → 0 ≤ p.fNow.getD i 0 ∧ p.fNow.getD i 0 < p.fVersions.getD i 0 ∧ 0 ≤ p.fTarget.getD i 0 ∧ p.fTarget.getD i 0 < p.fVersions.getD i 0 := by
 have hp : DJ p := by
  rcases He p with h | h
  ·exact h.2
  ·omega
 refine ⟨hp, fun i hi => ?_⟩
 have h1 := hp.nv
 have h2 := hp.nt
 have h3 := hp.now
 have h4 := hp.tgt
 unfold CT at h
 rw [if_neg (by omega), if_neg (by omega)] at h
 cases hs : DX (E0 p) 0 p.fVersions with
 | some r =>
  obtain ⟨j, x, _, he⟩ := Fq hs
  rw [hs] at h
  unfold E0 at he
  split at he
  ·cases he; cases h
  ·cases he
 | none =>
  have hx : p.fVersions[i]? = some (p.fVersions.getD i 0) := by rw [List.getD_eq_getElem?_getD]; simp [hi]
  have := GB hs i _ hx
  rw [Nat.zero_add] at this
  unfold E0 at this
  split at this
  ·cases this
  ·rename_i hn; omega
theorem Ob {p : Ah} {m : Ae} (hv : CT p = 0) (hm : E8 p m) : Hm p m = 0 := by
 obtain ⟨hp, _⟩ := EJ hv
 unfold Hm
 rw [hv, if_neg (by simp), if_neg (by have := hm.base; have := hm.next; have := hm.held; omega)]
 have h1 : DX (Jv m) 0 p.fVersions = none := EP fun j x hx => by
  have hj := (List.getElem?_eq_some_iff.1 hx).1
  have e : p.fVersions.getD j 0 = x := by rw [List.getD_eq_getElem?_getD, hx]; rfl
  have h1 := hm.b0 j hj
  have h2 := hm.n0 j hj
  have h3 := hm.ne j hj
  rw [e] at h1 h2
  unfold Jv
  rw [Nat.zero_add, if_neg (by omega), if_neg h3]
 have h2 : DX (HJ p m) 0 p.fTables = none := EP fun j x hx => by
  have hj := (List.getElem?_eq_some_iff.1 hx).1
  rw [Nat.zero_add]
  exact (N9 hp hm.toMixServ hx (hm.range j hj)).2 ⟨fun hst => ⟨hm.low j x hx hst, hm.high j x hx hst⟩, fun hst => hm.none j x hx hst⟩
 rw [h1, h2]; rfl
end Go.Lift

/- The conflicts of a mix: both implementations give one answer. -/
namespace Go.Lift
def hC (m : Ae) (t : AH) (v : Nat) (ok : Bool) : Bool := Jx m t.fTo.toNat v && ok
structure R0 (p : Ah) (t : AH) : Prop where
 kind : 1 ≤ t.fKind ∧ t.fKind ≤ 4
 aware : t.fAware = true → Cg t = false
 from0 : 0 ≤ t.fFrom ∧ t.fFrom < (p.fVersions.length : Int)
 to0 : 0 ≤ t.fTo ∧ t.fTo < (p.fVersions.length : Int)
 okL : (t.fOK.length : Int) = p.fVersions.getD t.fFrom.toNat 0
 okR : ∀ row, row ∈ t.fOK → (row.length : Int) = p.fVersions.getD t.fTo.toNat 0
 reL : t.fKind = 4 → (t.fRewrite.length : Int) = p.fVersions.getD t.fFrom.toNat 0
 reR : ∀ row, row ∈ t.fRewrite → (row.length : Int) = p.fVersions.getD t.fFrom.toNat 0
 reD : t.fKind = 4 → Hu t.fRewrite = none
 reN : t.fKind ≠ 4 → t.fRewrite = []
theorem Sc {p : Ah} {t : AH} (h : Dw p t = 0) : R0 p t := by
 unfold Dw at h
 split at h
 ·cases h
 rename_i h1
 split at h
 ·cases h
 rename_i h2
 simp only at h
 split at h
 ·cases h
 rename_i h3
 have h3 : sq t.fOK (p.fVersions.getD t.fFrom.toNat 0) (p.fVersions.getD t.fTo.toNat 0) = true := by simpa using h3
 have h3 := K2 h3
 have ha : t.fAware = true → Cg t = false := by
  intro ha
  unfold Cg
  rw [Bool.or_eq_false_iff, beq_eq_false_iff_ne, beq_eq_false_iff_ne]
  exact ⟨fun hk => h1 (.inr (.inr ⟨ha, .inl hk⟩)), fun hk => h1 (.inr (.inr ⟨ha, .inr hk⟩))⟩
 split at h
 ·rename_i h4
  split at h
  ·cases h
  rename_i h5
  have h5 : sq t.fRewrite (p.fVersions.getD t.fFrom.toNat 0) (p.fVersions.getD t.fFrom.toNat 0) = true := by simpa using h5
  have h5 := K2 h5
  refine ⟨by omega, ha, by omega, by omega, h3.1, h3.2, fun _ => h5.1, h5.2, fun _ => ?_, fun h => (h h4).elim⟩
  cases hd : Hu t.fRewrite with
  | none => rfl
  | some r =>
   obtain ⟨j, x, _, hx⟩ := Fq hd
   rw [hd] at h
   split at hx
   ·cases hx
   ·cases hx; cases h
 ·rename_i h4
  split at h
  ·rename_i h5
   have h5 := List.eq_nil_of_length_eq_zero h5
   refine ⟨by omega, ha, by omega, by omega, h3.1, h3.2, fun h => (h4 h).elim, fun row hr => ?_, fun h => (h4 h).elim, fun _ => h5⟩
   rw [h5] at hr; cases hr
  ·cases h
end Go.Lift

/- The conflicts of a mix: both implementations give one answer. -/
namespace Go.Lift
end Go.Lift

/- The drafts: what the recipes give is a valid problem and a valid mix. -/
namespace Go.Lift
theorem HI {A S R : Type} (L : Nat → S → Option R) (mk : A → Int → S) (len : Nat) (j : A → Option R) (I : Nat → A → Prop)
  (hs : ∀ (n i : Nat) (a : A), i < len → I i a → ∃ a', L (n + 1) (mk a (i : Int)) = L n (mk a' ((i + 1 : Nat) : Int)) ∧ I (i + 1) a')
  (he : ∀ (n : Nat) (a : A), I len a → L (n + 1) (mk a (len : Int)) = j a) :
  ∀ (n i : Nat) (a : A), i ≤ len → len - i < n → I i a → ∃ a', L n (mk a (i : Int)) = j a' ∧ I len a'
 | 0, i, _, _, h, _ => by omega
 | n + 1, i, a, hi, h, ha => by
  by_cases h1 : i < len
  ·obtain ⟨a', e1, e2⟩ := hs n i a h1 ha
   rw [e1]
   exact HI L mk len j I hs he n (i + 1) _ (by omega) (by omega) e2
  ·have : i = len := by omega
   subst this
   exact ⟨a, he n a ha, ha⟩
theorem HA {α : Type} {xs ys : List α} {i : Nat} {d : α} (h : i < xs.length) : (xs ++ ys).getD i d = xs.getD i d := by
 rw [List.getD_eq_getElem?_getD, List.getD_eq_getElem?_getD, List.getElem?_append_left h]
theorem HG {α : Type} {xs : List α} {y : α} {i : Nat} {d : α} (h : i = xs.length) : (xs ++ [y]).getD i d = y := by
 subst h; rw [List.getD_eq_getElem?_getD, List.getElem?_append_right (Nat.le_refl _)]; simp
theorem Nu {α : Type} {P : Nat → α → Prop} {xs : List α} {y : α} {d : α} {n : Nat} (hn : xs.length = n) (h : ∀ k, k < n → P k (xs.getD k d)) (hy : P n y) : ∀ k, k < n + 1 → P k ((xs ++ [y]).getD k d) := by
 intro k hk
 by_cases h1 : k < n
 ·rw [HA (by omega)]; exact h k h1
 ·have : k = n := by omega
  subst this
  rw [HG hn.symm]; exact hy
theorem OH {l : List Int} (hw : LT Kc l) (i : Nat) : 0 ≤ l.getD i 0 ∧ l.getD i 0 ≤ 255 := by
 by_cases h : i < l.length
 ·have : l.getD i 0 ∈ l := by rw [List.getD_eq_getElem?_getD, List.getElem?_eq_getElem h]; exact List.getElem_mem _
  exact Hz (hw _ this)
 ·rw [List.getD_eq_getElem?_getD, List.getElem?_eq_none (by omega)]
  exact ⟨by decide, by decide⟩
theorem Md (N : Nat) {l : List Int} (hw : LT Kc l) (i : Nat) : Dp N l (i : Int) = some (l.getD i 0) := by
 unfold Dp
 have h2 := OH hw i
 by_cases h : i < l.length
 ·rw [A7 (by omega), DS (d := 0) h]
  simp only [Option.bind_some]
  rw [Ea (by omega) (by omega)]
 ·rw [A0 (by omega), List.getD_eq_getElem?_getD, List.getElem?_eq_none (by omega)]; rfl
theorem GA {a n : Int} (ha : 0 ≤ a) (hn : 0 < n) : 0 ≤ Int.tmod a n ∧ Int.tmod a n < n := ⟨Int.tmod_nonneg n ha, Int.tmod_lt_of_pos a hn⟩
end Go.Lift

/- The drafts of problems: what the recipe gives is a valid problem. -/
namespace Go.Lift
theorem RJ {l : List (List Bool)} {n m : Int} (h1 : (l.length : Int) = n) (h2 : ∀ row, row ∈ l → (row.length : Int) = m) : sq l n m = true := by
 unfold sq
 simp only [Bool.and_eq_true, decide_eq_true_eq, List.all_eq_true]
 exact ⟨h1, h2⟩
theorem Si {p : Ah} {t : AH} (h : R0 p t) : Dw p t = 0 := by
 have hk := h.kind
 have hf := h.from0
 have ht := h.to0
 unfold Dw
 rw [if_neg, if_neg (by omega)]
 ·simp only [RJ h.okL h.okR]
  rw [if_neg (by simp)]
  by_cases h4 : t.fKind = 4
  ·rw [if_pos h4, RJ (h.reL h4) h.reR, if_neg (by simp), h.reD h4]; rfl
  ·rw [if_neg h4, h.reN h4]; rfl
 ·rintro (h1 | h1 | ⟨h1, h2⟩)
  ·omega
  ·omega
  ·have := h.aware h1
   unfold Cg at this
   rw [Bool.or_eq_false_iff, beq_eq_false_iff_ne, beq_eq_false_iff_ne] at this
   omega
theorem PP (N : Nat) (m bad : Int) (diag : Bool) (i : Nat) (acc : List (List Bool)) {R : Type} (j : List Bool → Option (List (List Bool))) (hN : N ≤ 1000000) (h20 : 20 ≤ N) (hm : 0 ≤ m ∧ m ≤ 6) (hi : i < 6) :
  ∃ row, B1 N m bad diag (acc, (i : Int)) j N ([], 0) = j row ∧ (row.length : Int) = m ∧ (diag = true → (i : Int) < m → row.getD i false = true) := by
 obtain ⟨M, rfl⟩ := Int.eq_ofNat_of_zero_le hm.1
 obtain ⟨row, e, h1, h2⟩ := HI (A := List Bool) (B1 N (M : Int) bad diag (acc, (i : Int)) j) (fun a k => (a, k)) M j
  (fun k a => a.length = k ∧ ∀ q, q < k → diag = true → q = i → a.getD q false = true)
  (fun n k a hk ha => by
   refine ⟨a ++ [(diag && decide (i = k)) || (Int.tmod (D0 .u16 bad ((3 * i + k : Nat) : Int)) 2 == 0)], ?_, by simp [ha.1], Nu (P := fun q y => diag = true → q = i → y = true) ha.1 ha.2 (fun h1 h2 => by simp [h1, h2])⟩
   rw [B1]
   simp only [DD]
   rw [A7 (by omega), BY (by omega), Ea (n := 3 * (i : Int)) (by omega) (by omega), Ea (n := 3 * (i : Int) + (k : Int)) (by omega) (by omega)]
   have l1 : ∀ y : Bool, a.length + ([y] : List Bool).length ≤ Er := by intro y; rw [ha.1]; unfold Er; simp; omega
   simp only [AX (l1 _), AX (show (0 : Int) ≤ 3 * (i : Int) + (k : Int) by omega)]
   have e1 : ((3 * i + k : Nat) : Int) = 3 * (i : Int) + (k : Int) := by omega
   rw [e1]
   have e2 : (((i : Nat) : Int) == ((k : Nat) : Int)) = decide (i = k) := by
    by_cases h : i = k
    ·simp [h]
    ·rw [decide_eq_false h]; exact beq_eq_false_iff_ne.2 (by omega)
   rw [e2]
   cases diag <;> cases decide (i = k) <;> rfl)
  (fun n a _ => by
   rw [B1]
   simp only [DD]
   rw [A0 (by omega)]) N 0 [] (Nat.zero_le _) (by omega) ⟨rfl, fun q hq => by omega⟩
 exact ⟨row, e, by omega, fun hd hlt => h2 i (by omega) hd rfl⟩
theorem OT (N : Nat) (n m bad : Int) (diag : Bool) (hN : N ≤ 1000000) (h20 : 20 ≤ N) (hn : 0 ≤ n ∧ n ≤ 6) (hm : 0 ≤ m ∧ m ≤ 6) :
  ∃ l, Dq N n m bad diag = some l ∧ (l.length : Int) = n ∧ (∀ row, row ∈ l → (row.length : Int) = m) ∧ (diag = true → n = m → Hu l = none) := by
 obtain ⟨M, rfl⟩ := Int.eq_ofNat_of_zero_le hn.1
 unfold Dq
 obtain ⟨l, e, h1, h2⟩ := HI (A := List (List Bool)) (B4 N (M : Int) m bad diag (fun v => some v)) (fun a k => (a, k)) M some
  (fun k a => a.length = k ∧ ∀ q, q < k → (((a.getD q []).length : Nat) : Int) = m ∧ (diag = true → (q : Int) < m → (a.getD q []).getD q false = true))
  (fun n k a hk ha => by
   obtain ⟨row, e, h1, h2⟩ := PP (R := Unit) N m bad diag k a (fun (v5 : List Bool) =>
    (D7 (a.length + (([v5] : List (List Bool))).length ≤ Er)).bind fun _ =>
    B4 N (M : Int) m bad diag (fun v => some v) n (a ++ (([v5] : List (List Bool))), (IntKind.wrap .i64 ((k : Int) + 1)))) hN h20 hm (by omega)
   refine ⟨a ++ [row], ?_, by simp [ha.1], Nu (P := fun q y => ((y.length : Nat) : Int) = m ∧ (diag = true → (q : Int) < m → y.getD q false = true)) ha.1 ha.2 ⟨h1, h2⟩⟩
   rw [B4]
   simp only [DD]
   rw [A7 (by omega), e, AX (by rw [ha.1]; unfold Er; simp; omega), BY (by omega)])
  (fun n a _ => by
   rw [B4]
   simp only [DD]
   rw [A0 (by omega)]) N 0 [] (Nat.zero_le _) (by omega) ⟨rfl, fun q hq => by omega⟩
 have key : ∀ q row, l[q]? = some row → l.getD q [] = row := fun q row hq => by rw [List.getD_eq_getElem?_getD, hq]; rfl
 refine ⟨l, e, by omega, fun row hr => ?_, fun hd hnm => ?_⟩
 ·obtain ⟨q, hq⟩ := List.mem_iff_getElem?.1 hr
  have := (h2 q (by have := (List.getElem?_eq_some_iff.1 hq).1; omega)).1
  rwa [key q row hq] at this
 ·unfold Hu
  refine EP fun q row hq => ?_
  have hlt := (List.getElem?_eq_some_iff.1 hq).1
  have := (h2 q (by omega)).2 hd (by omega)
  rw [key q row hq] at this
  rw [Nat.zero_add, this]; rfl
structure RS (p : Ah) : Prop where
 valid : CT p = 0
 nv : p.fVersions.length ≤ 3
 nt : p.fTables.length ≤ 4
 v3 : ∀ v, v ∈ p.fVersions → v ≤ 3
theorem Pp {p q : Ah} (h : p.fVersions = q.fVersions) (t : AH) : Dw p t = Dw q t := by
 unfold Dw; rw [h]
theorem Ue (N : Nat) (d : Ch) (hN : N ≤ 1000000) (h20 : 20 ≤ N) (hw : E5 d) : ∃ p ok, Ei N d = some (p, ok) ∧ (ok = true → RS p) := by
 obtain ⟨w1, w2, w3, w4, _⟩ := hw
 unfold Ei
 simp only [DD]
 by_cases k1 : 3 < d.fVersions.length
 ·rw [A7 (by omega)]; exact ⟨_, false, rfl, fun h => by cases h⟩
 by_cases k2 : 4 < d.fLinks.length
 ·rw [A0 (by omega), decide_eq_true (by omega : (4 : Int) < (d.fLinks.length : Int))]; exact ⟨_, false, rfl, fun h => by cases h⟩
 rw [A0 (by omega), decide_eq_false (by omega : ¬ (4 : Int) < (d.fLinks.length : Int)), Ay]
 obtain ⟨⟨vs, ns, ts⟩, e, h1, h2, h3, h4⟩ := HI (A := List Int × List Int × List Int) (Ck N d fun v5 => Bm N d v5 (fun v16 => some (Ah.mk v5.1 v5.2.1 v5.2.2 v16, true)) N ([], 0)) (fun a k => (a.1, a.2.1, a.2.2, k)) d.fVersions.length
  (fun v5 => Bm N d v5 (fun v16 => some (Ah.mk v5.1 v5.2.1 v5.2.2 v16, true)) N ([], 0))
  (fun i a => a.1.length = i ∧ a.2.1.length = i ∧ a.2.2.length = i ∧ (∀ k, k < i → (1 ≤ a.1.getD k 0 ∧ a.1.getD k 0 ≤ 3) ∧ (0 ≤ a.2.1.getD k 0 ∧ a.2.1.getD k 0 < a.1.getD k 0) ∧ (0 ≤ a.2.2.getD k 0 ∧ a.2.2.getD k 0 < a.1.getD k 0)))
  (fun n i a hi ha => by
   obtain ⟨vs, ns, ts⟩ := a
   obtain ⟨h1, h2, h3, h4⟩ := ha
   simp only at h1 h2 h3 h4
   have hv := OH w1 i
   have hb := OH w2 i
   have hk := OH w3 i
   have hm := GA (n := 3) hv.1 (by omega)
   obtain ⟨v, hvd⟩ : ∃ v, v = 1 + Int.tmod (d.fVersions.getD i 0) 3 := ⟨_, rfl⟩
   have m1 := GA (n := v) hb.1 (by omega)
   have m2 := GA (n := v) hk.1 (by omega)
   refine ⟨(vs ++ [v], ns ++ [Int.tmod (d.fNow.getD i 0) v], ts ++ [Int.tmod (d.fTarget.getD i 0) v]), ?_, by simp [h1], by simp [h2], by simp [h3], ?_⟩
   ·rw [Ck]
    simp only [DD]
    rw [A7 (by omega), DS (d := 0) hi, Md N w2, Md N w3]
    simp only [Option.bind_some]
    rw [Ea (n := Int.tmod _ _) (by omega) (by omega), Ea (n := 1 + _) (by omega) (by omega), ← hvd, BY (by omega)]
    have l1 : ∀ y : Int, vs.length + ([y] : List Int).length ≤ Er := by intro y; rw [h1]; unfold Er; simp; omega
    have l2 : ∀ y : Int, ns.length + ([y] : List Int).length ≤ Er := by intro y; rw [h2]; unfold Er; simp; omega
    have l3 : ∀ y : Int, ts.length + ([y] : List Int).length ≤ Er := by intro y; rw [h3]; unfold Er; simp; omega
    simp only [AX (l1 _), AX (l2 _), AX (l3 _), AX (show v ≠ 0 by omega)]
   ·intro k hk
    simp only
    by_cases hki : k < i
    ·rw [HA (by omega), HA (by omega), HA (by omega)]; exact h4 k hki
    ·have : k = i := by omega
     subst this
     rw [HG h1.symm, HG h2.symm, HG h3.symm]
     omega)
  (fun n a _ => by
   rw [Ck]
   simp only [DD]
   rw [A0 (by omega)]) N 0 ([], [], []) (Nat.zero_le _) (by omega) ⟨rfl, rfl, rfl, fun k hk => by omega⟩
 simp only at h1 h2 h3 h4
 have e' : Ck N d (fun v5 => Bm N d v5 (fun v16 => some (Ah.mk v5.1 v5.2.1 v5.2.2 v16, true)) N ([], 0)) N ([], [], [], 0) = _ := e
 rw [e']
 have hvs : ∀ v, v ∈ vs → 1 ≤ v ∧ v ≤ 3 := by
  intro v hv
  obtain ⟨q, hq⟩ := List.mem_iff_getElem?.1 hv
  have := (h4 q (by have := (List.getElem?_eq_some_iff.1 hq).1; omega)).1
  rwa [List.getD_eq_getElem?_getD, hq] at this
 have fin : ∀ tabs : List AH, tabs.length ≤ 4 → (∀ t, t ∈ tabs → Dw ⟨vs, ns, ts, []⟩ t = 0) → RS ⟨vs, ns, ts, tabs⟩ := by
  intro tabs ht h
  have hp : DJ ⟨vs, ns, ts, tabs⟩ := ⟨show vs.length ≤ 6 by omega, show tabs.length ≤ 12 by omega, show ns.length = vs.length by omega, show ts.length = vs.length by omega, fun v hv => by have := hvs v hv; omega, fun t ht => by rw [← h t ht]; exact Pp rfl t⟩
  exact ⟨ME hp fun i hi => by have := h4 i (by have : i < vs.length := hi; omega); simp only; omega, show vs.length ≤ 3 by omega, ht, fun v hv => (hvs v hv).2⟩
 by_cases k3 : vs.length = 0
 ·refine ⟨_, true, ?_, fun _ => fin [] (by simp) (fun t ht => by cases ht)⟩
  obtain ⟨M, rfl⟩ : ∃ M, N = M + 1 := ⟨N - 1, by omega⟩
  rw [Bm]
  simp only [DD]
  rw [k3]
  by_cases k4 : (0 : Int) < (d.fLinks.length : Int)
  ·rw [A7 k4]; rfl
  ·rw [A0 k4]; rfl
 obtain ⟨tabs, e2, g1, g2⟩ := HI (A := List AH) (Bm N d (vs, ns, ts) (fun v16 => some (Ah.mk vs ns ts v16, true))) (fun a k => (a, k)) d.fLinks.length (fun v16 => some (Ah.mk vs ns ts v16, true))
  (fun i a => a.length = i ∧ ∀ t, t ∈ a → Dw ⟨vs, ns, ts, []⟩ t = 0)
  (fun n i a hi ha => by
   have hx : d.fLinks[i]? = some d.fLinks[i] := by simp [hi]
   generalize d.fLinks[i] = l at hx
   obtain ⟨u1, u2, u3, _, u5, u6, _⟩ := w4 l (List.mem_of_getElem? hx)
   have u1 := Hz u1
   have u2 := Hz u2
   have u3 := Hz u3
   have mk := GA (n := 4) u1.1 (by omega)
   have hL : (0 : Int) < (vs.length : Int) := by omega
   have mf := GA (n := (vs.length : Int)) u2.1 hL
   have mt := GA (n := (vs.length : Int)) u3.1 hL
   rw [Bm]
   simp only [DD]
   rw [A7 (by omega), decide_eq_true hL, AQ, Cj, hx]
   simp only [Option.bind_some]
   rw [AX (by omega), AX (by omega), Ea (n := l.fFrom) (by omega) (by omega), Ea (n := l.fTo) (by omega) (by omega), Ea (n := Int.tmod l.fKind 4) (by omega) (by omega), Ea (n := 1 + _) (by omega) (by omega), BY (by omega)]
   simp only [Km, Option.bind_some]
   rw [EE (d := 0) mf.1 mf.2, EE (d := 0) mt.1 mt.2]
   simp only [Option.bind_some]
   have hA : ∀ q : Int, 0 ≤ q → q < (vs.length : Int) → 1 ≤ vs.getD q.toNat 0 ∧ vs.getD q.toNat 0 ≤ 3 := fun q h0 h1 => (h4 q.toNat (by omega)).1
   have hf := hA _ mf.1 mf.2
   have ht := hA _ mt.1 mt.2
   obtain ⟨A, eA, a1, a2, _⟩ := OT N (vs.getD (Int.tmod l.fFrom (vs.length : Int)).toNat 0) (vs.getD (Int.tmod l.fTo (vs.length : Int)).toNat 0) l.fBad false hN h20 (by omega) (by omega)
   obtain ⟨B, eB, b1, b2, b3⟩ := OT N (vs.getD (Int.tmod l.fFrom (vs.length : Int)).toNat 0) (vs.getD (Int.tmod l.fFrom (vs.length : Int)).toNat 0) l.fLost true hN h20 (by omega) (by omega)
   rw [eA, eB]
   simp only [Option.bind_some]
   have l1 : ∀ y : AH, a.length + ([y] : List AH).length ≤ Er := by intro y; rw [ha.1]; unfold Er; simp; omega
   simp only [AX (l1 _)]
   obtain ⟨kd, hkd⟩ : ∃ kd, kd = 1 + Int.tmod l.fKind 4 := ⟨_, rfl⟩
   rw [← hkd]
   have fin2 : ∀ (aw : Bool) (re : List (List Bool)), (aw = true → (kd == 3 || kd == 4) = false) → ((kd = 4 → re = B) ∧ (kd ≠ 4 → re = [])) →
     Dw ⟨vs, ns, ts, []⟩ (AH.mk kd (Int.tmod l.fFrom (vs.length : Int)) (Int.tmod l.fTo (vs.length : Int)) aw A re) = 0 := by
    intro aw re haw hre
    refine Si ⟨show 1 ≤ kd ∧ kd ≤ 4 by omega, haw, mf, mt, a1, a2, fun h => by rw [hre.1 h]; exact b1, fun row hr => ?_, fun h => by rw [hre.1 h]; exact b3 rfl rfl, fun h => hre.2 h⟩
    by_cases h4 : kd = 4
    ·simp only at hr; rw [hre.1 h4] at hr; exact b2 row hr
    ·simp only at hr; rw [hre.2 h4] at hr; cases hr
   have app : ∀ t, Dw ⟨vs, ns, ts, []⟩ t = 0 → (a ++ [t]).length = i + 1 ∧ ∀ t', t' ∈ a ++ [t] → Dw ⟨vs, ns, ts, []⟩ t' = 0 := by
    intro t ht
    refine ⟨by simp [ha.1], fun t' ht' => ?_⟩
    rcases List.mem_append.1 ht' with h | h
    ·exact ha.2 t' h
    ·rw [List.mem_singleton.1 h]; exact ht
   by_cases h4 : kd = 4
   ·have e4 : (kd == 4) = true := beq_iff_eq.2 h4
    have hre : (kd = 4 → B = B) ∧ (kd ≠ 4 → B = []) := ⟨fun _ => rfl, fun h => (h h4).elim⟩
    rw [e4]
    simp only [AQ, Bool.or_true, Bool.not_true]
    cases l.fAware
    ·exact ⟨_, rfl, app _ (fin2 false B (fun h => by cases h) hre)⟩
    ·exact ⟨_, rfl, app _ (fin2 false B (fun h => by cases h) hre)⟩
   ·have e4 : (kd == 4) = false := beq_eq_false_iff_ne.2 h4
    have hre : (kd = 4 → ([] : List (List Bool)) = B) ∧ (kd ≠ 4 → ([] : List (List Bool)) = []) := ⟨fun h => (h4 h).elim, fun _ => rfl⟩
    rw [e4]
    simp only [Ay, Bool.or_false]
    cases l.fAware
    ·exact ⟨_, rfl, app _ (fin2 false [] (fun h => by cases h) hre)⟩
    ·cases e3 : kd == 3
     ·exact ⟨_, rfl, app _ (fin2 true [] (fun _ => by rw [e3, e4]; rfl) hre)⟩
     ·exact ⟨_, rfl, app _ (fin2 false [] (fun h => by cases h) hre)⟩)
  (fun n a _ => by
   rw [Bm]
   simp only [DD]
   rw [A0 (by omega), Ay]) N 0 [] (Nat.zero_le _) (by omega) ⟨rfl, fun t ht => by cases ht⟩
 exact ⟨_, true, e2, fun _ => fin tabs (by omega) g2⟩
end Go.Lift

/- The mixes that result from aborts: both implementations give one list. -/
namespace Go.Lift
structure Pb (m x : Ae) : Prop where
 base : x.fBase = m.fBase
 held : x.fHeld = m.fHeld
 len : x.fNext.length = m.fNext.length
 next : ∀ q, q < m.fNext.length → x.fNext.getD q 0 = m.fNext.getD q 0 ∨ (0 ≤ m.fNext.getD q 0 ∧ x.fNext.getD q 0 = -1)
theorem Pb.refl (m : Ae) : Pb m m := ⟨rfl, rfl, rfl, fun _ _ => .inl rfl⟩
theorem Pb.trans {a b c : Ae} (h1 : Pb a b) (h2 : Pb b c) : Pb a c :=
 ⟨h2.base.trans h1.base, h2.held.trans h1.held, h2.len.trans h1.len, fun q hq => by
  have e1 := h1.next q hq
  have e2 := h2.next q (by rw [h1.len]; exact hq)
  omega⟩
theorem Kl (N : Nat) (l : List Int) (h : l.length ≤ Er) : Bu N l = some l := by
 unfold Bu
 rw [AX (by simpa using h)]; rfl
theorem Po (N : Nat) (l : List Int) (h : l.length ≤ Er) : Bz N l = some l := by
 unfold Bz
 rw [AX (by simpa using h)]; rfl
theorem I3 {l : List Int} {i q : Nat} {y : Int} (hi : i < l.length) : (l.set i y).getD q 0 = if q = i then y else l.getD q 0 := by
 rw [List.getD_eq_getElem?_getD, List.getD_eq_getElem?_getD, List.getElem?_set]
 by_cases h : i = q
 ·subst h; simp [hi]
 ·rw [if_neg h, if_neg (fun e => h e.symm)]
end Go.Lift

/- Aborts, the first mix that is to blame, and robustness: both implementations give one answer. -/
namespace Go.Lift
theorem Qv {p : Ah} {m : Ae} (hm : E8 p m) : LT Kc m.fHeld := by
 intro x hx
 obtain ⟨q, hq⟩ := List.mem_iff_getElem?.1 hx
 have h1 := (List.getElem?_eq_some_iff.1 hq).1
 have := hm.range q (by rw [← hm.held]; exact h1)
 rw [List.getD_eq_getElem?_getD, hq] at this
 unfold Kc
 simp only [Option.getD_some] at this
 simp [Lit.wf, IntKind.min, IntKind.max, IntKind.signed, IntKind.bits]
 omega
def Gw : Ae := ⟨[], [], []⟩
end Go.Lift

/- The laws of the mixes in plain words: MixConflicts, MixAborts, MixAborted, MixGoal, MixValid. -/
namespace Go.Lift
theorem N2 {N : Nat} {a b : Ae} (hN : N ≤ 1000000) (h1 : a.fBase.length < N) (h2 : a.fNext.length < N) (h3 : a.fHeld.length < N) (h4 : b.fHeld.length < N) (wa : LT Kc a.fHeld) (wb : LT Kc b.fHeld) : Dk N a b = some (Ps a b) := by
 unfold Dk
 rw [Lh h1 hN, Lh h2 hN, Kz h3 hN wa, Kz h4 hN wb]
 simp only [Option.bind_some]
 rw [Lh h3 hN]
 unfold Ps Sx
 by_cases h1 : Hd a.fBase b.fBase = 0
 ·simp only [h1, Sx]
  by_cases h2 : Hd a.fNext b.fNext = 0
  ·simp only [h2]
   by_cases h3 : Hd a.fHeld b.fHeld = 0 <;> simp [h3]
  ·have : (Hd a.fNext b.fNext != 0) = true := by simpa using h2
   simp [h2, this]
 ·have : (Hd a.fBase b.fBase != 0) = true := by simpa using h1
  simp [h1, this]
theorem N4 {N : Nat} {a : Ae} (hN : N ≤ 1000000) (h1 : a.fBase.length < N) (h2 : a.fNext.length < N) (h3 : a.fHeld.length < N) (wa : LT Kc a.fHeld) : Df N a a = some true := by
 unfold Df
 rw [N2 hN h1 h2 h3 h3 wa wa, Mr]; rfl
theorem Pr {N : Nat} {p : Ah} {a : Ae} (hN : N ≤ 1000000) (h20 : 100 ≤ N) (hp : DJ p) (ha : E8 p a) : Df N a a = some true := by
 have := hp.nv
 have := hp.nt
 exact N4 hN (by rw [ha.base]; omega) (by rw [ha.next]; omega) (by rw [ha.held]; omega) (Qv ha)
end Go.Lift

/- The laws of the mixes in plain words: MixGoal, MixValid. -/
namespace Go.Lift
end Go.Lift

/- The first mix in plain words, and the law MixStart. -/
namespace Go.Lift
open Go
def EG (p : Ah) (t : AH) : Int := if Cg t = true then Co .u8 1 (p.fNow.getD t.fFrom.toNat 0) else 0
def Fe (p : Ah) : Ae := ⟨p.fNow, List.replicate p.fNow.length (-1), p.fTables.map (EG p)⟩
theorem Pc (N : Nat) (h : 100 ≤ N) (n : Nat) (hn : n ≤ 6) : DE N [(-1)] (n : Int) = some (List.replicate n (-1)) := by
 obtain ⟨k, rfl⟩ : ∃ k, N = k + 100 := ⟨N - 100, by omega⟩
 have : n = 0 ∨ n = 1 ∨ n = 2 ∨ n = 3 ∨ n = 4 ∨ n = 5 ∨ n = 6 := by omega
 rcases this with rfl | rfl | rfl | rfl | rfl | rfl | rfl
 all_goals (show _ = _; kernel_rfl)
theorem N6 (T : List Int) (i : Nat) (hi : i < T.length) : (T.take i ++ List.replicate (T.length - i) 0).set i (T.getD i 0) = T.take (i + 1) ++ List.replicate (T.length - (i + 1)) 0 := by
 have hl : (T.take i).length = i := by simp; omega
 rw [List.set_append_right _ _ (by omega), hl, Nat.sub_self, show T.length - i = (T.length - (i + 1)) + 1 from by omega, List.replicate_succ, List.set_cons_zero, List.take_add_one, List.append_assoc]
 have : T[i]? = some (T.getD i 0) := by rw [List.getD_eq_getElem?_getD]; simp [hi]
 rw [this]; rfl
theorem Pn (T : List Int) (i : Nat) (hi : i < T.length) (h0 : T.getD i 0 = 0) : T.take i ++ List.replicate (T.length - i) 0 = T.take (i + 1) ++ List.replicate (T.length - (i + 1)) 0 := by
 rw [← N6 T i hi, h0, List.set_append_right _ _ (by rw [List.length_take]; omega)]
 congr 1
 have hl : (T.take i).length = i := by simp; omega
 rw [hl, Nat.sub_self, show T.length - i = (T.length - (i + 1)) + 1 from by omega, List.replicate_succ, List.set_cons_zero]
theorem Oq {p : Ah} (hv : CT p = 0) {t : AH} (ht : t ∈ p.fTables) : 0 ≤ t.fFrom ∧ t.fFrom.toNat < p.fNow.length ∧ 0 ≤ p.fNow.getD t.fFrom.toNat 0 ∧ p.fNow.getD t.fFrom.toNat 0 < 6 ∧ p.fNow.getD t.fFrom.toNat 0 < p.fVersions.getD t.fFrom.toNat 0 ∧ t.fFrom.toNat < p.fVersions.length := by
 obtain ⟨hp, hr⟩ := EJ hv
 have h1 := Hw (hp.tab t ht)
 have h2 := hr t.fFrom.toNat (by omega)
 have h3 := Ip hp (i := t.fFrom.toNat) (by omega)
 have := hp.now
 refine ⟨h1.1, by omega, h2.1, by omega, h2.2.1, by omega⟩
theorem Ie {p : Ah} {i : Nat} {t : AH} (ht : p.fTables[i]? = some t) : (p.fTables.map (EG p)).getD i 0 = EG p t := by
 rw [List.getD_eq_getElem?_getD, List.getElem?_map, ht]; rfl
theorem Nh (N : Nat) (p : Ah) (hN : N ≤ 1000000) (h20 : 100 ≤ N) : Fl N p = some (if CT p = 0 then Fe p else ⟨[], [], []⟩, CT p) := by
 unfold Fl
 rw [J9 N p hN (by omega)]
 simp only [Option.bind_some]
 by_cases hv : CT p = 0
 ·rw [if_pos hv, hv]
  obtain ⟨hp, _⟩ := EJ hv
  have hnv := hp.nv
  have hnt := hp.nt
  have hnow := hp.now
  rw [bne_self_eq_false, Ay, Kl N _ (by simp only [Er]; omega)]
  simp only [Option.bind_some]
  rw [Pc N h20 _ (by omega)]
  simp only [Option.bind_some]
  rw [AX (by simp only [Er]; omega)]
  obtain ⟨a', e, ha⟩ := HI (Dt N p fun v7 => some (Ae.mk p.fNow (List.replicate p.fNow.length (-1)) v7, 0)) (fun a i => (a, i)) p.fTables.length (fun v7 => some (Ae.mk p.fNow (List.replicate p.fNow.length (-1)) v7, 0))
   (fun i a => a = (p.fTables.map (EG p)).take i ++ List.replicate ((p.fTables.map (EG p)).length - i) 0)
   (fun n i a hi ha => by
    have hx : p.fTables[i]? = some p.fTables[i] := by simp [hi]
    have hm : p.fTables[i] ∈ p.fTables := List.getElem_mem hi
    obtain ⟨n1, n2, n3, n4, _⟩ := Oq hv hm
    rw [Dt, A7 (by simp only; omega)]
    simp only [DD, Cj, hx, Option.bind_some, Jp, BY (show i < 1000000 by omega)]
    have hal : i < (p.fTables.map (EG p)).length := by simpa using hi
    cases hs : Cg p.fTables[i]
    ·rw [Ay]
     refine ⟨a, rfl, ?_⟩
     rw [ha]
     exact Pn _ _ hal (by rw [Ie hx]; unfold EG; rw [hs]; rfl)
    ·rw [AQ]
     have e1 : A5 p.fNow p.fTables[i].fFrom = some (p.fNow.getD p.fTables[i].fFrom.toNat 0) := by
      obtain ⟨q, hq⟩ := Int.eq_ofNat_of_zero_le n1
      rw [hq]; exact DS (by rw [hq] at n2; simpa using n2)
     rw [e1]
     simp only [Option.bind_some]
     rw [AX n3]
     have hl : i < a.length := by rw [ha]; simp; omega
     have e2 : a[i]? = some a[i] := by simp [hl]
     rw [e2]
     simp only [Option.bind_some]
     refine ⟨_, rfl, ?_⟩
     rw [← N6 _ _ hal, Ie hx, ha]
     unfold EG; rw [hs]; rfl)
   (fun n a ha => by rw [Dt, A0 (by simp)]) N 0 (List.replicate p.fTables.length 0) (Nat.zero_le _) (by omega) (by simp)
  have e' : Dt N p (fun v7 => some (Ae.mk p.fNow (List.replicate p.fNow.length (-1)) v7, 0)) N (List.replicate ((p.fTables.length : Int)).toNat (0 : Int), 0) = _ := e
  rw [e', ha]
  have e5 : (p.fTables.map (EG p)).take p.fTables.length = p.fTables.map (EG p) := List.take_of_length_le (by simp)
  simp [Fe, e5]
 ·rw [if_neg hv, bne_iff_ne.2 hv, AQ]
theorem MX (N : Nat) (p : Ah) (hN : N ≤ 1000000) (h20 : 100 ≤ N) : DM N p = some (if CT p = 0 then Fe p else ⟨[], [], []⟩, CT p) := by
 unfold DM
 rw [LH N p hN (by omega)]
 simp only [Option.bind_some]
 by_cases hv : CT p = 0
 ·rw [if_pos hv, hv]
  obtain ⟨hp, _⟩ := EJ hv
  have hnv := hp.nv
  have hnt := hp.nt
  have hnow := hp.now
  rw [bne_self_eq_false, Ay]
  obtain ⟨a', e, ha⟩ := HI (BT N p fun v4 => A8 N p (fun v10 => some (Ae.mk v4.1 v4.2 v10, 0)) N (([] : List Int), 0)) (fun a i => (a.1, a.2, i)) p.fVersions.length (fun v4 => A8 N p (fun v10 => some (Ae.mk v4.1 v4.2 v10, 0)) N (([] : List Int), 0))
   (fun i a => a = (p.fNow.take i, List.replicate i (-1)))
   (fun n i a hi ha => by
    subst ha
    rw [BT, A7 (by simp only; omega)]
    have hx : p.fNow[i]? = some p.fNow[i] := by simp [show i < p.fNow.length from by omega]
    simp only [Cj, hx, Option.bind_some, BY (show i < 1000000 by omega)]
    rw [AX (by simp [Er]; omega), AX (by simp [Er]; omega)]
    refine ⟨(p.fNow.take i ++ [p.fNow[i]], List.replicate i (-1) ++ [-1]), rfl, ?_⟩
    rw [List.take_add_one, hx, List.replicate_succ']; rfl)
   (fun n a ha => by rw [BT, A0 (by simp)]) N 0 ([], []) (Nat.zero_le _) (by omega) rfl
  have e' : BT N p (fun v4 => A8 N p (fun v10 => some (Ae.mk v4.1 v4.2 v10, 0)) N (([] : List Int), 0)) N (([] : List Int), ([] : List Int), 0) = _ := e
  rw [e', ha]
  simp only
  obtain ⟨b', e2, hb⟩ := HI (A8 N p fun v10 => some (Ae.mk (p.fNow.take p.fVersions.length) (List.replicate p.fVersions.length (-1)) v10, 0)) (fun a i => (a, i)) p.fTables.length (fun v10 => some (Ae.mk (p.fNow.take p.fVersions.length) (List.replicate p.fVersions.length (-1)) v10, 0))
   (fun i a => a = (p.fTables.map (EG p)).take i)
   (fun n i a hi ha => by
    subst ha
    have hx : p.fTables[i]? = some p.fTables[i] := by simp [hi]
    have hm : p.fTables[i] ∈ p.fTables := List.getElem_mem hi
    obtain ⟨n1, n2, n3, n4, _⟩ := Oq hv hm
    rw [A8, A7 (by simp only; omega)]
    simp only [DD, Cj, hx, Option.bind_some, GQ, BY (show i < 1000000 by omega)]
    have hT : (p.fTables.map (EG p))[i]? = some (EG p p.fTables[i]) := by rw [List.getElem?_map, hx]; rfl
    have hlen : ((p.fTables.map (EG p)).take i).length + 1 ≤ Er := by simp [Er]; omega
    cases hs : Cg p.fTables[i]
    ·rw [Ay, AX (by simpa using hlen)]
     refine ⟨_, rfl, ?_⟩
     rw [List.take_add_one, hT]
     unfold EG; rw [hs]; rfl
    ·rw [AQ]
     have e1 : A5 p.fNow p.fTables[i].fFrom = some (p.fNow.getD p.fTables[i].fFrom.toNat 0) := by
      obtain ⟨q, hq⟩ := Int.eq_ofNat_of_zero_le n1
      rw [hq]; exact DS (by rw [hq] at n2; simpa using n2)
     rw [e1]
     simp only [Option.bind_some]
     rw [AX n3, AX (by simpa using hlen)]
     refine ⟨_, rfl, ?_⟩
     rw [List.take_add_one, hT]
     unfold EG; rw [hs]; rfl)
   (fun n a ha => by rw [A8, A0 (by simp)]) N 0 [] (Nat.zero_le _) (by omega) rfl
  have e3 : A8 N p (fun v10 => some (Ae.mk (p.fNow.take p.fVersions.length) (List.replicate p.fVersions.length (-1)) v10, 0)) N (([] : List Int), 0) = _ := e2
  rw [e3, hb]
  simp only [Fe, ← hnow, List.take_length]
  rw [show p.fTables.length = (p.fTables.map (EG p)).length from by simp, List.take_length]
 ·rw [if_neg hv, bne_iff_ne.2 hv, AQ]
theorem NP {p : Ah} (hv : CT p = 0) : E8 p (Fe p) := by
 obtain ⟨hp, hr⟩ := EJ hv
 have hnow := hp.now
 have hnx : ∀ i, i < p.fVersions.length → (List.replicate p.fNow.length (-1 : Int)).getD i 0 = -1 := fun i hi => by
  rw [List.getD_eq_getElem?_getD, List.getElem?_replicate, if_pos (by omega)]; rfl
 have hone : ∀ (i : Nat) (t : AH), p.fTables[i]? = some t → ∃ b : Nat, b < 6 ∧ p.fNow.getD t.fFrom.toNat 0 = (b : Int) ∧ (b : Int) < p.fVersions.getD t.fFrom.toNat 0 ∧ t.fFrom.toNat < p.fVersions.length := fun i t ht => by
  obtain ⟨n1, n2, n3, n4, n5, n6⟩ := Oq hv (List.mem_of_getElem? ht)
  obtain ⟨b, hb⟩ := Int.eq_ofNat_of_zero_le n3
  exact ⟨b, by omega, hb, by omega, n6⟩
 have hbit : ∀ b : Nat, b < 8 → ∀ v, DH (Co .u8 1 (b : Int)) v = decide (b = v) := fun b hb v => by
  by_cases h : v < 8
  ·exact (Ij ⟨b, hb⟩ ⟨v, h⟩).1
  ·rw [Il (Ij ⟨b, hb⟩ ⟨0, by omega⟩).2.2 (by omega)]
   symm; apply decide_eq_false; omega
 refine { base := hnow, next := by simp [Fe, hnow], held := by simp [Fe], b0 := fun i hi => ⟨(hr i hi).1, (hr i hi).2.1⟩, n0 := fun i hi => ?_, ne := fun i hi => ?_, range := fun i hi => ?_, low := fun i t ht hs v hv' => ?_, high := fun i t ht hs v hb => ?_, none := fun i t ht hs => ?_ }
 ·show -1 ≤ (List.replicate p.fNow.length (-1 : Int)).getD i 0 ∧ (List.replicate p.fNow.length (-1 : Int)).getD i 0 < _
  rw [hnx i hi]
  have := Ip hp hi
  omega
 ·show p.fNow.getD i 0 ≠ (List.replicate p.fNow.length (-1 : Int)).getD i 0
  rw [hnx i hi]
  have := hr i hi
  omega
 ·have hx : p.fTables[i]? = some p.fTables[i] := by simp [hi]
  show 0 ≤ (p.fTables.map (EG p)).getD i 0 ∧ (p.fTables.map (EG p)).getD i 0 ≤ 255
  rw [Ie hx]
  unfold EG
  split
  ·obtain ⟨b, h1, h2, _⟩ := hone i _ hx
   rw [h2]
   exact (Ij ⟨b, by omega⟩ ⟨0, by omega⟩).2
  ·omega
 ·show DH ((p.fTables.map (EG p)).getD i 0) v = true
  obtain ⟨b, h1, h2, h3, h4⟩ := hone i t ht
  rw [Ie ht]
  unfold EG
  rw [if_pos hs, h2, hbit b (by omega)]
  unfold Jx at hv'
  have h5 : (Fe p).fBase.getD t.fFrom.toNat 0 = (b : Int) := h2
  have h6 : (Fe p).fNext.getD t.fFrom.toNat 0 = -1 := hnx _ h4
  rw [h5, h6, Bool.or_eq_true, decide_eq_true_iff, decide_eq_true_iff] at hv'
  apply decide_eq_true; omega
 ·have hb : DH ((p.fTables.map (EG p)).getD i 0) v = true := hb
  obtain ⟨b, h1, h2, h3, h4⟩ := hone i t ht
  rw [Ie ht] at hb
  unfold EG at hb
  rw [if_pos hs, h2, hbit b (by omega), decide_eq_true_iff] at hb
  omega
 ·show (p.fTables.map (EG p)).getD i 0 = 0
  rw [Ie ht]; unfold EG; rw [hs]; rfl
end Go.Lift

/- Bits of sets of versions: or, and-not, the lowest bit. -/
namespace Go.Lift
open Go
theorem KL (x : BitVec 8) : IntKind.wrap .u8 (x.toNat : Int) = (x.toNat : Int) := by
 have := x.isLt
 simp [IntKind.wrap, IntKind.signed, IntKind.bits]
 omega
theorem NU (x : BitVec 8) : 0 ≤ (x.toNat : Int) ∧ (x.toNat : Int) ≤ 255 := by
 have := x.isLt
 omega
theorem P7 (x : BitVec 8) (v : Nat) : DH (x.toNat : Int) v = x.getLsbD v := by
 unfold DH; rw [Int.toNat_natCast]; rfl
theorem Nl {a : Int} (ha : 0 ≤ a ∧ a ≤ 255) (v : Nat) : (BitVec.ofInt 8 a).getLsbD v = DH a v := by
 obtain ⟨a, rfl⟩ := Int.eq_ofNat_of_zero_le ha.1
 unfold BitVec.getLsbD DH
 rw [P9 (by omega), Int.toNat_natCast]
theorem Oe {a b : Int} (ha : 0 ≤ a ∧ a ≤ 255) (hb : 0 ≤ b ∧ b ≤ 255) : (∀ v, DH (CK .u8 a b) v = (DH a v && !DH b v)) ∧ 0 ≤ CK .u8 a b ∧ CK .u8 a b ≤ 255 := by
 have e : CK .u8 a b = ((BitVec.ofInt 8 a &&& ~~~BitVec.ofInt 8 b).toNat : Int) := KL (BitVec.ofInt 8 a &&& ~~~BitVec.ofInt 8 b)
 rw [e]
 refine ⟨fun v => ?_, NU _⟩
 rw [P7, BitVec.getLsbD_and, BitVec.getLsbD_not, Nl ha, Nl hb]
 by_cases h : v < 8
 ·simp [h]
 ·rw [Il ha.2 (by omega)]; simp
theorem Of {a b : Int} (ha : 0 ≤ a ∧ a ≤ 255) (hb : 0 ≤ b ∧ b ≤ 255) : (∀ v, DH (LU .u8 a b) v = (DH a v || DH b v)) ∧ 0 ≤ LU .u8 a b ∧ LU .u8 a b ≤ 255 := by
 have e : LU .u8 a b = ((BitVec.ofInt 8 a ||| BitVec.ofInt 8 b).toNat : Int) := KL (BitVec.ofInt 8 a ||| BitVec.ofInt 8 b)
 rw [e]
 refine ⟨fun v => ?_, NU _⟩
 rw [P7, BitVec.getLsbD_or, Nl ha, Nl hb]
theorem QN {b : Nat} (hb : b < 8) : (∀ v, DH (Co .u8 1 (b : Int)) v = decide (b = v)) ∧ 0 ≤ Co .u8 1 (b : Int) ∧ Co .u8 1 (b : Int) ≤ 255 := by
 refine ⟨fun v => ?_, (Ij ⟨b, hb⟩ ⟨0, by omega⟩).2⟩
 by_cases h : v < 8
 ·exact (Ij ⟨b, hb⟩ ⟨v, h⟩).1
 ·rw [Il (Ij ⟨b, hb⟩ ⟨0, by omega⟩).2.2 (by omega)]
  symm; apply decide_eq_false; omega
theorem P3 (N : Nat) {s : Int} {v : Nat} (hs : 0 ≤ s ∧ s ≤ 255) (hv : v < 8) : DA N s (v : Int) = some (DH s v) := by
 unfold DA
 rw [AX (by omega), Rs hs.1 hs.2 hv]
 cases DH s v <;> rfl
def RZ (v : Nat) : Nat := ((List.range 8).find? fun u => v.testBit u).getD 8
def SW (v : Nat) : Nat := ((List.range 8).filter fun u => v.testBit u).length
theorem SC : ∀ v : Fin 256, Cy 0 (v.val : Int) = some (RZ v.val : Int) := by decide +kernel
theorem Ta (N : Nat) {v : Nat} (h : v < 256) : Cy N (v : Int) = some (RZ v : Int) := SC ⟨v, h⟩
theorem QL : ∀ v : Fin 256, v.val ≠ 0 → RZ v.val < 8 ∧ DH (v.val : Int) (RZ v.val) = true ∧ 0 ≤ Fm .u8 (v.val : Int) (IntKind.wrap .u8 ((v.val : Int) - 1)) ∧ Fm .u8 (v.val : Int) (IntKind.wrap .u8 ((v.val : Int) - 1)) ≤ 255 ∧
  SW (Fm .u8 (v.val : Int) (IntKind.wrap .u8 ((v.val : Int) - 1))).toNat + 1 = SW v.val ∧
  ∀ u : Fin 8, DH (Fm .u8 (v.val : Int) (IntKind.wrap .u8 ((v.val : Int) - 1))) u.val = (DH (v.val : Int) u.val && decide (u.val ≠ RZ v.val)) := by decide +kernel
theorem TG (v : Nat) : SW v ≤ 8 := by
 have := List.length_filter_le (fun u => v.testBit u) (List.range 8)
 simpa [SW] using this
theorem Oc (N : Nat) (t : AH) (b : Int) (rw_ : Nat → Bool) : ∀ (k n v : Nat), SW v ≤ k → k < n → v < 256 →
  (∀ u, u < 8 → DH (v : Int) u = true → ∃ row, A5 t.fRewrite (u : Int) = some row ∧ A5 row b = some (rw_ u)) →
  CZ N t b (fun _ => some true) n (v : Int) = some ((List.range 8).all fun u => !DH (v : Int) u || rw_ u)
 | k, 0, v, _, h, _, _ => by omega
 | k, n + 1, v, hk, hn, hv, hr => by
  rw [CZ]
  by_cases h0 : v = 0
  ·subst h0
   have : (((0 : Nat) : Int) != 0) = false := rfl
   rw [this, Ay]
   congr 1
  ·have h1 : ((v : Int) != 0) = true := bne_iff_ne.2 (by omega)
   obtain ⟨l1, l2, l3, l4, l5, l6⟩ := QL ⟨v, hv⟩ h0
   simp only at l1 l2 l3 l4 l5 l6
   obtain ⟨row, e1, e2⟩ := hr _ l1 l2
   rw [h1, AQ, Ta N hv]
   simp only [Option.bind_some, e1, e2]
   obtain ⟨w, hw⟩ := Int.eq_ofNat_of_zero_le l3
   rw [hw] at l4 l5 l6 ⊢
   rw [Int.toNat_natCast] at l5
   cases hq : rw_ (RZ v)
   ·rw [Bool.not_false, AQ]
    congr 1
    symm
    rw [List.all_eq_false]
    exact ⟨RZ v, by simpa using l1, by rw [l2, hq]; simp⟩
   ·rw [Bool.not_true, Ay]
    match k, hk with
    | 0, hk => exfalso; omega
    | k + 1, hk =>
    rw [Oc N t b rw_ k n w (by omega) (by omega) (by omega) (fun u hu hb => hr u hu (by have := l6 ⟨u, hu⟩; simp only at this; rw [hb] at this; simpa using (Bool.and_eq_true_iff.1 this.symm).1))]
    congr 1
    rw [Bool.eq_iff_iff, List.all_eq_true, List.all_eq_true]
    refine ⟨fun h u hu => ?_, fun h u hu => ?_⟩
    ·have hu8 : u < 8 := by simpa using hu
     have h3 := h u hu
     have h4 := l6 ⟨u, hu8⟩
     simp only at h4
     rw [h4] at h3
     by_cases e : u = RZ v
     ·rw [e, hq]; simp
     ·simpa [e] using h3
    ·have hu8 : u < 8 := by simpa using hu
     have h3 := h u hu
     have h4 := l6 ⟨u, hu8⟩
     simp only at h4
     rw [h4]
     cases hb : DH (v : Int) u
     ·simp
     ·rw [hb] at h3; simp at h3; simp [h3]
end Go.Lift

/- Steps: both implementations give one answer. -/
namespace Go.Lift
open Go
theorem Nn (N : Nat) (m : Ae) (s : Int) (h0 : 0 ≤ s) (h1 : s < (m.fBase.length : Int)) (h2 : s < (m.fNext.length : Int)) (hb : 0 ≤ m.fBase.getD s.toNat 0) : ES N m s = some (FH m s.toNat) := by
 unfold ES FH
 rw [EE (d := 0) h0 h1, EE (d := 0) h0 h2]
 simp only [Option.bind_some, Bb]
 rw [show D7 (0 ≤ m.fBase.getD s.toNat 0) = some () from by unfold D7; rw [if_pos hb]]
 simp only [Option.bind_some]
 by_cases h : 0 ≤ m.fNext.getD s.toNat 0
 ·rw [A7 h, if_pos h, show D7 (0 ≤ m.fNext.getD s.toNat 0) = some () from by unfold D7; rw [if_pos h]]; rfl
 ·rw [A0 h, if_neg h]
theorem I1 (N : Nat) (t : AH) : EB N t = some (Cg t) := by
 unfold EB Cg
 simp only [Bb]
 cases h : t.fKind == 3 <;> simp
def HE (s : Ap) : Bool := decide (1 ≤ s.fKind ∧ s.fKind ≤ 4 ∧ 0 ≤ s.fIndex ∧ 0 ≤ s.fVersion) && (s.fKind == 1 || s.fVersion == 0)
def Gy (p : Ah) (s : Ap) : Bool :=
 if s.fKind = 3 then decide (s.fIndex < (p.fTables.length : Int)) else decide (s.fIndex < (p.fVersions.length : Int)) && (s.fKind != 1 || decide (s.fVersion < p.fVersions.getD s.fIndex.toNat 0))
theorem L0 (N : Nat) (s : Ap) : FI N s = some (HE s) := by
 unfold FI HE PD
 simp only [Bb]
 by_cases h1 : (if s.fVersion < s.fIndex then s.fVersion else s.fIndex) < 0
 ·rw [A7 h1, AQ, decide_eq_false (by split at h1 <;> omega)]; rfl
 ·rw [A0 h1]
  by_cases h2 : s.fKind < 1
  ·rw [A7 h2, AQ, decide_eq_false (by omega)]; rfl
  ·rw [A0 h2]
   by_cases h3 : 4 < s.fKind
   ·rw [decide_eq_true h3, AQ, decide_eq_false (by omega)]; rfl
   ·rw [decide_eq_false h3, Ay, decide_eq_true (by split at h1 <;> omega), Bool.true_and]
    cases h4 : s.fKind == 1 <;> simp
theorem Nk (N : Nat) (s : Ap) : DO N s = some (HE s) := by
 unfold DO HE
 simp only [Bb]
 by_cases h1 : 1 ≤ s.fKind
 ·rw [A7 h1]
  by_cases h2 : s.fKind ≤ 4
  ·rw [A7 h2]
   by_cases h3 : 0 ≤ s.fIndex
   ·rw [A7 h3]
    by_cases h4 : 0 ≤ s.fVersion
    ·rw [A7 h4, decide_eq_true (by omega), Bool.true_and]
     cases h5 : s.fKind == 1 <;> simp
    ·rw [A0 h4, decide_eq_false (by omega)]; rfl
   ·rw [A0 h3, decide_eq_false (by omega)]; rfl
  ·rw [A0 h2, decide_eq_false (by omega)]; rfl
 ·rw [A0 h1, decide_eq_false (by omega)]; rfl
theorem LP (N : Nat) (p : Ah) (s : Ap) (hv : HE s = true) : Fg N p s = some (Gy p s) := by
 have h0 : 0 ≤ s.fIndex := by
  unfold HE at hv
  rw [Bool.and_eq_true, decide_eq_true_iff] at hv
  exact hv.1.2.2.1
 unfold Fg Gy
 simp only [Bb]
 by_cases h1 : s.fKind = 3
 ·rw [if_pos h1, beq_iff_eq.2 h1, AQ]
 ·rw [if_neg h1, beq_eq_false_iff_ne.2 h1, Ay]
  by_cases h2 : s.fIndex < (p.fVersions.length : Int)
  ·rw [A7 h2, decide_eq_true h2, Bool.true_and]
   cases h3 : s.fKind != 1
   ·rw [Ay, EE (d := 0) h0 h2, Bool.false_or]; rfl
   ·rw [AQ]; rfl
  ·rw [A0 h2, decide_eq_false h2]; rfl
def OQ (s : Ap) (t : AH) : Bool := t.fFrom == s.fIndex && Cg t
def Pv (s : Ap) (i : Nat) (t : AH) (a : List Int) : List Int := if OQ s t = true then a.set i (LU .u8 (a.getD i 0) (Co .u8 1 s.fVersion)) else a
def Hn (p : Ah) (s : Ap) (held : List Int) : List Int := Jh (Pv s) 0 p.fTables held
theorem KW {R : Type} (N : Nat) (p : Ah) (s : Ap) (held : List Int) (hv : 0 ≤ s.fVersion) (hl : held.length = p.fTables.length) (h12 : p.fTables.length < N) (hN : N ≤ 1000000) (j : List Int → Option (Bool × List Int × List Int)) :
  Dd N p s j N (held, 0) = j (Hn p s held) ∧ (Hn p s held).length = p.fTables.length := by
 have := Kg (Dd N p s j) (fun a i => (a, i)) p.fTables j (Pv s) (fun i a => a.length = p.fTables.length)
  (fun n i x a hx ha => by
   have hi := (List.getElem?_eq_some_iff.1 hx).1
   rw [Dd, A7 (by simp only; omega)]
   simp only [DD, Cj, hx, Option.bind_some, I1, BY (show i < 1000000 by omega)]
   have e2 : a[i]? = some (a.getD i 0) := by rw [List.getD_eq_getElem?_getD]; simp [show i < a.length from by omega]
   unfold Pv OQ
   cases h1 : x.fFrom == s.fIndex
   ·rw [Ay, Ay, Bool.false_and, if_neg (by simp)]; exact ⟨rfl, ha⟩
   ·rw [AQ, Bool.true_and]
    cases h2 : Cg x
    ·rw [Ay, if_neg (by simp)]; exact ⟨rfl, ha⟩
    ·rw [AQ, e2, if_pos rfl]
     simp only [Option.bind_some]
     rw [AX hv]
     exact ⟨rfl, by simpa using ha⟩)
  (fun n a ha => by rw [Dd, A0 (by simp)]) N 0 held (Nat.zero_le _) (by omega) hl
 rw [List.drop_zero] at this
 exact this
theorem Lz (N : Nat) (p : Ah) (s : Ap) (held : List Int) (hv : 0 ≤ s.fVersion) (hl : held.length = p.fTables.length) (h12 : p.fTables.length < N) (hN : N ≤ 1000000) (j : List Int → Option (Ae × Bool)) :
  BF N p s j N (held, 0) = j (Hn p s held) := by
 have := Kg (BF N p s j) (fun a i => (a, i)) p.fTables j (Pv s) (fun i a => a.length = p.fTables.length)
  (fun n i x a hx ha => by
   have hi := (List.getElem?_eq_some_iff.1 hx).1
   rw [BF, A7 (by simp only; omega)]
   simp only [DD, Cj, hx, Option.bind_some, GQ, BY (show i < 1000000 by omega)]
   have e2 : a[i]? = some (a.getD i 0) := by rw [List.getD_eq_getElem?_getD]; simp [show i < a.length from by omega]
   unfold Pv OQ
   cases h1 : x.fFrom == s.fIndex
   ·rw [Ay, Ay, Bool.false_and, if_neg (by simp)]; exact ⟨rfl, ha⟩
   ·rw [AQ, Bool.true_and]
    cases h2 : Cg x
    ·rw [Ay, if_neg (by simp)]; exact ⟨rfl, ha⟩
    ·rw [AQ, e2, if_pos rfl]
     simp only [Option.bind_some]
     rw [AX hv]
     exact ⟨rfl, by simpa using ha⟩)
  (fun n a ha => by rw [BF, A0 (by simp)]) N 0 held (Nat.zero_le _) (by omega) hl
 rw [List.drop_zero] at this
 exact this.1
def Jk (m : Ae) (t : AH) (u : Nat) : Bool := (t.fRewrite.getD u []).getD (m.fBase.getD t.fFrom.toNat 0).toNat false
def Lq (m : Ae) (i : Nat) (t : AH) (u : Nat) : Bool := DH (m.fHeld.getD i 0) u && !Jx m t.fFrom.toNat u
def G5 (p : Ah) (m : Ae) (i : Nat) (t : AH) : Bool := t.fKind == 4 && (List.range 8).any fun u => Lq m i t u && !Jk m t u
def Gd (p : Ah) (m : Ae) (s : Ap) : Option Ae :=
 let i := s.fIndex.toNat
 if s.fKind = 1 then (if 0 ≤ m.fNext.getD i 0 ∨ m.fBase.getD i 0 = s.fVersion then none else some ⟨m.fBase, m.fNext.set i s.fVersion, Hn p s m.fHeld⟩)
 else if s.fKind = 3 then match p.fTables[i]? with
  | none => none
  | some t => if Cg t = false ∨ m.fHeld.getD i 0 = FH m t.fFrom.toNat ∨ G5 p m i t = true then none else some ⟨m.fBase, m.fNext, m.fHeld.set i (FH m t.fFrom.toNat)⟩
 else if m.fNext.getD i 0 < 0 then none
 else some ⟨if s.fKind = 2 then m.fBase.set i (m.fNext.getD i 0) else m.fBase, m.fNext.set i (-1), m.fHeld⟩
def Fh (p : Ah) (m : Ae) (s : Ap) : Ae × Int :=
 if HE s = false then (Gw, 1) else if Gy p s = false then (Gw, 4) else match Gd p m s with
  | none => (Gw, 11)
  | some x => (x, 0)
end Go.Lift

/- Steps: clearing, and the whole of Apply. -/
namespace Go.Lift
open Go
section clear
variable {p : Ah} {m : Ae} {i : Nat} {t : AH}
theorem PG (hp : DJ p) (hm : E8 p m) (ht : p.fTables[i]? = some t) (hs : Cg t = true) {u : Nat} (h : DH (m.fHeld.getD i 0) u = true) : (u : Int) < p.fVersions.getD t.fFrom.toNat 0 ∧ u < 6 ∧ t.fFrom.toNat < p.fVersions.length := by
 have h1 := hm.high i t ht hs u h
 have hin := Hw (hp.tab t (List.mem_of_getElem? ht))
 have h2 := Ip hp (i := t.fFrom.toNat) (by omega)
 exact ⟨h1, by omega, by omega⟩
theorem QC (hp : DJ p) (hm : E8 p m) (ht : p.fTables[i]? = some t) (hs : Cg t = true) (h4 : t.fKind = 4) {u : Nat} (h : DH (m.fHeld.getD i 0) u = true) :
  A5 t.fRewrite (u : Int) = some (t.fRewrite.getD u []) ∧ A5 (t.fRewrite.getD u []) (m.fBase.getD t.fFrom.toNat 0) = some (Jk m t u) := by
 have hT := Sc (hp.tab t (List.mem_of_getElem? ht))
 obtain ⟨h1, h2, h3⟩ := PG hp hm ht hs h
 have hl := hT.reL h4
 have e : t.fRewrite[u]? = some (t.fRewrite.getD u []) := by rw [List.getD_eq_getElem?_getD]; simp [show u < t.fRewrite.length from by omega]
 have hr := hT.reR _ (List.mem_of_getElem? e)
 have hb := hm.b0 t.fFrom.toNat h3
 refine ⟨by rw [Cj, e], ?_⟩
 unfold Jk
 obtain ⟨b, hb'⟩ := Int.eq_ofNat_of_zero_le hb.1
 rw [hb'] at hb ⊢
 rw [Int.toNat_natCast]
 exact DS (by omega)
theorem LW (N : Nat) (hN : N ≤ 1000000) (h20 : 100 ≤ N) (hp : DJ p) (hm : E8 p m) (ht : p.fTables[i]? = some t) :
  FD N p m (i : Int) = some (if Cg t = false ∨ m.fHeld.getD i 0 = FH m t.fFrom.toNat ∨ G5 p m i t = true then (false, m.fHeld) else (true, m.fHeld.set i (FH m t.fFrom.toNat))) := by
 have hi := (List.getElem?_eq_some_iff.1 ht).1
 have hin := Hw (hp.tab t (List.mem_of_getElem? ht))
 have hb := hm.base
 have hnx := hm.next
 have hh := hm.held
 have hr := JI hp hm.toMixServ (s := t.fFrom.toNat) (by omega)
 have hrg := hm.range i hi
 have eh : A5 m.fHeld (i : Int) = some (m.fHeld.getD i 0) := DS (by omega)
 unfold FD
 simp only [DD, Cj, ht, Option.bind_some, I1]
 have eh' : m.fHeld[i]? = some (m.fHeld.getD i 0) := by rw [← Cj, eh]
 cases hs : Cg t
 ·rw [Bool.not_false, AQ, if_pos (.inl rfl)]
 ·rw [Bool.not_true, Ay, Nn N m _ hin.1 (by omega) (by omega) (hm.b0 _ (by omega)).1]
  simp only [Option.bind_some, eh']
  by_cases h1 : m.fHeld.getD i 0 = FH m t.fFrom.toNat
  ·rw [beq_iff_eq.2 h1, AQ, AQ, if_pos (.inr (.inl h1))]
  ·rw [beq_eq_false_iff_ne.2 h1, Ay]
   by_cases h4 : t.fKind = 4
   ·rw [beq_iff_eq.2 h4, AQ, EE (d := 0) hin.1 (by omega)]
    simp only [Option.bind_some]
    obtain ⟨a1, a2, a3⟩ := Oe hrg hr.2
    obtain ⟨w, hw⟩ := Int.eq_ofNat_of_zero_le a2
    unfold EH
    rw [hw] at a1 a3 ⊢
    rw [Oc N t _ (Jk m t) 8 N w (TG _) (by omega) (by omega) (fun u hu hbu => by
     have := a1 u; rw [hbu] at this
     exact ⟨_, QC hp hm ht hs h4 (Bool.and_eq_true_iff.1 this.symm).1⟩)]
    simp only [Option.bind_some]
    have e : (!(List.range 8).all fun u => !DH (w : Int) u || Jk m t u) = G5 p m i t := by
     unfold G5
     rw [beq_iff_eq.2 h4, Bool.true_and, List.not_all_eq_any_not]
     congr 1
     funext u
     rw [a1 u, hr.1 u]
     unfold Lq
     cases DH (m.fHeld.getD i 0) u <;> cases Jx m t.fFrom.toNat u <;> cases Jk m t u <;> rfl
    rw [e]
    cases hst : G5 p m i t
    ·rw [Ay, if_neg (by rintro (h | h | h); cases h; exact h1 h; cases h)]; rfl
    ·rw [AQ, if_pos (.inr (.inr rfl))]
   ·have e : G5 p m i t = false := by unfold G5; rw [beq_eq_false_iff_ne.2 h4]; rfl
    rw [beq_eq_false_iff_ne.2 h4, Ay, Ay, e, if_neg (by rintro (h | h | h); cases h; exact h1 h; cases h)]; rfl
theorem LA (N : Nat) (hN : N ≤ 1000000) (h20 : 100 ≤ N) (hp : DJ p) (hm : E8 p m) (ht : p.fTables[i]? = some t) (hs : Cg t = true) (s : Ap) (hsi : s.fIndex = (i : Int)) (j : Option (Ae × Bool)) :
  Br N p m s t (FH m t.fFrom.toNat) (fun _ => j) N 0 = if G5 p m i t = true then some (Gw, false) else j := by
 have hi := (List.getElem?_eq_some_iff.1 ht).1
 have hin := Hw (hp.tab t (List.mem_of_getElem? ht))
 have hb := hm.base
 have hh := hm.held
 have hr := JI hp hm.toMixServ (s := t.fFrom.toNat) (by omega)
 have hrg := hm.range i hi
 have hver := Ip hp (i := t.fFrom.toNat) (by omega)
 obtain ⟨nv, hnv⟩ := Int.eq_ofNat_of_zero_le (show 0 ≤ p.fVersions.getD t.fFrom.toNat 0 by omega)
 have eh' : m.fHeld[i]? = some (m.fHeld.getD i 0) := by rw [List.getD_eq_getElem?_getD]; simp [show i < m.fHeld.length from by omega]
 have := DQ (Br N p m s t (FH m t.fFrom.toNat) fun _ => j) (List.range nv) j (fun u _ => if (Lq m i t u && (t.fKind == 4 && !Jk m t u)) = true then some (Gw, false) else none)
  (fun n u x hx => by
   have hu : u < nv := by
    have := (List.getElem?_eq_some_iff.1 hx).1
    simpa using this
   rw [Br, EE (d := 0) hin.1 (by omega), hnv]
   simp only [Option.bind_some]
   rw [A7 (by omega)]
   simp only [DD, hsi, Cj, eh', Option.bind_some]
   rw [P3 N hrg (by omega), BY (by omega)]
   simp only [Option.bind_some]
   cases h1 : DH (m.fHeld.getD i 0) u
   ·have e : Lq m i t u = false := by unfold Lq; rw [h1]; rfl
    rw [Ay, Ay, Ay, e]; rfl
   ·rw [AQ, P3 N hr.2 (by omega), hr.1 u]
    simp only [Option.bind_some]
    have e : Lq m i t u = !Jx m t.fFrom.toNat u := by unfold Lq; rw [h1]; rfl
    rw [← e]
    cases h2 : Lq m i t u
    ·rw [Ay, Ay]; rfl
    ·rw [AQ]
     by_cases h4 : t.fKind = 4
     ·obtain ⟨e1, e2⟩ := QC hp hm ht hs h4 h1
      rw [Cj] at e1
      rw [beq_iff_eq.2 h4, AQ, e1, EE (d := 0) hin.1 (by omega)]
      simp only [Option.bind_some]
      rw [e2]
      simp only [Option.bind_some]
      cases Jk m t u <;> rfl
     ·rw [beq_eq_false_iff_ne.2 h4, Ay, Ay]; rfl)
  (fun n => by
   rw [Br, EE (d := 0) hin.1 (by omega), hnv]
   simp only [Option.bind_some, List.length_range]
   rw [A0 (by omega)]) N 0 (Nat.zero_le _) (by simp; omega)
 have e0 : Br N p m s t (FH m t.fFrom.toNat) (fun _ => j) N 0 = _ := this
 rw [e0, List.drop_zero]
 by_cases hst : G5 p m i t = true
 ·rw [if_pos hst]
  unfold G5 at hst
  rw [Bool.and_eq_true, List.any_eq_true] at hst
  obtain ⟨h4, u, hu, h5⟩ := hst
  rw [Bool.and_eq_true] at h5
  have h6 : DH (m.fHeld.getD i 0) u = true := by have := h5.1; unfold Lq at this; exact (Bool.and_eq_true_iff.1 this).1
  have h7 := PG hp hm ht hs h6
  cases hsc : DX (fun u (_ : Nat) => if (Lq m i t u && (t.fKind == 4 && !Jk m t u)) = true then some (Gw, false) else none) 0 (List.range nv) with
  | some r =>
   obtain ⟨q, x, hx, hf⟩ := Fq hsc
   split at hf
   ·cases hf; rfl
   ·cases hf
  | none =>
   exfalso
   have hx : (List.range nv)[u]? = some u := List.getElem?_range (by omega)
   have := GB hsc u u hx
   rw [Nat.zero_add, h5.1, h4, h5.2] at this
   cases this
 ·rw [if_neg hst]
  have : DX (fun u (_ : Nat) => if (Lq m i t u && (t.fKind == 4 && !Jk m t u)) = true then some (Gw, false) else none) 0 (List.range nv) = none := EP fun q x hx => by
   rw [Nat.zero_add]
   split
   ·rename_i h5
    exfalso; apply hst
    rw [Bool.and_eq_true, Bool.and_eq_true] at h5
    unfold G5
    rw [h5.2.1, Bool.true_and, List.any_eq_true]
    have hq : q < nv := by
     have := (List.getElem?_eq_some_iff.1 hx).1
     simpa using this
    exact ⟨q, List.mem_range.2 (by omega), by rw [h5.1, h5.2.2]; rfl⟩
   ·rfl
  rw [this]; rfl
end clear
end Go.Lift

/- Apply: both implementations give applyP; a step leads from a valid mix to a valid mix. -/
namespace Go.Lift
open Go
theorem I7 {s : Ap} (h : HE s = true) : 1 ≤ s.fKind ∧ s.fKind ≤ 4 ∧ 0 ≤ s.fIndex ∧ 0 ≤ s.fVersion ∧ (s.fKind ≠ 1 → s.fVersion = 0) := by
 unfold HE at h
 rw [Bool.and_eq_true, decide_eq_true_iff, Bool.or_eq_true, beq_iff_eq, beq_iff_eq] at h
 exact ⟨h.1.1, h.1.2.1, h.1.2.2.1, h.1.2.2.2, fun hk => h.2.elim (fun e => (hk e).elim) id⟩
theorem Kf {p : Ah} {s : Ap} (h : Gy p s = true) : (s.fKind = 3 → s.fIndex < (p.fTables.length : Int)) ∧ (s.fKind ≠ 3 → s.fIndex < (p.fVersions.length : Int)) ∧ (s.fKind = 1 → s.fVersion < p.fVersions.getD s.fIndex.toNat 0) := by
 unfold Gy at h
 split at h
 ·rename_i hk
  rw [decide_eq_true_iff] at h
  exact ⟨fun _ => h, fun hn => (hn hk).elim, fun h1 => by omega⟩
 ·rename_i hk
  rw [Bool.and_eq_true, decide_eq_true_iff, Bool.or_eq_true, decide_eq_true_iff, bne_iff_ne] at h
  exact ⟨fun h3 => (hk h3).elim, fun _ => h.1, fun h1 => h.2.elim (fun hn => (hn h1).elim) id⟩
theorem Mg (N : Nat) {p : Ah} {m : Ae} (hp : DJ p) (hm : E8 p m) : Ez N m = some m := by
 have hnv := hp.nv
 have hnt := hp.nt
 have h1 := hm.base
 have h2 := hm.next
 have h3 := hm.held
 unfold Ez
 rw [Kl N _ (by simp only [Er]; omega), Kl N _ (by simp only [Er]; omega), Po N _ (by simp only [Er]; omega)]
 rfl
theorem LV (N : Nat) (hN : N ≤ 1000000) (h20 : 100 ≤ N) {p : Ah} {m : Ae} (hp : DJ p) (hm : E8 p m) {s : Ap} (hv : HE s = true) (hx : Gy p s = true) :
  ∃ o, EV N p m s = some (o, (Gd p m s).isSome) ∧ ∀ x, Gd p m s = some x → o = x := by
 obtain ⟨k1, k4, i0, v0, vk⟩ := I7 hv
 obtain ⟨x3, xn, x1⟩ := Kf hx
 have hnv := hp.nv
 have hnt := hp.nt
 have hb := hm.base
 have hn := hm.next
 have hh := hm.held
 obtain ⟨i, hi⟩ := Int.eq_ofNat_of_zero_le i0
 unfold EV Gd
 rw [Mg N hp hm]
 simp only [Option.bind_some, DD]
 by_cases hk1 : s.fKind = 1
 ·have hi1 : (i : Int) < p.fVersions.length := by have := xn (by omega); omega
  rw [beq_iff_eq.2 hk1, AQ, if_pos hk1]
  unfold GO
  simp only [DD, hi, Int.toNat_natCast]
  rw [DS (d := 0) (show i < m.fNext.length by omega)]
  simp only [Option.bind_some]
  by_cases c1 : 0 ≤ m.fNext.getD i 0
  ·rw [A7 c1, AQ, if_pos (.inl c1)]
   exact ⟨_, rfl, fun x hx => by cases hx⟩
  ·rw [A0 c1, DS (d := 0) (show i < m.fBase.length by omega)]
   simp only [Option.bind_some]
   by_cases c2 : m.fBase.getD i 0 = s.fVersion
   ·rw [beq_iff_eq.2 c2, AQ, if_pos (.inr c2)]
    exact ⟨_, rfl, fun x hx => by cases hx⟩
   ·rw [beq_eq_false_iff_ne.2 c2, Ay, (KW (R := Unit) N p s m.fHeld v0 hh (by omega) hN _).1, if_neg (by rintro (h | h); exact c1 h; exact c2 h)]
    exact ⟨_, rfl, fun x hx => by cases hx; rfl⟩
 ·rw [beq_eq_false_iff_ne.2 hk1, Ay, if_neg hk1]
  by_cases hk3 : s.fKind = 3
  ·have hi3 : i < p.fTables.length := by have := x3 hk3; omega
   have ht : p.fTables[i]? = some p.fTables[i] := by simp [hi3]
   rw [beq_iff_eq.2 hk3, AQ, if_pos hk3, hi, LW N hN h20 hp hm ht]
   simp only [Option.bind_some, Int.toNat_natCast, ht]
   split
   ·exact ⟨_, rfl, fun x hx => by cases hx⟩
   ·exact ⟨_, rfl, fun x hx => by cases hx; rfl⟩
  ·have hi1 : (i : Int) < p.fVersions.length := by have := xn hk3; omega
   rw [beq_eq_false_iff_ne.2 hk3, Ay, if_neg hk3, hi, DS (d := 0) (show i < m.fNext.length by omega)]
   simp only [Option.bind_some, Int.toNat_natCast]
   by_cases c1 : m.fNext.getD i 0 < 0
   ·rw [A7 c1, if_pos c1]
    exact ⟨_, rfl, fun x hx => by cases hx⟩
   ·rw [A0 c1, if_neg c1]
    by_cases hk2 : s.fKind = 2
    ·rw [beq_iff_eq.2 hk2, AQ, DS (d := 0) (show i < m.fBase.length by omega), if_pos hk2]
     exact ⟨_, rfl, fun x hx => by cases hx; rfl⟩
    ·rw [beq_eq_false_iff_ne.2 hk2, Ay, if_neg hk2]
     exact ⟨_, rfl, fun x hx => by cases hx; rfl⟩
theorem L5 (N : Nat) (hN : N ≤ 1000000) (h20 : 100 ≤ N) {p : Ah} {m : Ae} (hp : DJ p) (hm : E8 p m) (s : Ap) : EW N p m s = some (Fh p m s) := by
 unfold EW Fh
 rw [L0]
 simp only [Option.bind_some]
 cases hv : HE s
 ·rw [Bool.not_false, AQ, if_pos rfl]; rfl
 ·rw [Bool.not_true, Ay, if_neg (by simp), LP N p s hv]
  simp only [Option.bind_some]
  cases hx : Gy p s
  ·rw [Bool.not_false, AQ, if_pos rfl]; rfl
  ·rw [Bool.not_true, Ay, if_neg (by simp)]
   obtain ⟨o, e, ho⟩ := LV N hN h20 hp hm hv hx
   rw [e]
   simp only [Option.bind_some]
   cases ha : Gd p m s with
   | none => rfl
   | some x => rw [ho x ha]; rfl
theorem M1 (N : Nat) (hN : N ≤ 1000000) (h20 : 100 ≤ N) {p : Ah} {m : Ae} (hp : DJ p) (hm : E8 p m) {s : Ap} (hv : HE s = true) (hx : Gy p s = true) :
  De N p m s = some (match Gd p m s with | none => (Gw, false) | some x => (x, true)) := by
 obtain ⟨k1, k4, i0, v0, vk⟩ := I7 hv
 obtain ⟨x3, xn, x1⟩ := Kf hx
 have hnv := hp.nv
 have hnt := hp.nt
 have hb := hm.base
 have hn := hm.next
 have hh := hm.held
 obtain ⟨i, hi⟩ := Int.eq_ofNat_of_zero_le i0
 unfold De Gd
 rw [AX (by simp [Er]; omega), AX (by simp [Er]; omega), AX (by simp [Er]; omega)]
 simp only [Option.bind_some, DD, List.nil_append]
 by_cases hk1 : s.fKind = 1
 ·have hi1 : (i : Int) < p.fVersions.length := by have := xn (by omega); omega
  rw [beq_iff_eq.2 hk1, AQ, if_pos hk1]
  simp only [hi, Int.toNat_natCast]
  rw [DS (d := 0) (show i < m.fNext.length by omega)]
  simp only [Option.bind_some]
  by_cases c1 : 0 ≤ m.fNext.getD i 0
  ·rw [A7 c1, AQ, if_pos (.inl c1)]; rfl
  ·rw [A0 c1, DS (d := 0) (show i < m.fBase.length by omega)]
   simp only [Option.bind_some]
   by_cases c2 : m.fBase.getD i 0 = s.fVersion
   ·rw [beq_iff_eq.2 c2.symm, AQ, if_pos (.inr c2)]; rfl
   ·rw [beq_eq_false_iff_ne.2 (fun h => c2 h.symm), Ay, Lz N p s m.fHeld v0 hh (by omega) hN _, if_neg (by rintro (h | h); exact c1 h; exact c2 h)]
 ·rw [beq_eq_false_iff_ne.2 hk1, Ay, if_neg hk1]
  by_cases hk3 : s.fKind = 3
  ·have hi3 : i < p.fTables.length := by have := x3 hk3; omega
   have ht : p.fTables[i]? = some p.fTables[i] := by simp [hi3]
   have hin := Hw (hp.tab _ (List.mem_of_getElem? ht))
   have eh' : A5 m.fHeld (i : Int) = some (m.fHeld.getD i 0) := DS (by omega)
   rw [beq_eq_false_iff_ne.2 (show s.fKind ≠ 2 by omega), Ay, beq_iff_eq.2 hk3, AQ, if_pos hk3, hi, Cj, ht]
   simp only [Option.bind_some, GQ, Int.toNat_natCast, ht]
   cases hs : Cg p.fTables[i]
   ·rw [Bool.not_false, AQ, if_pos (.inl rfl)]; rfl
   ·rw [Bool.not_true, Ay, Lo N m _ hin.1 (by omega) (by omega) (hm.b0 _ (by omega)).1, eh']
    simp only [Option.bind_some]
    by_cases h1 : m.fHeld.getD i 0 = FH m (p.fTables[i]).fFrom.toNat
    ·rw [beq_iff_eq.2 h1, AQ, if_pos (.inr (.inl h1))]; rfl
    ·rw [beq_eq_false_iff_ne.2 h1, Ay]
     rw [LA N hN h20 hp hm ht hs s hi]
     cases hst : G5 p m i p.fTables[i]
     ·rw [if_neg (by simp), if_neg (by rintro (h | h | h); cases h; exact h1 h; cases h)]
     ·rw [if_pos rfl, if_pos (.inr (.inr rfl))]
  ·have hi1 : (i : Int) < p.fVersions.length := by have := xn hk3; omega
   rw [if_neg hk3, hi, DS (d := 0) (show i < m.fNext.length by omega)]
   simp only [Option.bind_some, Int.toNat_natCast]
   by_cases hk2 : s.fKind = 2
   ·rw [beq_iff_eq.2 hk2, AQ, if_pos hk2]
    by_cases c1 : m.fNext.getD i 0 < 0
    ·rw [A7 c1, if_pos c1]; rfl
    ·rw [A0 c1, if_neg c1, DS (d := 0) (show i < m.fBase.length by omega)]; rfl
   ·rw [beq_eq_false_iff_ne.2 hk2, Ay, beq_eq_false_iff_ne.2 hk3, Ay, if_neg hk2]
    by_cases c1 : m.fNext.getD i 0 < 0
    ·rw [A7 c1, if_pos c1]; rfl
    ·rw [A0 c1, if_neg c1]
end Go.Lift

/- A step leads from a valid mix to a valid mix; Apply of both implementations. -/
namespace Go.Lift
open Go
theorem N8 (s : Ap) : ∀ (xs : List AH) (i : Nat) (a : List Int), i + xs.length ≤ a.length → (Jh (Pv s) i xs a).length = a.length ∧ ∀ q, (Jh (Pv s) i xs a).getD q 0 = match (if i ≤ q then xs[q - i]? else none) with
  | some t => if OQ s t = true then LU .u8 (a.getD q 0) (Co .u8 1 s.fVersion) else a.getD q 0
  | none => a.getD q 0
 | [], i, a, _ => by
  refine ⟨rfl, fun q => ?_⟩
  split
  ·rename_i h; split at h
   ·simp at h
   ·cases h
  ·rfl
 | x :: xs, i, a, hl => by
  have hl' : i + (xs.length + 1) ≤ a.length := by simpa using hl
  have ha : (Pv s i x a).length = a.length := by unfold Pv; split <;> simp
  obtain ⟨ih1, ih2⟩ := N8 s xs (i + 1) (Pv s i x a) (by omega)
  refine ⟨by rw [Jh, ih1, ha], fun q => ?_⟩
  rw [Jh, ih2 q]
  have hu : (Pv s i x a).getD q 0 = if q = i ∧ OQ s x = true then LU .u8 (a.getD q 0) (Co .u8 1 s.fVersion) else a.getD q 0 := by
   unfold Pv
   by_cases hc : OQ s x = true
   ·rw [if_pos hc, I3 (by omega)]
    by_cases hq : q = i
    ·subst hq; rw [if_pos rfl, if_pos ⟨rfl, hc⟩]
    ·rw [if_neg hq, if_neg (fun h => hq h.1)]
   ·rw [if_neg hc, if_neg (fun h => hc h.2)]
  by_cases h1 : i + 1 ≤ q
  ·rw [if_pos h1, if_pos (show i ≤ q by omega), hu, if_neg (by omega)]
   rw [show (x :: xs)[q - i]? = xs[q - (i + 1)]? from by rw [show q - i = (q - (i + 1)) + 1 from by omega, List.getElem?_cons_succ]]
  ·rw [if_neg h1]
   by_cases h2 : q = i
   ·subst h2
    rw [if_pos (Nat.le_refl _), Nat.sub_self, hu]
    simp
   ·rw [if_neg (show ¬ i ≤ q by omega), hu, if_neg (by omega)]
theorem Pd {p : Ah} {s : Ap} {held : List Int} (hl : held.length = p.fTables.length) : (Hn p s held).length = p.fTables.length ∧ ∀ q t, p.fTables[q]? = some t → (Hn p s held).getD q 0 = if OQ s t = true then LU .u8 (held.getD q 0) (Co .u8 1 s.fVersion) else held.getD q 0 := by
 obtain ⟨h1, h2⟩ := N8 s p.fTables 0 held (by omega)
 refine ⟨h1.trans hl, fun q t ht => ?_⟩
 have := h2 q
 rw [if_pos (Nat.zero_le _), Nat.sub_zero, ht] at this
 exact this
theorem Lr {m : Ae} {s v : Nat} : Jx m s v = true ↔ m.fBase.getD s 0 = (v : Int) ∨ m.fNext.getD s 0 = (v : Int) := by
 unfold Jx; rw [Bool.or_eq_true, decide_eq_true_iff, decide_eq_true_iff]
theorem Qg {p : Ah} {m x : Ae} (hp : DJ p) (hm : E8 p m) {s : Ap} (hv : HE s = true) (hx : Gy p s = true) (h : Gd p m s = some x) : E8 p x := by
 obtain ⟨k1, k4, i0, v0, vk⟩ := I7 hv
 obtain ⟨x3, xn, x1⟩ := Kf hx
 obtain ⟨i, hi⟩ := Int.eq_ofNat_of_zero_le i0
 have hb := hm.base
 have hn := hm.next
 have hh := hm.held
 unfold Gd at h
 simp only [hi, Int.toNat_natCast] at h
 rw [hi, Int.toNat_natCast] at x1
 split at h
 ·rename_i hk1
  have hi1 : i < p.fVersions.length := by have := xn (by omega); omega
  have hx1 := x1 hk1
  have hvi := Ip hp hi1
  split at h
  ·cases h
  rename_i hc
  cases h
  obtain ⟨u1, u2⟩ := Pd (s := s) hh
  obtain ⟨b, hbv⟩ := Int.eq_ofNat_of_zero_le v0
  have hob := QN (b := b) (by omega)
  have hN : ∀ q, (m.fNext.set i s.fVersion).getD q 0 = if q = i then s.fVersion else m.fNext.getD q 0 := fun q => I3 (by omega)
  refine { base := hb, next := by simpa using hn, held := u1, b0 := hm.b0, n0 := fun q hq => ?_, ne := fun q hq => ?_, range := fun q hq => ?_, low := fun q t ht hs v hr => ?_, high := fun q t ht hs v hbit => ?_, none := fun q t ht hs => ?_ }
  ·show -1 ≤ (m.fNext.set i s.fVersion).getD q 0 ∧ (m.fNext.set i s.fVersion).getD q 0 < _
   rw [hN q]
   split
   ·rename_i e; subst e; omega
   ·exact hm.n0 q hq
  ·show m.fBase.getD q 0 ≠ (m.fNext.set i s.fVersion).getD q 0
   rw [hN q]
   split
   ·rename_i e; subst e; exact fun h => hc (.inr h)
   ·exact hm.ne q hq
  ·have ht : p.fTables[q]? = some p.fTables[q] := by simp [hq]
   show 0 ≤ (Hn p s m.fHeld).getD q 0 ∧ (Hn p s m.fHeld).getD q 0 ≤ 255
   rw [u2 q _ ht, hbv]
   split
   ·exact (Of (hm.range q hq) hob.2).2
   ·exact hm.range q hq
  ·have hq := (List.getElem?_eq_some_iff.1 ht).1
   show DH ((Hn p s m.fHeld).getD q 0) v = true
   have hin := Hw (hp.tab t (List.mem_of_getElem? ht))
   rw [Lr] at hr
   have hr : m.fBase.getD t.fFrom.toNat 0 = (v : Int) ∨ (m.fNext.set i s.fVersion).getD t.fFrom.toNat 0 = (v : Int) := hr
   rw [hN] at hr
   rw [u2 q t ht, hbv]
   have hlow := hm.low q t ht hs v
   rw [Lr] at hlow
   by_cases hf : t.fFrom.toNat = i
   ·have hup : OQ s t = true := by unfold OQ; rw [hs, Bool.and_true, beq_iff_eq, hi]; omega
    rw [if_pos hup, (Of (hm.range q hq) hob.2).1, hob.1 v, Bool.or_eq_true, decide_eq_true_iff]
    rw [if_pos hf] at hr
    rcases hr with h | h
    ·exact .inl (hlow (.inl h))
    ·right; omega
   ·rw [if_neg hf] at hr
    have hup : OQ s t = false := by unfold OQ; rw [hs, Bool.and_true, beq_eq_false_iff_ne, hi]; omega
    rw [hup, if_neg (by simp)]
    exact hlow hr
  ·have hq := (List.getElem?_eq_some_iff.1 ht).1
   have hbit : DH ((Hn p s m.fHeld).getD q 0) v = true := hbit
   have hin := Hw (hp.tab t (List.mem_of_getElem? ht))
   rw [u2 q t ht, hbv] at hbit
   split at hbit
   ·rename_i hup
    rw [(Of (hm.range q hq) hob.2).1, hob.1 v, Bool.or_eq_true, decide_eq_true_iff] at hbit
    rcases hbit with h | h
    ·exact hm.high q t ht hs v h
    ·unfold OQ at hup
     rw [hs, Bool.and_true, beq_iff_eq, hi] at hup
     rw [hup, Int.toNat_natCast]; omega
   ·exact hm.high q t ht hs v hbit
  ·show (Hn p s m.fHeld).getD q 0 = 0
   have hup : OQ s t = false := by unfold OQ; rw [hs, Bool.and_false]
   rw [u2 q t ht, hup, if_neg (by simp)]
   exact hm.none q t ht hs
 ·rename_i hk1
  split at h
  ·rename_i hk3
   have hi3 : i < p.fTables.length := by have := x3 hk3; omega
   have ht0 : p.fTables[i]? = some p.fTables[i] := by simp [hi3]
   rw [ht0] at h
   simp only at h
   split at h
   ·cases h
   rename_i hc
   cases h
   have hin0 := Hw (hp.tab _ (List.mem_of_getElem? ht0))
   have hr0 := JI hp hm.toMixServ (s := (p.fTables[i]).fFrom.toNat) (by omega)
   have hs0 : Cg p.fTables[i] = true := by
    cases hs : Cg p.fTables[i]
    ·exact (hc (.inl hs)).elim
    ·rfl
   have hH : ∀ q, (m.fHeld.set i (FH m (p.fTables[i]).fFrom.toNat)).getD q 0 = if q = i then FH m (p.fTables[i]).fFrom.toNat else m.fHeld.getD q 0 := fun q => I3 (by omega)
   refine { base := hb, next := hn, held := by simpa using hh, b0 := hm.b0, n0 := hm.n0, ne := hm.ne, range := fun q hq => ?_, low := fun q t ht hs v hr => ?_, high := fun q t ht hs v hbit => ?_, none := fun q t ht hs => ?_ }
   ·show 0 ≤ (m.fHeld.set i (FH m (p.fTables[i]).fFrom.toNat)).getD q 0 ∧ (m.fHeld.set i (FH m (p.fTables[i]).fFrom.toNat)).getD q 0 ≤ 255
    rw [hH q]
    split
    ·exact hr0.2
    ·exact hm.range q hq
   ·show DH ((m.fHeld.set i (FH m (p.fTables[i]).fFrom.toNat)).getD q 0) v = true
    have hr : Jx m t.fFrom.toNat v = true := hr
    rw [hH q]
    split
    ·rename_i e; subst e
     rw [ht0] at ht; cases ht
     rw [hr0.1]; exact hr
    ·exact hm.low q t ht hs v hr
   ·have hbit : DH ((m.fHeld.set i (FH m (p.fTables[i]).fFrom.toNat)).getD q 0) v = true := hbit
    rw [hH q] at hbit
    split at hbit
    ·rename_i e; subst e
     rw [ht0] at ht; cases ht
     rw [hr0.1] at hbit
     exact hm.high q _ ht0 hs0 v (hm.low q _ ht0 hs0 v hbit)
    ·exact hm.high q t ht hs v hbit
   ·show (m.fHeld.set i (FH m (p.fTables[i]).fFrom.toNat)).getD q 0 = 0
    rw [hH q, if_neg (fun e => by subst e; rw [ht0] at ht; cases ht; rw [hs0] at hs; cases hs)]
    exact hm.none q t ht hs
  ·rename_i hk3
   have hi1 : i < p.fVersions.length := by have := xn hk3; omega
   have hvi := Ip hp hi1
   split at h
   ·cases h
   rename_i hc
   cases h
   have hN : ∀ q, (m.fNext.set i (-1)).getD q 0 = if q = i then -1 else m.fNext.getD q 0 := fun q => I3 (by omega)
   have hB : ∀ q, (if s.fKind = 2 then m.fBase.set i (m.fNext.getD i 0) else m.fBase).getD q 0 = if s.fKind = 2 ∧ q = i then m.fNext.getD i 0 else m.fBase.getD q 0 := fun q => by
    by_cases hk2 : s.fKind = 2
    ·rw [if_pos hk2, I3 (by omega)]
     by_cases e : q = i
     ·rw [if_pos e, if_pos ⟨hk2, e⟩]
     ·rw [if_neg e, if_neg (fun h => e h.2)]
    ·rw [if_neg hk2, if_neg (fun h => hk2 h.1)]
   have hrun : ∀ q v, Jx ⟨if s.fKind = 2 then m.fBase.set i (m.fNext.getD i 0) else m.fBase, m.fNext.set i (-1), m.fHeld⟩ q v = true → Jx m q v = true := fun q v hr => by
    rw [Lr] at hr ⊢
    simp only [hN q, hB q] at hr
    by_cases e : q = i
    ·subst e
     rw [if_pos rfl] at hr
     by_cases hk2 : s.fKind = 2
     ·rw [if_pos ⟨hk2, rfl⟩] at hr; omega
     ·rw [if_neg (fun h => hk2 h.1)] at hr; omega
    ·rw [if_neg e, if_neg (fun h => e h.2)] at hr; exact hr
   refine { base := by simp only; split <;> simp [hb], next := by simpa using hn, held := hh, b0 := fun q hq => ?_, n0 := fun q hq => ?_, ne := fun q hq => ?_, range := hm.range, low := fun q t ht hs v hr => hm.low q t ht hs v (hrun _ _ hr), high := hm.high, none := hm.none }
   ·simp only [hB q]
    split
    ·rename_i e; obtain ⟨_, e⟩ := e; subst e
     have := hm.n0 q hq
     omega
    ·exact hm.b0 q hq
   ·simp only [hN q]
    split
    ·rename_i e; subst e; omega
    ·exact hm.n0 q hq
   ·simp only [hB q, hN q]
    have h1 := hm.b0 q hq
    by_cases e : q = i
    ·rw [if_pos e]
     split
     ·rename_i e2; obtain ⟨_, e2⟩ := e2; subst e2; omega
     ·omega
    ·rw [if_neg e, if_neg (fun h => e h.2)]; exact hm.ne q hq
theorem Nb (N : Nat) (hN : N ≤ 1000000) (h20 : 100 ≤ N) {p : Ah} {m : Ae} (hw : LT Kc m.fHeld) (s : Ap) : DN N p m s = some (if Hm p m = 0 then Fh p m s else (Gw, Hm p m)) := by
 unfold DN Fh
 rw [JS N p m hN (by omega)]
 simp only [Option.bind_some, DD]
 by_cases hval : Hm p m = 0
 ·obtain ⟨hp, hm⟩ := P6 hw hval
  rw [if_pos hval, hval, bne_self_eq_false, Ay, Nk]
  simp only [Option.bind_some]
  cases hv : HE s
  ·rw [Bool.not_false, AQ, if_pos rfl]; rfl
  ·rw [Bool.not_true, Ay, if_neg (by simp)]
   obtain ⟨k1, k4, i0, v0, vk⟩ := I7 hv
   have key : ∀ b : Bool, Gy p s = b → (if b = false then (Gw, (4 : Int)) else match Gd p m s with | none => (Gw, 11) | some x => (x, 0)) = (if b = false then (Gw, (4 : Int)) else match Gd p m s with | none => (Gw, 11) | some x => (x, 0)) := fun _ _ => rfl
   have tail : Gy p s = true → ((De N p m s).bind fun v15 => AS (!v15.2) (some (Ae.mk [] [] [], (11 : Int))) (some (v15.1, 0))) = some (match Gd p m s with | none => (Gw, 11) | some x => (x, 0)) := fun hx => by
    rw [M1 N hN h20 hp hm hv hx]
    cases Gd p m s <;> rfl
   have zz : (Ae.mk [] [] [], (4 : Int)) = (Gw, 4) := rfl
   by_cases hk3 : s.fKind = 3
   ·rw [beq_iff_eq.2 hk3, AQ, show (s.fKind != 3) = false from by rw [hk3]; rfl]
    have hX : Gy p s = decide (s.fIndex < (p.fTables.length : Int)) := by unfold Gy; rw [if_pos hk3]
    by_cases c : (p.fTables.length : Int) ≤ s.fIndex
    ·rw [A7 c, AQ, hX, decide_eq_false (by omega), if_pos rfl]; rfl
    ·have hx : Gy p s = true := by rw [hX, decide_eq_true (by omega)]
     rw [A0 c, Ay, Ay, beq_eq_false_iff_ne.2 (show s.fKind ≠ 1 by omega), Ay, Ay, hx, if_neg (by simp)]
     exact tail hx
   ·rw [beq_eq_false_iff_ne.2 hk3, Ay, bne_iff_ne.2 hk3, AQ]
    have hX : Gy p s = (decide (s.fIndex < (p.fVersions.length : Int)) && (s.fKind != 1 || decide (s.fVersion < p.fVersions.getD s.fIndex.toNat 0))) := by unfold Gy; rw [if_neg hk3]
    by_cases c : (p.fVersions.length : Int) ≤ s.fIndex
    ·rw [decide_eq_true c, AQ, hX, decide_eq_false (show ¬ s.fIndex < (p.fVersions.length : Int) by omega), Bool.false_and, if_pos rfl]; rfl
    ·rw [decide_eq_false c, Ay]
     by_cases hk1 : s.fKind = 1
     ·rw [beq_iff_eq.2 hk1, AQ, EE (d := 0) i0 (by omega)]
      simp only [Option.bind_some]
      by_cases c2 : p.fVersions.getD s.fIndex.toNat 0 ≤ s.fVersion
      ·rw [decide_eq_true c2, AQ, hX, decide_eq_false (show ¬ s.fVersion < p.fVersions.getD s.fIndex.toNat 0 by omega), show (s.fKind != 1) = false from by rw [hk1]; rfl, Bool.false_or, Bool.and_false, if_pos rfl]; rfl
      ·have hx : Gy p s = true := by rw [hX, decide_eq_true (by omega), decide_eq_true (by omega), Bool.or_true]; rfl
       rw [decide_eq_false c2, Ay, hx, if_neg (by simp)]
       exact tail hx
     ·have hx : Gy p s = true := by rw [hX, decide_eq_true (by omega), bne_iff_ne.2 hk1]; rfl
      rw [beq_eq_false_iff_ne.2 hk1, Ay, Ay, hx, if_neg (by simp)]
      exact tail hx
 ·rw [if_neg hval, bne_iff_ne.2 hval, AQ]; rfl
theorem Mh {p : Ah} {m : Ae} (hp : DJ p) (hm : E8 p m) {s : Ap} (h : (Fh p m s).2 = 0) : E8 p (Fh p m s).1 := by
 unfold Fh at h ⊢
 split at h
 ·cases h
 rename_i h1
 rw [if_neg h1]
 split at h
 ·cases h
 rename_i h2
 rw [if_neg h2]
 cases ha : Gd p m s with
 | none => rw [ha] at h; cases h
 | some x => exact Qg hp hm (by simpa using h1) (by simpa using h2) ha
end Go.Lift

/- Failure and Check: both implementations give one answer; the laws PlanCheck and PlanFailure. -/
namespace Go.Lift
open Go
section
variable {N : Nat} {p : Ah} {l : List Ap}
end
end Go.Lift

/- The law PlanErrors in plain words. -/
namespace Go.Lift
open Go
end Go.Lift

/- Trim: both implementations give one list. -/
namespace Go.Lift
open Go
theorem On (N : Nat) (l : List Ap) (h : l.length ≤ Er) : BV N l = some l := by
 unfold BV
 rw [AX (by simpa using h)]; rfl
end Go.Lift

/- A plan without a step: what can be left out. -/
namespace Go.Lift
open Go
structure SN (p : Ah) (m x : Ae) : Prop where
 base : m.fBase = x.fBase
 next : m.fNext = x.fNext
 held : ∀ i, i < p.fTables.length → ∀ v, DH (m.fHeld.getD i 0) v = true → DH (x.fHeld.getD i 0) v = true
theorem SN.refl (p : Ah) (m : Ae) : SN p m m := ⟨rfl, rfl, fun _ _ _ h => h⟩
theorem SN.trans {p : Ah} {a b c : Ae} (h : SN p a b) (g : SN p b c) : SN p a c := ⟨h.base.trans g.base, h.next.trans g.next, fun i hi v hv => g.held i hi v (h.held i hi v hv)⟩
end Go.Lift

/- A step between two mixes; openings and closings; the law PlanTrim. -/
namespace Go.Lift
open Go
end Go.Lift

/- The law PlanTrim in plain words. -/
namespace Go.Lift
open Go
end Go.Lift

/- The keys of mixes. -/
namespace Go.Lift
open Go
end Go.Lift

/- Keys tell mixes. -/
namespace Go.Lift
open Go
end Go.Lift

/- The possible steps of a mix, in order: both implementations. -/
namespace Go.Lift
open Go
end Go.Lift

/- Enabled: the possible steps. -/
namespace Go.Lift
open Go
end Go.Lift

/- Enabled gives the possible steps. -/
namespace Go.Lift
open Go
end Go.Lift

/- The reference's list of possible steps is the same. -/
namespace Go.Lift
open Go
end Go.Lift

/- Breadth-first search in plain Lean: the ways that it finds are the least ones, by length and then by the ranks of their steps. No condition. -/
namespace Go.Lift
namespace Bfs
section
variable {α σ : Type}
def code (rk : σ → Nat) (K : Nat) (w : List σ) : Nat := w.foldl (fun c s => c * K + rk s) 0
def Uj (rk : σ → Nat) (K : Nat) (w : List σ) : Prop := ∀ s, s ∈ w → 1 ≤ rk s ∧ rk s ≤ K
theorem Uj.snoc {rk : σ → Nat} {K : Nat} {w : List σ} {s : σ} (h : Uj rk K w) (hs : 1 ≤ rk s ∧ rk s ≤ K) : Uj rk K (w ++ [s]) := by
 intro x hx; rcases List.mem_append.1 hx with h1 | h1
 ·exact h x h1
 ·rw [List.mem_singleton.1 h1]; exact hs
abbrev Nd (α σ : Type) := α × Int × σ
def put [DecidableEq α] (i : Nat) (l : List (Nd α σ)) (q : σ × α) : List (Nd α σ) := if (l.any fun n => decide (n.1 = q.2)) = true then l else l ++ [(q.2, (i : Int), q.1)]
def Qy [DecidableEq α] (most i : Nat) : List (σ × α) → List (Nd α σ) → Option (List (Nd α σ))
 | [], l => some l
 | q :: qs, l => if most < (put i l q).length then none else Qy most i qs (put i l q)
def go [DecidableEq α] (nxt : α → List (σ × α)) (most : Nat) : Nat → Nat → List (Nd α σ) → Option (List (Nd α σ))
 | 0, _, _ => none
 | n + 1, i, l => match l[i]? with
  | none => some l
  | some nd => (Qy most i (nxt nd.1) l).bind fun l' => go nxt most n (i + 1) l'
def run (nxt : α → List (σ × α)) (x : α) : List σ → α → Prop
 | [], y => y = x
 | s :: w, y => ∃ z, (s, z) ∈ nxt x ∧ run nxt z w y
theorem Hy {nxt : α → List (σ × α)} : ∀ {u w : List σ} {x y : α}, run nxt x (u ++ w) y ↔ ∃ z, run nxt x u z ∧ run nxt z w y
 | [], w, x, y => by simp [run]
 | s :: u, w, x, y => by
  simp only [List.cons_append, run]
  constructor
  ·rintro ⟨z, h1, h2⟩
   obtain ⟨z', h3, h4⟩ := Hy.1 h2
   exact ⟨z', ⟨z, h1, h3⟩, h4⟩
  ·rintro ⟨z', ⟨z, h1, h3⟩, h4⟩
   exact ⟨z, h1, Hy.2 ⟨z', h3, h4⟩⟩
end
end Bfs
end Go.Lift

/- The region of a mix: the reference's list of nodes is the breadth-first search. -/
namespace Go.Lift
open Go
theorem NA : ∀ {l : List Int}, Sx l = 0 → ∀ x, x ∈ l → x = 0
 | [], _, x, hx => by cases hx
 | y :: ys, h, x, hx => by
  unfold Sx at h
  split at h
  ·rename_i hy
   rcases List.mem_cons.1 hx with rfl | hx
   ·exact hy
   ·exact NA h x hx
  ·rename_i hy; exact absurd h hy
theorem Pf {a b : Ae} (h : Ps a b = 0) : a = b := by
 have := NA h
 have h1 := K0 _ _ (this (Hd a.fBase b.fBase) (by simp))
 have h2 := K0 _ _ (this (Hd a.fNext b.fNext) (by simp))
 have h3 := K0 _ _ (this (Hd a.fHeld b.fHeld) (by simp))
 cases a; cases b; simp only at h1 h2 h3; subst h1; subst h2; subst h3; rfl
instance U2 : DecidableEq Ae := fun a b => if h : Ps a b = 0 then isTrue (Pf h) else isFalse (fun e => h (by rw [e]; exact Mr b))
end Go.Lift

/- The region of a mix: the reference's whole list. -/
namespace Go.Lift
open Go
end Go.Lift

/- The region of a mix: the program's list of nodes is the same. -/
namespace Go.Lift
open Go
end Go.Lift

/- Ways to goals: From and Find, both implementations. -/
namespace Go.Lift
open Go
end Go.Lift

/- The laws PlanFind, PlanFrom, PlanShortest. -/
namespace Go.Lift
open Go
end Go.Lift

/- The law PlanRest. -/
namespace Go.Lift
open Go
end Go.Lift

/- The blocks of mixes, both implementations. -/
namespace Go.Lift
open Go
end Go.Lift

/- The nearest mix, both implementations. -/
namespace Go.Lift
open Go
end Go.Lift

/- Runs, plays and walks, both implementations. -/
namespace Go.Lift
open Go
theorem MN : DK 1000 = some true := by kernel_rfl
def IH (p : Ah) : Nat → Ae → List Ae → List Ap → List Ae × Int × Int
 | i, _, acc, [] => (acc, (i : Int), 0)
 | i, m, acc, s :: ss => if (Fh p m s).2 ≠ 0 then ([], (i : Int), (Fh p m s).2) else IH p (i + 1) (Fh p m s).1 (acc ++ [(Fh p m s).1]) ss
theorem NE (N : Nat) (hN : N ≤ 1000000) (h20 : 100 ≤ N) {p : Ah} (hv : CT p = 0) (l : List Ap) (hl : l.length ≤ 1000) : ∀ (n i : Nat) (m : Ae) (acc : List Ae), i ≤ l.length → l.length - i < n → E8 p m → acc.length = i + 1 → acc[i]? = some m →
  EA N p l (fun v5 => some (v5, (l.length : Int), 0)) n (acc, (i : Int)) = some (IH p i m acc (l.drop i)) ∧
  CY N p l (fun v5 => some (v5, (l.length : Int), 0)) n (acc, (i : Int)) = some (IH p i m acc (l.drop i))
 | 0, i, _, _, _, h, _, _, _ => by omega
 | n + 1, i, m, acc, hi, h, hm, ha, hg => by
  obtain ⟨hp, _⟩ := EJ hv
  rw [EA, CY]
  by_cases h1 : i < l.length
  ·have hx : l[i]? = some l[i] := by simp [h1]
   rw [A7 (by first | omega | (simp only; omega)), A7 (by omega), Hi hx, IH]
   simp only [Cj, hx, hg, Option.bind_some]
   rw [L5 N hN h20 hp hm, Nb N hN h20 (Qv hm), Ob hv hm, if_pos rfl]
   simp only [Option.bind_some]
   by_cases h2 : (Fh p m l[i]).2 = 0
   ·rw [h2, if_neg (by simp), bne_self_eq_false, Ay, Ay, AX (by simp [Er]; omega), AX (by simp [Er]; omega), BY (by omega)]
    exact NE N hN h20 hv l hl n (i + 1) (Fh p m l[i]).1 (acc ++ [(Fh p m l[i]).1]) (by omega) (by omega) (Mh hp hm h2) (by simp [ha]) (by rw [← ha]; simp)
   ·rw [if_pos h2, bne_iff_ne.2 h2, AQ, AQ]; exact ⟨rfl, rfl⟩
  ·rw [A0 (by first | omega | (simp only; omega)), A0 (by omega), List.drop_eq_nil_of_le (by omega), IH, show i = l.length by omega]
   exact ⟨rfl, rfl⟩
theorem JP (N : Nat) (hN : N ≤ 1000000) (h20 : 100 ≤ N) {p : Ah} {m : Ae} (hv : CT p = 0) (hm : E8 p m) (l : List Ap) (hl : l.length ≤ 60) :
  GY N p m l = some (IH p 0 m [m] l) ∧ D2 N p m l = some (IH p 0 m [m] l) := by
 obtain ⟨hp, _⟩ := EJ hv
 unfold GY D2
 rw [MT N p m hN (by omega) (Qv hm), JS N p m hN (by omega), Ob hv hm]
 simp only [Option.bind_some, bne_self_eq_false, Ay]
 rw [Mg N hp hm]
 exact NE N hN h20 hv l (by omega) N 0 m [m] (Nat.zero_le _) (by omega) hm rfl rfl
theorem ON {p : Ah} (hp : DJ p) : ∀ (ss : List Ap) (i : Nat) (m : Ae) (acc : List Ae), E8 p m → (∀ x, x ∈ acc → E8 p x) → acc.length = i + 1 →
  (IH p i m acc ss).2.2 ≠ 0 ∨ ((IH p i m acc ss).2.2 = 0 ∧ (IH p i m acc ss).2.1 = ((i + ss.length : Nat) : Int) ∧ (IH p i m acc ss).1.length = i + ss.length + 1 ∧ ∀ x, x ∈ (IH p i m acc ss).1 → E8 p x)
 | [], i, m, acc, hm, ha, hl => .inr ⟨rfl, rfl, by simpa [IH] using hl, ha⟩
 | s :: ss, i, m, acc, hm, ha, hl => by
  rw [IH]
  by_cases h : (Fh p m s).2 = 0
  ·rw [if_neg (by simp [h])]
   have hk := Mh hp hm h
   have := ON hp ss (i + 1) _ (acc ++ [(Fh p m s).1]) hk (fun x hx => by
    rcases List.mem_append.1 hx with hx | hx
    ·exact ha x hx
    ·rw [List.mem_singleton.1 hx]; exact hk) (by simp [hl])
   rw [show i + (s :: ss).length = i + 1 + ss.length from by simp; omega]
   exact this
  ·rw [if_pos h]; exact .inl h
def Lu (p : Ah) (l : List Ap) : Ae × Int × Int :=
 let r := IH p 0 (Fe p) [Fe p] l
 if r.2.2 ≠ 0 then (Gw, r.2.1, r.2.2) else (r.1.getD r.2.1.toNat Gw, r.2.1, 0)
theorem Nc (N : Nat) (hN : N ≤ 1000000) (h20 : 100 ≤ N) {p : Ah} (hv : CT p = 0) (l : List Ap) (hl : l.length ≤ 60) : EN N p l = some (IH p 0 (Fe p) [Fe p] l) := by
 unfold EN
 rw [Nh N p hN h20, if_pos hv, hv]
 simp only [Option.bind_some, bne_self_eq_false, Ay]
 rw [(JP N hN h20 hv (NP hv) l hl).1]; rfl
theorem Q5 (N : Nat) (hN : N ≤ 1000000) (h20 : 100 ≤ N) {p : Ah} (hv : CT p = 0) (l : List Ap) (hl : l.length ≤ 60) : EX N p l = some (Lu p l) ∧ Dr N p l = some (Lu p l) ∧ (Lu p l).1 = Gw ∨ (EX N p l = some (Lu p l) ∧ Dr N p l = some (Lu p l) ∧ E8 p (Lu p l).1) := by
 obtain ⟨hp, _⟩ := EJ hv
 have hs := NP hv
 unfold EX Dr Lu
 rw [Nc N hN h20 hv l hl, MX N p hN h20, if_pos hv, hv]
 simp only [Option.bind_some, bne_self_eq_false, Ay]
 rw [(JP N hN h20 hv hs l hl).2]
 simp only [Option.bind_some]
 have hR := ON hp l 0 (Fe p) [Fe p] hs (fun x hx => by rw [List.mem_singleton.1 hx]; exact hs) rfl
 generalize IH p 0 (Fe p) [Fe p] l = r at hR ⊢
 by_cases h : r.2.2 = 0
 ·right
  obtain ⟨_, h1, h2, h3⟩ := hR.resolve_left (by simp [h])
  rw [h, bne_self_eq_false, Ay, if_neg (by simp), h1]
  have hi : l.length < r.1.length := by omega
  have hx : r.1[0 + l.length]? = some r.1[0 + l.length] := by simp [h2]
  rw [Cj, hx, Int.toNat_natCast, List.getD_eq_getElem?_getD, hx]
  exact ⟨rfl, rfl, h3 _ (List.mem_of_getElem? hx)⟩
 ·left
  rw [bne_iff_ne.2 h, AQ, if_pos h]
  exact ⟨rfl, rfl, rfl⟩
theorem KX (d : Ch) (l : List Ap) (wd : E5 d) (wl : LT J6 l) : C1 1000 d l = some true := by
 obtain ⟨p, ok, e, hok⟩ := Ue 1000 d (by omega) (by omega) wd
 unfold C1
 rw [e]
 simp only [Option.bind_some, DD, MN, Bool.not_true, Ay]
 cases ok
 ·rfl
 simp only [Bool.not_true, Ay]
 by_cases h6 : (12 : Int) < (l.length : Int)
 ·rw [decide_eq_true h6, AQ]
 rw [decide_eq_false h6, Ay]
 have hv := (hok rfl).valid
 obtain ⟨hp, _⟩ := EJ hv
 rw [On 1000 l (by simp [Er]; omega)]
 simp only [Option.bind_some]
 rcases Q5 1000 (by omega) (by omega) hv l (by omega) with ⟨a1, a2, a3⟩ | ⟨a1, a2, a3⟩
 ·rw [a1, a2]
  simp only [Option.bind_some, beq_self_eq_true, AQ]
  rw [a3]; rfl
 ·rw [a1, a2]
  simp only [Option.bind_some, beq_self_eq_true, AQ]
  rw [Pr (by omega) (by omega) hp a3]; rfl
end Go.Lift

