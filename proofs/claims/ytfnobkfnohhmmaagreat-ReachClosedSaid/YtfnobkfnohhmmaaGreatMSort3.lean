/- Lemmas for ReachClosedSaid, which YtfnobkfnohhmmaaGreatFinZ6 proves. -/
import Derived.Test.YtfnobkfnohhmmaaGreatDec
import Derived.KernelRfl
import Derived.Sort.AssemblyPlain
namespace Go.Lift
open IntKind renaming wrap → wI
open Option renaming bind_some → oS
open List renaming getElem?_eq_some_iff → lI
theorem A5 {α : Type} (xs : List α) (i : Nat) : A9 xs (i : Int) = xs[i]? := by
 unfold A9; simp
theorem CR {n : Int} (h0 : -9223372036854775808 ≤ n) (h1 : n ≤ 9223372036854775807) : wI .i64 n = n := by
 simp [wI, IntKind.signed, IntKind.bits]; omega
theorem AR {i : Nat} (h : i < 1000000) : wI .i64 ((i : Int) + 1) = ((i + 1 : Nat) : Int) := by
 rw [CR (by omega) (by omega)]; simp
@[simp] theorem AN {α : Type} {a b : Option α} : AV true a b = a := rfl
@[simp] theorem As {α : Type} {a b : Option α} : AV false a b = b := rfl
theorem AC {α : Type} {p : Prop} [Decidable p] {a b : Option α} (h : p) : AV (decide p) a b = a := by simp [h]
theorem Az {α : Type} {p : Prop} [Decidable p] {a b : Option α} (h : ¬ p) : AV (decide p) a b = b := by simp [h]
def Xm (a b : Int) : Int := if a < b then -1 else if b < a then 1 else 0
def Ex : List Int → List Int → Int
 | [], [] => 0
 | [], _ :: _ => -1
 | _ :: _, [] => 1
 | a :: as1, b :: bs => if a < b then -1 else if b < a then 1 else Ex as1 bs
theorem Ve (N : Nat) (a b : Int) : ES N a b = some (Xm a b) := by
 unfold ES Fm Xm
 by_cases h1 : a < b <;> by_cases h2 : b < a <;> simp [h1, h2]
theorem VJ (N : Nat) (a b : Int) : DR N a b = some (Xm a b) := by
 unfold DR Et Xm
 by_cases h1 : a < b <;> by_cases h2 : b < a <;> simp [h1, h2]
theorem CP {α : Type} {xs : List α} {i : Nat} {x : α} (h : xs[i]? = some x) : xs.drop i = x :: xs.drop (i + 1) := by
 obtain ⟨hi, rfl⟩ := lI.1 h
 exact List.drop_eq_getElem_cons hi
theorem QD (N : Nat) (a b : List Int) (hb : a.length < 1000000) : ∀ (n i : Nat), i ≤ a.length → i ≤ b.length → a.length - i < n →
  Cg N a b (fun _ => AV (decide ((a.length : Int) < (b.length : Int))) (some (-1)) (some 0)) n (i : Int) = some (Ex (a.drop i) (b.drop i))
 | 0, i, _, _, h => by omega
 | n + 1, i, hi, hj, h => by
  unfold Cg
  by_cases h1 : i < a.length
  ·rw [AC (by omega), A5]
   have ha : a[i]? = some a[i] := by simp [h1]
   rw [ha, CP ha]
   simp only [oS]
   by_cases h2 : i < b.length
   ·rw [Az (by omega), A5]
    have hbb : b[i]? = some b[i] := by simp [h2]
    rw [hbb, CP hbb]
    simp only [oS, Ve, Ex, Xm]
    rw [AR (by omega), QD N a b hb n (i + 1) (by omega) (by omega) (by omega)]
    by_cases h3 : a[i] < b[i]
    ·simp [h3]
    ·by_cases h4 : b[i] < a[i]
     ·simp [h3, h4]
     ·simp [h3, h4]
   ·rw [AC (by omega), List.drop_eq_nil_of_le (by omega : b.length ≤ i)]
    simp [Ex]
  ·rw [Az (by omega), List.drop_eq_nil_of_le (by omega : a.length ≤ i)]
   by_cases h2 : a.length < b.length
   ·rw [AC (by omega)]
    have hbb : b[i]? = some b[i] := by simp [show i < b.length from by omega]
    rw [CP hbb]; simp [Ex]
   ·rw [Az (by omega), List.drop_eq_nil_of_le (by omega : b.length ≤ i)]
    simp [Ex]
theorem OZ (N : Nat) (a b : List Int) (hb : a.length < 1000000) : ∀ (n i : Nat), i ≤ a.length → i ≤ b.length → a.length - i < n →
  Bv N a b (fun _ => AV (decide ((a.length : Int) < (b.length : Int))) (some (-1)) (some 0)) n (i : Int) = some (Ex (a.drop i) (b.drop i))
 | 0, i, _, _, h => by omega
 | n + 1, i, hi, hj, h => by
  unfold Bv
  by_cases h1 : i < a.length
  ·rw [AC (by omega), A5]
   have ha : a[i]? = some a[i] := by simp [h1]
   rw [ha, CP ha]
   simp only [oS]
   by_cases h2 : i < b.length
   ·rw [Az (by omega), A5]
    have hbb : b[i]? = some b[i] := by simp [h2]
    rw [hbb, CP hbb]
    simp only [oS, VJ, Ex, Xm]
    rw [AR (by omega), OZ N a b hb n (i + 1) (by omega) (by omega) (by omega)]
    by_cases h3 : a[i] < b[i]
    ·simp [h3]
    ·by_cases h4 : b[i] < a[i]
     ·simp [h3, h4]
     ·simp [h3, h4]
   ·rw [AC (by omega), List.drop_eq_nil_of_le (by omega : b.length ≤ i)]
    simp [Ex]
  ·rw [Az (by omega), List.drop_eq_nil_of_le (by omega : a.length ≤ i)]
   by_cases h2 : a.length < b.length
   ·rw [AC (by omega)]
    have hbb : b[i]? = some b[i] := by simp [show i < b.length from by omega]
    rw [CP hbb]; simp [Ex]
   ·rw [Az (by omega), List.drop_eq_nil_of_le (by omega : b.length ≤ i)]
    simp [Ex]
theorem Sd (N : Nat) (a b : List Int) (hb : a.length < 1000000) : ∀ (n i : Nat), i ≤ a.length → i ≤ b.length → a.length - i < n →
  C8 N a b (fun _ => AV (decide ((a.length : Int) < (b.length : Int))) (some (-1)) (AV (decide ((b.length : Int) < (a.length : Int))) (some 1) (some 0))) n (i : Int) = some (Ex (a.drop i) (b.drop i))
 | 0, i, _, _, h => by omega
 | n + 1, i, hi, hj, h => by
  unfold C8
  simp only [Bb]
  by_cases h1 : i < a.length
  ·rw [AC (p := (i : Int) < (a.length : Int)) (by omega)]
   have ha : a[i]? = some a[i] := by simp [h1]
   rw [CP ha]
   by_cases h2 : i < b.length
   ·have hbb : b[i]? = some b[i] := by simp [h2]
    rw [show decide ((i : Int) < (b.length : Int)) = true from decide_eq_true (by omega), AN, A5, A5, ha, hbb, CP hbb]
    simp only [oS, Ex]
    rw [AR (by omega), Sd N a b hb n (i + 1) (by omega) (by omega) (by omega)]
    by_cases h3 : a[i] < b[i]
    ·simp [h3]
    ·by_cases h4 : b[i] < a[i]
     ·simp [h3, h4]
     ·simp [h3, h4]
   ·rw [show decide ((i : Int) < (b.length : Int)) = false from decide_eq_false (by omega), As, Az (by omega), AC (by omega), List.drop_eq_nil_of_le (by omega : b.length ≤ i)]
    simp [Ex]
  ·rw [Az (p := (i : Int) < (a.length : Int)) (by omega), As, List.drop_eq_nil_of_le (by omega : a.length ≤ i)]
   by_cases h2 : a.length < b.length
   ·rw [AC (by omega)]
    have hbb : b[i]? = some b[i] := by simp [show i < b.length from by omega]
    rw [CP hbb]; simp [Ex]
   ·rw [Az (by omega), Az (by omega), List.drop_eq_nil_of_le (by omega : b.length ≤ i)]
    simp [Ex]
theorem Nn {N : Nat} {a b : List Int} (h : a.length < N) (hN : N ≤ 1000000) : CI N a b = some (Ex a b) := by
 have := QD N a b (by omega) N 0 (by omega) (by omega) (by omega)
 simpa [CI] using this
theorem Rb {N : Nat} {a b : List Int} (h : a.length < N) (hN : N ≤ 1000000) : Cd N a b = some (Ex a b) := by
 have := OZ N a b (by omega) N 0 (by omega) (by omega) (by omega)
 simpa [Cd] using this
theorem M6 {N : Nat} {a b : List Int} (h : a.length < N) (hN : N ≤ 1000000) : Dj N a b = some (Ex a b) := by
 have := Sd N a b (by omega) N 0 (by omega) (by omega) (by omega)
 simpa [Dj] using this
theorem OX : ∀ a : List Int, Ex a a = 0
 | [] => rfl
 | a :: as1 => by simp [Ex, OX as1]
theorem MT : ∀ a b : List Int, Ex a b = 0 → a = b
 | [], [], _ => rfl
 | [], _ :: _, h => by simp [Ex] at h
 | _ :: _, [], h => by simp [Ex] at h
 | a :: as1, b :: bs, h => by
  unfold Ex at h
  split at h
  ·omega
  ·split at h
   ·omega
   ·rw [MT as1 bs h, show a = b from by omega]
theorem Ja : ∀ a b : List Int, Ex b a = - Ex a b
 | [], [] => rfl
 | [], _ :: _ => rfl
 | _ :: _, [] => rfl
 | a :: as1, b :: bs => by
  have := Ja as1 bs
  unfold Ex
  by_cases h1 : a < b
  ·simp [h1, show ¬ b < a from by omega]
  ·by_cases h2 : b < a
   ·simp [h1, h2]
   ·simp [h1, h2, this]
theorem R2 : ∀ a b c : List Int, Ex a b ≤ 0 → Ex b c ≤ 0 → Ex a c ≤ 0
 | [], _, [], _, _ => by simp [Ex]
 | [], _, _ :: _, _, _ => by simp [Ex]
 | _ :: _, [], _, h, _ => by simp [Ex] at h
 | _ :: _, _ :: _, [], _, h => by simp [Ex] at h
 | a :: as1, b :: bs, c :: cs, h1, h2 => by
  have ih := R2 as1 bs cs
  unfold Ex at h1 h2 ⊢
  split at h1 <;> split at h2 <;> (try split at h1) <;> (try split at h2) <;> split <;> (try split) <;> omega
def Re : List Int → Int
 | [] => 0
 | x :: xs => if x = 0 then Re xs else x
theorem ZJ (N : Nat) (a : List Int) (hb : a.length < 1000000) : ∀ (n i : Nat), i ≤ a.length → a.length - i < n →
  EI N a (fun _ => some 0) n (i : Int) = some (Re (a.drop i))
 | 0, i, _, h => by omega
 | n + 1, i, hi, h => by
  unfold EI
  by_cases h1 : i < a.length
  ·have ha : a[i]? = some a[i] := by simp [h1]
   rw [AC (by omega), A5, ha, CP ha]
   simp only [oS, Re]
   rw [AR (by omega), ZJ N a hb n (i + 1) (by omega) (by omega)]
   by_cases h3 : a[i] = 0
   ·simp [h3]
   ·have : (a[i] != 0) = true := by simpa using h3
    simp [h3, this]
  ·rw [Az (by omega), List.drop_eq_nil_of_le (by omega : a.length ≤ i)]
   simp [Re]
theorem WG {N : Nat} {a : List Int} (h : a.length < N) (hN : N ≤ 1000000) : Gy N a = some (Re a) := by
 have := ZJ N a (by omega) N 0 (by omega) (by omega)
 simpa [Gy] using this
theorem Yr (N : Nat) (a : List Int) (hb : a.length < 1000000) (hw : Oa KR a) : ∀ (n i : Nat), i ≤ a.length → a.length - i < n →
  CH N a (fun v => some v) n (a.take i, (i : Int)) = some a
 | 0, i, _, h => by omega
 | n + 1, i, hi, h => by
  unfold CH
  by_cases h1 : i < a.length
  ·have ha : a[i]? = some a[i] := by simp [h1]
   rw [AC (by simpa using h1)]
   simp only
   rw [A5, ha]
   have hr : wI .i64 a[i] = a[i] := by
    have := hw a[i] (List.getElem_mem h1)
    unfold KR at this
    have h2 : 0 ≤ a[i] ∧ a[i] ≤ 255 := by simpa [Lit.wf, IntKind.min, IntKind.max, IntKind.signed, IntKind.bits] using this
    exact CR (by omega) (by omega)
   simp only [oS, hr]
   have hlen : (a.take i).length + ([a[i]] : List Int).length ≤ Du := by
    simp [Du]; omega
   rw [show DT ((a.take i).length + ([a[i]] : List Int).length ≤ Du) = some () from by unfold DT; rw [if_pos hlen]]
   simp only [oS]
   rw [AR (by omega), show a.take i ++ [a[i]] = a.take (i + 1) from by rw [List.take_add_one, ha]; rfl]
   exact Yr N a hb hw n (i + 1) (by omega) (by omega)
  ·rw [Az (by simpa using h1)]
   simp only
   rw [List.take_of_length_le (by omega)]
theorem Mn {N : Nat} {a : List Int} (h : a.length < N) (hN : N ≤ 1000000) (hw : Oa KR a) : Db N a = some a := by
 have := Yr N a (by omega) hw N 0 (by omega) (by omega)
 simpa [Db] using this
def ZI (a : Ae) : Prop := a.fBase.length ≤ 8 ∧ a.fNext.length ≤ 8 ∧ a.fHeld.length ≤ 14
def Hm (a b : Ae) : Int := Re [Ex a.fBase b.fBase, Ex a.fNext b.fNext, Ex a.fHeld b.fHeld]
theorem SF (a b : Ae) : Hm b a = - Hm a b := by
 unfold Hm
 rw [Ja a.fBase b.fBase, Ja a.fNext b.fNext, Ja a.fHeld b.fHeld]
 simp only [Re, Int.neg_eq_zero]
 split
 ·split
  ·split <;> simp_all
  ·rfl
 ·rfl
theorem OY (a : Ae) : Hm a a = 0 := by unfold Hm; simp [OX, Re]
def D1 {α R : Type} (f : Nat → α → Option R) : Nat → List α → Option R
 | _, [] => none
 | i, x :: xs => match f i x with
  | some r => some r
  | none => D1 f (i + 1) xs
theorem GX {α R : Type} (f : Nat → α → Option R) (i : Nat) (x : α) (xs : List α) : D1 f i (x :: xs) = match f i x with
  | some r => some r
  | none => D1 f (i + 1) xs := rfl
def BR {R : Type} (a : Option R) (b : Option R) : Option R := match a with
 | some r => some r
 | none => b
theorem DE {α R : Type} (L : Nat → Int → Option R) (xs : List α) (j : Option R) (f : Nat → α → Option R)
  (hs : ∀ (n i : Nat) (x : α), xs[i]? = some x → L (n + 1) (i : Int) = BR (f i x) (L n ((i + 1 : Nat) : Int))) (he : ∀ n : Nat, L (n + 1) (xs.length : Int) = j) :
  ∀ n i : Nat, i ≤ xs.length → xs.length - i < n → L n (i : Int) = BR (D1 f i (xs.drop i)) j
 | 0, i, _, h => by omega
 | n + 1, i, hi, h => by
  by_cases h1 : i < xs.length
  ·have hx : xs[i]? = some xs[i] := by simp [h1]
   rw [hs n i _ hx, CP hx, DE L xs j f hs he n (i + 1) (by omega) (by omega)]
   rw [GX]
   cases f i xs[i] <;> rfl
  ·have : i = xs.length := by omega
   subst this
   rw [he n, List.drop_eq_nil_of_le (Nat.le_refl _)]
   rfl
theorem OP (N : Nat) (k n : Int) : D8 N k n = some (decide (0 ≤ k) && decide (k < n)) := by
 unfold D8
 simp only [Bb]
 by_cases h : 0 ≤ k
 ·rw [AC h]; simp [h]
 ·rw [Az h]; simp [h]
theorem LO (N : Nat) (t : AI) : Ba N t = some (t.fKind == 3 || t.fKind == 4) := by
 unfold Ba
 simp only [Bb]
 cases h : t.fKind == 3 <;> simp
def sq (l : List (List Bool)) (n m : Int) : Bool := decide ((l.length : Int) = n) && l.all fun r => decide ((r.length : Int) = m)
theorem NW {α : Type} (p : α → Bool) {R : Type} (r : Nat → R) : ∀ (i : Nat) (xs : List α), (D1 (fun i x => if p x then none else some (r i)) i xs).isNone = xs.all p
 | i, [] => rfl
 | i, x :: xs => by
  unfold D1
  cases h : p x <;> simp [h, NW p r (i + 1) xs]
theorem O2 (N : Nat) (l : List (List Bool)) (n m : Int) (h : n < (N : Int)) (hN : N ≤ 1000000) : Do N l n m = some (sq l n m) := by
 unfold Do sq
 by_cases h1 : (l.length : Int) = n
 ·subst h1
  simp only [bne_self_eq_false, As, decide_true, Bool.true_and]
  have := DE (Cq N l (l.length : Int) m (fun _ => some true)) l (some true) (fun _ r => if decide ((r.length : Int) = m) then none else some false)
   (fun n i x hx => by
    have hi := (lI.1 hx).1
    rw [Cq, AC (by omega), A5, hx]
    simp only [oS]
    rw [AR (by omega)]
    by_cases h2 : (x.length : Int) = m
    ·simp [h2, BR]
    ·have : ((x.length : Int) != m) = true := by simpa using h2
     simp [h2, this, BR])
   (fun n => by rw [Cq, Az (by omega)]) N 0 (by omega) (by omega)
  simp only [Int.ofNat_zero, List.drop_zero] at this
  rw [this]
  have h3 := NW (fun r : List Bool => decide ((r.length : Int) = m)) (fun _ => false) 0 l
  cases hsc : D1 (fun (_ : Nat) (r : List Bool) => if decide ((r.length : Int) = m) = true then none else some false) 0 l with
  | none => rw [hsc] at h3; rw [← h3]; rfl
  | some b =>
   rw [hsc] at h3
   rw [← h3]
   have : ∀ (i : Nat) (xs : List (List Bool)) b, D1 (fun (_ : Nat) (r : List Bool) => if decide ((r.length : Int) = m) = true then none else some false) i xs = some b → b = false := by
    intro i xs
    induction xs generalizing i with
    | nil => intro b hb; cases hb
    | cons x xs ih =>
     intro b hb
     unfold D1 at hb
     split at hb
     ·rename_i r hr; cases hb; split at hr <;> simp at hr; exact hr
     ·exact ih _ b hb
   rw [this 0 l b hsc]; rfl
 ·have : ((l.length : Int) != n) = true := by simpa using h1
  simp [this, h1]
theorem OO (N : Nat) (l : List (List Bool)) (n m : Int) (h : n < (N : Int)) (hN : N ≤ 1000000) : EZ N l n m = some (sq l n m) := by
 unfold EZ sq
 simp only [Bb]
 by_cases h1 : (l.length : Int) = n
 ·subst h1
  simp only [beq_self_eq_true, AN, decide_true, Bool.true_and]
  have := DE (Bu N l (fun x => DP N x m) (fun _ => some (-1))) l (some (-1)) (fun i r => if decide ((r.length : Int) = m) then none else some (i : Int))
   (fun n i x hx => by
    have hi := (lI.1 hx).1
    rw [Bu, AC (by omega), A5, hx]
    simp only [oS, DP]
    rw [AR (by omega)]
    by_cases h2 : (x.length : Int) = m
    ·simp [h2, BR]
    ·have : ((x.length : Int) != m) = true := by simpa using h2
     simp [h2, this, BR])
   (fun n => by rw [Bu, Az (by omega)]) N 0 (by omega) (by omega)
  simp only [Int.ofNat_zero, List.drop_zero] at this
  unfold CS Dm
  rw [this]
  have h3 := NW (fun r : List Bool => decide ((r.length : Int) = m)) (fun i : Nat => (i : Int)) 0 l
  cases hsc : D1 (fun (i : Nat) (r : List Bool) => if decide ((r.length : Int) = m) = true then none else some (i : Int)) 0 l with
  | none => rw [hsc] at h3; rw [← h3]; rfl
  | some b =>
   rw [hsc] at h3
   rw [← h3]
   have : ∀ (i : Nat) (xs : List (List Bool)) b, D1 (fun (i : Nat) (r : List Bool) => if decide ((r.length : Int) = m) = true then none else some (i : Int)) i xs = some b → 0 ≤ b := by
    intro i xs
    induction xs generalizing i with
    | nil => intro b hb; cases hb
    | cons x xs ih =>
     intro b hb
     rw [GX] at hb
     split at hb
     ·rename_i r hr
      cases hb
      split at hr
      ·cases hr
      ·cases hr; omega
     ·exact ih _ b hb
   have := this 0 l b hsc
   simp [BR, this]
 ·have : ((l.length : Int) == n) = false := by simpa using h1
  simp [this, h1]
open List renaming mem_of_getElem? → lM
open List renaming getD_eq_getElem?_getD → lD
def Id (l : List (List Bool)) : Option Int := D1 (fun i row => if row.getD i false then none else some 1) 0 l
theorem QJ {row : List Bool} {i : Nat} (h : i < row.length) : A9 row (i : Int) = some (row.getD i false) := by
 rw [A5, lD]; simp [h]
theorem UW (N : Nat) (t : AI) (h : t.fRewrite.length < N) (hN : N ≤ 1000000) (hsq : ∀ row, row ∈ t.fRewrite → row.length = t.fRewrite.length) (j : Option Int) :
  BU N t (fun _ => j) N 0 = BR (Id t.fRewrite) j := by
 have := DE (BU N t (fun _ => j)) t.fRewrite j (fun i row => if row.getD i false then none else some 1)
  (fun n i x hx => by
   have hi := (lI.1 hx).1
   have hl := hsq x (lM hx)
   rw [BU, AC (by omega), A5, hx]
   simp only [oS]
   rw [QJ (by omega), AR (by omega)]
   simp only [oS]
   cases x.getD i false <;> rfl)
  (fun n => by rw [BU, Az (by omega)]) N 0 (by omega) (by omega)
 simpa [Id] using this
theorem OD (N : Nat) (t : AI) (h : t.fRewrite.length < N) (hN : N ≤ 1000000) (hsq : ∀ row, row ∈ t.fRewrite → row.length = t.fRewrite.length) (j : Option Int) :
  C2 N t (fun _ => j) N 0 = BR (Id t.fRewrite) j := by
 have := DE (C2 N t (fun _ => j)) t.fRewrite j (fun i row => if row.getD i false then none else some 1)
  (fun n i x hx => by
   have hi := (lI.1 hx).1
   have hl := hsq x (lM hx)
   rw [C2, AC (by omega), A5, hx]
   simp only [oS]
   rw [QJ (by omega), AR (by omega)]
   simp only [oS]
   cases x.getD i false <;> rfl)
  (fun n => by rw [C2, Az (by omega)]) N 0 (by omega) (by omega)
 simpa [Id] using this
theorem MJ {l : List (List Bool)} {n m : Int} (h : sq l n m = true) : (l.length : Int) = n ∧ ∀ row, row ∈ l → (row.length : Int) = m := by
 unfold sq at h
 simp only [Bool.and_eq_true, decide_eq_true_eq, List.all_eq_true] at h
 exact h
def D9 (p : Ag) (t : AI) : Int :=
 if t.fKind < 1 ∨ 4 < t.fKind ∨ (t.fAware = true ∧ (t.fKind = 3 ∨ t.fKind = 4)) then 1
 else if t.fFrom < 0 ∨ (p.fVersions.length : Int) ≤ t.fFrom ∨ t.fTo < 0 ∨ (p.fVersions.length : Int) ≤ t.fTo then 4
 else
  let f := p.fVersions.getD t.fFrom.toNat 0
  let g := p.fVersions.getD t.fTo.toNat 0
  if sq t.fOK f g = false then 6
  else if t.fKind = 4 then (if sq t.fRewrite f f = false then 6 else (Id t.fRewrite).getD 0)
  else if t.fRewrite.length = 0 then 0 else 6
theorem EH {α : Type} {xs : List α} {i : Int} {d : α} (h0 : 0 ≤ i) (h1 : i < (xs.length : Int)) : A9 xs i = some (xs.getD i.toNat d) := by
 obtain ⟨k, rfl⟩ := Int.eq_ofNat_of_zero_le h0
 rw [A5, lD, Int.toNat_natCast]
 simp [show k < xs.length from by omega]
theorem Ta {t : AI} (A B : Option Int) (hk : ¬ (t.fAware = true ∧ (t.fKind = 3 ∨ t.fKind = 4))) : AV t.fAware (AV (t.fKind == 3 || t.fKind == 4) A B) B = B := by
 cases ha : t.fAware
 ·rfl
 ·have : (t.fKind == 3 || t.fKind == 4) = false := by
   rw [Bool.or_eq_false_iff]
   constructor
   ·simp only [beq_eq_false_iff_ne]; intro h; exact hk ⟨ha, .inl h⟩
   ·simp only [beq_eq_false_iff_ne]; intro h; exact hk ⟨ha, .inr h⟩
  rw [this]; rfl
theorem J8 {p : Ag} {i : Int} (hv : ∀ v, v ∈ p.fVersions → 1 ≤ v ∧ v ≤ 6) (h0 : 0 ≤ i) (h1 : i < (p.fVersions.length : Int)) : 1 ≤ p.fVersions.getD i.toNat 0 ∧ p.fVersions.getD i.toNat 0 ≤ 6 := by
 refine hv _ ?_
 rw [lD, List.getElem?_eq_getElem (by omega)]
 exact List.getElem_mem _
theorem S1 (N : Nat) (p : Ag) (t : AI) (hN : N ≤ 1000000) (h6 : 7 ≤ N) (hv : ∀ v, v ∈ p.fVersions → 1 ≤ v ∧ v ≤ 6) : Ev N p t = some (D9 p t) := by
 unfold Ev D9
 simp only [Bb, LO, oS]
 by_cases k1 : t.fKind < 1
 ·simp [k1]
 by_cases k2 : 4 < t.fKind
 ·simp [k1, k2]
 rw [Az k1, Az k2]
 by_cases hk : t.fAware = true ∧ (t.fKind = 3 ∨ t.fKind = 4)
 ·obtain ⟨ha, k | k⟩ := hk <;> simp [ha, k]
 rw [As, Ta _ _ hk, if_neg (fun h => h.elim k1 fun h => h.elim k2 hk)]
 by_cases f1 : t.fFrom < 0
 ·simp [f1]
 by_cases f2 : (p.fVersions.length : Int) ≤ t.fFrom
 ·simp [f1, f2]
 by_cases f3 : t.fTo < 0
 ·simp [f1, f2, f3]
 by_cases f4 : (p.fVersions.length : Int) ≤ t.fTo
 ·simp [f1, f2, f3, f4]
 rw [Az f1, Az f2, Az f3, if_neg (fun h => h.elim f1 fun h => h.elim f2 fun h => h.elim f3 f4)]
 have hf := J8 hv (i := t.fFrom) (by omega) (by omega)
 rw [decide_eq_false f4, As, EH (d := 0) (by omega : 0 ≤ t.fFrom) (by omega), EH (d := 0) (by omega : 0 ≤ t.fTo) (by omega)]
 simp only [oS]
 generalize p.fVersions.getD t.fFrom.toNat 0 = f at *
 generalize p.fVersions.getD t.fTo.toNat 0 = g at *
 rw [O2 N t.fOK f g (by omega) hN, O2 N t.fRewrite f f (by omega) hN]
 simp only [oS]
 cases hq : sq t.fOK f g
 ·rfl
 simp only [Bool.not_true, As]
 by_cases k4 : t.fKind = 4
 ·have : (t.fKind != 4) = false := by simp [k4]
  rw [this, As]
  simp only [k4, if_true]
  cases hr : sq t.fRewrite f f
  ·rfl
  ·have h7 := MJ hr
   simp only [Bool.not_true, As]
   rw [UW N t (by omega) hN (fun row hm => by have := h7.2 row hm; omega)]
   cases Id t.fRewrite <;> simp [BR]
 ·have : (t.fKind != 4) = true := by simpa using k4
  rw [this, AN]
  simp only [k4, if_false]
  by_cases hr : t.fRewrite.length = 0
  ·simp [hr]
  ·have : ((t.fRewrite.length : Int) != 0) = true := bne_iff_ne.2 (by omega)
   rw [this]; simp [hr]
theorem Vt (N : Nat) (k : Int) (a : Bool) : Gn N k a = some (k == 1 || (k == 2 || ((k == 3 || k == 4) && !a))) := by
 unfold Gn
 simp only [Bb]
 cases h1 : k == 1 <;> cases h2 : k == 2 <;> cases h3 : k == 3 <;> cases h4 : k == 4 <;> cases a <;> rfl
theorem M4 (N : Nat) (p : Ag) (t : AI) (hN : N ≤ 1000000) (h6 : 7 ≤ N) (hv : ∀ v, v ∈ p.fVersions → 1 ≤ v ∧ v ≤ 6) : F2 N p t = some (D9 p t) := by
 unfold F2 D9
 simp only [Bb, Vt, OP, oS]
 by_cases hb : t.fKind < 1 ∨ 4 < t.fKind ∨ (t.fAware = true ∧ (t.fKind = 3 ∨ t.fKind = 4))
 ·have : (t.fKind == 1 || (t.fKind == 2 || ((t.fKind == 3 || t.fKind == 4) && !t.fAware))) = false := by
   rcases hb with h | h | ⟨ha, h | h⟩
   ·rw [beq_eq_false_iff_ne.2 (by omega : t.fKind ≠ 1), beq_eq_false_iff_ne.2 (by omega : t.fKind ≠ 2), beq_eq_false_iff_ne.2 (by omega : t.fKind ≠ 3), beq_eq_false_iff_ne.2 (by omega : t.fKind ≠ 4)]; rfl
   ·rw [beq_eq_false_iff_ne.2 (by omega : t.fKind ≠ 1), beq_eq_false_iff_ne.2 (by omega : t.fKind ≠ 2), beq_eq_false_iff_ne.2 (by omega : t.fKind ≠ 3), beq_eq_false_iff_ne.2 (by omega : t.fKind ≠ 4)]; rfl
   ·simp [ha, h]
   ·simp [ha, h]
  rw [this, if_pos hb]; rfl
 ·have : (t.fKind == 1 || (t.fKind == 2 || ((t.fKind == 3 || t.fKind == 4) && !t.fAware))) = true := by
   have hk : t.fKind = 1 ∨ t.fKind = 2 ∨ t.fKind = 3 ∨ t.fKind = 4 := by
    have h1 : ¬ t.fKind < 1 := fun h => hb (.inl h)
    have h2 : ¬ 4 < t.fKind := fun h => hb (.inr (.inl h))
    omega
   rcases hk with h | h | h | h
   ·simp [h]
   ·simp [h]
   ·cases ha : t.fAware
    ·simp [h]
    ·exact (hb (.inr (.inr ⟨ha, .inl h⟩))).elim
   ·cases ha : t.fAware
    ·simp [h]
    ·exact (hb (.inr (.inr ⟨ha, .inr h⟩))).elim
  rw [this, if_neg hb]
  simp only [Bool.not_true, As]
  by_cases f1 : t.fFrom < 0
  ·simp [f1, show ¬ (0 ≤ t.fFrom) from by omega]
  by_cases f2 : (p.fVersions.length : Int) ≤ t.fFrom
  ·simp [f2, show ¬ (t.fFrom < (p.fVersions.length : Int)) from by omega]
  by_cases f3 : t.fTo < 0
  ·simp [f3, show 0 ≤ t.fFrom from by omega, show t.fFrom < (p.fVersions.length : Int) from by omega, show ¬ (0 ≤ t.fTo) from by omega]
  by_cases f4 : (p.fVersions.length : Int) ≤ t.fTo
  ·simp [f4, show 0 ≤ t.fFrom from by omega, show t.fFrom < (p.fVersions.length : Int) from by omega, show ¬ (t.fTo < (p.fVersions.length : Int)) from by omega]
  rw [if_neg (fun h => h.elim f1 fun h => h.elim f2 fun h => h.elim f3 f4)]
  have hf := J8 hv (i := t.fFrom) (by omega) (by omega)
  have hg := J8 hv (i := t.fTo) (by omega) (by omega)
  rw [decide_eq_true (by omega : 0 ≤ t.fFrom), decide_eq_true (by omega : t.fFrom < (p.fVersions.length : Int)), decide_eq_true (by omega : 0 ≤ t.fTo), decide_eq_true (by omega : t.fTo < (p.fVersions.length : Int)), EH (d := 0) (by omega : 0 ≤ t.fFrom) (by omega), EH (d := 0) (by omega : 0 ≤ t.fTo) (by omega)]
  simp only [Bool.and_self, Bool.not_true, As, oS]
  generalize p.fVersions.getD t.fFrom.toNat 0 = f at *
  generalize p.fVersions.getD t.fTo.toNat 0 = g at *
  rw [OO N t.fOK f g (by omega) hN, OO N t.fRewrite f f (by omega) hN]
  simp only [oS]
  cases hq : sq t.fOK f g
  ·rfl
  simp only [Bool.not_true, As]
  by_cases k4 : t.fKind = 4
  ·simp only [k4, beq_self_eq_true, AN, if_true]
   cases hr : sq t.fRewrite f f
   ·rfl
   ·have h7 := MJ hr
    simp only [Bool.not_true, As]
    rw [OD N t (by omega) hN (fun row hm => by have := h7.2 row hm; omega)]
    cases Id t.fRewrite <;> simp [BR]
  ·have : (t.fKind == 4) = false := beq_eq_false_iff_ne.2 k4
   rw [this, As]
   simp only [k4, if_false, Bool.not_false, AN]
   by_cases hr : t.fRewrite.length = 0
   ·rw [OD N t (by omega) hN (fun row hm => by rw [List.eq_nil_of_length_eq_zero hr] at hm; cases hm), List.eq_nil_of_length_eq_zero hr]
    simp [Id, D1, BR]
   ·rw [decide_eq_true (by omega : 0 < (t.fRewrite.length : Int))]
    simp [hr]
def FP (p : Ag) (i : Nat) (v : Int) : Option Int :=
 if v < 1 ∨ 6 < v ∨ p.fNow.getD i 0 < 0 ∨ v ≤ p.fNow.getD i 0 ∨ p.fTarget.getD i 0 < 0 ∨ v ≤ p.fTarget.getD i 0 then some 7 else none
def K4 (p : Ag) (_ : Nat) (t : AI) : Option Int := if D9 p t = 0 then none else some (D9 p t)
def CF (p : Ag) : Int :=
 if 6 < p.fVersions.length ∨ 12 < p.fTables.length then 3
 else if p.fNow.length ≠ p.fVersions.length ∨ p.fTarget.length ≠ p.fVersions.length then 6
 else ((BR (D1 (FP p) 0 p.fVersions) (D1 (K4 p) 0 p.fTables)).getD 0)
theorem GT {α R : Type} {f : Nat → α → Option R} : ∀ {i : Nat} {xs : List α}, D1 f i xs = none → ∀ j x, xs[j]? = some x → f (i + j) x = none
 | _, [], _, j, x, hx => by simp at hx
 | i, y :: ys, h, j, x, hx => by
  rw [GX] at h
  split at h
  ·cases h
  ·rename_i h0
   cases j with
   | zero => simp at hx; subst hx; exact h0
   | succ j =>
    have := GT h j x (by simpa using hx)
    rwa [show i + 1 + j = i + (j + 1) from by omega] at this
theorem Nq {p : Ag} (h : D1 (FP p) 0 p.fVersions = none) : ∀ v, v ∈ p.fVersions → 1 ≤ v ∧ v ≤ 6 := by
 intro v hv
 obtain ⟨i, hi⟩ := List.mem_iff_getElem?.1 hv
 have := GT h i v hi
 unfold FP at this
 split at this
 ·cases this
 ·rename_i hn
  constructor
  ·exact Int.not_lt.1 fun h => hn (.inl h)
  ·exact Int.not_lt.1 fun h => hn (.inr (.inl h))
theorem Dh {α : Type} {xs : List α} {i : Nat} {d : α} (h : i < xs.length) : A9 xs (i : Int) = some (xs.getD i d) := by
 rw [A5, lD]; simp [h]
theorem Ry (N : Nat) (p : Ag) (hN : N ≤ 1000000) (h1 : p.fVersions.length < N) (h2 : p.fNow.length = p.fVersions.length) (h3 : p.fTarget.length = p.fVersions.length) (j : Option Int) :
  Bo N p (fun _ => j) N 0 = BR (D1 (FP p) 0 p.fVersions) j := by
 have := DE (Bo N p (fun _ => j)) p.fVersions j (FP p)
  (fun n i x hx => by
   have hi := (lI.1 hx).1
   rw [Bo, AC (by omega), A5, hx]
   simp only [oS, Bb]
   rw [Dh (d := 0) (by omega), Dh (d := 0) (by omega), AR (by omega)]
   simp only [oS]
   unfold FP
   generalize p.fNow.getD i 0 = a
   generalize p.fTarget.getD i 0 = b
   by_cases k1 : x < 1 <;> by_cases k2 : 6 < x <;> by_cases k3 : a < 0 <;> by_cases k4 : x ≤ a <;> by_cases k5 : b < 0 <;> by_cases k6 : x ≤ b <;> simp [k1, k2, k3, k4, k5, k6, BR])
  (fun n => by rw [Bo, Az (by omega)]) N 0 (by omega) (by omega)
 simpa using this
theorem Pr (N : Nat) (p : Ag) (hN : N ≤ 1000000) (h1 : p.fVersions.length < N) (h2 : p.fNow.length = p.fVersions.length) (h3 : p.fTarget.length = p.fVersions.length) (j : Option Int) :
  BY N p (fun _ => j) N 0 = BR (D1 (FP p) 0 p.fVersions) j := by
 have := DE (BY N p (fun _ => j)) p.fVersions j (FP p)
  (fun n i x hx => by
   have hi := (lI.1 hx).1
   rw [BY, AC (by omega), A5, hx]
   simp only [oS, Bb, OP]
   rw [Dh (d := 0) (by omega), Dh (d := 0) (by omega), AR (by omega)]
   simp only [oS]
   unfold FP
   generalize p.fNow.getD i 0 = a
   generalize p.fTarget.getD i 0 = b
   have e1 : decide (0 ≤ a) = !decide (a < 0) := by rw [← decide_not]; congr 1; simp
   have e2 : decide (a < x) = !decide (x ≤ a) := by rw [← decide_not]; congr 1; simp
   have e3 : decide (0 ≤ b) = !decide (b < 0) := by rw [← decide_not]; congr 1; simp
   have e4 : decide (b < x) = !decide (x ≤ b) := by rw [← decide_not]; congr 1; simp
   rw [e1, e2, e3, e4]
   by_cases k1 : x < 1 <;> by_cases k2 : 6 < x <;> by_cases k3 : a < 0 <;> by_cases k4 : x ≤ a <;> by_cases k5 : b < 0 <;> by_cases k6 : x ≤ b <;> simp [k1, k2, k3, k4, k5, k6, BR])
  (fun n => by rw [BY, Az (by omega)]) N 0 (by omega) (by omega)
 simpa using this
theorem Ug (N : Nat) (p : Ag) (hN : N ≤ 1000000) (h6 : 7 ≤ N) (h1 : p.fTables.length < N) (hv : ∀ v, v ∈ p.fVersions → 1 ≤ v ∧ v ≤ 6) (j : Option Int) :
  Bk N p (fun _ => j) N 0 = BR (D1 (K4 p) 0 p.fTables) j := by
 have := DE (Bk N p (fun _ => j)) p.fTables j (K4 p)
  (fun n i x hx => by
   have hi := (lI.1 hx).1
   rw [Bk, AC (by omega), A5, hx]
   simp only [oS]
   rw [S1 N p x hN h6 hv, AR (by omega)]
   simp only [oS]
   unfold K4
   by_cases k : D9 p x = 0
   ·simp [k, BR]
   ·rw [bne_iff_ne.2 k, if_neg k]; rfl)
  (fun n => by rw [Bk, Az (by omega)]) N 0 (by omega) (by omega)
 simpa using this
theorem Rz (N : Nat) (p : Ag) (hN : N ≤ 1000000) (h6 : 7 ≤ N) (h1 : p.fTables.length < N) (hv : ∀ v, v ∈ p.fVersions → 1 ≤ v ∧ v ≤ 6) (j : Option Int) :
  BO N p (fun _ => j) N 0 = BR (D1 (K4 p) 0 p.fTables) j := by
 have := DE (BO N p (fun _ => j)) p.fTables j (K4 p)
  (fun n i x hx => by
   have hi := (lI.1 hx).1
   rw [BO, AC (by omega), A5, hx]
   simp only [oS]
   rw [M4 N p x hN h6 hv, AR (by omega)]
   simp only [oS]
   unfold K4
   by_cases k : D9 p x = 0
   ·simp [k, BR]
   ·rw [bne_iff_ne.2 k, if_neg k]; rfl)
  (fun n => by rw [BO, Az (by omega)]) N 0 (by omega) (by omega)
 simpa using this
theorem M9 (N : Nat) (p : Ag) (hN : N ≤ 1000000) (h : 20 ≤ N) : Cv N p = some (CF p) := by
 unfold Cv CF
 simp only [Bb]
 by_cases k1 : 6 < p.fVersions.length
 ·rw [AC (by omega)]; simp [k1]
 rw [Az (by omega)]
 by_cases k2 : 12 < p.fTables.length
 ·rw [decide_eq_true (by omega : (12 : Int) < (p.fTables.length : Int))]; simp [k2]
 rw [decide_eq_false (by omega : ¬ (12 : Int) < (p.fTables.length : Int)), As, if_neg (by omega)]
 by_cases k3 : p.fNow.length = p.fVersions.length
 ·by_cases k4 : p.fTarget.length = p.fVersions.length
  ·rw [k3, k4]
   simp only [bne_self_eq_false, As, ne_eq, not_true_eq_false, or_self, if_false]
   rw [Ry N p hN (by omega) k3 k4]
   cases hs : D1 (FP p) 0 p.fVersions with
   | some r => rfl
   | none =>
    simp only [BR]
    rw [Ug N p hN (by omega) (by omega) (Nq hs)]
    cases D1 (K4 p) 0 p.fTables <;> rfl
  ·have : ((p.fTarget.length : Int) != (p.fVersions.length : Int)) = true := bne_iff_ne.2 (by omega)
   rw [this, k3]; simp [k4]
 ·have : ((p.fNow.length : Int) != (p.fVersions.length : Int)) = true := bne_iff_ne.2 (by omega)
  rw [this]; simp [k3]
theorem Ll (N : Nat) (p : Ag) (hN : N ≤ 1000000) (h : 20 ≤ N) : Dr N p = some (CF p) := by
 unfold Dr CF
 simp only [Bb]
 by_cases k1 : 6 < p.fVersions.length
 ·rw [AC (by omega)]; simp [k1]
 rw [Az (by omega)]
 by_cases k2 : 12 < p.fTables.length
 ·rw [decide_eq_true (by omega : (12 : Int) < (p.fTables.length : Int))]; simp [k2]
 rw [decide_eq_false (by omega : ¬ (12 : Int) < (p.fTables.length : Int)), As, if_neg (by omega)]
 by_cases k3 : p.fNow.length = p.fVersions.length
 ·by_cases k4 : p.fTarget.length = p.fVersions.length
  ·rw [k3, k4]
   simp only [bne_self_eq_false, As, ne_eq, not_true_eq_false, or_self, if_false]
   rw [Pr N p hN (by omega) k3 k4]
   cases hs : D1 (FP p) 0 p.fVersions with
   | some r => rfl
   | none =>
    simp only [BR]
    rw [Rz N p hN (by omega) (by omega) (Nq hs)]
    cases D1 (K4 p) 0 p.fTables <;> rfl
  ·have : ((p.fTarget.length : Int) != (p.fVersions.length : Int)) = true := bne_iff_ne.2 (by omega)
   rw [this, k3]; simp [k4]
 ·have : ((p.fNow.length : Int) != (p.fVersions.length : Int)) = true := bne_iff_ne.2 (by omega)
  rw [this]; simp [k3]
theorem Ir {n : Int} (h : KR n) : 0 ≤ n ∧ n ≤ 255 := by
 unfold KR at h
 simpa [Lit.wf, IntKind.min, IntKind.max, IntKind.signed, IntKind.bits] using h
theorem Od : ∀ k : Fin 256, Dc .u8 0 (k.val : Int) = 0 := by decide +kernel
theorem Oi : ∀ k : Fin 256, Dc .u8 (k.val : Int) 0 = (k.val : Int) := by decide +kernel
theorem Tm {n : Int} (h : KR n) : Dc .u8 0 n = 0 := by
 have := Ir h
 obtain ⟨k, rfl⟩ := Int.eq_ofNat_of_zero_le this.1
 exact Od ⟨k, by omega⟩
theorem T7 {n : Int} (h : KR n) : Dc .u8 n 0 = n := by
 have := Ir h
 obtain ⟨k, rfl⟩ := Int.eq_ofNat_of_zero_le this.1
 exact Oi ⟨k, by omega⟩
theorem FN {α R : Type} {f : Nat → α → Option R} : ∀ {i : Nat} {xs : List α} {r : R}, D1 f i xs = some r → ∃ j x, xs[j]? = some x ∧ f (i + j) x = some r
 | _, [], _, h => by cases h
 | i, y :: ys, r, h => by
  rw [GX] at h
  split at h
  ·rename_i r' h0
   cases h
   exact ⟨0, y, rfl, h0⟩
  ·obtain ⟨j, x, h1, h2⟩ := FN h
   exact ⟨j + 1, x, by simpa using h1, by rwa [show i + (j + 1) = i + 1 + j from by omega]⟩
structure Bl (p : Ag) : Prop where
 nv : p.fVersions.length ≤ 6
 nt : p.fTables.length ≤ 12
 now : p.fNow.length = p.fVersions.length
 tgt : p.fTarget.length = p.fVersions.length
 ver : ∀ v, v ∈ p.fVersions → 1 ≤ v ∧ v ≤ 6
 tab : ∀ t, t ∈ p.fTables → D9 p t = 0
theorem RG (l : List (List Bool)) : (Id l).getD 0 = 0 ∨ (Id l).getD 0 = 1 := by
 cases h : Id l with
 | none => exact .inl rfl
 | some r =>
  obtain ⟨j, x, _, h⟩ := FN h
  split at h
  ·cases h
  ·cases h; exact .inr rfl
theorem PI (p : Ag) (t : AI) : D9 p t = 0 ∨ D9 p t = 1 ∨ D9 p t = 4 ∨ D9 p t = 6 := by
 unfold D9
 split
 ·exact .inr (.inl rfl)
 split
 ·exact .inr (.inr (.inl rfl))
 simp only
 split
 ·exact .inr (.inr (.inr rfl))
 split
 ·split
  ·exact .inr (.inr (.inr rfl))
  ·rcases RG t.fRewrite with h | h
   ·exact .inl h
   ·exact .inr (.inl h)
 ·split
  ·exact .inl rfl
  ·exact .inr (.inr (.inr rfl))
theorem H6 (p : Ag) : (CF p = 0 ∧ Bl p) ∨ (CF p = 1 ∨ CF p = 3 ∨ CF p = 4 ∨ CF p = 6 ∨ CF p = 7) := by
 unfold CF
 split
 ·simp
 rename_i k1
 split
 ·simp
 rename_i k2
 cases hs : D1 (FP p) 0 p.fVersions with
 | some r =>
  obtain ⟨j, x, _, h⟩ := FN hs
  unfold FP at h
  split at h
  ·cases h; simp [BR]
  ·cases h
 | none =>
  cases ht : D1 (K4 p) 0 p.fTables with
  | some r =>
   obtain ⟨j, t, _, h⟩ := FN ht
   unfold K4 at h
   split at h
   ·cases h
   ·rename_i hne
    cases h
    simp only [BR, Option.getD_some]
    right
    rcases PI p t with h | h | h | h
    ·exact (hne h).elim
    ·exact .inl h
    ·exact .inr (.inr (.inl h))
    ·exact .inr (.inr (.inr (.inl h)))
  | none =>
   left
   refine ⟨rfl, by omega, by omega, by omega, by omega, Nq hs, fun t hm => ?_⟩
   obtain ⟨j, hj⟩ := List.mem_iff_getElem?.1 hm
   have := GT ht j t hj
   unfold K4 at this
   split at this
   ·assumption
   ·cases this
def Gp (m : Ae) (s : Nat) : Int :=
 if 0 ≤ m.fNext.getD s 0 then Ob .u8 (Cp .u8 1 (m.fBase.getD s 0)) (Cp .u8 1 (m.fNext.getD s 0)) else Cp .u8 1 (m.fBase.getD s 0)
def KW (m : Ae) (i : Nat) (v : Int) : Option Int :=
 if m.fBase.getD i 0 < 0 ∨ v ≤ m.fBase.getD i 0 ∨ m.fNext.getD i 0 < -1 ∨ v ≤ m.fNext.getD i 0 then some 7
 else if m.fBase.getD i 0 = m.fNext.getD i 0 then some 1 else none
def Ce (t : AI) : Bool := t.fKind == 3 || t.fKind == 4
def Vv (p : Ag) (t : AI) : Int := wI .u8 (Cp .u8 1 (p.fVersions.getD t.fFrom.toNat 0) - 1)
def IC (p : Ag) (m : Ae) (i : Nat) (t : AI) : Option Int :=
 if Ce t = true then (if Dc .u8 (Gp m t.fFrom.toNat) (m.fHeld.getD i 0) ≠ 0 ∨ Dc .u8 (m.fHeld.getD i 0) (Vv p t) ≠ 0 then some 1 else none)
 else if m.fHeld.getD i 0 ≠ 0 then some 1 else none
def F0 (p : Ag) (m : Ae) : Int :=
 if CF p ≠ 0 then CF p
 else if m.fBase.length ≠ p.fVersions.length ∨ m.fNext.length ≠ p.fVersions.length ∨ m.fHeld.length ≠ p.fTables.length then 6
 else (BR (D1 (KW m) 0 p.fVersions) (D1 (IC p m) 0 p.fTables)).getD 0
theorem It {p : Ag} {t : AI} (h : D9 p t = 0) : 0 ≤ t.fFrom ∧ t.fFrom < (p.fVersions.length : Int) ∧ 0 ≤ t.fTo ∧ t.fTo < (p.fVersions.length : Int) := by
 unfold D9 at h
 split at h
 ·cases h
 ·split at h
  ·cases h
  ·omega
theorem KM (N : Nat) (m : Ae) (s : Int) (h0 : 0 ≤ s) (h1 : s < (m.fBase.length : Int)) (h2 : s < (m.fNext.length : Int)) (hb : 0 ≤ m.fBase.getD s.toNat 0) : ER N m s = some (Gp m s.toNat) := by
 unfold ER Gp
 rw [EH (d := 0) h0 h1, EH (d := 0) h0 h2]
 simp only [oS, Bb]
 rw [show DT (0 ≤ m.fBase.getD s.toNat 0) = some () from by unfold DT; rw [if_pos hb]]
 simp only [oS]
 by_cases h : 0 ≤ m.fNext.getD s.toNat 0
 ·rw [AC h, if_pos h, show DT (0 ≤ m.fNext.getD s.toNat 0) = some () from by unfold DT; rw [if_pos h]]; rfl
 ·rw [Az h, if_neg h]
theorem Jt (N : Nat) (m : Ae) (s : Int) (h0 : 0 ≤ s) (h1 : s < (m.fBase.length : Int)) (h2 : s < (m.fNext.length : Int)) (hb : 0 ≤ m.fBase.getD s.toNat 0) : BS N m s = some (Gp m s.toNat) := by
 unfold BS Gp
 rw [EH (d := 0) h0 h1, EH (d := 0) h0 h2]
 simp only [oS, Bb]
 rw [show DT (0 ≤ m.fBase.getD s.toNat 0) = some () from by unfold DT; rw [if_pos hb]]
 simp only [oS]
 by_cases h : 0 ≤ m.fNext.getD s.toNat 0
 ·rw [AC h, if_pos h, show DT (0 ≤ m.fNext.getD s.toNat 0) = some () from by unfold DT; rw [if_pos h]]; rfl
 ·rw [Az h, if_neg h]
theorem Pk (N : Nat) (p : Ag) (m : Ae) (hN : N ≤ 1000000) (h1 : p.fVersions.length < N) (h2 : m.fBase.length = p.fVersions.length) (h3 : m.fNext.length = p.fVersions.length) (j : Option Int) :
  D5 N p m (fun _ => j) N 0 = BR (D1 (KW m) 0 p.fVersions) j := by
 have := DE (D5 N p m (fun _ => j)) p.fVersions j (KW m)
  (fun n i x hx => by
   have hi := (lI.1 hx).1
   rw [D5, AC (by omega), A5, hx]
   simp only [oS, Bb]
   rw [Dh (d := 0) (by omega), Dh (d := 0) (by omega), AR (by omega)]
   simp only [oS]
   unfold KW
   generalize m.fBase.getD i 0 = a
   generalize m.fNext.getD i 0 = b
   by_cases k7 : a = b
   ·subst k7
    by_cases k3 : a < 0 <;> by_cases k4 : x ≤ a <;> by_cases k5 : a < -1 <;> simp [k3, k4, k5, BR]
   ·have k8 : (a == b) = false := beq_eq_false_iff_ne.2 k7
    by_cases k3 : a < 0 <;> by_cases k4 : x ≤ a <;> by_cases k5 : b < -1 <;> by_cases k6 : x ≤ b <;> simp [k3, k4, k5, k6, k7, k8, BR])
  (fun n => by rw [D5, Az (by omega)]) N 0 (by omega) (by omega)
 simpa using this
theorem Pq (N : Nat) (p : Ag) (m : Ae) (hN : N ≤ 1000000) (h1 : p.fVersions.length < N) (h2 : m.fBase.length = p.fVersions.length) (h3 : m.fNext.length = p.fVersions.length) (j : Option Int) :
  Cc N p m (fun _ => j) N 0 = BR (D1 (KW m) 0 p.fVersions) j := by
 have := DE (Cc N p m (fun _ => j)) p.fVersions j (KW m)
  (fun n i x hx => by
   have hi := (lI.1 hx).1
   rw [Cc, AC (by omega), show A9 p.fVersions (i : Int) = some x from by rw [A5, hx]]
   simp only [oS, Bb]
   rw [Dh (d := 0) (by omega), Dh (d := 0) (by omega), AR (by omega)]
   simp only [oS]
   unfold KW
   generalize m.fBase.getD i 0 = a
   generalize m.fNext.getD i 0 = b
   by_cases k7 : a = b
   ·subst k7
    by_cases k3 : a < 0 <;> by_cases k4 : x ≤ a <;> by_cases k5 : a < -1 <;> simp [k3, k4, k5, BR]
   ·have k8 : (a == b) = false := beq_eq_false_iff_ne.2 k7
    by_cases k3 : a < 0 <;> by_cases k4 : x ≤ a <;> by_cases k5 : b < -1 <;> by_cases k6 : x ≤ b <;> simp [k3, k4, k5, k6, k7, k8, BR])
  (fun n => by rw [Cc, Az (by omega)]) N 0 (by omega) (by omega)
 simpa using this
structure MixServ (p : Ag) (m : Ae) : Prop where
 base : m.fBase.length = p.fVersions.length
 next : m.fNext.length = p.fVersions.length
 held : m.fHeld.length = p.fTables.length
 b0 : ∀ i, i < p.fVersions.length → 0 ≤ m.fBase.getD i 0 ∧ m.fBase.getD i 0 < p.fVersions.getD i 0
 n0 : ∀ i, i < p.fVersions.length → -1 ≤ m.fNext.getD i 0 ∧ m.fNext.getD i 0 < p.fVersions.getD i 0
 ne : ∀ i, i < p.fVersions.length → m.fBase.getD i 0 ≠ m.fNext.getD i 0
theorem P2 {p : Ag} {m : Ae} (h2 : m.fBase.length = p.fVersions.length) (h3 : m.fNext.length = p.fVersions.length) (h4 : m.fHeld.length = p.fTables.length) (h : D1 (KW m) 0 p.fVersions = none) : MixServ p m := by
 have key : ∀ i, i < p.fVersions.length → ¬ (m.fBase.getD i 0 < 0 ∨ p.fVersions.getD i 0 ≤ m.fBase.getD i 0 ∨ m.fNext.getD i 0 < -1 ∨ p.fVersions.getD i 0 ≤ m.fNext.getD i 0) ∧ ¬ m.fBase.getD i 0 = m.fNext.getD i 0 := by
  intro i hi
  have hx : p.fVersions[i]? = some (p.fVersions.getD i 0) := by rw [lD]; simp [hi]
  have := GT h i _ hx
  rw [Nat.zero_add] at this
  unfold KW at this
  split at this
  ·cases this
  ·split at this
   ·cases this
   ·rename_i k1 k2; exact ⟨k1, k2⟩
 exact ⟨h2, h3, h4, fun i hi => by have := (key i hi).1; omega, fun i hi => by have := (key i hi).1; omega, fun i hi => (key i hi).2⟩
theorem Qd {m : Ae} (hw : Oa KR m.fHeld) {i : Nat} (h : i < m.fHeld.length) : KR (m.fHeld.getD i 0) := by
 refine hw _ ?_
 rw [lD, List.getElem?_eq_getElem h]
 exact List.getElem_mem _
theorem IR (N : Nat) (t : AI) : Fd N t = some (Ce t) := by
 unfold Fd Ce
 simp only [Bb]
 cases h : t.fKind == 3 <;> simp
theorem Gr (N : Nat) (t : AI) : Ba N t = some (Ce t) := LO N t
theorem Ri (N : Nat) (p : Ag) (m : Ae) (hN : N ≤ 1000000) (h1 : p.fTables.length < N) (hp : Bl p) (hm : MixServ p m) (hw : Oa KR m.fHeld) (j : Option Int) :
  DI N p m (fun _ => j) N 0 = BR (D1 (IC p m) 0 p.fTables) j := by
 have := DE (DI N p m (fun _ => j)) p.fTables j (IC p m)
  (fun n i x hx => by
   have hi := (lI.1 hx).1
   have hin := It (hp.tab x (lM hx))
   have hheld := Qd hw (show i < m.fHeld.length from by rw [hm.held]; exact hi)
   have hv := J8 hp.ver hin.1 hin.2.1
   rw [DI, AC (by omega), A5, hx]
   simp only [oS, Bb, IR]
   rw [KM N m x.fFrom hin.1 (by rw [hm.base]; exact hin.2.1) (by rw [hm.next]; exact hin.2.1) (hm.b0 _ (by omega)).1, EH (d := 0) hin.1 hin.2.1, Dh (d := 0) (show i < m.fHeld.length from by rw [hm.held]; exact hi), AR (by omega)]
   simp only [oS]
   rw [show DT (0 ≤ p.fVersions.getD x.fFrom.toNat 0) = some () from by unfold DT; rw [if_pos (by omega)]]
   simp only [oS]
   unfold IC Vv
   rw [Tm hheld, T7 hheld]
   generalize Dc .u8 (Gp m x.fFrom.toNat) (m.fHeld.getD i 0) = A
   generalize Dc .u8 (m.fHeld.getD i 0) (wI .u8 (Cp .u8 1 (p.fVersions.getD x.fFrom.toNat 0) - 1)) = B
   generalize m.fHeld.getD i 0 = H
   cases Ce x
   ·simp only [As, bne_self_eq_false]
    by_cases k : H = 0
    ·simp [k, BR]
    ·have : (H != 0) = true := bne_iff_ne.2 k
     simp [k, this, BR]
   ·simp only [AN]
    by_cases k : A = 0
    ·by_cases k2 : B = 0
     ·simp [k, k2, BR]
     ·have : (B != 0) = true := bne_iff_ne.2 k2
      simp [k, k2, this, BR]
    ·have : (A != 0) = true := bne_iff_ne.2 k
     simp [k, this, BR])
  (fun n => by rw [DI, Az (by omega)]) N 0 (by omega) (by omega)
 simpa using this
theorem RS (N : Nat) (p : Ag) (m : Ae) (hN : N ≤ 1000000) (h1 : p.fTables.length < N) (hp : Bl p) (hm : MixServ p m) (j : Option Int) :
  BW N p m (fun _ => j) N 0 = BR (D1 (IC p m) 0 p.fTables) j := by
 have := DE (BW N p m (fun _ => j)) p.fTables j (IC p m)
  (fun n i x hx => by
   have hi := (lI.1 hx).1
   have hin := It (hp.tab x (lM hx))
   have hv := J8 hp.ver hin.1 hin.2.1
   rw [BW, AC (by omega), A5, hx]
   simp only [oS, Bb, Gr]
   rw [Jt N m x.fFrom hin.1 (by rw [hm.base]; exact hin.2.1) (by rw [hm.next]; exact hin.2.1) (hm.b0 _ (by omega)).1, EH (d := 0) hin.1 hin.2.1, Dh (d := 0) (show i < m.fHeld.length from by rw [hm.held]; exact hi), AR (by omega)]
   simp only [oS]
   rw [show DT (0 ≤ p.fVersions.getD x.fFrom.toNat 0) = some () from by unfold DT; rw [if_pos (by omega)]]
   simp only [oS]
   unfold IC Vv
   generalize Dc .u8 (Gp m x.fFrom.toNat) (m.fHeld.getD i 0) = A
   generalize Dc .u8 (m.fHeld.getD i 0) (wI .u8 (Cp .u8 1 (p.fVersions.getD x.fFrom.toNat 0) - 1)) = B
   generalize m.fHeld.getD i 0 = H
   cases Ce x
   ·simp only [Bool.not_false, AN, As]
    by_cases k : H = 0
    ·simp [k, BR]
    ·have : (H != 0) = true := bne_iff_ne.2 k
     simp [k, this, BR]
   ·simp only [Bool.not_true, As, AN]
    by_cases k : A = 0
    ·by_cases k2 : B = 0
     ·simp [k, k2, BR]
     ·have : (B != 0) = true := bne_iff_ne.2 k2
      simp [k, k2, this, BR]
    ·have : (A != 0) = true := bne_iff_ne.2 k
     by_cases k2 : B = 0
     ·simp [k, k2, this, BR]
     ·have h5 : (B != 0) = true := bne_iff_ne.2 k2
      simp [k, h5, BR])
  (fun n => by rw [BW, Az (by omega)]) N 0 (by omega) (by omega)
 simpa using this
theorem Jj (N : Nat) (p : Ag) (m : Ae) (hN : N ≤ 1000000) (h : 20 ≤ N) (hw : Oa KR m.fHeld) : E9 N p m = some (F0 p m) := by
 unfold E9 F0
 rw [Ll N p hN h]
 simp only [oS, Bb]
 by_cases k0 : CF p = 0
 ·have hp : Bl p := by
   rcases H6 p with h | h
   ·exact h.2
   ·omega
  have hnv := hp.nv
  have hnt := hp.nt
  rw [k0]
  simp only [bne_self_eq_false, As, ne_eq, not_true_eq_false, if_false]
  by_cases k1 : m.fBase.length = p.fVersions.length
  ·by_cases k2 : m.fNext.length = p.fVersions.length
   ·by_cases k3 : m.fHeld.length = p.fTables.length
    ·rw [k1, k2, k3]
     simp only [bne_self_eq_false, As, not_true_eq_false, or_self, if_false]
     rw [Pk N p m hN (by omega) k1 k2]
     cases hs : D1 (KW m) 0 p.fVersions with
     | some r => rfl
     | none =>
      simp only [BR]
      rw [Ri N p m hN (by omega) hp (P2 k1 k2 k3 hs) hw]
      cases D1 (IC p m) 0 p.fTables <;> rfl
    ·have : ((m.fHeld.length : Int) != (p.fTables.length : Int)) = true := bne_iff_ne.2 (by omega)
     rw [this, k1, k2]; simp [k3]
   ·have : ((m.fNext.length : Int) != (p.fVersions.length : Int)) = true := bne_iff_ne.2 (by omega)
    rw [this, k1]; simp [k2]
  ·have : ((m.fBase.length : Int) != (p.fVersions.length : Int)) = true := bne_iff_ne.2 (by omega)
   rw [this]; simp [k1]
 ·rw [bne_iff_ne.2 k0]; simp [k0]
theorem PA (N : Nat) (p : Ag) (m : Ae) (hN : N ≤ 1000000) (h : 20 ≤ N) : En N p m = some (F0 p m) := by
 unfold En F0
 rw [M9 N p hN h]
 simp only [oS, Bb]
 by_cases k0 : CF p = 0
 ·have hp : Bl p := by
   rcases H6 p with h | h
   ·exact h.2
   ·omega
  have hnv := hp.nv
  have hnt := hp.nt
  rw [k0]
  simp only [bne_self_eq_false, As, ne_eq, not_true_eq_false, if_false]
  by_cases k1 : m.fBase.length = p.fVersions.length
  ·by_cases k2 : m.fNext.length = p.fVersions.length
   ·by_cases k3 : m.fHeld.length = p.fTables.length
    ·rw [k1, k2, k3]
     simp only [bne_self_eq_false, As, not_true_eq_false, or_self, if_false]
     rw [Pq N p m hN (by omega) k1 k2]
     cases hs : D1 (KW m) 0 p.fVersions with
     | some r => rfl
     | none =>
      simp only [BR]
      rw [RS N p m hN (by omega) hp (P2 k1 k2 k3 hs)]
      cases D1 (IC p m) 0 p.fTables <;> rfl
    ·have : ((m.fHeld.length : Int) != (p.fTables.length : Int)) = true := bne_iff_ne.2 (by omega)
     rw [this, k1, k2]; simp [k3]
   ·have : ((m.fNext.length : Int) != (p.fVersions.length : Int)) = true := bne_iff_ne.2 (by omega)
    rw [this, k1]; simp [k2]
  ·have : ((m.fBase.length : Int) != (p.fVersions.length : Int)) = true := bne_iff_ne.2 (by omega)
   rw [this]; simp [k1]
 ·rw [bne_iff_ne.2 k0]; simp [k0]
@[simp] theorem A6 {α β : Type} (k : α) (f : α → β) : Bb k f = f k := rfl
@[simp] theorem UK {p : Prop} [Decidable p] (h : p) : DT p = some () := by unfold DT; rw [if_pos h]
theorem AA {β : Type} {p : Prop} [Decidable p] (h : p) (f : Unit → Option β) : (DT p).bind f = f () := by rw [UK h]; rfl
theorem Vs {α : Type} (b : Bool) (x y : Option α) : AV b x y = if b = true then x else y := by cases b <;> rfl
def CQ {α β : Type} (g : Nat → α → List β) : Nat → List α → List β
 | _, [] => []
 | i, x :: xs => g i x ++ CQ g (i + 1) xs
def HZ {α A : Type} (f : Nat → α → A → A) : Nat → List α → A → A
 | _, [], a => a
 | i, x :: xs, a => HZ f (i + 1) xs (f i x a)
theorem Lu {α β : Type} (g : Nat → α → List β) : ∀ (i : Nat) (xs ys : List α), CQ g i (xs ++ ys) = CQ g i xs ++ CQ g (i + xs.length) ys
 | i, [], ys => by simp [CQ]
 | i, x :: xs, ys => by
  rw [List.cons_append, CQ, CQ, Lu g (i + 1) xs ys, List.append_assoc, List.length_cons, Nat.add_assoc, Nat.add_comm 1]
theorem Hv {α β : Type} {g : Nat → α → List β} {y : β} : ∀ {i : Nat} {xs : List α}, y ∈ CQ g i xs ↔ ∃ j x, xs[j]? = some x ∧ y ∈ g (i + j) x
 | _, [] => by simp [CQ]
 | i, x :: xs => by
  rw [CQ, List.mem_append, Hv]
  constructor
  ·rintro (h | ⟨j, z, hz, h⟩)
   ·exact ⟨0, x, rfl, h⟩
   ·exact ⟨j + 1, z, by simpa using hz, by rwa [show i + (j + 1) = i + 1 + j from by omega]⟩
  ·rintro ⟨j, z, hz, h⟩
   cases j with
   | zero => simp at hz; subst hz; exact .inl h
   | succ j => exact .inr ⟨j, z, by simpa using hz, by rwa [show i + 1 + j = i + (j + 1) from by omega]⟩
theorem FL {α β : Type} {g : Nat → α → List β} {c : Nat} : ∀ {i : Nat} {xs : List α}, (∀ j x, xs[j]? = some x → (g (i + j) x).length ≤ c) → (CQ g i xs).length ≤ c * xs.length
 | _, [], _ => by simp [CQ]
 | i, x :: xs, h => by
  have h1 := h 0 x rfl
  have h2 := FL (g := g) (c := c) (i := i + 1) (xs := xs) fun j y hy => by
   have := h (j + 1) y (by simpa using hy)
   rwa [show i + (j + 1) = i + 1 + j from by omega] at this
  rw [CQ, List.length_append, List.length_cons, Nat.mul_add]
  simp only [Nat.add_zero] at h1
  omega
theorem H9 {α A S R : Type} (L : Nat → S → Option R) (mk : A → Int → S) (xs : List α) (j : A → Option R) (f : Nat → α → A → A) (I : Nat → A → Prop)
  (hs : ∀ (n i : Nat) (x : α) (a : A), xs[i]? = some x → I i a → L (n + 1) (mk a (i : Int)) = L n (mk (f i x a) ((i + 1 : Nat) : Int)) ∧ I (i + 1) (f i x a))
  (he : ∀ (n : Nat) (a : A), I xs.length a → L (n + 1) (mk a (xs.length : Int)) = j a) :
  ∀ (n i : Nat) (a : A), i ≤ xs.length → xs.length - i < n → I i a → L n (mk a (i : Int)) = j (HZ f i (xs.drop i) a) ∧ I xs.length (HZ f i (xs.drop i) a)
 | 0, i, _, _, h, _ => by omega
 | n + 1, i, a, hi, h, ha => by
  by_cases h1 : i < xs.length
  ·have hx : xs[i]? = some xs[i] := by simp [h1]
   obtain ⟨e1, e2⟩ := hs n i _ a hx ha
   rw [e1, CP hx, HZ]
   exact H9 L mk xs j f I hs he n (i + 1) _ (by omega) (by omega) e2
  ·have : i = xs.length := by omega
   subst this
   rw [List.drop_eq_nil_of_le (Nat.le_refl _), HZ]
   exact ⟨he n a ha, ha⟩
theorem Nh {α β : Type} (g : Nat → α → List β) : ∀ (i : Nat) (xs : List α) (acc : List β), HZ (fun i x a => a ++ g i x) i xs acc = acc ++ CQ g i xs
 | _, [], acc => by simp [HZ, CQ]
 | i, x :: xs, acc => by rw [HZ, Nh g (i + 1) xs, CQ, List.append_assoc]
theorem Gf {α β S R : Type} (L : Nat → S → Option R) (mk : List β → Int → S) (xs : List α) (j : List β → Option R) (g : Nat → α → List β) (c B : Nat)
  (hg : ∀ i x, xs[i]? = some x → (g i x).length ≤ c)
  (hs : ∀ (n i : Nat) (x : α) (a : List β), xs[i]? = some x → a.length + (g i x).length ≤ B → L (n + 1) (mk a (i : Int)) = L n (mk (a ++ g i x) ((i + 1 : Nat) : Int)))
  (he : ∀ (n : Nat) (a : List β), L (n + 1) (mk a (xs.length : Int)) = j a) (n : Nat) (a : List β) (hn : xs.length < n) (ha : a.length + c * xs.length ≤ B) :
  L n (mk a 0) = j (a ++ CQ g 0 xs) := by
 have := H9 L mk xs j (fun i x a => a ++ g i x) (fun i b => i ≤ xs.length ∧ b.length ≤ a.length + c * i)
  (fun n i x b hx hb => by
   have h1 := hg i x hx
   have hi := (lI.1 hx).1
   have h2 : c * (i + 1) ≤ c * xs.length := Nat.mul_le_mul_left c hi
   have h3 : c * (i + 1) = c * i + c := Nat.mul_succ c i
   refine ⟨hs n i x b hx (by have := hb.2; omega), hi, ?_⟩
   rw [List.length_append]
   have := hb.2
   omega)
  (fun n b _ => he n b) n 0 a (Nat.zero_le _) (by omega) ⟨Nat.zero_le _, by omega⟩
 have h2 := this.1
 rw [List.drop_zero, Nh] at h2
 exact h2
def DG (s : Int) (v : Nat) : Bool := s.toNat.testBit v
def H3 (m : Ae) (s v : Nat) : Bool := decide (m.fBase.getD s 0 = (v : Int)) || decide (m.fNext.getD s 0 = (v : Int))
theorem VA : ∀ (s : Fin 256) (v : Fin 8), FF .u8 (Em .u8 (s.val : Int) (v.val : Int)) 1 = if DG (s.val : Int) v.val then 1 else 0 := by decide +kernel
theorem Px {s : Int} {v : Nat} (h0 : 0 ≤ s) (h1 : s ≤ 255) (hv : v < 8) : FF .u8 (Em .u8 s (v : Int)) 1 = if DG s v then 1 else 0 := by
 obtain ⟨k, rfl⟩ := Int.eq_ofNat_of_zero_le h0
 exact VA ⟨k, by omega⟩ ⟨v, hv⟩
theorem Ra {s : Int} {v : Nat} (h0 : 0 ≤ s) (h1 : s ≤ 255) (hv : v < 8) : (FF .u8 (Em .u8 s (v : Int)) 1 == 0) = !DG s v := by
 rw [Px h0 h1 hv]; cases DG s v <;> rfl
theorem Q2 {s : Int} {v : Nat} (h0 : 0 ≤ s) (h1 : s ≤ 255) (hv : v < 8) : (FF .u8 (Em .u8 s (v : Int)) 1 == 1) = DG s v := by
 rw [Px h0 h1 hv]; cases DG s v <;> rfl
theorem Jq {s : Int} {v : Nat} (h1 : s ≤ 255) (hv : 8 ≤ v) : DG s v = false := by
 unfold DG
 apply Nat.testBit_lt_two_pow
 have : (2 : Nat) ^ 8 ≤ 2 ^ v := Nat.pow_le_pow_right (by omega) hv
 omega
theorem Jw : ∀ (b : Fin 8) (v : Fin 8), DG (Cp .u8 1 (b.val : Int)) v.val = decide (b.val = v.val) ∧ 0 ≤ Cp .u8 1 (b.val : Int) ∧ Cp .u8 1 (b.val : Int) ≤ 255 := by decide +kernel
theorem V2 : ∀ (b n : Fin 8) (v : Fin 8), DG (Ob .u8 (Cp .u8 1 (b.val : Int)) (Cp .u8 1 (n.val : Int))) v.val = (decide (b.val = v.val) || decide (n.val = v.val))
  ∧ 0 ≤ Ob .u8 (Cp .u8 1 (b.val : Int)) (Cp .u8 1 (n.val : Int)) ∧ Ob .u8 (Cp .u8 1 (b.val : Int)) (Cp .u8 1 (n.val : Int)) ≤ 255 := by decide +kernel
theorem TQ {m : Ae} {s : Nat} (hb0 : 0 ≤ m.fBase.getD s 0) (hb1 : m.fBase.getD s 0 < 8) (hn1 : m.fNext.getD s 0 < 8) :
  (∀ v, DG (Gp m s) v = H3 m s v) ∧ 0 ≤ Gp m s ∧ Gp m s ≤ 255 := by
 unfold Gp H3
 obtain ⟨b, hb⟩ := Int.eq_ofNat_of_zero_le hb0
 rw [hb] at hb1 ⊢
 by_cases h : 0 ≤ m.fNext.getD s 0
 ·obtain ⟨n, hn⟩ := Int.eq_ofNat_of_zero_le h
  rw [hn] at hn1 ⊢
  rw [if_pos (by omega)]
  have h1 := V2 ⟨b, by omega⟩ ⟨n, by omega⟩
  refine ⟨fun v => ?_, (h1 0).2⟩
  by_cases hv : v < 8
  ·rw [(h1 ⟨v, hv⟩).1]
   simp only [Int.ofNat_inj]
  ·rw [Jq (h1 0).2.2 (by omega)]
   simp; omega
 ·rw [if_neg h]
  have h1 := Jw ⟨b, by omega⟩
  refine ⟨fun v => ?_, (h1 0).2⟩
  have h3 : decide (m.fNext.getD s 0 = (v : Int)) = false := decide_eq_false (by omega)
  rw [h3, Bool.or_false]
  by_cases hv : v < 8
  ·rw [(h1 ⟨v, hv⟩).1]
   simp only [Int.ofNat_inj]
  ·rw [Jq (h1 0).2.2 (by omega)]
   simp; omega
theorem TL {a : Nat} (h : a < 256) : (BitVec.ofInt 8 (a : Int)).toNat = a := by
 simp; omega
theorem N7 {a b : Int} (ha : 0 ≤ a ∧ a ≤ 255) (hb : 0 ≤ b ∧ b ≤ 255) : Dc .u8 a b = 0 ↔ ∀ v, DG a v = true → DG b v = true := by
 obtain ⟨a, rfl⟩ := Int.eq_ofNat_of_zero_le ha.1
 obtain ⟨b, rfl⟩ := Int.eq_ofNat_of_zero_le hb.1
 have hA := TL (a := a) (by omega)
 have hB := TL (a := b) (by omega)
 unfold Dc DG
 simp only [IntKind.bits, Int.toNat_natCast]
 have hx : ∀ x : BitVec 8, wI .u8 (x.toNat : Int) = (x.toNat : Int) := by
  intro x
  have := x.isLt
  simp [wI, IntKind.signed, IntKind.bits]
  omega
 rw [hx]
 constructor
 ·intro h v hv
  have h0 : (BitVec.ofInt 8 (a : Int) &&& ~~~BitVec.ofInt 8 (b : Int)) = (BitVec.ofNat 8 0) := by
   apply BitVec.eq_of_toNat_eq
   simp only [BitVec.toNat_ofNat, Nat.zero_mod]
   exact Int.ofNat_inj.1 h
  by_cases hv8 : v < 8
  ·have h1 : (BitVec.ofInt 8 (a : Int) &&& ~~~BitVec.ofInt 8 (b : Int)).getLsbD v = false := by rw [h0]; simp
   rw [BitVec.getLsbD_and, BitVec.getLsbD_not] at h1
   have e1 : (BitVec.ofInt 8 (a : Int)).getLsbD v = a.testBit v := by unfold BitVec.getLsbD; rw [hA]
   have e2 : (BitVec.ofInt 8 (b : Int)).getLsbD v = b.testBit v := by unfold BitVec.getLsbD; rw [hB]
   rw [e1, e2, hv] at h1
   simpa [hv8] using h1
  ·have := Jq (s := (a : Int)) (v := v) (by omega) (by omega)
   unfold DG at this
   rw [Int.toNat_natCast, hv] at this
   cases this
 ·intro h
  have h0 : (BitVec.ofInt 8 (a : Int) &&& ~~~BitVec.ofInt 8 (b : Int)) = (BitVec.ofNat 8 0) := by
   apply BitVec.eq_of_getLsbD_eq
   intro i hi
   rw [BitVec.getLsbD_and, BitVec.getLsbD_not]
   have e1 : (BitVec.ofInt 8 (a : Int)).getLsbD i = a.testBit i := by unfold BitVec.getLsbD; rw [hA]
   have e2 : (BitVec.ofInt 8 (b : Int)).getLsbD i = b.testBit i := by unfold BitVec.getLsbD; rw [hB]
   rw [e1, e2]
   have := h i
   cases h3 : a.testBit i
   ·simp
   ·rw [this h3]; simp
  have h2 : ∀ x : BitVec 8, x = (BitVec.ofNat 8 0) → (x.toNat : Int) = 0 := fun x hx => by rw [hx]; rfl
  exact h2 _ h0
theorem Vg : ∀ n : Fin 9, (∀ v : Fin 8, DG (wI .u8 (Cp .u8 1 (n.val : Int) - 1)) v.val = decide (v.val < n.val)) ∧ 0 ≤ wI .u8 (Cp .u8 1 (n.val : Int) - 1) ∧ wI .u8 (Cp .u8 1 (n.val : Int) - 1) ≤ 255 := by decide +kernel
theorem VZ {n : Int} (h0 : 0 ≤ n) (h1 : n ≤ 8) : (∀ v, DG (wI .u8 (Cp .u8 1 n - 1)) v = decide ((v : Int) < n)) ∧ 0 ≤ wI .u8 (Cp .u8 1 n - 1) ∧ wI .u8 (Cp .u8 1 n - 1) ≤ 255 := by
 obtain ⟨n, rfl⟩ := Int.eq_ofNat_of_zero_le h0
 have h := Vg ⟨n, by omega⟩
 refine ⟨fun v => ?_, h.2⟩
 by_cases hv : v < 8
 ·rw [h.1 ⟨v, hv⟩]; simp
 ·rw [Jq h.2.2 (by omega)]
  symm; apply decide_eq_false; omega
structure Bt (p : Ag) (m : Ae) : Prop extends MixServ p m where
 range : ∀ i, i < p.fTables.length → 0 ≤ m.fHeld.getD i 0 ∧ m.fHeld.getD i 0 ≤ 255
 low : ∀ i t, p.fTables[i]? = some t → Ce t = true → ∀ v, H3 m t.fFrom.toNat v = true → DG (m.fHeld.getD i 0) v = true
 high : ∀ i t, p.fTables[i]? = some t → Ce t = true → ∀ v, DG (m.fHeld.getD i 0) v = true → (v : Int) < p.fVersions.getD t.fFrom.toNat 0
 none : ∀ i t, p.fTables[i]? = some t → Ce t = false → m.fHeld.getD i 0 = 0
theorem HQ {p : Ag} (hp : Bl p) {i : Nat} (hi : i < p.fVersions.length) : 1 ≤ p.fVersions.getD i 0 ∧ p.fVersions.getD i 0 ≤ 6 := by
 have := J8 (i := (i : Int)) hp.ver (by omega) (by omega)
 simpa using this
theorem HE {p : Ag} {m : Ae} (hp : Bl p) (hm : MixServ p m) {s : Nat} (hs : s < p.fVersions.length) :
  (∀ v, DG (Gp m s) v = H3 m s v) ∧ 0 ≤ Gp m s ∧ Gp m s ≤ 255 := by
 have h1 := hm.b0 s hs
 have h2 := hm.n0 s hs
 have h3 := HQ hp hs
 exact TQ h1.1 (by omega) (by omega)
theorem Qt {p : Ag} {m : Ae} (hp : Bl p) (hm : MixServ p m) {i : Nat} {t : AI} (ht : p.fTables[i]? = some t) (hr : 0 ≤ m.fHeld.getD i 0 ∧ m.fHeld.getD i 0 ≤ 255) :
  IC p m i t = none ↔ ((Ce t = true → (∀ v, H3 m t.fFrom.toNat v = true → DG (m.fHeld.getD i 0) v = true) ∧ (∀ v, DG (m.fHeld.getD i 0) v = true → (v : Int) < p.fVersions.getD t.fFrom.toNat 0)) ∧ (Ce t = false → m.fHeld.getD i 0 = 0)) := by
 have hin := It (hp.tab t (lM ht))
 have hrun := HE hp hm (s := t.fFrom.toNat) (by omega)
 have hver := HQ hp (i := t.fFrom.toNat) (by omega)
 have hall := VZ (n := p.fVersions.getD t.fFrom.toNat 0) (by omega) (by omega)
 unfold IC Vv
 have e1 := N7 hrun.2 hr
 have e2 := N7 hr hall.2
 cases hst : Ce t
 ·simp
 ·simp only [if_true, true_implies, Bool.true_eq_false, false_implies, and_true, ite_eq_right_iff, reduceCtorEq, imp_false, not_or, Decidable.not_not]
  rw [e1, e2]
  simp only [hrun.1, hall.1, decide_eq_true_eq]
theorem LB {p : Ag} {m : Ae} (hw : Oa KR m.fHeld) (h : F0 p m = 0) : Bl p ∧ Bt p m := by
 unfold F0 at h
 split at h
 ·rename_i k; exact (k h).elim
 ·rename_i k0
  have hp : Bl p := by
   rcases H6 p with h | h
   ·exact h.2
   ·omega
  split at h
  ·cases h
  ·rename_i k1
   have b1 : m.fBase.length = p.fVersions.length := Decidable.not_not.1 fun h => k1 (.inl h)
   have b2 : m.fNext.length = p.fVersions.length := Decidable.not_not.1 fun h => k1 (.inr (.inl h))
   have b3 : m.fHeld.length = p.fTables.length := Decidable.not_not.1 fun h => k1 (.inr (.inr h))
   cases hs : D1 (KW m) 0 p.fVersions with
   | some r =>
    obtain ⟨j, x, _, he⟩ := FN hs
    rw [hs] at h
    unfold KW at he
    simp only [BR, Option.getD_some] at h
    split at he
    ·cases he; cases h
    ·split at he
     ·cases he; cases h
     ·cases he
   | none =>
    have hm := P2 b1 b2 b3 hs
    rw [hs] at h
    simp only [BR] at h
    cases ht : D1 (IC p m) 0 p.fTables with
    | some r =>
     obtain ⟨j, x, _, he⟩ := FN ht
     rw [ht] at h
     simp only [Option.getD_some] at h
     subst h
     unfold IC at he
     split at he
     ·split at he <;> cases he
     ·split at he <;> cases he
    | none =>
     have hr : ∀ i, i < p.fTables.length → 0 ≤ m.fHeld.getD i 0 ∧ m.fHeld.getD i 0 ≤ 255 := fun i hi => Ir (Qd hw (by omega))
     have key : ∀ i t, p.fTables[i]? = some t → _ := fun i t hi => (Qt hp hm hi (hr i (lI.1 hi).1)).1 (by have := GT ht i t hi; rwa [Nat.zero_add] at this)
     exact ⟨hp, hm, hr, fun i t hi hst => ((key i t hi).1 hst).1, fun i t hi hst => ((key i t hi).1 hst).2, fun i t hi hst => (key i t hi).2 hst⟩
theorem FD {α R : Type} {f : Nat → α → Option R} : ∀ {i : Nat} {xs : List α}, (∀ j x, xs[j]? = some x → f (i + j) x = none) → D1 f i xs = none
 | _, [], _ => rfl
 | i, y :: ys, h => by
  rw [GX, show f i y = none from h 0 y rfl]
  exact FD fun j x hx => by
   have := h (j + 1) x (by simpa using hx)
   rwa [show i + (j + 1) = i + 1 + j from by omega] at this
theorem PF {p : Ag} (hp : Bl p) (hr : ∀ i, i < p.fVersions.length → 0 ≤ p.fNow.getD i 0 ∧ p.fNow.getD i 0 < p.fVersions.getD i 0 ∧ 0 ≤ p.fTarget.getD i 0 ∧ p.fTarget.getD i 0 < p.fVersions.getD i 0) : CF p = 0 := by
 have := hp.nv
 have := hp.nt
 have := hp.now
 have := hp.tgt
 unfold CF
 rw [if_neg (by omega), if_neg (by omega)]
 have h1 : D1 (FP p) 0 p.fVersions = none := FD fun j x hx => by
  have hj := (lI.1 hx).1
  have h1 := hr j hj
  have h2 := HQ hp hj
  have e : p.fVersions.getD j 0 = x := by rw [lD, hx]; rfl
  rw [e] at h1 h2
  unfold FP
  rw [Nat.zero_add, if_neg (by omega)]
 have h2 : D1 (K4 p) 0 p.fTables = none := FD fun j x hx => by
  unfold K4
  rw [if_pos (hp.tab x (lM hx))]
 rw [h1, h2]; rfl
theorem C1 {p : Ag} (h : CF p = 0) : Bl p ∧ ∀ i, i < p.fVersions.length → 0 ≤ p.fNow.getD i 0 ∧ p.fNow.getD i 0 < p.fVersions.getD i 0 ∧ 0 ≤ p.fTarget.getD i 0 ∧ p.fTarget.getD i 0 < p.fVersions.getD i 0 := by
 have hp : Bl p := by
  rcases H6 p with h | h
  ·exact h.2
  ·omega
 refine ⟨hp, fun i hi => ?_⟩
 have h1 := hp.nv
 have h2 := hp.nt
 have h3 := hp.now
 have h4 := hp.tgt
 unfold CF at h
 rw [if_neg (by omega), if_neg (by omega)] at h
 cases hs : D1 (FP p) 0 p.fVersions with
 | some r =>
  obtain ⟨j, x, _, he⟩ := FN hs
  rw [hs] at h
  unfold FP at he
  split at he
  ·cases he; cases h
  ·cases he
 | none =>
  have hx : p.fVersions[i]? = some (p.fVersions.getD i 0) := by rw [lD]; simp [hi]
  have := GT hs i _ hx
  rw [Nat.zero_add] at this
  unfold FP at this
  split at this
  ·cases this
  ·rename_i hn; omega
theorem JT {p : Ag} {m : Ae} (hv : CF p = 0) (hm : Bt p m) : F0 p m = 0 := by
 obtain ⟨hp, _⟩ := C1 hv
 unfold F0
 rw [hv, if_neg (by simp), if_neg (by have := hm.base; have := hm.next; have := hm.held; omega)]
 have h1 : D1 (KW m) 0 p.fVersions = none := FD fun j x hx => by
  have hj := (lI.1 hx).1
  have e : p.fVersions.getD j 0 = x := by rw [lD, hx]; rfl
  have h1 := hm.b0 j hj
  have h2 := hm.n0 j hj
  have h3 := hm.ne j hj
  rw [e] at h1 h2
  unfold KW
  rw [Nat.zero_add, if_neg (by omega), if_neg h3]
 have h2 : D1 (IC p m) 0 p.fTables = none := FD fun j x hx => by
  have hj := (lI.1 hx).1
  rw [Nat.zero_add]
  exact (Qt hp hm.toMixServ hx (hm.range j hj)).2 ⟨fun hst => ⟨hm.low j x hx hst, hm.high j x hx hst⟩, fun hst => hm.none j x hx hst⟩
 rw [h1, h2]; rfl
def Nr {α : Type} (g : Nat → α → Bool) : Nat → List α → Bool
 | _, [] => false
 | i, x :: xs => g i x || Nr g (i + 1) xs
theorem KK {α β : Type} (g : Nat → α → List β) (h : Nat → α → Bool) : ∀ (i : Nat) (xs : List α) (a : List β) (b : Bool),
  HZ (fun i x (s : List β × Bool) => (s.1 ++ g i x, s.2 || h i x)) i xs (a, b) = (a ++ CQ g i xs, b || Nr h i xs)
 | _, [], a, b => by simp [HZ, CQ, Nr]
 | i, x :: xs, a, b => by rw [HZ, KK g h, CQ, Nr, List.append_assoc, Bool.or_assoc]
def gC (i u : Nat) (m : Ae) (t : AI) (v : Nat) (ok : Bool) : List Aw :=
 if H3 m t.fTo.toNat v && (!ok && !t.fAware) then [⟨(i : Int), (u : Int), (v : Int)⟩] else []
def hC (m : Ae) (t : AI) (v : Nat) (ok : Bool) : Bool := H3 m t.fTo.toNat v && ok
def Jz (i : Nat) (m : Ae) (t : AI) (u : Nat) (row : List Bool) : List Aw :=
 CQ (gC i u m t) 0 row ++ if t.fAware && !Nr (hC m t) 0 row then [⟨(i : Int), (u : Int), -1⟩] else []
def SS (m : Ae) (i : Nat) (t : AI) (u : Nat) : Bool := if Ce t then DG (m.fHeld.getD i 0) u else H3 m t.fFrom.toNat u
def Ji (m : Ae) (i : Nat) (t : AI) : List Aw := CQ (fun u row => if SS m i t u then Jz i m t u row else []) 0 t.fOK
def GK (p : Ag) (m : Ae) : List Aw := CQ (Ji m) 0 p.fTables
structure Nb (p : Ag) (t : AI) : Prop where
 kind : 1 ≤ t.fKind ∧ t.fKind ≤ 4
 aware : t.fAware = true → Ce t = false
 from0 : 0 ≤ t.fFrom ∧ t.fFrom < (p.fVersions.length : Int)
 to0 : 0 ≤ t.fTo ∧ t.fTo < (p.fVersions.length : Int)
 okL : (t.fOK.length : Int) = p.fVersions.getD t.fFrom.toNat 0
 okR : ∀ row, row ∈ t.fOK → (row.length : Int) = p.fVersions.getD t.fTo.toNat 0
 reL : t.fKind = 4 → (t.fRewrite.length : Int) = p.fVersions.getD t.fFrom.toNat 0
 reR : ∀ row, row ∈ t.fRewrite → (row.length : Int) = p.fVersions.getD t.fFrom.toNat 0
 reD : t.fKind = 4 → Id t.fRewrite = none
 reN : t.fKind ≠ 4 → t.fRewrite = []
theorem Mb {p : Ag} {t : AI} (h : D9 p t = 0) : Nb p t := by
 unfold D9 at h
 split at h
 ·cases h
 rename_i h1
 split at h
 ·cases h
 rename_i h2
 simp only at h
 split at h
 ·cases h
 rename_i h3
 have h3 : sq t.fOK (p.fVersions.getD t.fFrom.toNat 0) (p.fVersions.getD t.fTo.toNat 0) = true := by simpa using h3
 have h3 := MJ h3
 have ha : t.fAware = true → Ce t = false := by
  intro ha
  unfold Ce
  rw [Bool.or_eq_false_iff, beq_eq_false_iff_ne, beq_eq_false_iff_ne]
  exact ⟨fun hk => h1 (.inr (.inr ⟨ha, .inl hk⟩)), fun hk => h1 (.inr (.inr ⟨ha, .inr hk⟩))⟩
 split at h
 ·rename_i h4
  split at h
  ·cases h
  rename_i h5
  have h5 : sq t.fRewrite (p.fVersions.getD t.fFrom.toNat 0) (p.fVersions.getD t.fFrom.toNat 0) = true := by simpa using h5
  have h5 := MJ h5
  refine ⟨by omega, ha, by omega, by omega, h3.1, h3.2, fun _ => h5.1, h5.2, fun _ => ?_, fun h => (h h4).elim⟩
  cases hd : Id t.fRewrite with
  | none => rfl
  | some r =>
   obtain ⟨j, x, _, hx⟩ := FN hd
   rw [hd] at h
   split at hx
   ·cases hx
   ·cases hx; cases h
 ·rename_i h4
  split at h
  ·rename_i h5
   have h5 := List.eq_nil_of_length_eq_zero h5
   refine ⟨by omega, ha, by omega, by omega, h3.1, h3.2, fun h => (h4 h).elim, fun row hr => ?_, fun h => (h4 h).elim, fun _ => h5⟩
   rw [h5] at hr; cases hr
  ·cases h
theorem Kd {R : Type} (b : Bool) (acc : List Aw) (x : Aw) (j : List Aw → Option R) (h : acc.length + 1 ≤ Du) :
  AV b ((DT (acc.length + ([x] : List Aw).length ≤ Du)).bind fun _ => j (acc ++ [x])) (j acc) = j (acc ++ if b then [x] else []) := by
 cases b
 ·simp
 ·rw [AN, AA (by simpa using h)]; rfl
theorem Qx (N : Nat) (m : Ae) (t : AI) (i u : Nat) (row : List Bool) (R : Int) (b1 b2 acc : List Aw) (j : List Aw × Bool → Option (List Aw))
  (hN : N ≤ 1000000) (h8 : 8 ≤ N) (hrow : row.length ≤ 6) (hacc : acc.length + 6 ≤ Du) (hR0 : 0 ≤ R) (hR1 : R ≤ 255) (hRb : ∀ v, DG R v = H3 m t.fTo.toNat v) :
  BV N (b1, (i : Int)) t R (b2, (u : Int)) row j N (acc, false, 0) = j (acc ++ CQ (gC i u m t) 0 row, Nr (hC m t) 0 row) := by
 have := H9 (A := List Aw × Bool) (BV N (b1, (i : Int)) t R (b2, (u : Int)) row j) (fun a k => (a.1, a.2, k)) row (fun a => j a) (fun v ok s => (s.1 ++ gC i u m t v ok, s.2 || hC m t v ok))
  (fun v a => v ≤ row.length ∧ a.1.length ≤ acc.length + v)
  (fun n v ok a hx ha => by
   have hv := (lI.1 hx).1
   obtain ⟨c, f⟩ := a
   simp only at ha
   refine ⟨?_, by omega, ?_⟩
   ·rw [BV]
    simp only [A6]
    rw [AC (by omega), A5, hx]
    simp only [oS]
    rw [AA (by omega), Ra hR0 hR1 (by omega), hRb, AR (by omega), Kd _ _ _ (fun l => BV N (b1, (i : Int)) t R (b2, (u : Int)) row j n (l, true, ((v + 1 : Nat) : Int))) (by omega)]
    unfold gC hC
    rw [Kd _ _ _ (fun l => BV N (b1, (i : Int)) t R (b2, (u : Int)) row j n (l, ok, ((v + 1 : Nat) : Int))) (by omega)]
    cases H3 m t.fTo.toNat v
    ·simp
    ·cases ok <;> cases f <;> cases t.fAware <;> simp
   ·simp only [gC, List.length_append]
    split <;> simp <;> omega)
  (fun n a _ => by
   rw [BV]
   simp only [A6]
   rw [Az (by omega)]) N 0 (acc, false) (by omega) (by omega) ⟨by omega, by simp⟩
 have h2 := this.1
 rw [List.drop_zero, KK, Bool.false_or] at h2
 exact h2
theorem MN {p : Ag} {t : AI} (hp : Bl p) (ht : Nb p t) : t.fOK.length ≤ 6 ∧ ∀ row, row ∈ t.fOK → row.length ≤ 6 := by
 have h1 := J8 hp.ver ht.from0.1 ht.from0.2
 have h2 := J8 hp.ver ht.to0.1 ht.to0.2
 have h3 := ht.okL
 exact ⟨by omega, fun row hr => by have := ht.okR row hr; omega⟩
theorem RT (i u : Nat) (m : Ae) (t : AI) (v : Nat) (ok : Bool) : (gC i u m t v ok).length ≤ 1 := by
 unfold gC; split <;> simp
theorem RM (i : Nat) (m : Ae) (t : AI) (u : Nat) (row : List Bool) (h : row.length ≤ 6) : (Jz i m t u row).length ≤ 7 := by
 unfold Jz
 rw [List.length_append]
 have := FL (g := gC i u m t) (c := 1) (i := 0) (xs := row) (fun j x _ => RT _ _ _ _ _ _)
 split <;> simp <;> omega
theorem RD (i : Nat) (m : Ae) (t : AI) (u : Nat) (row : List Bool) (h : row.length ≤ 6) : (if SS m i t u = true then Jz i m t u row else []).length ≤ 7 := by
 have := RM i m t u row h
 split <;> simp <;> omega
theorem Mz {p : Ag} {t : AI} (hp : Bl p) (ht : Nb p t) (i : Nat) (m : Ae) : (Ji m i t).length ≤ 42 := by
 have h1 := MN hp ht
 have := FL (g := fun u row => if SS m i t u = true then Jz i m t u row else []) (c := 7) (i := 0) (xs := t.fOK) (fun j x hx => RD i m t _ x (h1.2 x (lM hx)))
 unfold Ji
 omega
theorem LH (N : Nat) (p : Ag) (m : Ae) (t : AI) (i : Nat) (W R : Int) (b1 acc : List Aw) (j : List Aw → Option (List Aw))
  (hN : N ≤ 1000000) (h8 : 8 ≤ N) (hp : Bl p) (ht : Nb p t) (hacc : acc.length + 42 ≤ 10000) (hR0 : 0 ≤ R) (hR1 : R ≤ 255) (hRb : ∀ v, DG R v = H3 m t.fTo.toNat v) (hW0 : 0 ≤ W) (hW1 : W ≤ 255) (hWb : ∀ v, DG W v = SS m i t v) :
  Cm N (b1, (i : Int)) t R W j N (acc, 0) = j (acc ++ Ji m i t) := by
 have hl := MN hp ht
 exact Gf (Cm N (b1, (i : Int)) t R W j) (fun a k => (a, k)) t.fOK j (fun u row => if SS m i t u then Jz i m t u row else []) 7 10000
  (fun u row hx => RD i m t u row (hl.2 row (lM hx)))
  (fun n u row a hx ha => by
   have hu := (lI.1 hx).1
   have hrow := hl.2 row (lM hx)
   rw [Cm]
   simp only [A6]
   rw [AC (by omega), AA (by omega), Ra hW0 hW1 (by omega), hWb, A5, hx]
   simp only [oS]
   rw [Qx N m t i u row R b1 a a _ hN h8 hrow (by unfold Du; omega) hR0 hR1 hRb, AR (by omega)]
   cases hw : SS m i t u
   ·simp
   ·simp only [Bool.not_true, As, if_true, Jz]
    have h1 := FL (g := gC i u m t) (c := 1) (i := 0) (xs := row) (fun j x _ => RT _ _ _ _ _ _)
    have := Kd (R := List Aw) (t.fAware && !Nr (hC m t) 0 row) (a ++ CQ (gC i u m t) 0 row) ⟨(i : Int), (u : Int), -1⟩ (fun l => Cm N (b1, (i : Int)) t R W j n (l, ((u + 1 : Nat) : Int))) (by rw [List.length_append]; unfold Du; rw [hw, if_pos rfl] at ha; omega)
    rw [← List.append_assoc, ← this]
    cases t.fAware <;> cases Nr (hC m t) 0 row <;> rfl)
  (fun n a => by
   rw [Cm]
   simp only [A6]
   rw [Az (by omega)]) N acc (by omega) (by omega)
theorem Qu (N : Nat) (p : Ag) (m : Ae) (t : AI) (i u : Nat) (row : List Bool) (b1 b2 acc : List Aw) (j : List Aw × Bool → Option (List Aw))
  (hN : N ≤ 1000000) (h8 : 8 ≤ N) (hp : Bl p) (hm : MixServ p m) (ht : Nb p t) (hu : t.fOK[u]? = some row) (hacc : acc.length + 6 ≤ Du) :
  Br N p m (b1, (i : Int)) t (b2, (u : Int)) j N (acc, false, 0) = j (acc ++ CQ (gC i u m t) 0 row, Nr (hC m t) 0 row) := by
 have hrow := (MN hp ht).2 row (lM hu)
 have hR := HE hp hm (s := t.fTo.toNat) (by have := ht.to0; omega)
 have hlen := ht.okR row (lM hu)
 have hto := ht.to0
 have := H9 (A := List Aw × Bool) (Br N p m (b1, (i : Int)) t (b2, (u : Int)) j) (fun a k => (a.1, a.2, k)) row (fun a => j a) (fun v ok s => (s.1 ++ gC i u m t v ok, s.2 || hC m t v ok))
  (fun v a => v ≤ row.length ∧ a.1.length ≤ acc.length + v)
  (fun n v ok a hx ha => by
   have hv := (lI.1 hx).1
   obtain ⟨c, f⟩ := a
   simp only at ha
   refine ⟨?_, by omega, ?_⟩
   ·rw [Br]
    simp only [A6]
    rw [EH (d := 0) hto.1 hto.2, Jt N m t.fTo hto.1 (by rw [hm.base]; exact hto.2) (by rw [hm.next]; exact hto.2) (hm.b0 _ (by omega)).1, A5, hu]
    simp only [oS]
    unfold Ct
    rw [AC (by omega), A5, hx, AA (by omega), Q2 hR.2.1 hR.2.2 (by omega), hR.1]
    simp only [oS]
    rw [AR (by omega), Kd _ _ _ (fun l => Br N p m (b1, (i : Int)) t (b2, (u : Int)) j n (l, true, ((v + 1 : Nat) : Int))) (by omega)]
    unfold gC hC
    rw [Kd _ _ _ (fun l => Br N p m (b1, (i : Int)) t (b2, (u : Int)) j n (l, ok, ((v + 1 : Nat) : Int))) (by omega)]
    cases H3 m t.fTo.toNat v
    ·simp
    ·cases ok <;> cases f <;> cases t.fAware <;> simp
   ·simp only [gC, List.length_append]
    split <;> simp <;> omega)
  (fun n a _ => by
   rw [Br]
   simp only [A6]
   rw [EH (d := 0) hto.1 hto.2]
   simp only [oS]
   rw [Az (by omega)]) N 0 (acc, false) (by omega) (by omega) ⟨by omega, by simp⟩
 have h2 := this.1
 rw [List.drop_zero, KK, Bool.false_or] at h2
 exact h2
theorem Lg (N : Nat) (p : Ag) (m : Ae) (t : AI) (i : Nat) (W : Int) (b1 acc : List Aw) (j : List Aw → Option (List Aw))
  (hN : N ≤ 1000000) (h8 : 8 ≤ N) (hp : Bl p) (hm : MixServ p m) (ht : Nb p t) (hacc : acc.length + 42 ≤ 10000) (hW0 : 0 ≤ W) (hW1 : W ≤ 255) (hWb : ∀ v, DG W v = SS m i t v) :
  BG N p m (b1, (i : Int)) t W j N (acc, 0) = j (acc ++ Ji m i t) := by
 have hl := MN hp ht
 have hfr := ht.from0
 have hok := ht.okL
 exact Gf (BG N p m (b1, (i : Int)) t W j) (fun a k => (a, k)) t.fOK j (fun u row => if SS m i t u then Jz i m t u row else []) 7 10000
  (fun u row hx => RD i m t u row (hl.2 row (lM hx)))
  (fun n u row a hx ha => by
   have hu := (lI.1 hx).1
   have hrow := hl.2 row (lM hx)
   rw [BG]
   simp only [A6]
   rw [EH (d := 0) hfr.1 hfr.2]
   simp only [oS]
   unfold Ct
   rw [AC (by omega), AA (by omega), Q2 hW0 hW1 (by omega), hWb]
   simp only [oS]
   rw [Qu N p m t i u row b1 a a _ hN h8 hp hm ht hx (by unfold Du; omega), AR (by omega)]
   cases hw : SS m i t u
   ·simp
   ·simp only [Bool.not_true, As, if_true, Jz]
    have h1 := FL (g := gC i u m t) (c := 1) (i := 0) (xs := row) (fun j x _ => RT _ _ _ _ _ _)
    have := Kd (R := List Aw) (t.fAware && !Nr (hC m t) 0 row) (a ++ CQ (gC i u m t) 0 row) ⟨(i : Int), (u : Int), -1⟩ (fun l => BG N p m (b1, (i : Int)) t W j n (l, ((u + 1 : Nat) : Int))) (by rw [List.length_append]; unfold Du; rw [hw, if_pos rfl] at ha; omega)
    rw [← List.append_assoc, ← this]
    cases t.fAware <;> cases Nr (hC m t) 0 row <;> rfl)
  (fun n a => by
   rw [BG]
   simp only [A6]
   rw [EH (d := 0) hfr.1 hfr.2]
   simp only [oS]
   rw [Az (by omega)]) N acc (by omega) (by omega)
theorem LM (N : Nat) (p : Ag) (m : Ae) (hN : N ≤ 1000000) (h20 : 20 ≤ N) (hp : Bl p) (hm : Bt p m) : Fn N p m = some (GK p m) := by
 unfold Fn
 have hnt := hp.nt
 rw [Gf (Di N p m _) (fun a k => (a, k)) p.fTables some (Ji m) 42 9000
  (fun i t hx => Mz hp (Mb (hp.tab t (lM hx))) i m)
  (fun n i t a hx ha => by
   have hi := (lI.1 hx).1
   have ht := Mb (hp.tab t (lM hx))
   have hto := ht.to0
   have hfr := ht.from0
   have hR := HE hp hm.toMixServ (s := t.fTo.toNat) (by omega)
   have hF := HE hp hm.toMixServ (s := t.fFrom.toNat) (by omega)
   have hH := hm.range i hi
   rw [Di]
   simp only [A6]
   rw [AC (by omega), A5, hx]
   simp only [oS, IR]
   rw [KM N m t.fFrom hfr.1 (by rw [hm.base]; exact hfr.2) (by rw [hm.next]; exact hfr.2) (hm.b0 _ (by omega)).1, KM N m t.fTo hto.1 (by rw [hm.base]; exact hto.2) (by rw [hm.next]; exact hto.2) (hm.b0 _ (by omega)).1, Dh (d := 0) (by rw [hm.held]; exact hi), AR (by omega)]
   simp only [oS]
   cases hs : Ce t
   ·rw [As, LH N p m t i _ _ a a _ hN (by omega) hp ht (by omega) hR.2.1 hR.2.2 hR.1 hF.2.1 hF.2.2 (fun v => by unfold SS; rw [hs, hF.1]; rfl)]
   ·rw [AN, LH N p m t i _ _ a a _ hN (by omega) hp ht (by omega) hR.2.1 hR.2.2 hR.1 hH.1 hH.2 (fun v => by unfold SS; rw [hs]; rfl)])
  (fun n a => by
   rw [Di]
   simp only [A6]
   rw [Az (by omega)]) N [] (by omega) (by simp; omega)]
 rfl
theorem LP (N : Nat) (p : Ag) (m : Ae) (hN : N ≤ 1000000) (h20 : 20 ≤ N) (hp : Bl p) (hm : Bt p m) : Ey N p m = some (GK p m) := by
 unfold Ey
 have hnt := hp.nt
 rw [Gf (CB N p m _) (fun a k => (a, k)) p.fTables some (Ji m) 42 9000
  (fun i t hx => Mz hp (Mb (hp.tab t (lM hx))) i m)
  (fun n i t a hx ha => by
   have hi := (lI.1 hx).1
   have ht := Mb (hp.tab t (lM hx))
   have hto := ht.to0
   have hfr := ht.from0
   have hF := HE hp hm.toMixServ (s := t.fFrom.toNat) (by omega)
   have hH := hm.range i hi
   rw [CB]
   simp only [A6]
   rw [AC (by omega), A5, hx]
   simp only [oS, Gr]
   rw [Jt N m t.fFrom hfr.1 (by rw [hm.base]; exact hfr.2) (by rw [hm.next]; exact hfr.2) (hm.b0 _ (by omega)).1, Dh (d := 0) (by rw [hm.held]; exact hi), AR (by omega)]
   simp only [oS]
   cases hs : Ce t
   ·rw [As, Lg N p m t i _ a a _ hN (by omega) hp hm.toMixServ ht (by omega) hF.2.1 hF.2.2 (fun v => by unfold SS; rw [hs, hF.1]; rfl)]
   ·rw [AN, Lg N p m t i _ a a _ hN (by omega) hp hm.toMixServ ht (by omega) hH.1 hH.2 (fun v => by unfold SS; rw [hs]; rfl)])
  (fun n a => by
   rw [CB]
   simp only [A6]
   rw [Az (by omega)]) N [] (by omega) (by simp; omega)]
 rfl
theorem EU {A S R : Type} (L : Nat → S → Option R) (mk : A → Int → S) (len : Nat) (j : A → Option R) (I : Nat → A → Prop)
  (hs : ∀ (n i : Nat) (a : A), i < len → I i a → ∃ a', L (n + 1) (mk a (i : Int)) = L n (mk a' ((i + 1 : Nat) : Int)) ∧ I (i + 1) a')
  (he : ∀ (n : Nat) (a : A), I len a → L (n + 1) (mk a (len : Int)) = j a) :
  ∀ (n i : Nat) (a : A), i ≤ len → len - i < n → I i a → ∃ a', L n (mk a (i : Int)) = j a' ∧ I len a'
 | 0, i, _, _, h, _ => by omega
 | n + 1, i, a, hi, h, ha => by
  by_cases h1 : i < len
  ·obtain ⟨a', e1, e2⟩ := hs n i a h1 ha
   rw [e1]
   exact EU L mk len j I hs he n (i + 1) _ (by omega) (by omega) e2
  ·have : i = len := by omega
   subst this
   exact ⟨a, he n a ha, ha⟩
theorem Iy {α : Type} {xs ys : List α} {i : Nat} {d : α} (h : i < xs.length) : (xs ++ ys).getD i d = xs.getD i d := by
 rw [lD, lD, List.getElem?_append_left h]
theorem IG {α : Type} {xs : List α} {y : α} {i : Nat} {d : α} (h : i = xs.length) : (xs ++ [y]).getD i d = y := by
 subst h; rw [lD, List.getElem?_append_right (Nat.le_refl _)]; simp
theorem NQ {α : Type} {P : Nat → α → Prop} {xs : List α} {y : α} {d : α} {n : Nat} (hn : xs.length = n) (h : ∀ k, k < n → P k (xs.getD k d)) (hy : P n y) : ∀ k, k < n + 1 → P k ((xs ++ [y]).getD k d) := by
 intro k hk
 by_cases h1 : k < n
 ·rw [Iy (by omega)]; exact h k h1
 ·have : k = n := by omega
  subst this
  rw [IG hn.symm]; exact hy
theorem Su {l : List Int} (hw : Oa KR l) (i : Nat) : 0 ≤ l.getD i 0 ∧ l.getD i 0 ≤ 255 := by
 by_cases h : i < l.length
 ·have : l.getD i 0 ∈ l := by rw [lD, List.getElem?_eq_getElem h]; exact List.getElem_mem _
  exact Ir (hw _ this)
 ·rw [lD, List.getElem?_eq_none (by omega)]
  exact ⟨by decide, by decide⟩
theorem OW (N : Nat) {l : List Int} (hw : Oa KR l) (i : Nat) : DY N l (i : Int) = some (l.getD i 0) := by
 unfold DY
 have h2 := Su hw i
 by_cases h : i < l.length
 ·rw [AC (by omega), Dh (d := 0) h]
  simp only [oS]
  rw [CR (by omega) (by omega)]
 ·rw [Az (by omega), lD, List.getElem?_eq_none (by omega)]; rfl
theorem Hx {a n : Int} (ha : 0 ≤ a) (hn : 0 < n) : 0 ≤ Int.tmod a n ∧ Int.tmod a n < n := ⟨Int.tmod_nonneg n ha, Int.tmod_lt_of_pos a hn⟩
theorem Wp {l : List (List Bool)} {n m : Int} (h1 : (l.length : Int) = n) (h2 : ∀ row, row ∈ l → (row.length : Int) = m) : sq l n m = true := by
 unfold sq
 simp only [Bool.and_eq_true, decide_eq_true_eq, List.all_eq_true]
 exact ⟨h1, h2⟩
theorem Xb {p : Ag} {t : AI} (h : Nb p t) : D9 p t = 0 := by
 have hk := h.kind
 have hf := h.from0
 have ht := h.to0
 unfold D9
 rw [if_neg, if_neg (by omega)]
 ·simp only [Wp h.okL h.okR]
  rw [if_neg (by simp)]
  by_cases h4 : t.fKind = 4
  ·rw [if_pos h4, Wp (h.reL h4) h.reR, if_neg (by simp), h.reD h4]; rfl
  ·rw [if_neg h4, h.reN h4]; rfl
 ·rintro (h1 | h1 | ⟨h1, h2⟩)
  ·omega
  ·omega
  ·have := h.aware h1
   unfold Ce at this
   rw [Bool.or_eq_false_iff, beq_eq_false_iff_ne, beq_eq_false_iff_ne] at this
   omega
theorem Up (N : Nat) (m bad : Int) (diag : Bool) (i : Nat) (acc : List (List Bool)) {_R : Type} (j : List Bool → Option (List (List Bool))) (hN : N ≤ 1000000) (h20 : 20 ≤ N) (hm : 0 ≤ m ∧ m ≤ 6) (hi : i < 6) :
  ∃ row, Ck N m bad diag (acc, (i : Int)) j N ([], 0) = j row ∧ (row.length : Int) = m ∧ (diag = true → (i : Int) < m → row.getD i false = true) := by
 obtain ⟨M, rfl⟩ := Int.eq_ofNat_of_zero_le hm.1
 obtain ⟨row, e, h1, h2⟩ := EU (A := List Bool) (Ck N (M : Int) bad diag (acc, (i : Int)) j) (fun a k => (a, k)) M j
  (fun k a => a.length = k ∧ ∀ q, q < k → diag = true → q = i → a.getD q false = true)
  (fun n k a hk ha => by
   refine ⟨a ++ [(diag && decide (i = k)) || (Int.tmod (Em .u16 bad ((3 * i + k : Nat) : Int)) 2 == 0)], ?_, by simp [ha.1], NQ (P := fun q y => diag = true → q = i → y = true) ha.1 ha.2 (fun h1 h2 => by simp [h1, h2])⟩
   rw [Ck]
   simp only [A6]
   rw [AC (by omega), AR (by omega), CR (n := 3 * (i : Int)) (by omega) (by omega), CR (n := 3 * (i : Int) + (k : Int)) (by omega) (by omega)]
   have l1 : ∀ y : Bool, a.length + ([y] : List Bool).length ≤ Du := by intro y; rw [ha.1]; unfold Du; simp; omega
   simp only [AA (l1 _), AA (show (0 : Int) ≤ 3 * (i : Int) + (k : Int) by omega)]
   have e1 : ((3 * i + k : Nat) : Int) = 3 * (i : Int) + (k : Int) := by omega
   rw [e1]
   have e2 : (((i : Nat) : Int) == ((k : Nat) : Int)) = decide (i = k) := by
    by_cases h : i = k
    ·simp [h]
    ·rw [decide_eq_false h]; exact beq_eq_false_iff_ne.2 (by omega)
   rw [e2]
   cases diag <;> cases decide (i = k) <;> rfl)
  (fun n a _ => by
   rw [Ck]
   simp only [A6]
   rw [Az (by omega)]) N 0 [] (Nat.zero_le _) (by omega) ⟨rfl, fun q hq => by omega⟩
 exact ⟨row, e, by omega, fun hd hlt => h2 i (by omega) hd rfl⟩
theorem Sy (N : Nat) (n m bad : Int) (diag : Bool) (hN : N ≤ 1000000) (h20 : 20 ≤ N) (hn : 0 ≤ n ∧ n ≤ 6) (hm : 0 ≤ m ∧ m ≤ 6) :
  ∃ l, DW N n m bad diag = some l ∧ (l.length : Int) = n ∧ (∀ row, row ∈ l → (row.length : Int) = m) ∧ (diag = true → n = m → Id l = none) := by
 obtain ⟨M, rfl⟩ := Int.eq_ofNat_of_zero_le hn.1
 unfold DW
 obtain ⟨l, e, h1, h2⟩ := EU (A := List (List Bool)) (Cl N (M : Int) m bad diag (fun v => some v)) (fun a k => (a, k)) M some
  (fun k a => a.length = k ∧ ∀ q, q < k → (((a.getD q []).length : Nat) : Int) = m ∧ (diag = true → (q : Int) < m → (a.getD q []).getD q false = true))
  (fun n k a hk ha => by
   obtain ⟨row, e, h1, h2⟩ := Up (_R := Unit) N m bad diag k a (fun (v5 : List Bool) =>
    (DT (a.length + (([v5] : List (List Bool))).length ≤ Du)).bind fun _ =>
    Cl N (M : Int) m bad diag (fun v => some v) n (a ++ (([v5] : List (List Bool))), (wI .i64 ((k : Int) + 1)))) hN h20 hm (by omega)
   refine ⟨a ++ [row], ?_, by simp [ha.1], NQ (P := fun q y => ((y.length : Nat) : Int) = m ∧ (diag = true → (q : Int) < m → y.getD q false = true)) ha.1 ha.2 ⟨h1, h2⟩⟩
   rw [Cl]
   simp only
   rw [AC (by omega), e, AA (by rw [ha.1]; unfold Du; simp; omega), AR (by omega)])
  (fun n a _ => by
   rw [Cl]
   simp only
   rw [Az (by omega)]) N 0 [] (Nat.zero_le _) (by omega) ⟨rfl, fun q hq => by omega⟩
 have key : ∀ q row, l[q]? = some row → l.getD q [] = row := fun q row hq => by rw [lD, hq]; rfl
 refine ⟨l, e, by omega, fun row hr => ?_, fun hd hnm => ?_⟩
 ·obtain ⟨q, hq⟩ := List.mem_iff_getElem?.1 hr
  have := (h2 q (by have := (lI.1 hq).1; omega)).1
  rwa [key q row hq] at this
 ·unfold Id
  refine FD fun q row hq => ?_
  have hlt := (lI.1 hq).1
  have := (h2 q (by omega)).2 hd (by omega)
  rw [key q row hq] at this
  rw [Nat.zero_add, this]; rfl
structure Wj (p : Ag) : Prop where
 valid : CF p = 0
 nv : p.fVersions.length ≤ 3
 nt : p.fTables.length ≤ 4
 v3 : ∀ v, v ∈ p.fVersions → v ≤ 3
theorem SG {p q : Ag} (h : p.fVersions = q.fVersions) (t : AI) : D9 p t = D9 q t := by
 unfold D9; rw [h]
theorem Zp (N : Nat) (d : Ci) (hN : N ≤ 1000000) (h20 : 20 ≤ N) (hw : E4 d) : ∃ p ok, E0 N d = some (p, ok) ∧ (ok = true → Wj p) := by
 obtain ⟨w1, w2, w3, w4, _⟩ := hw
 unfold E0
 simp only [A6]
 by_cases k1 : 3 < d.fVersions.length
 ·rw [AC (by omega)]; exact ⟨_, false, rfl, fun h => by cases h⟩
 by_cases k2 : 4 < d.fLinks.length
 ·rw [Az (by omega), decide_eq_true (by omega : (4 : Int) < (d.fLinks.length : Int))]; exact ⟨_, false, rfl, fun h => by cases h⟩
 rw [Az (by omega), decide_eq_false (by omega : ¬ (4 : Int) < (d.fLinks.length : Int)), As]
 obtain ⟨⟨vs, ns, ts⟩, e, h1, h2, h3, h4⟩ := EU (A := List Int × List Int × List Int) (CG N d fun v5 => BE N d v5 (fun v16 => some (Ag.mk v5.1 v5.2.1 v5.2.2 v16, true)) N ([], 0)) (fun a k => (a.1, a.2.1, a.2.2, k)) d.fVersions.length
  (fun v5 => BE N d v5 (fun v16 => some (Ag.mk v5.1 v5.2.1 v5.2.2 v16, true)) N ([], 0))
  (fun i a => a.1.length = i ∧ a.2.1.length = i ∧ a.2.2.length = i ∧ (∀ k, k < i → (1 ≤ a.1.getD k 0 ∧ a.1.getD k 0 ≤ 3) ∧ (0 ≤ a.2.1.getD k 0 ∧ a.2.1.getD k 0 < a.1.getD k 0) ∧ (0 ≤ a.2.2.getD k 0 ∧ a.2.2.getD k 0 < a.1.getD k 0)))
  (fun n i a hi ha => by
   obtain ⟨vs, ns, ts⟩ := a
   obtain ⟨h1, h2, h3, h4⟩ := ha
   simp only at h1 h2 h3 h4
   have hv := Su w1 i
   have hb := Su w2 i
   have hk := Su w3 i
   have hm := Hx (n := 3) hv.1 (by omega)
   obtain ⟨v, hvd⟩ : ∃ v, v = 1 + Int.tmod (d.fVersions.getD i 0) 3 := ⟨_, rfl⟩
   have m1 := Hx (n := v) hb.1 (by omega)
   have m2 := Hx (n := v) hk.1 (by omega)
   refine ⟨(vs ++ [v], ns ++ [Int.tmod (d.fNow.getD i 0) v], ts ++ [Int.tmod (d.fTarget.getD i 0) v]), ?_, by simp [h1], by simp [h2], by simp [h3], ?_⟩
   ·rw [CG]
    simp only
    rw [AC (by omega), Dh (d := 0) hi, OW N w2, OW N w3]
    simp only [oS]
    rw [CR (n := Int.tmod _ _) (by omega) (by omega), CR (n := 1 + _) (by omega) (by omega), ← hvd, AR (by omega)]
    have l1 : ∀ y : Int, vs.length + ([y] : List Int).length ≤ Du := by intro y; rw [h1]; unfold Du; simp; omega
    have l2 : ∀ y : Int, ns.length + ([y] : List Int).length ≤ Du := by intro y; rw [h2]; unfold Du; simp; omega
    have l3 : ∀ y : Int, ts.length + ([y] : List Int).length ≤ Du := by intro y; rw [h3]; unfold Du; simp; omega
    simp only [AA (l1 _), AA (l2 _), AA (l3 _), AA (show v ≠ 0 by omega)]
   ·intro k hk
    simp only
    by_cases hki : k < i
    ·rw [Iy (by omega), Iy (by omega), Iy (by omega)]; exact h4 k hki
    ·have : k = i := by omega
     subst this
     rw [IG h1.symm, IG h2.symm, IG h3.symm]
     omega)
  (fun n a _ => by
   rw [CG]
   simp only
   rw [Az (by omega)]) N 0 ([], [], []) (Nat.zero_le _) (by omega) ⟨rfl, rfl, rfl, fun k hk => by omega⟩
 simp only at h1 h2 h3 h4
 have e' : CG N d (fun v5 => BE N d v5 (fun v16 => some (Ag.mk v5.1 v5.2.1 v5.2.2 v16, true)) N ([], 0)) N ([], [], [], 0) = _ := e
 rw [e']
 have hvs : ∀ v, v ∈ vs → 1 ≤ v ∧ v ≤ 3 := by
  intro v hv
  obtain ⟨q, hq⟩ := List.mem_iff_getElem?.1 hv
  have := (h4 q (by have := (lI.1 hq).1; omega)).1
  rwa [lD, hq] at this
 have fin : ∀ tabs : List AI, tabs.length ≤ 4 → (∀ t, t ∈ tabs → D9 ⟨vs, ns, ts, []⟩ t = 0) → Wj ⟨vs, ns, ts, tabs⟩ := by
  intro tabs ht h
  have hp : Bl ⟨vs, ns, ts, tabs⟩ := ⟨show vs.length ≤ 6 by omega, show tabs.length ≤ 12 by omega, show ns.length = vs.length by omega, show ts.length = vs.length by omega, fun v hv => by have := hvs v hv; omega, fun t ht => by rw [← h t ht]; exact SG rfl t⟩
  exact ⟨PF hp fun i hi => by have := h4 i (by have : i < vs.length := hi; omega); simp only; omega, show vs.length ≤ 3 by omega, ht, fun v hv => (hvs v hv).2⟩
 by_cases k3 : vs.length = 0
 ·refine ⟨_, true, ?_, fun _ => fin [] (by simp) (fun t ht => by cases ht)⟩
  obtain ⟨M, rfl⟩ : ∃ M, N = M + 1 := ⟨N - 1, by omega⟩
  rw [BE]
  simp only [A6]
  rw [k3]
  by_cases k4 : (0 : Int) < (d.fLinks.length : Int)
  ·rw [AC k4]; rfl
  ·rw [Az k4]; rfl
 obtain ⟨tabs, e2, g1, g2⟩ := EU (A := List AI) (BE N d (vs, ns, ts) (fun v16 => some (Ag.mk vs ns ts v16, true))) (fun a k => (a, k)) d.fLinks.length (fun v16 => some (Ag.mk vs ns ts v16, true))
  (fun i a => a.length = i ∧ ∀ t, t ∈ a → D9 ⟨vs, ns, ts, []⟩ t = 0)
  (fun n i a hi ha => by
   have hx : d.fLinks[i]? = some d.fLinks[i] := by simp [hi]
   generalize d.fLinks[i] = l at hx
   obtain ⟨u1, u2, u3, _, u5, u6, _⟩ := w4 l (lM hx)
   have u1 := Ir u1
   have u2 := Ir u2
   have u3 := Ir u3
   have mk := Hx (n := 4) u1.1 (by omega)
   have hL : (0 : Int) < (vs.length : Int) := by omega
   have mf := Hx (n := (vs.length : Int)) u2.1 hL
   have mt := Hx (n := (vs.length : Int)) u3.1 hL
   rw [BE]
   simp only [A6]
   rw [AC (by omega), decide_eq_true hL, AN, A5, hx]
   simp only [oS]
   rw [AA (by omega), AA (by omega), CR (n := l.fFrom) (by omega) (by omega), CR (n := l.fTo) (by omega) (by omega), CR (n := Int.tmod l.fKind 4) (by omega) (by omega), CR (n := 1 + _) (by omega) (by omega), AR (by omega)]
   simp only [LO, oS]
   rw [EH (d := 0) mf.1 mf.2, EH (d := 0) mt.1 mt.2]
   simp only [oS]
   have hA : ∀ q : Int, 0 ≤ q → q < (vs.length : Int) → 1 ≤ vs.getD q.toNat 0 ∧ vs.getD q.toNat 0 ≤ 3 := fun q h0 h1 => (h4 q.toNat (by omega)).1
   have hf := hA _ mf.1 mf.2
   have ht := hA _ mt.1 mt.2
   obtain ⟨A, eA, a1, a2, _⟩ := Sy N (vs.getD (Int.tmod l.fFrom (vs.length : Int)).toNat 0) (vs.getD (Int.tmod l.fTo (vs.length : Int)).toNat 0) l.fBad false hN h20 (by omega) (by omega)
   obtain ⟨B, eB, b1, b2, b3⟩ := Sy N (vs.getD (Int.tmod l.fFrom (vs.length : Int)).toNat 0) (vs.getD (Int.tmod l.fFrom (vs.length : Int)).toNat 0) l.fLost true hN h20 (by omega) (by omega)
   rw [eA, eB]
   simp only [oS]
   have l1 : ∀ y : AI, a.length + ([y] : List AI).length ≤ Du := by intro y; rw [ha.1]; unfold Du; simp; omega
   simp only [AA (l1 _)]
   obtain ⟨kd, hkd⟩ : ∃ kd, kd = 1 + Int.tmod l.fKind 4 := ⟨_, rfl⟩
   rw [← hkd]
   have fin2 : ∀ (aw : Bool) (re : List (List Bool)), (aw = true → (kd == 3 || kd == 4) = false) → ((kd = 4 → re = B) ∧ (kd ≠ 4 → re = [])) →
     D9 ⟨vs, ns, ts, []⟩ (AI.mk kd (Int.tmod l.fFrom (vs.length : Int)) (Int.tmod l.fTo (vs.length : Int)) aw A re) = 0 := by
    intro aw re haw hre
    refine Xb ⟨show 1 ≤ kd ∧ kd ≤ 4 by omega, haw, mf, mt, a1, a2, fun h => by rw [hre.1 h]; exact b1, fun row hr => ?_, fun h => by rw [hre.1 h]; exact b3 rfl rfl, fun h => hre.2 h⟩
    by_cases h4 : kd = 4
    ·simp only at hr; rw [hre.1 h4] at hr; exact b2 row hr
    ·simp only at hr; rw [hre.2 h4] at hr; cases hr
   have app : ∀ t, D9 ⟨vs, ns, ts, []⟩ t = 0 → (a ++ [t]).length = i + 1 ∧ ∀ t', t' ∈ a ++ [t] → D9 ⟨vs, ns, ts, []⟩ t' = 0 := by
    intro t ht
    refine ⟨by simp [ha.1], fun t' ht' => ?_⟩
    rcases List.mem_append.1 ht' with h | h
    ·exact ha.2 t' h
    ·rw [List.mem_singleton.1 h]; exact ht
   by_cases h4 : kd = 4
   ·have e4 : (kd == 4) = true := beq_iff_eq.2 h4
    have hre : (kd = 4 → B = B) ∧ (kd ≠ 4 → B = []) := ⟨fun _ => rfl, fun h => (h h4).elim⟩
    rw [e4]
    simp only [AN, Bool.or_true, Bool.not_true]
    cases l.fAware
    ·exact ⟨_, rfl, app _ (fin2 false B (fun h => by cases h) hre)⟩
    ·exact ⟨_, rfl, app _ (fin2 false B (fun h => by cases h) hre)⟩
   ·have e4 : (kd == 4) = false := beq_eq_false_iff_ne.2 h4
    have hre : (kd = 4 → ([] : List (List Bool)) = B) ∧ (kd ≠ 4 → ([] : List (List Bool)) = []) := ⟨fun h => (h4 h).elim, fun _ => rfl⟩
    rw [e4]
    simp only [As, Bool.or_false]
    cases l.fAware
    ·exact ⟨_, rfl, app _ (fin2 false [] (fun h => by cases h) hre)⟩
    ·cases e3 : kd == 3
     ·exact ⟨_, rfl, app _ (fin2 true [] (fun _ => by rw [e3, e4]; rfl) hre)⟩
     ·exact ⟨_, rfl, app _ (fin2 false [] (fun h => by cases h) hre)⟩)
  (fun n a _ => by
   rw [BE]
   simp only [A6]
   rw [Az (by omega), As]) N 0 [] (Nat.zero_le _) (by omega) ⟨rfl, fun t ht => by cases ht⟩
 exact ⟨_, true, e2, fun _ => fin tabs (by omega) g2⟩
def H2 : List Int → Nat → Nat
 | [], _ => 0
 | _, 0 => 0
 | n :: ns, q + 1 => (if 0 ≤ n then 1 else 0) + H2 ns q
theorem Ic (l : List Int) : H2 l 0 = 0 := by cases l <;> rfl
theorem G9 : ∀ (l : List Int) (q : Nat), q < l.length → H2 l (q + 1) = H2 l q + if 0 ≤ l.getD q 0 then 1 else 0
 | [], q, h => by simp at h
 | n :: ns, 0, _ => by simp [H2, Ic]
 | n :: ns, q + 1, h => by
  rw [H2, G9 ns q (by simpa using h), H2, List.getD_cons_succ, Nat.add_assoc]
theorem NK (l : List Int) {a b : Nat} (h : a ≤ b) (hb : b ≤ l.length) : H2 l a ≤ H2 l b := by
 induction b with
 | zero => rw [Nat.le_zero.1 h]; exact Nat.le_refl _
 | succ b ih =>
  by_cases h1 : a = b + 1
  ·rw [h1]; exact Nat.le_refl _
  ·have := ih (by omega) (by omega)
   rw [G9 l b (by omega)]; omega
theorem J3 (l : List Int) : ∀ q, q ≤ l.length → H2 l q ≤ q
 | 0, _ => by rw [Ic]; exact Nat.le_refl _
 | q + 1, h => by
  have := J3 l q (by omega)
  rw [G9 l q h]
  split <;> omega
def LT (l : List Int) (k q : Nat) : Int := if 0 ≤ l.getD q 0 ∧ k.testBit (H2 l q) = true then -1 else l.getD q 0
def UP (l : List Int) (k : Nat) : List Int := (List.range l.length).map (LT l k)
def Wt (m : Ae) (k : Nat) : Ae := ⟨m.fBase, UP m.fNext k, m.fHeld⟩
def FW (m : Ae) : List Ae := (List.range (2 ^ H2 m.fNext m.fNext.length)).map (Wt m)
theorem LI (l : List Int) (k : Nat) : (UP l k).length = l.length := by simp [UP]
theorem PE (l : List Int) (k q : Nat) (h : q < l.length) : (UP l k).getD q 0 = LT l k q := by
 unfold UP; rw [lD, List.getElem?_map, List.getElem?_range h]; rfl
theorem Gz {l1 l2 : List Int} (h1 : l1.length = l2.length) (h : ∀ q, q < l1.length → l1.getD q 0 = l2.getD q 0) : l1 = l2 := by
 apply List.ext_getElem h1
 intro q h2 h3
 have := h q h2
 rw [lD, lD, List.getElem?_eq_getElem h2, List.getElem?_eq_getElem h3] at this
 exact this
theorem Sq : ∀ (k : Fin 64) (b : Fin 7), FF .i64 (Em .i64 (k.val : Int) (b.val : Int)) 1 = (if k.val.testBit b.val then 1 else 0) ∧ Int.tmod (Em .i64 (k.val : Int) (b.val : Int)) 2 = (if k.val.testBit b.val then 1 else 0) := by decide +kernel
theorem Vz : ∀ n : Fin 7, Cp .i64 1 (n.val : Int) = ((2 ^ n.val : Nat) : Int) := by decide +kernel
structure Oh (m x : Ae) : Prop where
 base : x.fBase = m.fBase
 held : x.fHeld = m.fHeld
 len : x.fNext.length = m.fNext.length
 next : ∀ q, q < m.fNext.length → x.fNext.getD q 0 = m.fNext.getD q 0 ∨ (0 ≤ m.fNext.getD q 0 ∧ x.fNext.getD q 0 = -1)
theorem Oh.refl (m : Ae) : Oh m m := ⟨rfl, rfl, rfl, fun _ _ => .inl rfl⟩
theorem Oh.trans {a b c : Ae} (h1 : Oh a b) (h2 : Oh b c) : Oh a c :=
 ⟨h2.base.trans h1.base, h2.held.trans h1.held, h2.len.trans h1.len, fun q hq => by
  have e1 := h1.next q hq
  have e2 := h2.next q (by rw [h1.len]; exact hq)
  omega⟩
theorem Tv (m : Ae) (k : Nat) : Oh m (Wt m k) :=
 ⟨rfl, rfl, LI _ _, fun q hq => by
  show (UP m.fNext k).getD q 0 = _ ∨ _ ∧ (UP m.fNext k).getD q 0 = _
  rw [PE _ _ _ hq]; unfold LT
  split
  ·rename_i h; exact .inr ⟨h.1, rfl⟩
  ·exact .inl rfl⟩
theorem Se : ∀ (l x : List Int), x.length = l.length → (∀ q, q < l.length → x.getD q 0 = l.getD q 0 ∨ (0 ≤ l.getD q 0 ∧ x.getD q 0 = -1)) → ∃ k, k < 2 ^ H2 l l.length ∧ ∀ q, q < l.length → x.getD q 0 = LT l k q
 | [], x, h, _ => ⟨0, by simp [H2], fun q hq => by simp at hq⟩
 | n :: ns, [], h, _ => by simp at h
 | n :: ns, y :: ys, h, hq => by
  obtain ⟨k, hk, hk2⟩ := Se ns ys (by simpa using h) (fun q hq' => by have := hq (q + 1) (by simpa using hq'); simpa using this)
  have h0 := hq 0 (by simp)
  simp only [List.getD_cons_zero] at h0
  by_cases hn : 0 ≤ n
  ·refine ⟨2 * k + if y = n then 0 else 1, ?_, ?_⟩
   ·rw [List.length_cons, H2, if_pos hn, Nat.pow_add]
    split <;> omega
   ·intro q hq'
    cases q with
    | zero =>
     simp only [List.getD_cons_zero, LT, Ic]
     by_cases hy : y = n
     ·simp [hy]
     ·rw [if_neg hy, if_pos ⟨hn, by simp⟩]; omega
    | succ q =>
     have := hk2 q (by simpa using hq')
     simp only [List.getD_cons_succ, LT, H2, if_pos hn] at this ⊢
     rw [this, Nat.add_comm 1, Nat.testBit_succ]
     have : (2 * k + if y = n then 0 else 1) / 2 = k := by split <;> omega
     rw [this]
  ·refine ⟨k, ?_, ?_⟩
   ·rw [List.length_cons, H2, if_neg hn, Nat.zero_add]; exact hk
   ·intro q hq'
    cases q with
    | zero =>
     simp only [List.getD_cons_zero, LT, Ic]
     rw [if_neg (fun h => hn h.1)]
     omega
    | succ q =>
     have := hk2 q (by simpa using hq')
     simp only [List.getD_cons_succ, LT, H2, if_neg hn, Nat.zero_add] at this ⊢
     exact this
theorem M2 {m x : Ae} : x ∈ FW m ↔ Oh m x := by
 unfold FW
 rw [List.mem_map]
 constructor
 ·rintro ⟨k, _, rfl⟩; exact Tv m k
 ·intro h
  obtain ⟨k, hk, hq⟩ := Se m.fNext x.fNext h.len h.next
  refine ⟨k, List.mem_range.2 hk, ?_⟩
  have : UP m.fNext k = x.fNext := Gz (by rw [LI, h.len]) fun q hq' => by
   rw [LI] at hq'
   rw [PE _ _ _ hq', hq q hq']
  unfold Wt
  rw [this, ← h.base, ← h.held]
theorem Xd {m x : Ae} (h : Oh m x) {s : Nat} (hs : s < m.fNext.length) {v : Nat} (hv : H3 x s v = true) : H3 m s v = true := by
 unfold H3 at hv ⊢
 rw [h.base] at hv
 have := h.next s hs
 simp only [Bool.or_eq_true, decide_eq_true_eq] at hv ⊢
 omega
theorem Wc {p : Ag} {m x : Ae} (hp : Bl p) (hm : Bt p m) (h : Oh m x) : Bt p x := by
 refine ⟨⟨by rw [h.base]; exact hm.base, by rw [h.len]; exact hm.next, by rw [h.held]; exact hm.held, fun i hi => by rw [h.base]; exact hm.b0 i hi, fun i hi => ?_, fun i hi => ?_⟩, fun i hi => by rw [h.held]; exact hm.range i hi, fun i t ht hs v hv => ?_, fun i t ht hs v hv => ?_, fun i t ht hs => by rw [h.held]; exact hm.none i t ht hs⟩
 ·have h1 := hm.n0 i hi
  have h2 := h.next i (by rw [hm.next]; exact hi)
  have h3 := HQ hp hi
  omega
 ·have h1 := hm.ne i hi
  have h2 := h.next i (by rw [hm.next]; exact hi)
  have h3 := hm.b0 i hi
  rw [h.base]
  omega
 ·have hin := (Mb (hp.tab t (lM ht))).from0
  rw [h.held]
  exact hm.low i t ht hs v (Xd h (by rw [hm.next]; omega) hv)
 ·rw [h.held] at hv
  exact hm.high i t ht hs v hv
theorem I8 (N : Nat) (l : List Int) (h : l.length ≤ Du) : BL N l = some l := by
 unfold BL
 rw [AA (by simpa using h)]; rfl
theorem Oz (N : Nat) (l : List Int) (h : l.length ≤ Du) : BQ N l = some l := by
 unfold BQ
 rw [AA (by simpa using h)]; rfl
theorem Il {l : List Int} {i q : Nat} {y : Int} (hi : i < l.length) : (l.set i y).getD q 0 = if q = i then y else l.getD q 0 := by
 rw [lD, lD, List.getElem?_set]
 by_cases h : i = q
 ·subst h; simp [hi]
 ·rw [if_neg h, if_neg (fun e => h e.symm)]
theorem Vw {l : List Int} {a b : Nat} (ha : a < l.length) (hb : b < l.length) (h1 : 0 ≤ l.getD a 0) (h2 : 0 ≤ l.getD b 0) (h : H2 l a = H2 l b) : a = b := by
 rcases Nat.lt_trichotomy a b with h3 | h3 | h3
 ·have := NK l (a := a + 1) (b := b) h3 (by omega)
  rw [G9 l a ha, if_pos h1] at this; omega
 ·exact h3
 ·have := NK l (a := b + 1) (b := a) h3 (by omega)
  rw [G9 l b hb, if_pos h2] at this; omega
structure Ux (l : List Int) (o : List Int) : Prop where
 len : o.length = H2 l l.length
 at_ : ∀ b, b < o.length → ∃ i : Nat, o.getD b 0 = (i : Int) ∧ i < l.length ∧ 0 ≤ l.getD i 0 ∧ H2 l i = b
theorem Qm (N : Nat) (l o : List Int) (k : Nat) (acc : List Ae) (hN : N ≤ 1000000) (h20 : 20 ≤ N) (hl : l.length ≤ 6) (ho : Ux l o) (hk : k < 64) (j : List Int → Option (List Ae × Int)) :
  CT N o (acc, (k : Int)) j N (l, 0) = j (UP l k) := by
 have hol := J3 l l.length (Nat.le_refl _)
 have hoL := ho.len
 obtain ⟨x, e, h1, h2⟩ := EU (A := List Int) (CT N o (acc, (k : Int)) j) (fun a k => (a, k)) o.length j
  (fun b a => a.length = l.length ∧ ∀ q, q < l.length → a.getD q 0 = if 0 ≤ l.getD q 0 ∧ H2 l q < b ∧ k.testBit (H2 l q) = true then -1 else l.getD q 0)
  (fun n b a hb ha => by
   obtain ⟨i, hi1, hi2, hi3, hi4⟩ := ho.at_ b hb
   have hbit := Sq ⟨k, hk⟩ ⟨b, by omega⟩
   rw [CT]
   simp only [A6]
   rw [AC (by omega), Dh (d := 0) hb]
   simp only [oS]
   rw [AA (by omega), hi1, hbit.1, Dh (d := 0) (show i < a.length by rw [ha.1]; exact hi2), AR (by omega)]
   simp only [oS, Int.toNat_natCast]
   cases hkb : k.testBit b
   ·refine ⟨a, rfl, ha.1, fun q hq => ?_⟩
    rw [ha.2 q hq]
    by_cases hqb : H2 l q = b
    ·rw [hqb, hkb]; simp
    ·by_cases h3 : H2 l q < b
     ·have : H2 l q < b + 1 := by omega
      simp [h3, this]
     ·have : ¬ H2 l q < b + 1 := by omega
      simp [h3, this]
   ·refine ⟨a.set i (-1), rfl, by simp [ha.1], fun q hq => ?_⟩
    rw [Il (by rw [ha.1]; exact hi2), ha.2 q hq]
    by_cases hqi : q = i
    ·subst hqi
     rw [if_pos rfl, if_pos ⟨hi3, by omega, by rw [hi4]; exact hkb⟩]
    ·rw [if_neg hqi]
     by_cases h0 : 0 ≤ l.getD q 0
     ·have hne : H2 l q ≠ b := fun h => hqi (Vw hq hi2 h0 hi3 (by omega))
      by_cases h3 : H2 l q < b
      ·have : H2 l q < b + 1 := by omega
       simp [h3, this]
      ·have : ¬ H2 l q < b + 1 := by omega
       simp [h3, this]
     ·rw [if_neg (fun h => h0 h.1), if_neg (fun h => h0 h.1)])
  (fun n a _ => by
   rw [CT]
   simp only [A6]
   rw [Az (by omega)]) N 0 l (Nat.zero_le _) (by omega) ⟨rfl, fun q hq => by simp⟩
 have e' : CT N o (acc, (k : Int)) j N (l, 0) = j x := e
 rw [e']
 congr 1
 refine Gz (by rw [LI, h1]) fun q hq => ?_
 rw [h1] at hq
 rw [h2 q hq, PE _ _ _ hq, LT]
 by_cases h0 : 0 ≤ l.getD q 0
 ·have h3 := NK l (a := q + 1) (b := l.length) hq (Nat.le_refl _)
  rw [G9 l q hq, if_pos h0] at h3
  have : H2 l q < o.length := by omega
  simp [this]
 ·rw [if_neg (fun h => h0 h.1), if_neg (fun h => h0 h.1)]
theorem Qq (N : Nat) (m : Ae) (k : Nat) (acc : List Ae) (hN : N ≤ 1000000) (h20 : 20 ≤ N) (hl : m.fNext.length ≤ 6) (hk : k < 64) (j : List Int → Option (List Ae)) :
  BT N m (acc, (k : Int)) j N (m.fNext, 0, 0) = j (UP m.fNext k) := by
 obtain ⟨⟨x, pl⟩, e, h1, h2, h3⟩ := EU (A := List Int × Nat) (BT N m (acc, (k : Int)) j) (fun a k => (a.1, (a.2 : Int), k)) m.fNext.length (fun a => j a.1)
  (fun i a => a.2 = H2 m.fNext i ∧ a.1.length = m.fNext.length ∧ ∀ q, q < m.fNext.length → a.1.getD q 0 = if q < i then LT m.fNext k q else m.fNext.getD q 0)
  (fun n i a hi ha => by
   obtain ⟨a, pl⟩ := a
   obtain ⟨a1, a2, a3⟩ := ha
   simp only at a1 a2 a3
   have hple := J3 m.fNext i (by omega)
   have hbit := Sq ⟨k, hk⟩ ⟨pl, by omega⟩
   have hs := G9 m.fNext i hi
   rw [BT]
   simp only [A6]
   rw [AC (by omega), Dh (d := 0) hi]
   simp only [oS]
   rw [AR (by omega)]
   by_cases h0 : m.fNext.getD i 0 < 0
   ·rw [AC h0]
    refine ⟨(a, pl), rfl, by simp only; rw [hs, if_neg (by omega), a1]; rfl, a2, fun q hq => ?_⟩
    simp only
    rw [a3 q hq]
    by_cases hqi : q = i
    ·subst hqi
     rw [if_neg (by omega), if_pos (by omega), LT, if_neg (by omega)]
    ·by_cases h4 : q < i
     ·rw [if_pos h4, if_pos (by omega)]
     ·rw [if_neg h4, if_neg (by omega)]
   ·rw [Az h0, AA (by omega), Dh (d := 0) (show i < a.length by omega), hbit.2, AR (by omega)]
    simp only [oS, Int.toNat_natCast]
    cases hkb : k.testBit pl
    ·refine ⟨(a, pl + 1), rfl, by simp only; rw [hs, if_pos (by omega), a1], a2, fun q hq => ?_⟩
     simp only
     rw [a3 q hq]
     by_cases hqi : q = i
     ·subst hqi
      rw [if_neg (by omega), if_pos (by omega), LT, ← a1, hkb]; simp
     ·by_cases h4 : q < i
      ·rw [if_pos h4, if_pos (by omega)]
      ·rw [if_neg h4, if_neg (by omega)]
    ·refine ⟨(a.set i (-1), pl + 1), rfl, by simp only; rw [hs, if_pos (by omega), a1], by simp [a2], fun q hq => ?_⟩
     simp only
     rw [Il (by omega), a3 q hq]
     by_cases hqi : q = i
     ·subst hqi
      rw [if_pos rfl, if_pos (by omega), LT, ← a1, if_pos ⟨by omega, hkb⟩]
     ·rw [if_neg hqi]
      by_cases h4 : q < i
      ·rw [if_pos h4, if_pos (by omega)]
      ·rw [if_neg h4, if_neg (by omega)])
  (fun n a _ => by
   rw [BT]
   simp only [A6]
   rw [Az (by omega)]) N 0 (m.fNext, 0) (Nat.zero_le _) (by omega) ⟨(Ic _).symm, rfl, fun q hq => by simp⟩
 have e' : BT N m (acc, (k : Int)) j N (m.fNext, 0, 0) = j x := e
 rw [e']
 congr 1
 simp only at h2 h3
 refine Gz (by rw [LI, h2]) fun q hq => ?_
 rw [h2] at hq
 rw [h3 q hq, if_pos hq, PE _ _ _ hq]
theorem Uv (N : Nat) (m : Ae) (hN : N ≤ 1000000) (h20 : 20 ≤ N) (hl : m.fNext.length ≤ 6) (j : List Int → Option (List Ae × Int)) :
  ∃ o, DD N m j N ([], 0) = j o ∧ Ux m.fNext o := by
 obtain ⟨o, e, h1, h2⟩ := EU (A := List Int) (DD N m j) (fun a k => (a, k)) m.fNext.length j
  (fun i o => o.length = H2 m.fNext i ∧ ∀ b, b < o.length → ∃ q : Nat, o.getD b 0 = (q : Int) ∧ q < m.fNext.length ∧ 0 ≤ m.fNext.getD q 0 ∧ H2 m.fNext q = b)
  (fun n i o hi ho => by
   have hple := J3 m.fNext i (by omega)
   have hs := G9 m.fNext i hi
   rw [DD]
   simp only [A6]
   rw [AC (by omega), Dh (d := 0) hi]
   simp only [oS]
   rw [AR (by omega)]
   by_cases h0 : 0 ≤ m.fNext.getD i 0
   ·rw [AC h0, AA (by rw [ho.1]; unfold Du; simp; omega)]
    refine ⟨o ++ [(i : Int)], rfl, by rw [hs, if_pos h0, ← ho.1]; simp, ?_⟩
    rw [List.length_append]
    exact NQ (P := fun b y => ∃ q : Nat, y = (q : Int) ∧ q < m.fNext.length ∧ 0 ≤ m.fNext.getD q 0 ∧ H2 m.fNext q = b) rfl ho.2 ⟨i, rfl, hi, h0, ho.1.symm⟩
   ·rw [Az h0]
    exact ⟨o, rfl, by rw [hs, if_neg h0, ho.1]; rfl, ho.2⟩)
  (fun n a _ => by
   rw [DD]
   simp only [A6]
   rw [Az (by omega)]) N 0 [] (Nat.zero_le _) (by omega) ⟨(Ic _).symm, fun b hb => by simp at hb⟩
 exact ⟨o, e, h1, h2⟩
theorem KN {n : Nat} (h : n ≤ 6) : 2 ^ n ≤ 64 := Nat.pow_le_pow_right (n := 2) (by omega) h
theorem ML {n : Nat} (h : n ≤ 6) : Cp .i64 1 (n : Int) = ((2 ^ n : Nat) : Int) := Vz ⟨n, by omega⟩
theorem JH {β : Type} (f : Nat → β) (n : Nat) : (List.range (n + 1)).map f = (List.range n).map f ++ [f n] := by
 rw [List.range_succ, List.map_append]; rfl
theorem Ou (N : Nat) (p : Ag) (m : Ae) (hN : N ≤ 1000000) (h20 : 100 ≤ N) (hw : Oa KR m.fHeld) (hv : F0 p m = 0) : FK N p m = some (FW m, 0) := by
 obtain ⟨hp, hm⟩ := LB hw hv
 have hnv := hp.nv
 have hnt := hp.nt
 have hl : m.fNext.length ≤ 6 := by rw [hm.next]; omega
 unfold FK
 rw [Jj N p m hN (by omega) hw, hv]
 simp only [oS, bne_self_eq_false, As]
 obtain ⟨o, e, ho⟩ := Uv N m hN (by omega) hl (fun (v4 : (List Int)) =>
   (DT (0 ≤ (v4.length : Int))).bind fun _ =>
   CW N m v4 (fun (v12 : (List Ae)) =>
    some (v12, 0)) N (([] : List Ae), 0))
 rw [e, AA (by omega)]
 have hoL := ho.len
 have hol := J3 m.fNext m.fNext.length (Nat.le_refl _)
 have hpow := KN (show H2 m.fNext m.fNext.length ≤ 6 by omega)
 obtain ⟨a, e2, h1⟩ := EU (A := List Ae) (CW N m o fun v12 => some (v12, 0)) (fun a k => (a, k)) (2 ^ H2 m.fNext m.fNext.length) (fun v12 => some (v12, 0))
  (fun i a => a = (List.range i).map (Wt m))
  (fun n i a hi ha => by
   refine ⟨a ++ [Wt m i], ?_, by rw [JH, ha]⟩
   have hal : a.length = i := by rw [ha]; simp
   rw [CW]
   rw [hoL, ML (n := H2 m.fNext m.fNext.length) (by omega), AC (by omega), I8 N m.fBase (by have := hm.base; unfold Du; omega), I8 N m.fNext (by unfold Du; omega), Oz N m.fHeld (by have := hm.held; unfold Du; omega)]
   simp only [oS]
   rw [Qm N m.fNext o i a hN (by omega) hl ho (by omega), AA (by rw [hal]; unfold Du; simp; omega), AR (by omega)]
   rfl)
  (fun n a _ => by
   rw [CW]
   rw [hoL, ML (n := H2 m.fNext m.fNext.length) (by omega), Az (by simp)]) N 0 [] (Nat.zero_le _) (by omega) rfl
 have e2' : CW N m o (fun v12 => some (v12, 0)) N ([], 0) = some (a, 0) := e2
 rw [e2', h1]; rfl
theorem RK (N : Nat) (m : Ae) (h1 : m.fBase.length ≤ Du) (h2 : m.fNext.length ≤ Du) (h3 : m.fHeld.length ≤ Du) : Eb N m = some m := by
 unfold Eb
 rw [AA (by simpa using h1), AA (by simpa using h2), AA (by simpa using h3)]; rfl
theorem Rh (N : Nat) (m : Ae) (hN : N ≤ 1000000) (h20 : 100 ≤ N) (h1 : m.fBase.length ≤ 100) (hl : m.fNext.length ≤ 6) (h3 : m.fHeld.length ≤ 100) : Ek N m = some (FW m) := by
 unfold Ek
 obtain ⟨c, e, hc⟩ := EU (A := Nat) (Cx N m (fun (v2 : Int) =>
  BC N m v2 (fun (v8 : (List Ae)) => some v8) N (([] : List Ae), 0))) (fun a k => ((a : Int), k)) m.fNext.length (fun a => BC N m (a : Int) (fun (v8 : (List Ae)) => some v8) N (([] : List Ae), 0))
  (fun i a => a = H2 m.fNext i)
  (fun n i a hi ha => by
   have hple := J3 m.fNext i (by omega)
   have hs := G9 m.fNext i hi
   rw [Cx]
   simp only [A6]
   rw [AC (by omega), Dh (d := 0) hi]
   simp only [oS]
   rw [AR (by omega), AR (by omega)]
   by_cases h0 : 0 ≤ m.fNext.getD i 0
   ·rw [AC h0]
    exact ⟨a + 1, rfl, by rw [hs, if_pos h0, ha]⟩
   ·rw [Az h0]
    exact ⟨a, rfl, by rw [hs, if_neg h0, ha]; rfl⟩)
  (fun n a _ => by
   rw [Cx]
   simp only [A6]
   rw [Az (by omega)]) N 0 0 (Nat.zero_le _) (by omega) (Ic _).symm
 have e' : Cx N m (fun (v2 : Int) => BC N m v2 (fun (v8 : (List Ae)) => some v8) N (([] : List Ae), 0)) N (0, 0) = _ := e
 rw [e', hc]
 have hol := J3 m.fNext m.fNext.length (Nat.le_refl _)
 have hpow := KN (show H2 m.fNext m.fNext.length ≤ 6 by omega)
 obtain ⟨a, e2, h1⟩ := EU (A := List Ae) (BC N m (H2 m.fNext m.fNext.length : Int) fun v8 => some v8) (fun a k => (a, k)) (2 ^ H2 m.fNext m.fNext.length) some
  (fun i a => a = (List.range i).map (Wt m))
  (fun n i a hi ha => by
   refine ⟨a ++ [Wt m i], ?_, by rw [JH, ha]⟩
   have hal : a.length = i := by rw [ha]; simp
   rw [BC]
   rw [AA (by omega), ML (n := H2 m.fNext m.fNext.length) (by omega), AC (by omega), RK N m (by unfold Du; omega) (by unfold Du; omega) (by unfold Du; omega)]
   simp only [oS]
   rw [Qq N m i a hN (by omega) hl (by omega), AA (by rw [hal]; unfold Du; simp; omega), AR (by omega)]
   rfl)
  (fun n a _ => by
   rw [BC]
   rw [AA (by omega), ML (n := H2 m.fNext m.fNext.length) (by omega), Az (by simp)]) N 0 [] (Nat.zero_le _) (by omega) rfl
 have e2' : BC N m (H2 m.fNext m.fNext.length : Int) (fun v8 => some v8) N ([], 0) = some a := e2
 rw [e2', h1]; rfl
theorem RI (N : Nat) (p : Ag) (m : Ae) (hN : N ≤ 1000000) (h20 : 100 ≤ N) (hp : Bl p) (hm : Bt p m) : Ek N m = some (FW m) := by
 have := hp.nv
 have := hp.nt
 exact Rh N m hN h20 (by rw [hm.base]; omega) (by rw [hm.next]; omega) (by rw [hm.held]; omega)
theorem Ld {p : Ag} {m : Ae} (hm : Bt p m) : Oa KR m.fHeld := by
 intro x hx
 obtain ⟨q, hq⟩ := List.mem_iff_getElem?.1 hx
 have h1 := (lI.1 hq).1
 have := hm.range q (by rw [← hm.held]; exact h1)
 rw [lD, hq] at this
 unfold KR
 simp only [Option.getD_some] at this
 simp [Lit.wf, IntKind.min, IntKind.max, IntKind.signed, IntKind.bits]
 omega
def KX (p : Ag) (x : Ae) : Option (Ae × Aw) := match GK p x with
 | [] => none
 | c :: _ => some (x, c)
def M5 (p : Ag) (m : Ae) : Option (Ae × Aw) := D1 (fun _ x => KX p x) 0 (FW m)
def GZ : Ae := ⟨[], [], []⟩
def Ty : Aw := ⟨0, 0, 0⟩
def RC (p : Ag) (m : Ae) : Ae × Aw × Int := match M5 p m with
 | some (x, c) => (x, c, 0)
 | none => (GZ, Ty, 15)
def Cn (p : Ag) (m : Ae) : Bool := (M5 p m).isNone
theorem NN {m : Ae} (hl : m.fNext.length ≤ 6) : (FW m).length ≤ 64 := by
 unfold FW
 have hol := J3 m.fNext m.fNext.length (Nat.le_refl _)
 have hpow := KN (show H2 m.fNext m.fNext.length ≤ 6 by omega)
 simpa using hpow
theorem Nc {α R R' : Type} (f : Nat → α → Option R) (g : R → R') : ∀ (i : Nat) (xs : List α), D1 (fun i x => (f i x).map g) i xs = (D1 f i xs).map g
 | _, [] => rfl
 | i, x :: xs => by
  rw [GX, GX]
  cases f i x
  ·exact Nc f g (i + 1) xs
  ·rfl
theorem Pf (N : Nat) (p : Ag) (m : Ae) (hN : N ≤ 1000000) (h20 : 100 ≤ N) (hw : Oa KR m.fHeld) (hv : F0 p m = 0) : He N p m = some (RC p m) := by
 obtain ⟨hp, hm⟩ := LB hw hv
 have hnv := hp.nv
 unfold He
 rw [Ou N p m hN h20 hw hv]
 simp only [oS, bne_self_eq_false, As]
 have hal := NN (m := m) (by rw [hm.next]; omega)
 have := DE (EA N p (FW m, 0) fun _ => some (GZ, Ty, 15)) (FW m) (some (GZ, Ty, 15)) (fun _ x => (KX p x).map fun y => (y.1, y.2, 0))
  (fun n i x hx => by
   have hi := (lI.1 hx).1
   have hx2 := Wc hp hm (M2.1 (lM hx))
   rw [EA, AC (by simp only; omega)]
   simp only [A5, hx, oS]
   rw [LM N p x hN (by omega) hp hx2, AR (by omega)]
   simp only [oS, KX]
   cases GK p x with
   | nil => rfl
   | cons c cs => rw [AC (by simp only [List.length_cons]; omega)]; rfl)
  (fun n => by rw [EA, Az (by simp)]) N 0 (Nat.zero_le _) (by omega)
 rw [List.drop_zero, Nc] at this
 exact this.trans (by
  unfold RC M5
  cases D1 (fun _ x => KX p x) 0 (FW m) <;> rfl)
theorem KE (N : Nat) (p : Ag) (m : Ae) (hN : N ≤ 1000000) (h20 : 100 ≤ N) (hw : Oa KR m.fHeld) (hv : F0 p m = 0) : Fc N p m = some (Cn p m, 0) := by
 unfold Fc
 rw [Pf N p m hN h20 hw hv]
 unfold Cn RC
 cases M5 p m <;> rfl
theorem Qe (N : Nat) (p : Ag) (m : Ae) (hN : N ≤ 1000000) (h20 : 100 ≤ N) (hp : Bl p) (hm : Bt p m) : Ef N p m = some (GK p m).isEmpty := by
 unfold Ef
 rw [LP N p m hN (by omega) hp hm]
 simp only [oS]
 cases GK p m with
 | nil => rfl
 | cons c cs =>
  rw [beq_eq_false_iff_ne.2 (by simp only [List.length_cons]; omega)]; rfl
theorem HB (N : Nat) (p : Ag) (m : Ae) (hN : N ≤ 1000000) (h20 : 100 ≤ N) (hp : Bl p) (hm : Bt p m) : Cy N p m = some (Cn p m) := by
 have hnv := hp.nv
 unfold Cy
 rw [RI N p m hN h20 hp hm]
 simp only [oS]
 have hal := NN (m := m) (by rw [hm.next]; omega)
 have := DE (B5 N p (FW m) fun _ => some true) (FW m) (some true) (fun _ x => (KX p x).map fun _ => false)
  (fun n i x hx => by
   have hi := (lI.1 hx).1
   have hx2 := Wc hp hm (M2.1 (lM hx))
   rw [B5, AC (by omega)]
   simp only [A5, hx, oS]
   rw [Qe N p x hN h20 hp hx2, AR (by omega)]
   simp only [oS, KX]
   cases GK p x with
   | nil => rfl
   | cons c cs => rfl)
  (fun n => by rw [B5, Az (by simp)]) N 0 (Nat.zero_le _) (by omega)
 rw [List.drop_zero, Nc] at this
 refine Eq.trans this ?_
 unfold Cn M5
 cases D1 (fun _ x => KX p x) 0 (FW m) <;> rfl
theorem Mo {N : Nat} {a b : Ae} (hN : N ≤ 1000000) (h1 : a.fBase.length < N) (h2 : a.fNext.length < N) (h3 : a.fHeld.length < N) (h4 : b.fHeld.length < N) (wa : Oa KR a.fHeld) (wb : Oa KR b.fHeld) : CJ N a b = some (Hm a b) := by
 unfold CJ
 rw [M6 h1 hN, M6 h2 hN, Mn h3 hN wa, Mn h4 hN wb]
 simp only [oS]
 rw [M6 h3 hN]
 unfold Hm Re
 by_cases h1 : Ex a.fBase b.fBase = 0
 ·simp only [h1, Re]
  by_cases h2 : Ex a.fNext b.fNext = 0
  ·simp only [h2]
   by_cases h3 : Ex a.fHeld b.fHeld = 0 <;> simp [h3]
  ·have : (Ex a.fNext b.fNext != 0) = true := by simpa using h2
   simp [h2, this]
 ·have : (Ex a.fBase b.fBase != 0) = true := by simpa using h1
  simp [h1, this]
open Go
def Fu (p : Ag) (t : AI) : Int := if Ce t = true then Cp .u8 1 (p.fNow.getD t.fFrom.toNat 0) else 0
def EF (p : Ag) : Ae := ⟨p.fNow, List.replicate p.fNow.length (-1), p.fTables.map (Fu p)⟩
theorem SQ (N : Nat) (h : 100 ≤ N) (n : Nat) (hn : n ≤ 6) : El N [(-1)] (n : Int) = some (List.replicate n (-1)) := by
 obtain ⟨k, rfl⟩ : ∃ k, N = k + 100 := ⟨N - 100, by omega⟩
 have : n = 0 ∨ n = 1 ∨ n = 2 ∨ n = 3 ∨ n = 4 ∨ n = 5 ∨ n = 6 := by omega
 rcases this with rfl | rfl | rfl | rfl | rfl | rfl | rfl
 all_goals (show _ = _; kernel_rfl)
theorem Q6 (T : List Int) (i : Nat) (hi : i < T.length) : (T.take i ++ List.replicate (T.length - i) 0).set i (T.getD i 0) = T.take (i + 1) ++ List.replicate (T.length - (i + 1)) 0 := by
 have hl : (T.take i).length = i := by simp; omega
 rw [List.set_append_right _ _ (by omega), hl, Nat.sub_self, show T.length - i = (T.length - (i + 1)) + 1 from by omega, List.replicate_succ, List.set_cons_zero, List.take_add_one, List.append_assoc]
 have : T[i]? = some (T.getD i 0) := by rw [lD]; simp [hi]
 rw [this]; rfl
theorem SV (T : List Int) (i : Nat) (hi : i < T.length) (h0 : T.getD i 0 = 0) : T.take i ++ List.replicate (T.length - i) 0 = T.take (i + 1) ++ List.replicate (T.length - (i + 1)) 0 := by
 rw [← Q6 T i hi, h0, List.set_append_right _ _ (by rw [List.length_take]; omega)]
 congr 1
 have hl : (T.take i).length = i := by simp; omega
 rw [hl, Nat.sub_self, show T.length - i = (T.length - (i + 1)) + 1 from by omega, List.replicate_succ, List.set_cons_zero]
theorem Rx {p : Ag} (hv : CF p = 0) {t : AI} (ht : t ∈ p.fTables) : 0 ≤ t.fFrom ∧ t.fFrom.toNat < p.fNow.length ∧ 0 ≤ p.fNow.getD t.fFrom.toNat 0 ∧ p.fNow.getD t.fFrom.toNat 0 < 6 ∧ p.fNow.getD t.fFrom.toNat 0 < p.fVersions.getD t.fFrom.toNat 0 ∧ t.fFrom.toNat < p.fVersions.length := by
 obtain ⟨hp, hr⟩ := C1 hv
 have h1 := It (hp.tab t ht)
 have h2 := hr t.fFrom.toNat (by omega)
 have h3 := HQ hp (i := t.fFrom.toNat) (by omega)
 have := hp.now
 refine ⟨h1.1, by omega, h2.1, by omega, h2.2.1, by omega⟩
theorem I7 {p : Ag} {i : Nat} {t : AI} (ht : p.fTables[i]? = some t) : (p.fTables.map (Fu p)).getD i 0 = Fu p t := by
 rw [lD, List.getElem?_map, ht]; rfl
theorem P4 (N : Nat) (p : Ag) (hN : N ≤ 1000000) (h20 : 100 ≤ N) : F8 N p = some (if CF p = 0 then EF p else ⟨[], [], []⟩, CF p) := by
 unfold F8
 rw [Ll N p hN (by omega)]
 simp only [oS]
 by_cases hv : CF p = 0
 ·rw [if_pos hv, hv]
  obtain ⟨hp, _⟩ := C1 hv
  have hnv := hp.nv
  have hnt := hp.nt
  have hnow := hp.now
  rw [bne_self_eq_false, As, I8 N _ (by simp only [Du]; omega)]
  simp only [oS]
  rw [SQ N h20 _ (by omega)]
  simp only [oS]
  rw [AA (by simp only [Du]; omega)]
  obtain ⟨a', e, ha⟩ := EU (D4 N p fun v7 => some (Ae.mk p.fNow (List.replicate p.fNow.length (-1)) v7, 0)) (fun a i => (a, i)) p.fTables.length (fun v7 => some (Ae.mk p.fNow (List.replicate p.fNow.length (-1)) v7, 0))
   (fun i a => a = (p.fTables.map (Fu p)).take i ++ List.replicate ((p.fTables.map (Fu p)).length - i) 0)
   (fun n i a hi ha => by
    have hx : p.fTables[i]? = some p.fTables[i] := by simp [hi]
    have hm : p.fTables[i] ∈ p.fTables := List.getElem_mem hi
    obtain ⟨n1, n2, n3, n4, _⟩ := Rx hv hm
    rw [D4, AC (by simp only; omega)]
    simp only [A6, A5, hx, oS, IR, AR (show i < 1000000 by omega)]
    have hal : i < (p.fTables.map (Fu p)).length := by simpa using hi
    cases hs : Ce p.fTables[i]
    ·rw [As]
     refine ⟨a, rfl, ?_⟩
     rw [ha]
     exact SV _ _ hal (by rw [I7 hx]; unfold Fu; rw [hs]; rfl)
    ·rw [AN]
     have e1 : A9 p.fNow p.fTables[i].fFrom = some (p.fNow.getD p.fTables[i].fFrom.toNat 0) := by
      obtain ⟨q, hq⟩ := Int.eq_ofNat_of_zero_le n1
      rw [hq]; exact Dh (by rw [hq] at n2; simpa using n2)
     rw [e1]
     simp only [oS]
     rw [AA n3]
     have hl : i < a.length := by rw [ha]; simp; omega
     have e2 : a[i]? = some a[i] := by simp [hl]
     rw [e2]
     simp only [oS]
     refine ⟨_, rfl, ?_⟩
     rw [← Q6 _ _ hal, I7 hx, ha]
     unfold Fu; rw [hs]; rfl)
   (fun n a ha => by rw [D4, Az (by simp)]) N 0 (List.replicate p.fTables.length 0) (Nat.zero_le _) (by omega) (by simp)
  have e' : D4 N p (fun v7 => some (Ae.mk p.fNow (List.replicate p.fNow.length (-1)) v7, 0)) N (List.replicate ((p.fTables.length : Int)).toNat (0 : Int), 0) = _ := e
  rw [e', ha]
  have e5 : (p.fTables.map (Fu p)).take p.fTables.length = p.fTables.map (Fu p) := List.take_of_length_le (by simp)
  simp [EF, e5]
 ·rw [if_neg hv, bne_iff_ne.2 hv, AN]
theorem Jp (N : Nat) (p : Ag) (hN : N ≤ 1000000) (h20 : 100 ≤ N) : DJ N p = some (if CF p = 0 then EF p else ⟨[], [], []⟩, CF p) := by
 unfold DJ
 rw [M9 N p hN (by omega)]
 simp only [oS]
 by_cases hv : CF p = 0
 ·rw [if_pos hv, hv]
  obtain ⟨hp, _⟩ := C1 hv
  have hnv := hp.nv
  have hnt := hp.nt
  have hnow := hp.now
  rw [bne_self_eq_false, As]
  obtain ⟨a', e, ha⟩ := EU (Cb N p fun v4 => Bp N p (fun v10 => some (Ae.mk v4.1 v4.2 v10, 0)) N (([] : List Int), 0)) (fun a i => (a.1, a.2, i)) p.fVersions.length (fun v4 => Bp N p (fun v10 => some (Ae.mk v4.1 v4.2 v10, 0)) N (([] : List Int), 0))
   (fun i a => a = (p.fNow.take i, List.replicate i (-1)))
   (fun n i a hi ha => by
    subst ha
    rw [Cb, AC (by simp only; omega)]
    have hx : p.fNow[i]? = some p.fNow[i] := by simp [show i < p.fNow.length from by omega]
    simp only [A5, hx, oS, AR (show i < 1000000 by omega)]
    rw [AA (by simp [Du]; omega), AA (by simp [Du]; omega)]
    refine ⟨(p.fNow.take i ++ [p.fNow[i]], List.replicate i (-1) ++ [-1]), rfl, ?_⟩
    rw [List.take_add_one, hx, List.replicate_succ']; rfl)
   (fun n a ha => by rw [Cb, Az (by simp)]) N 0 ([], []) (Nat.zero_le _) (by omega) rfl
  have e' : Cb N p (fun v4 => Bp N p (fun v10 => some (Ae.mk v4.1 v4.2 v10, 0)) N (([] : List Int), 0)) N (([] : List Int), ([] : List Int), 0) = _ := e
  rw [e', ha]
  simp only
  obtain ⟨b', e2, hb⟩ := EU (Bp N p fun v10 => some (Ae.mk (p.fNow.take p.fVersions.length) (List.replicate p.fVersions.length (-1)) v10, 0)) (fun a i => (a, i)) p.fTables.length (fun v10 => some (Ae.mk (p.fNow.take p.fVersions.length) (List.replicate p.fVersions.length (-1)) v10, 0))
   (fun i a => a = (p.fTables.map (Fu p)).take i)
   (fun n i a hi ha => by
    subst ha
    have hx : p.fTables[i]? = some p.fTables[i] := by simp [hi]
    have hm : p.fTables[i] ∈ p.fTables := List.getElem_mem hi
    obtain ⟨n1, n2, n3, n4, _⟩ := Rx hv hm
    rw [Bp, AC (by simp only; omega)]
    simp only [A6, A5, hx, oS, Gr, AR (show i < 1000000 by omega)]
    have hT : (p.fTables.map (Fu p))[i]? = some (Fu p p.fTables[i]) := by rw [List.getElem?_map, hx]; rfl
    have hlen : ((p.fTables.map (Fu p)).take i).length + 1 ≤ Du := by simp [Du]; omega
    cases hs : Ce p.fTables[i]
    ·rw [As, AA (by simpa using hlen)]
     refine ⟨_, rfl, ?_⟩
     rw [List.take_add_one, hT]
     unfold Fu; rw [hs]; rfl
    ·rw [AN]
     have e1 : A9 p.fNow p.fTables[i].fFrom = some (p.fNow.getD p.fTables[i].fFrom.toNat 0) := by
      obtain ⟨q, hq⟩ := Int.eq_ofNat_of_zero_le n1
      rw [hq]; exact Dh (by rw [hq] at n2; simpa using n2)
     rw [e1]
     simp only [oS]
     rw [AA n3, AA (by simpa using hlen)]
     refine ⟨_, rfl, ?_⟩
     rw [List.take_add_one, hT]
     unfold Fu; rw [hs]; rfl)
   (fun n a ha => by rw [Bp, Az (by simp)]) N 0 [] (Nat.zero_le _) (by omega) rfl
  have e3 : Bp N p (fun v10 => some (Ae.mk (p.fNow.take p.fVersions.length) (List.replicate p.fVersions.length (-1)) v10, 0)) N (([] : List Int), 0) = _ := e2
  rw [e3, hb]
  simp only [EF, ← hnow, List.take_length]
  rw [show p.fTables.length = (p.fTables.map (Fu p)).length from by simp, List.take_length]
 ·rw [if_neg hv, bne_iff_ne.2 hv, AN]
theorem Nk {p : Ag} (hv : CF p = 0) : Bt p (EF p) := by
 obtain ⟨hp, hr⟩ := C1 hv
 have hnow := hp.now
 have hnx : ∀ i, i < p.fVersions.length → (List.replicate p.fNow.length (-1 : Int)).getD i 0 = -1 := fun i hi => by
  rw [lD, List.getElem?_replicate, if_pos (by omega)]; rfl
 have hone : ∀ (i : Nat) (t : AI), p.fTables[i]? = some t → ∃ b : Nat, b < 6 ∧ p.fNow.getD t.fFrom.toNat 0 = (b : Int) ∧ (b : Int) < p.fVersions.getD t.fFrom.toNat 0 ∧ t.fFrom.toNat < p.fVersions.length := fun i t ht => by
  obtain ⟨n1, n2, n3, n4, n5, n6⟩ := Rx hv (lM ht)
  obtain ⟨b, hb⟩ := Int.eq_ofNat_of_zero_le n3
  exact ⟨b, by omega, hb, by omega, n6⟩
 have hbit : ∀ b : Nat, b < 8 → ∀ v, DG (Cp .u8 1 (b : Int)) v = decide (b = v) := fun b hb v => by
  by_cases h : v < 8
  ·exact (Jw ⟨b, hb⟩ ⟨v, h⟩).1
  ·rw [Jq (Jw ⟨b, hb⟩ ⟨0, by omega⟩).2.2 (by omega)]
   symm; apply decide_eq_false; omega
 refine { base := hnow, next := by simp [EF, hnow], held := by simp [EF], b0 := fun i hi => ⟨(hr i hi).1, (hr i hi).2.1⟩, n0 := fun i hi => ?_, ne := fun i hi => ?_, range := fun i hi => ?_, low := fun i t ht hs v hv' => ?_, high := fun i t ht hs v hb => ?_, none := fun i t ht hs => ?_ }
 ·show -1 ≤ (List.replicate p.fNow.length (-1 : Int)).getD i 0 ∧ (List.replicate p.fNow.length (-1 : Int)).getD i 0 < _
  rw [hnx i hi]
  have := HQ hp hi
  omega
 ·show p.fNow.getD i 0 ≠ (List.replicate p.fNow.length (-1 : Int)).getD i 0
  rw [hnx i hi]
  have := hr i hi
  omega
 ·have hx : p.fTables[i]? = some p.fTables[i] := by simp [hi]
  show 0 ≤ (p.fTables.map (Fu p)).getD i 0 ∧ (p.fTables.map (Fu p)).getD i 0 ≤ 255
  rw [I7 hx]
  unfold Fu
  split
  ·obtain ⟨b, h1, h2, _⟩ := hone i _ hx
   rw [h2]
   exact (Jw ⟨b, by omega⟩ ⟨0, by omega⟩).2
  ·omega
 ·show DG ((p.fTables.map (Fu p)).getD i 0) v = true
  obtain ⟨b, h1, h2, h3, h4⟩ := hone i t ht
  rw [I7 ht]
  unfold Fu
  rw [if_pos hs, h2, hbit b (by omega)]
  unfold H3 at hv'
  have h5 : (EF p).fBase.getD t.fFrom.toNat 0 = (b : Int) := h2
  have h6 : (EF p).fNext.getD t.fFrom.toNat 0 = -1 := hnx _ h4
  rw [h5, h6, Bool.or_eq_true, decide_eq_true_iff, decide_eq_true_iff] at hv'
  apply decide_eq_true; omega
 ·have hb : DG ((p.fTables.map (Fu p)).getD i 0) v = true := hb
  obtain ⟨b, h1, h2, h3, h4⟩ := hone i t ht
  rw [I7 ht] at hb
  unfold Fu at hb
  rw [if_pos hs, h2, hbit b (by omega), decide_eq_true_iff] at hb
  omega
 ·show (p.fTables.map (Fu p)).getD i 0 = 0
  rw [I7 ht]; unfold Fu; rw [hs]; rfl
theorem Ms (x : BitVec 8) : wI .u8 (x.toNat : Int) = (x.toNat : Int) := by
 have := x.isLt
 simp [wI, IntKind.signed, IntKind.bits]
 omega
theorem QW (x : BitVec 8) : 0 ≤ (x.toNat : Int) ∧ (x.toNat : Int) ≤ 255 := by
 have := x.isLt
 omega
theorem TC (x : BitVec 8) (v : Nat) : DG (x.toNat : Int) v = x.getLsbD v := by
 unfold DG; rw [Int.toNat_natCast]; rfl
theorem PY {a : Int} (ha : 0 ≤ a ∧ a ≤ 255) (v : Nat) : (BitVec.ofInt 8 a).getLsbD v = DG a v := by
 obtain ⟨a, rfl⟩ := Int.eq_ofNat_of_zero_le ha.1
 unfold BitVec.getLsbD DG
 rw [TL (by omega), Int.toNat_natCast]
theorem Rv {a b : Int} (ha : 0 ≤ a ∧ a ≤ 255) (hb : 0 ≤ b ∧ b ≤ 255) : (∀ v, DG (Dc .u8 a b) v = (DG a v && !DG b v)) ∧ 0 ≤ Dc .u8 a b ∧ Dc .u8 a b ≤ 255 := by
 have e : Dc .u8 a b = ((BitVec.ofInt 8 a &&& ~~~BitVec.ofInt 8 b).toNat : Int) := Ms (BitVec.ofInt 8 a &&& ~~~BitVec.ofInt 8 b)
 rw [e]
 refine ⟨fun v => ?_, QW _⟩
 rw [TC, BitVec.getLsbD_and, BitVec.getLsbD_not, PY ha, PY hb]
 by_cases h : v < 8
 ·simp [h]
 ·rw [Jq ha.2 (by omega)]; simp
theorem RH {a b : Int} (ha : 0 ≤ a ∧ a ≤ 255) (hb : 0 ≤ b ∧ b ≤ 255) : (∀ v, DG (Ob .u8 a b) v = (DG a v || DG b v)) ∧ 0 ≤ Ob .u8 a b ∧ Ob .u8 a b ≤ 255 := by
 have e : Ob .u8 a b = ((BitVec.ofInt 8 a ||| BitVec.ofInt 8 b).toNat : Int) := Ms (BitVec.ofInt 8 a ||| BitVec.ofInt 8 b)
 rw [e]
 refine ⟨fun v => ?_, QW _⟩
 rw [TC, BitVec.getLsbD_or, PY ha, PY hb]
theorem UQ {b : Nat} (hb : b < 8) : (∀ v, DG (Cp .u8 1 (b : Int)) v = decide (b = v)) ∧ 0 ≤ Cp .u8 1 (b : Int) ∧ Cp .u8 1 (b : Int) ≤ 255 := by
 refine ⟨fun v => ?_, (Jw ⟨b, hb⟩ ⟨0, by omega⟩).2⟩
 by_cases h : v < 8
 ·exact (Jw ⟨b, hb⟩ ⟨v, h⟩).1
 ·rw [Jq (Jw ⟨b, hb⟩ ⟨0, by omega⟩).2.2 (by omega)]
  symm; apply decide_eq_false; omega
theorem UB (N : Nat) {s : Int} {v : Nat} (hs : 0 ≤ s ∧ s ≤ 255) (hv : v < 8) : Ct N s (v : Int) = some (DG s v) := by
 unfold Ct
 rw [AA (by omega), Px hs.1 hs.2 hv]
 cases DG s v <;> rfl
def Wn (v : Nat) : Nat := ((List.range 8).find? fun u => v.testBit u).getD 8
def Xp (v : Nat) : Nat := ((List.range 8).filter fun u => v.testBit u).length
theorem Wx : ∀ v : Fin 256, CV 0 (v.val : Int) = some (Wn v.val : Int) := by decide +kernel
theorem XQ (N : Nat) {v : Nat} (h : v < 256) : CV N (v : Int) = some (Wn v : Int) := Wx ⟨v, h⟩
theorem Vn : ∀ v : Fin 256, v.val ≠ 0 → Wn v.val < 8 ∧ DG (v.val : Int) (Wn v.val) = true ∧ 0 ≤ FF .u8 (v.val : Int) (wI .u8 ((v.val : Int) - 1)) ∧ FF .u8 (v.val : Int) (wI .u8 ((v.val : Int) - 1)) ≤ 255 ∧
  Xp (FF .u8 (v.val : Int) (wI .u8 ((v.val : Int) - 1))).toNat + 1 = Xp v.val ∧
  ∀ u : Fin 8, DG (FF .u8 (v.val : Int) (wI .u8 ((v.val : Int) - 1))) u.val = (DG (v.val : Int) u.val && decide (u.val ≠ Wn v.val)) := by decide +kernel
theorem Yn (v : Nat) : Xp v ≤ 8 := by
 have := List.length_filter_le (fun u => v.testBit u) (List.range 8)
 simpa [Xp] using this
theorem QZ (N : Nat) (t : AI) (b : Int) (rw_ : Nat → Bool) : ∀ (k n v : Nat), Xp v ≤ k → k < n → v < 256 →
  (∀ u, u < 8 → DG (v : Int) u = true → ∃ row, A9 t.fRewrite (u : Int) = some row ∧ A9 row b = some (rw_ u)) →
  Dn N t b (fun _ => some true) n (v : Int) = some ((List.range 8).all fun u => !DG (v : Int) u || rw_ u)
 | k, 0, v, _, h, _, _ => by omega
 | k, n + 1, v, hk, hn, hv, hr => by
  rw [Dn]
  by_cases h0 : v = 0
  ·subst h0
   have : (((0 : Nat) : Int) != 0) = false := rfl
   rw [this, As]
   congr 1
  ·have h1 : ((v : Int) != 0) = true := bne_iff_ne.2 (by omega)
   obtain ⟨l1, l2, l3, l4, l5, l6⟩ := Vn ⟨v, hv⟩ h0
   simp only at l1 l2 l3 l4 l5 l6
   obtain ⟨row, e1, e2⟩ := hr _ l1 l2
   rw [h1, AN, XQ N hv]
   simp only [oS, e1, e2]
   obtain ⟨w, hw⟩ := Int.eq_ofNat_of_zero_le l3
   rw [hw] at l4 l5 l6 ⊢
   rw [Int.toNat_natCast] at l5
   cases hq : rw_ (Wn v)
   ·rw [Bool.not_false, AN]
    congr 1
    symm
    rw [List.all_eq_false]
    exact ⟨Wn v, by simpa using l1, by rw [l2, hq]; simp⟩
   ·rw [Bool.not_true, As]
    match k, hk with
    | 0, hk => exfalso; omega
    | k + 1, hk =>
    rw [QZ N t b rw_ k n w (by omega) (by omega) (by omega) (fun u hu hb => hr u hu (by have := l6 ⟨u, hu⟩; simp only at this; rw [hb] at this; simpa using (Bool.and_eq_true_iff.1 this.symm).1))]
    congr 1
    rw [Bool.eq_iff_iff, List.all_eq_true, List.all_eq_true]
    refine ⟨fun h u hu => ?_, fun h u hu => ?_⟩
    ·have hu8 : u < 8 := by simpa using hu
     have h3 := h u hu
     have h4 := l6 ⟨u, hu8⟩
     simp only at h4
     rw [h4] at h3
     by_cases e : u = Wn v
     ·rw [e, hq]; simp
     ·simpa [e] using h3
    ·have hu8 : u < 8 := by simpa using hu
     have h3 := h u hu
     have h4 := l6 ⟨u, hu8⟩
     simp only at h4
     rw [h4]
     cases hb : DG (v : Int) u
     ·simp
     ·rw [hb] at h3; simp at h3; simp [h3]
theorem Qz (N : Nat) (m : Ae) (s : Int) (h0 : 0 ≤ s) (h1 : s < (m.fBase.length : Int)) (h2 : s < (m.fNext.length : Int)) (hb : 0 ≤ m.fBase.getD s.toNat 0) : FE N m s = some (Gp m s.toNat) := by
 unfold FE Gp
 rw [EH (d := 0) h0 h1, EH (d := 0) h0 h2]
 simp only [oS, Bb]
 rw [show DT (0 ≤ m.fBase.getD s.toNat 0) = some () from by unfold DT; rw [if_pos hb]]
 simp only [oS]
 by_cases h : 0 ≤ m.fNext.getD s.toNat 0
 ·rw [AC h, if_pos h, show DT (0 ≤ m.fNext.getD s.toNat 0) = some () from by unfold DT; rw [if_pos h]]; rfl
 ·rw [Az h, if_neg h]
theorem J6 (N : Nat) (t : AI) : Fo N t = some (Ce t) := by
 unfold Fo Ce
 simp only [Bb]
 cases h : t.fKind == 3 <;> simp
def GV (s : Ak) : Bool := decide (1 ≤ s.fKind ∧ s.fKind ≤ 4 ∧ 0 ≤ s.fIndex ∧ 0 ≤ s.fVersion) && (s.fKind == 1 || s.fVersion == 0)
def FT (p : Ag) (s : Ak) : Bool :=
 if s.fKind = 3 then decide (s.fIndex < (p.fTables.length : Int)) else decide (s.fIndex < (p.fVersions.length : Int)) && (s.fKind != 1 || decide (s.fVersion < p.fVersions.getD s.fIndex.toNat 0))
theorem Of (N : Nat) (s : Ak) : Gt N s = some (GV s) := by
 unfold Gt GV Tf
 simp only [Bb]
 by_cases h1 : (if s.fVersion < s.fIndex then s.fVersion else s.fIndex) < 0
 ·rw [AC h1, AN, decide_eq_false (by split at h1 <;> omega)]; rfl
 ·rw [Az h1]
  by_cases h2 : s.fKind < 1
  ·rw [AC h2, AN, decide_eq_false (by omega)]; rfl
  ·rw [Az h2]
   by_cases h3 : 4 < s.fKind
   ·rw [decide_eq_true h3, AN, decide_eq_false (by omega)]; rfl
   ·rw [decide_eq_false h3, As, decide_eq_true (by split at h1 <;> omega), Bool.true_and]
    cases h4 : s.fKind == 1 <;> simp
theorem P1 (N : Nat) (s : Ak) : Ep N s = some (GV s) := by
 unfold Ep GV
 simp only [Bb]
 by_cases h1 : 1 ≤ s.fKind
 ·rw [AC h1]
  by_cases h2 : s.fKind ≤ 4
  ·rw [AC h2]
   by_cases h3 : 0 ≤ s.fIndex
   ·rw [AC h3]
    by_cases h4 : 0 ≤ s.fVersion
    ·rw [AC h4, decide_eq_true (by omega), Bool.true_and]
     cases h5 : s.fKind == 1 <;> simp
    ·rw [Az h4, decide_eq_false (by omega)]; rfl
   ·rw [Az h3, decide_eq_false (by omega)]; rfl
  ·rw [Az h2, decide_eq_false (by omega)]; rfl
 ·rw [Az h1, decide_eq_false (by omega)]; rfl
theorem N6 (N : Nat) (p : Ag) (s : Ak) (hv : GV s = true) : F5 N p s = some (FT p s) := by
 have h0 : 0 ≤ s.fIndex := by
  unfold GV at hv
  rw [Bool.and_eq_true, decide_eq_true_iff] at hv
  exact hv.1.2.2.1
 unfold F5 FT
 simp only [Bb]
 by_cases h1 : s.fKind = 3
 ·rw [if_pos h1, beq_iff_eq.2 h1, AN]
 ·rw [if_neg h1, beq_eq_false_iff_ne.2 h1, As]
  by_cases h2 : s.fIndex < (p.fVersions.length : Int)
  ·rw [AC h2, decide_eq_true h2, Bool.true_and]
   cases h3 : s.fKind != 1
   ·rw [As, EH (d := 0) h0 h2, Bool.false_or]; rfl
   ·rw [AN]; rfl
  ·rw [Az h2, decide_eq_false h2]; rfl
def SB (s : Ak) (t : AI) : Bool := t.fFrom == s.fIndex && Ce t
def S7 (s : Ak) (i : Nat) (t : AI) (a : List Int) : List Int := if SB s t = true then a.set i (Ob .u8 (a.getD i 0) (Cp .u8 1 s.fVersion)) else a
def Ie (p : Ag) (s : Ak) (held : List Int) : List Int := HZ (S7 s) 0 p.fTables held
theorem MC {_R : Type} (N : Nat) (p : Ag) (s : Ak) (held : List Int) (hv : 0 ≤ s.fVersion) (hl : held.length = p.fTables.length) (h12 : p.fTables.length < N) (hN : N ≤ 1000000) (j : List Int → Option (Bool × List Int × List Int)) :
  DF N p s j N (held, 0) = j (Ie p s held) ∧ (Ie p s held).length = p.fTables.length := by
 have := H9 (DF N p s j) (fun a i => (a, i)) p.fTables j (S7 s) (fun i a => a.length = p.fTables.length)
  (fun n i x a hx ha => by
   have hi := (lI.1 hx).1
   rw [DF, AC (by simp only; omega)]
   simp only [A6, A5, hx, oS, J6, AR (show i < 1000000 by omega)]
   have e2 : a[i]? = some (a.getD i 0) := by rw [lD]; simp [show i < a.length from by omega]
   unfold S7 SB
   cases h1 : x.fFrom == s.fIndex
   ·rw [As, As, Bool.false_and, if_neg (by simp)]; exact ⟨rfl, ha⟩
   ·rw [AN, Bool.true_and]
    cases h2 : Ce x
    ·rw [As, if_neg (by simp)]; exact ⟨rfl, ha⟩
    ·rw [AN, e2, if_pos rfl]
     simp only [oS]
     rw [AA hv]
     exact ⟨rfl, by simpa using ha⟩)
  (fun n a ha => by rw [DF, Az (by simp)]) N 0 held (Nat.zero_le _) (by omega) hl
 rw [List.drop_zero] at this
 exact this
theorem NB (N : Nat) (p : Ag) (s : Ak) (held : List Int) (hv : 0 ≤ s.fVersion) (hl : held.length = p.fTables.length) (h12 : p.fTables.length < N) (hN : N ≤ 1000000) (j : List Int → Option (Ae × Bool)) :
  BZ N p s j N (held, 0) = j (Ie p s held) := by
 have := H9 (BZ N p s j) (fun a i => (a, i)) p.fTables j (S7 s) (fun i a => a.length = p.fTables.length)
  (fun n i x a hx ha => by
   have hi := (lI.1 hx).1
   rw [BZ, AC (by simp only; omega)]
   simp only [A6, A5, hx, oS, Gr, AR (show i < 1000000 by omega)]
   have e2 : a[i]? = some (a.getD i 0) := by rw [lD]; simp [show i < a.length from by omega]
   unfold S7 SB
   cases h1 : x.fFrom == s.fIndex
   ·rw [As, As, Bool.false_and, if_neg (by simp)]; exact ⟨rfl, ha⟩
   ·rw [AN, Bool.true_and]
    cases h2 : Ce x
    ·rw [As, if_neg (by simp)]; exact ⟨rfl, ha⟩
    ·rw [AN, e2, if_pos rfl]
     simp only [oS]
     rw [AA hv]
     exact ⟨rfl, by simpa using ha⟩)
  (fun n a ha => by rw [BZ, Az (by simp)]) N 0 held (Nat.zero_le _) (by omega) hl
 rw [List.drop_zero] at this
 exact this.1
def Kz (m : Ae) (t : AI) (u : Nat) : Bool := (t.fRewrite.getD u []).getD (m.fBase.getD t.fFrom.toNat 0).toNat false
def N8 (m : Ae) (i : Nat) (t : AI) (u : Nat) : Bool := DG (m.fHeld.getD i 0) u && !H3 m t.fFrom.toNat u
def HR (_p : Ag) (m : Ae) (i : Nat) (t : AI) : Bool := t.fKind == 4 && (List.range 8).any fun u => N8 m i t u && !Kz m t u
def FR (p : Ag) (m : Ae) (s : Ak) : Option Ae :=
 let i := s.fIndex.toNat
 if s.fKind = 1 then (if 0 ≤ m.fNext.getD i 0 ∨ m.fBase.getD i 0 = s.fVersion then none else some ⟨m.fBase, m.fNext.set i s.fVersion, Ie p s m.fHeld⟩)
 else if s.fKind = 3 then match p.fTables[i]? with
  | none => none
  | some t => if Ce t = false ∨ m.fHeld.getD i 0 = Gp m t.fFrom.toNat ∨ HR p m i t = true then none else some ⟨m.fBase, m.fNext, m.fHeld.set i (Gp m t.fFrom.toNat)⟩
 else if m.fNext.getD i 0 < 0 then none
 else some ⟨if s.fKind = 2 then m.fBase.set i (m.fNext.getD i 0) else m.fBase, m.fNext.set i (-1), m.fHeld⟩
def B2 (p : Ag) (m : Ae) (s : Ak) : Ae × Int :=
 if GV s = false then (GZ, 1) else if FT p s = false then (GZ, 4) else match FR p m s with
  | none => (GZ, 11)
  | some x => (x, 0)
end Go.Lift
namespace Go.Lift
open Option renaming bind_some → oS
open List renaming mem_of_getElem? → lM
open List renaming getElem?_eq_some_iff → lI
open List renaming getD_eq_getElem?_getD → lD
open Go
section clear
variable {p : Ag} {m : Ae} {i : Nat} {t : AI}
theorem Us (hp : Bl p) (hm : Bt p m) (ht : p.fTables[i]? = some t) (hs : Ce t = true) {u : Nat} (h : DG (m.fHeld.getD i 0) u = true) : (u : Int) < p.fVersions.getD t.fFrom.toNat 0 ∧ u < 6 ∧ t.fFrom.toNat < p.fVersions.length := by
 have h1 := hm.high i t ht hs u h
 have hin := It (hp.tab t (lM ht))
 have h2 := HQ hp (i := t.fFrom.toNat) (by omega)
 exact ⟨h1, by omega, by omega⟩
theorem Tz (hp : Bl p) (hm : Bt p m) (ht : p.fTables[i]? = some t) (hs : Ce t = true) (h4 : t.fKind = 4) {u : Nat} (h : DG (m.fHeld.getD i 0) u = true) :
  A9 t.fRewrite (u : Int) = some (t.fRewrite.getD u []) ∧ A9 (t.fRewrite.getD u []) (m.fBase.getD t.fFrom.toNat 0) = some (Kz m t u) := by
 have hT := Mb (hp.tab t (lM ht))
 obtain ⟨h1, h2, h3⟩ := Us hp hm ht hs h
 have hl := hT.reL h4
 have e : t.fRewrite[u]? = some (t.fRewrite.getD u []) := by rw [lD]; simp [show u < t.fRewrite.length from by omega]
 have hr := hT.reR _ (lM e)
 have hb := hm.b0 t.fFrom.toNat h3
 refine ⟨by rw [A5, e], ?_⟩
 unfold Kz
 obtain ⟨b, hb'⟩ := Int.eq_ofNat_of_zero_le hb.1
 rw [hb'] at hb ⊢
 rw [Int.toNat_natCast]
 exact Dh (by omega)
theorem Ot (N : Nat) (hN : N ≤ 1000000) (h20 : 100 ≤ N) (hp : Bl p) (hm : Bt p m) (ht : p.fTables[i]? = some t) :
  Gx N p m (i : Int) = some (if Ce t = false ∨ m.fHeld.getD i 0 = Gp m t.fFrom.toNat ∨ HR p m i t = true then (false, m.fHeld) else (true, m.fHeld.set i (Gp m t.fFrom.toNat))) := by
 have hi := (lI.1 ht).1
 have hin := It (hp.tab t (lM ht))
 have hb := hm.base
 have hnx := hm.next
 have hh := hm.held
 have hr := HE hp hm.toMixServ (s := t.fFrom.toNat) (by omega)
 have hrg := hm.range i hi
 have eh : A9 m.fHeld (i : Int) = some (m.fHeld.getD i 0) := Dh (by omega)
 unfold Gx
 simp only [A6, A5, ht, oS, J6]
 have eh' : m.fHeld[i]? = some (m.fHeld.getD i 0) := by rw [← A5, eh]
 cases hs : Ce t
 ·rw [Bool.not_false, AN, if_pos (.inl rfl)]
 ·rw [Bool.not_true, As, Qz N m _ hin.1 (by omega) (by omega) (hm.b0 _ (by omega)).1]
  simp only [oS, eh']
  by_cases h1 : m.fHeld.getD i 0 = Gp m t.fFrom.toNat
  ·rw [beq_iff_eq.2 h1, AN, AN, if_pos (.inr (.inl h1))]
  ·rw [beq_eq_false_iff_ne.2 h1, As]
   by_cases h4 : t.fKind = 4
   ·rw [beq_iff_eq.2 h4, AN, EH (d := 0) hin.1 (by omega)]
    simp only [oS]
    obtain ⟨a1, a2, a3⟩ := Rv hrg hr.2
    obtain ⟨w, hw⟩ := Int.eq_ofNat_of_zero_le a2
    unfold Fy
    rw [hw] at a1 a3 ⊢
    rw [QZ N t _ (Kz m t) 8 N w (Yn _) (by omega) (by omega) (fun u hu hbu => by
     have := a1 u; rw [hbu] at this
     exact ⟨_, Tz hp hm ht hs h4 (Bool.and_eq_true_iff.1 this.symm).1⟩)]
    simp only [oS]
    have e : (!(List.range 8).all fun u => !DG (w : Int) u || Kz m t u) = HR p m i t := by
     unfold HR
     rw [beq_iff_eq.2 h4, Bool.true_and, List.not_all_eq_any_not]
     congr 1
     funext u
     rw [a1 u, hr.1 u]
     unfold N8
     cases DG (m.fHeld.getD i 0) u <;> cases H3 m t.fFrom.toNat u <;> cases Kz m t u <;> rfl
    rw [e]
    cases hst : HR p m i t
    ·rw [As, if_neg (by rintro (h | h | h); cases h; exact h1 h; cases h)]; rfl
    ·rw [AN, if_pos (.inr (.inr rfl))]
   ·have e : HR p m i t = false := by unfold HR; rw [beq_eq_false_iff_ne.2 h4]; rfl
    rw [beq_eq_false_iff_ne.2 h4, As, As, e, if_neg (by rintro (h | h | h); cases h; exact h1 h; cases h)]; rfl
theorem NY (N : Nat) (hN : N ≤ 1000000) (h20 : 100 ≤ N) (hp : Bl p) (hm : Bt p m) (ht : p.fTables[i]? = some t) (hs : Ce t = true) (s : Ak) (hsi : s.fIndex = (i : Int)) (j : Option (Ae × Bool)) :
  BI N p m s t (Gp m t.fFrom.toNat) (fun _ => j) N 0 = if HR p m i t = true then some (GZ, false) else j := by
 have hi := (lI.1 ht).1
 have hin := It (hp.tab t (lM ht))
 have hb := hm.base
 have hh := hm.held
 have hr := HE hp hm.toMixServ (s := t.fFrom.toNat) (by omega)
 have hrg := hm.range i hi
 have hver := HQ hp (i := t.fFrom.toNat) (by omega)
 obtain ⟨nv, hnv⟩ := Int.eq_ofNat_of_zero_le (show 0 ≤ p.fVersions.getD t.fFrom.toNat 0 by omega)
 have eh' : m.fHeld[i]? = some (m.fHeld.getD i 0) := by rw [lD]; simp [show i < m.fHeld.length from by omega]
 have := DE (BI N p m s t (Gp m t.fFrom.toNat) fun _ => j) (List.range nv) j (fun u _ => if (N8 m i t u && (t.fKind == 4 && !Kz m t u)) = true then some (GZ, false) else none)
  (fun n u x hx => by
   have hu : u < nv := by
    have := (lI.1 hx).1
    simpa using this
   rw [BI, EH (d := 0) hin.1 (by omega), hnv]
   simp only [oS]
   rw [AC (by omega)]
   simp only [A6, hsi, A5, eh', oS]
   rw [UB N hrg (by omega), AR (by omega)]
   simp only [oS]
   cases h1 : DG (m.fHeld.getD i 0) u
   ·have e : N8 m i t u = false := by unfold N8; rw [h1]; rfl
    rw [As, As, As, e]; rfl
   ·rw [AN, UB N hr.2 (by omega), hr.1 u]
    simp only [oS]
    have e : N8 m i t u = !H3 m t.fFrom.toNat u := by unfold N8; rw [h1]; rfl
    rw [← e]
    cases h2 : N8 m i t u
    ·rw [As, As]; rfl
    ·rw [AN]
     by_cases h4 : t.fKind = 4
     ·obtain ⟨e1, e2⟩ := Tz hp hm ht hs h4 h1
      rw [A5] at e1
      rw [beq_iff_eq.2 h4, AN, e1, EH (d := 0) hin.1 (by omega)]
      simp only [oS]
      rw [e2]
      simp only [oS]
      cases Kz m t u <;> rfl
     ·rw [beq_eq_false_iff_ne.2 h4, As, As]; rfl)
  (fun n => by
   rw [BI, EH (d := 0) hin.1 (by omega), hnv]
   simp only [oS, List.length_range]
   rw [Az (by omega)]) N 0 (Nat.zero_le _) (by simp; omega)
 have e0 : BI N p m s t (Gp m t.fFrom.toNat) (fun _ => j) N 0 = _ := this
 rw [e0, List.drop_zero]
 by_cases hst : HR p m i t = true
 ·rw [if_pos hst]
  unfold HR at hst
  rw [Bool.and_eq_true, List.any_eq_true] at hst
  obtain ⟨h4, u, hu, h5⟩ := hst
  rw [Bool.and_eq_true] at h5
  have h6 : DG (m.fHeld.getD i 0) u = true := by have := h5.1; unfold N8 at this; exact (Bool.and_eq_true_iff.1 this).1
  have h7 := Us hp hm ht hs h6
  cases hsc : D1 (fun u (_ : Nat) => if (N8 m i t u && (t.fKind == 4 && !Kz m t u)) = true then some (GZ, false) else none) 0 (List.range nv) with
  | some r =>
   obtain ⟨q, x, hx, hf⟩ := FN hsc
   split at hf
   ·cases hf; rfl
   ·cases hf
  | none =>
   exfalso
   have hx : (List.range nv)[u]? = some u := List.getElem?_range (by omega)
   have := GT hsc u u hx
   rw [Nat.zero_add, h5.1, h4, h5.2] at this
   cases this
 ·rw [if_neg hst]
  have : D1 (fun u (_ : Nat) => if (N8 m i t u && (t.fKind == 4 && !Kz m t u)) = true then some (GZ, false) else none) 0 (List.range nv) = none := FD fun q x hx => by
   rw [Nat.zero_add]
   split
   ·rename_i h5
    exfalso; apply hst
    rw [Bool.and_eq_true, Bool.and_eq_true] at h5
    unfold HR
    rw [h5.2.1, Bool.true_and, List.any_eq_true]
    have hq : q < nv := by
     have := (lI.1 hx).1
     simpa using this
    exact ⟨q, List.mem_range.2 (by omega), by rw [h5.1, h5.2.2]; rfl⟩
   ·rfl
  rw [this]; rfl
end clear
end Go.Lift
namespace Go.Lift
open Option renaming bind_some → oS
open List renaming mem_of_getElem? → lM
open Go
theorem Ia {s : Ak} (h : GV s = true) : 1 ≤ s.fKind ∧ s.fKind ≤ 4 ∧ 0 ≤ s.fIndex ∧ 0 ≤ s.fVersion ∧ (s.fKind ≠ 1 → s.fVersion = 0) := by
 unfold GV at h
 rw [Bool.and_eq_true, decide_eq_true_iff, Bool.or_eq_true, beq_iff_eq, beq_iff_eq] at h
 exact ⟨h.1.1, h.1.2.1, h.1.2.2.1, h.1.2.2.2, fun hk => h.2.elim (fun e => (hk e).elim) id⟩
theorem IZ {p : Ag} {s : Ak} (h : FT p s = true) : (s.fKind = 3 → s.fIndex < (p.fTables.length : Int)) ∧ (s.fKind ≠ 3 → s.fIndex < (p.fVersions.length : Int)) ∧ (s.fKind = 1 → s.fVersion < p.fVersions.getD s.fIndex.toNat 0) := by
 unfold FT at h
 split at h
 ·rename_i hk
  rw [decide_eq_true_iff] at h
  exact ⟨fun _ => h, fun hn => (hn hk).elim, fun h1 => by omega⟩
 ·rename_i hk
  rw [Bool.and_eq_true, decide_eq_true_iff, Bool.or_eq_true, decide_eq_true_iff, bne_iff_ne] at h
  exact ⟨fun h3 => (hk h3).elim, fun _ => h.1, fun h1 => h.2.elim (fun hn => (hn h1).elim) id⟩
theorem SD (N : Nat) {p : Ag} {m : Ae} (hp : Bl p) (hm : Bt p m) : Fs N m = some m := by
 have hnv := hp.nv
 have hnt := hp.nt
 have h1 := hm.base
 have h2 := hm.next
 have h3 := hm.held
 unfold Fs
 rw [I8 N _ (by simp only [Du]; omega), I8 N _ (by simp only [Du]; omega), Oz N _ (by simp only [Du]; omega)]
 rfl
theorem Kv (N : Nat) (hN : N ≤ 1000000) (h20 : 100 ≤ N) {p : Ag} {m : Ae} (hp : Bl p) (hm : Bt p m) {s : Ak} (hv : GV s = true) (hx : FT p s = true) :
  ∃ o, Ff N p m s = some (o, (FR p m s).isSome) ∧ ∀ x, FR p m s = some x → o = x := by
 obtain ⟨k1, k4, i0, v0, vk⟩ := Ia hv
 obtain ⟨x3, xn, x1⟩ := IZ hx
 have hnv := hp.nv
 have hnt := hp.nt
 have hb := hm.base
 have hn := hm.next
 have hh := hm.held
 obtain ⟨i, hi⟩ := Int.eq_ofNat_of_zero_le i0
 unfold Ff FR
 rw [SD N hp hm]
 simp only [oS, A6]
 by_cases hk1 : s.fKind = 1
 ·have hi1 : (i : Int) < p.fVersions.length := by have := xn (by omega); omega
  rw [beq_iff_eq.2 hk1, AN, if_pos hk1]
  unfold HA
  simp only [A6, hi, Int.toNat_natCast]
  rw [Dh (d := 0) (show i < m.fNext.length by omega)]
  simp only [oS]
  by_cases c1 : 0 ≤ m.fNext.getD i 0
  ·rw [AC c1, AN, if_pos (.inl c1)]
   exact ⟨_, rfl, fun x hx => by cases hx⟩
  ·rw [Az c1, Dh (d := 0) (show i < m.fBase.length by omega)]
   simp only [oS]
   by_cases c2 : m.fBase.getD i 0 = s.fVersion
   ·rw [beq_iff_eq.2 c2, AN, if_pos (.inr c2)]
    exact ⟨_, rfl, fun x hx => by cases hx⟩
   ·rw [beq_eq_false_iff_ne.2 c2, As, (MC (_R := Unit) N p s m.fHeld v0 hh (by omega) hN _).1, if_neg (by rintro (h | h); exact c1 h; exact c2 h)]
    exact ⟨_, rfl, fun x hx => by cases hx; rfl⟩
 ·rw [beq_eq_false_iff_ne.2 hk1, As, if_neg hk1]
  by_cases hk3 : s.fKind = 3
  ·have hi3 : i < p.fTables.length := by have := x3 hk3; omega
   have ht : p.fTables[i]? = some p.fTables[i] := by simp [hi3]
   rw [beq_iff_eq.2 hk3, AN, if_pos hk3, hi, Ot N hN h20 hp hm ht]
   simp only [oS, Int.toNat_natCast, ht]
   split
   ·exact ⟨_, rfl, fun x hx => by cases hx⟩
   ·exact ⟨_, rfl, fun x hx => by cases hx; rfl⟩
  ·have hi1 : (i : Int) < p.fVersions.length := by have := xn hk3; omega
   rw [beq_eq_false_iff_ne.2 hk3, As, if_neg hk3, hi, Dh (d := 0) (show i < m.fNext.length by omega)]
   simp only [oS, Int.toNat_natCast]
   by_cases c1 : m.fNext.getD i 0 < 0
   ·rw [AC c1, if_pos c1]
    exact ⟨_, rfl, fun x hx => by cases hx⟩
   ·rw [Az c1, if_neg c1]
    by_cases hk2 : s.fKind = 2
    ·rw [beq_iff_eq.2 hk2, AN, Dh (d := 0) (show i < m.fBase.length by omega), if_pos hk2]
     exact ⟨_, rfl, fun x hx => by cases hx; rfl⟩
    ·rw [beq_eq_false_iff_ne.2 hk2, As, if_neg hk2]
     exact ⟨_, rfl, fun x hx => by cases hx; rfl⟩
theorem Ol (N : Nat) (hN : N ≤ 1000000) (h20 : 100 ≤ N) {p : Ag} {m : Ae} (hp : Bl p) (hm : Bt p m) (s : Ak) : FO N p m s = some (B2 p m s) := by
 unfold FO B2
 rw [Of]
 simp only [oS]
 cases hv : GV s
 ·rw [Bool.not_false, AN, if_pos rfl]; rfl
 ·rw [Bool.not_true, As, if_neg (by simp), N6 N p s hv]
  simp only [oS]
  cases hx : FT p s
  ·rw [Bool.not_false, AN, if_pos rfl]; rfl
  ·rw [Bool.not_true, As, if_neg (by simp)]
   obtain ⟨o, e, ho⟩ := Kv N hN h20 hp hm hv hx
   rw [e]
   simp only [oS]
   cases ha : FR p m s with
   | none => rfl
   | some x => rw [ho x ha]; rfl
theorem LC (N : Nat) (hN : N ≤ 1000000) (h20 : 100 ≤ N) {p : Ag} {m : Ae} (hp : Bl p) (hm : Bt p m) {s : Ak} (hv : GV s = true) (hx : FT p s = true) :
  B0 N p m s = some (match FR p m s with | none => (GZ, false) | some x => (x, true)) := by
 obtain ⟨k1, k4, i0, v0, vk⟩ := Ia hv
 obtain ⟨x3, xn, x1⟩ := IZ hx
 have hnv := hp.nv
 have hnt := hp.nt
 have hb := hm.base
 have hn := hm.next
 have hh := hm.held
 obtain ⟨i, hi⟩ := Int.eq_ofNat_of_zero_le i0
 unfold B0 FR
 rw [AA (by simp [Du]; omega), AA (by simp [Du]; omega), AA (by simp [Du]; omega)]
 simp only [A6, List.nil_append]
 by_cases hk1 : s.fKind = 1
 ·have hi1 : (i : Int) < p.fVersions.length := by have := xn (by omega); omega
  rw [beq_iff_eq.2 hk1, AN, if_pos hk1]
  simp only [hi, Int.toNat_natCast]
  rw [Dh (d := 0) (show i < m.fNext.length by omega)]
  simp only [oS]
  by_cases c1 : 0 ≤ m.fNext.getD i 0
  ·rw [AC c1, AN, if_pos (.inl c1)]; rfl
  ·rw [Az c1, Dh (d := 0) (show i < m.fBase.length by omega)]
   simp only [oS]
   by_cases c2 : m.fBase.getD i 0 = s.fVersion
   ·rw [beq_iff_eq.2 c2.symm, AN, if_pos (.inr c2)]; rfl
   ·rw [beq_eq_false_iff_ne.2 (fun h => c2 h.symm), As, NB N p s m.fHeld v0 hh (by omega) hN _, if_neg (by rintro (h | h); exact c1 h; exact c2 h)]
 ·rw [beq_eq_false_iff_ne.2 hk1, As, if_neg hk1]
  by_cases hk3 : s.fKind = 3
  ·have hi3 : i < p.fTables.length := by have := x3 hk3; omega
   have ht : p.fTables[i]? = some p.fTables[i] := by simp [hi3]
   have hin := It (hp.tab _ (lM ht))
   have eh' : A9 m.fHeld (i : Int) = some (m.fHeld.getD i 0) := Dh (by omega)
   rw [beq_eq_false_iff_ne.2 (show s.fKind ≠ 2 by omega), As, beq_iff_eq.2 hk3, AN, if_pos hk3, hi, A5, ht]
   simp only [oS, Gr, Int.toNat_natCast, ht]
   cases hs : Ce p.fTables[i]
   ·rw [Bool.not_false, AN, if_pos (.inl rfl)]; rfl
   ·rw [Bool.not_true, As, Jt N m _ hin.1 (by omega) (by omega) (hm.b0 _ (by omega)).1, eh']
    simp only [oS]
    by_cases h1 : m.fHeld.getD i 0 = Gp m (p.fTables[i]).fFrom.toNat
    ·rw [beq_iff_eq.2 h1, AN, if_pos (.inr (.inl h1))]; rfl
    ·rw [beq_eq_false_iff_ne.2 h1, As]
     rw [NY N hN h20 hp hm ht hs s hi]
     cases hst : HR p m i p.fTables[i]
     ·rw [if_neg (by simp), if_neg (by rintro (h | h | h); cases h; exact h1 h; cases h)]
     ·rw [if_pos rfl, if_pos (.inr (.inr rfl))]
  ·have hi1 : (i : Int) < p.fVersions.length := by have := xn hk3; omega
   rw [if_neg hk3, hi, Dh (d := 0) (show i < m.fNext.length by omega)]
   simp only [oS, Int.toNat_natCast]
   by_cases hk2 : s.fKind = 2
   ·rw [beq_iff_eq.2 hk2, AN, if_pos hk2]
    by_cases c1 : m.fNext.getD i 0 < 0
    ·rw [AC c1, if_pos c1]; rfl
    ·rw [Az c1, if_neg c1, Dh (d := 0) (show i < m.fBase.length by omega)]; rfl
   ·rw [beq_eq_false_iff_ne.2 hk2, As, beq_eq_false_iff_ne.2 hk3, As, if_neg hk2]
    by_cases c1 : m.fNext.getD i 0 < 0
    ·rw [AC c1, if_pos c1]; rfl
    ·rw [Az c1, if_neg c1]
end Go.Lift
namespace Go.Lift
open Option renaming bind_some → oS
open List renaming mem_of_getElem? → lM
open List renaming getElem?_eq_some_iff → lI
open Go
theorem Q9 (s : Ak) : ∀ (xs : List AI) (i : Nat) (a : List Int), i + xs.length ≤ a.length → (HZ (S7 s) i xs a).length = a.length ∧ ∀ q, (HZ (S7 s) i xs a).getD q 0 = match (if i ≤ q then xs[q - i]? else none) with
  | some t => if SB s t = true then Ob .u8 (a.getD q 0) (Cp .u8 1 s.fVersion) else a.getD q 0
  | none => a.getD q 0
 | [], i, a, _ => by
  refine ⟨rfl, fun q => ?_⟩
  split
  ·rename_i h; split at h
   ·simp at h
   ·cases h
  ·rfl
 | x :: xs, i, a, hl => by
  have hl' : i + (xs.length + 1) ≤ a.length := by simpa using hl
  have ha : (S7 s i x a).length = a.length := by unfold S7; split <;> simp
  obtain ⟨ih1, ih2⟩ := Q9 s xs (i + 1) (S7 s i x a) (by omega)
  refine ⟨by rw [HZ, ih1, ha], fun q => ?_⟩
  rw [HZ, ih2 q]
  have hu : (S7 s i x a).getD q 0 = if q = i ∧ SB s x = true then Ob .u8 (a.getD q 0) (Cp .u8 1 s.fVersion) else a.getD q 0 := by
   unfold S7
   by_cases hc : SB s x = true
   ·rw [if_pos hc, Il (by omega)]
    by_cases hq : q = i
    ·subst hq; rw [if_pos rfl, if_pos ⟨rfl, hc⟩]
    ·rw [if_neg hq, if_neg (fun h => hq h.1)]
   ·rw [if_neg hc, if_neg (fun h => hc h.2)]
  by_cases h1 : i + 1 ≤ q
  ·rw [if_pos h1, if_pos (show i ≤ q by omega), hu, if_neg (by omega)]
   rw [show (x :: xs)[q - i]? = xs[q - (i + 1)]? from by rw [show q - i = (q - (i + 1)) + 1 from by omega, List.getElem?_cons_succ]]
  ·rw [if_neg h1]
   by_cases h2 : q = i
   ·subst h2
    rw [if_pos (Nat.le_refl _), Nat.sub_self, hu]
    simp
   ·rw [if_neg (show ¬ i ≤ q by omega), hu, if_neg (by omega)]
theorem SK {p : Ag} {s : Ak} {held : List Int} (hl : held.length = p.fTables.length) : (Ie p s held).length = p.fTables.length ∧ ∀ q t, p.fTables[q]? = some t → (Ie p s held).getD q 0 = if SB s t = true then Ob .u8 (held.getD q 0) (Cp .u8 1 s.fVersion) else held.getD q 0 := by
 obtain ⟨h1, h2⟩ := Q9 s p.fTables 0 held (by omega)
 refine ⟨h1.trans hl, fun q t ht => ?_⟩
 have := h2 q
 rw [if_pos (Nat.zero_le _), Nat.sub_zero, ht] at this
 exact this
theorem M1 {m : Ae} {s v : Nat} : H3 m s v = true ↔ m.fBase.getD s 0 = (v : Int) ∨ m.fNext.getD s 0 = (v : Int) := by
 unfold H3; rw [Bool.or_eq_true, decide_eq_true_iff, decide_eq_true_iff]
theorem Uk {p : Ag} {m x : Ae} (hp : Bl p) (hm : Bt p m) {s : Ak} (hv : GV s = true) (hx : FT p s = true) (h : FR p m s = some x) : Bt p x := by
 obtain ⟨k1, k4, i0, v0, vk⟩ := Ia hv
 obtain ⟨x3, xn, x1⟩ := IZ hx
 obtain ⟨i, hi⟩ := Int.eq_ofNat_of_zero_le i0
 have hb := hm.base
 have hn := hm.next
 have hh := hm.held
 unfold FR at h
 simp only [hi, Int.toNat_natCast] at h
 rw [hi, Int.toNat_natCast] at x1
 split at h
 ·rename_i hk1
  have hi1 : i < p.fVersions.length := by have := xn (by omega); omega
  have hx1 := x1 hk1
  have hvi := HQ hp hi1
  split at h
  ·cases h
  rename_i hc
  cases h
  obtain ⟨u1, u2⟩ := SK (s := s) hh
  obtain ⟨b, hbv⟩ := Int.eq_ofNat_of_zero_le v0
  have hob := UQ (b := b) (by omega)
  have hN : ∀ q, (m.fNext.set i s.fVersion).getD q 0 = if q = i then s.fVersion else m.fNext.getD q 0 := fun q => Il (by omega)
  refine { base := hb, next := by simpa using hn, held := u1, b0 := hm.b0, n0 := fun q hq => ?_, ne := fun q hq => ?_, range := fun q hq => ?_, low := fun q t ht hs v hr => ?_, high := fun q t ht hs v hbit => ?_, none := fun q t ht hs => ?_ }
  ·show -1 ≤ (m.fNext.set i s.fVersion).getD q 0 ∧ (m.fNext.set i s.fVersion).getD q 0 < _
   rw [hN q]
   split
   ·rename_i e; subst e; omega
   ·exact hm.n0 q hq
  ·show m.fBase.getD q 0 ≠ (m.fNext.set i s.fVersion).getD q 0
   rw [hN q]
   split
   ·rename_i e; subst e; exact fun h => hc (.inr h)
   ·exact hm.ne q hq
  ·have ht : p.fTables[q]? = some p.fTables[q] := by simp [hq]
   show 0 ≤ (Ie p s m.fHeld).getD q 0 ∧ (Ie p s m.fHeld).getD q 0 ≤ 255
   rw [u2 q _ ht, hbv]
   split
   ·exact (RH (hm.range q hq) hob.2).2
   ·exact hm.range q hq
  ·have hq := (lI.1 ht).1
   show DG ((Ie p s m.fHeld).getD q 0) v = true
   have hin := It (hp.tab t (lM ht))
   rw [M1] at hr
   have hr : m.fBase.getD t.fFrom.toNat 0 = (v : Int) ∨ (m.fNext.set i s.fVersion).getD t.fFrom.toNat 0 = (v : Int) := hr
   rw [hN] at hr
   rw [u2 q t ht, hbv]
   have hlow := hm.low q t ht hs v
   rw [M1] at hlow
   by_cases hf : t.fFrom.toNat = i
   ·have hup : SB s t = true := by unfold SB; rw [hs, Bool.and_true, beq_iff_eq, hi]; omega
    rw [if_pos hup, (RH (hm.range q hq) hob.2).1, hob.1 v, Bool.or_eq_true, decide_eq_true_iff]
    rw [if_pos hf] at hr
    rcases hr with h | h
    ·exact .inl (hlow (.inl h))
    ·right; omega
   ·rw [if_neg hf] at hr
    have hup : SB s t = false := by unfold SB; rw [hs, Bool.and_true, beq_eq_false_iff_ne, hi]; omega
    rw [hup, if_neg (by simp)]
    exact hlow hr
  ·have hq := (lI.1 ht).1
   have hbit : DG ((Ie p s m.fHeld).getD q 0) v = true := hbit
   have hin := It (hp.tab t (lM ht))
   rw [u2 q t ht, hbv] at hbit
   split at hbit
   ·rename_i hup
    rw [(RH (hm.range q hq) hob.2).1, hob.1 v, Bool.or_eq_true, decide_eq_true_iff] at hbit
    rcases hbit with h | h
    ·exact hm.high q t ht hs v h
    ·unfold SB at hup
     rw [hs, Bool.and_true, beq_iff_eq, hi] at hup
     rw [hup, Int.toNat_natCast]; omega
   ·exact hm.high q t ht hs v hbit
  ·show (Ie p s m.fHeld).getD q 0 = 0
   have hup : SB s t = false := by unfold SB; rw [hs, Bool.and_false]
   rw [u2 q t ht, hup, if_neg (by simp)]
   exact hm.none q t ht hs
 ·rename_i hk1
  split at h
  ·rename_i hk3
   have hi3 : i < p.fTables.length := by have := x3 hk3; omega
   have ht0 : p.fTables[i]? = some p.fTables[i] := by simp [hi3]
   rw [ht0] at h
   simp only at h
   split at h
   ·cases h
   rename_i hc
   cases h
   have hin0 := It (hp.tab _ (lM ht0))
   have hr0 := HE hp hm.toMixServ (s := (p.fTables[i]).fFrom.toNat) (by omega)
   have hs0 : Ce p.fTables[i] = true := by
    cases hs : Ce p.fTables[i]
    ·exact (hc (.inl hs)).elim
    ·rfl
   have hH : ∀ q, (m.fHeld.set i (Gp m (p.fTables[i]).fFrom.toNat)).getD q 0 = if q = i then Gp m (p.fTables[i]).fFrom.toNat else m.fHeld.getD q 0 := fun q => Il (by omega)
   refine { base := hb, next := hn, held := by simpa using hh, b0 := hm.b0, n0 := hm.n0, ne := hm.ne, range := fun q hq => ?_, low := fun q t ht hs v hr => ?_, high := fun q t ht hs v hbit => ?_, none := fun q t ht hs => ?_ }
   ·show 0 ≤ (m.fHeld.set i (Gp m (p.fTables[i]).fFrom.toNat)).getD q 0 ∧ (m.fHeld.set i (Gp m (p.fTables[i]).fFrom.toNat)).getD q 0 ≤ 255
    rw [hH q]
    split
    ·exact hr0.2
    ·exact hm.range q hq
   ·show DG ((m.fHeld.set i (Gp m (p.fTables[i]).fFrom.toNat)).getD q 0) v = true
    have hr : H3 m t.fFrom.toNat v = true := hr
    rw [hH q]
    split
    ·rename_i e; subst e
     rw [ht0] at ht; cases ht
     rw [hr0.1]; exact hr
    ·exact hm.low q t ht hs v hr
   ·have hbit : DG ((m.fHeld.set i (Gp m (p.fTables[i]).fFrom.toNat)).getD q 0) v = true := hbit
    rw [hH q] at hbit
    split at hbit
    ·rename_i e; subst e
     rw [ht0] at ht; cases ht
     rw [hr0.1] at hbit
     exact hm.high q _ ht0 hs0 v (hm.low q _ ht0 hs0 v hbit)
    ·exact hm.high q t ht hs v hbit
   ·show (m.fHeld.set i (Gp m (p.fTables[i]).fFrom.toNat)).getD q 0 = 0
    rw [hH q, if_neg (fun e => by subst e; rw [ht0] at ht; cases ht; rw [hs0] at hs; cases hs)]
    exact hm.none q t ht hs
  ·rename_i hk3
   have hi1 : i < p.fVersions.length := by have := xn hk3; omega
   have hvi := HQ hp hi1
   split at h
   ·cases h
   rename_i hc
   cases h
   have hN : ∀ q, (m.fNext.set i (-1)).getD q 0 = if q = i then -1 else m.fNext.getD q 0 := fun q => Il (by omega)
   have hB : ∀ q, (if s.fKind = 2 then m.fBase.set i (m.fNext.getD i 0) else m.fBase).getD q 0 = if s.fKind = 2 ∧ q = i then m.fNext.getD i 0 else m.fBase.getD q 0 := fun q => by
    by_cases hk2 : s.fKind = 2
    ·rw [if_pos hk2, Il (by omega)]
     by_cases e : q = i
     ·rw [if_pos e, if_pos ⟨hk2, e⟩]
     ·rw [if_neg e, if_neg (fun h => e h.2)]
    ·rw [if_neg hk2, if_neg (fun h => hk2 h.1)]
   have hrun : ∀ q v, H3 ⟨if s.fKind = 2 then m.fBase.set i (m.fNext.getD i 0) else m.fBase, m.fNext.set i (-1), m.fHeld⟩ q v = true → H3 m q v = true := fun q v hr => by
    rw [M1] at hr ⊢
    simp only [hN q, hB q] at hr
    by_cases e : q = i
    ·subst e
     rw [if_pos rfl] at hr
     by_cases hk2 : s.fKind = 2
     ·rw [if_pos ⟨hk2, rfl⟩] at hr; omega
     ·rw [if_neg (fun h => hk2 h.1)] at hr; omega
    ·rw [if_neg e, if_neg (fun h => e h.2)] at hr; exact hr
   refine { base := by simp only; split <;> simp [hb], next := by simpa using hn, held := hh, b0 := fun q hq => ?_, n0 := fun q hq => ?_, ne := fun q hq => ?_, range := hm.range, low := fun q t ht hs v hr => hm.low q t ht hs v (hrun _ _ hr), high := hm.high, none := hm.none }
   ·simp only [hB q]
    split
    ·rename_i e; obtain ⟨_, e⟩ := e; subst e
     have := hm.n0 q hq
     omega
    ·exact hm.b0 q hq
   ·simp only [hN q]
    split
    ·rename_i e; subst e; omega
    ·exact hm.n0 q hq
   ·simp only [hB q, hN q]
    have h1 := hm.b0 q hq
    by_cases e : q = i
    ·rw [if_pos e]
     split
     ·rename_i e2; obtain ⟨_, e2⟩ := e2; subst e2; omega
     ·omega
    ·rw [if_neg e, if_neg (fun h => e h.2)]; exact hm.ne q hq
theorem Pj (N : Nat) (hN : N ≤ 1000000) (h20 : 100 ≤ N) {p : Ag} {m : Ae} (hw : Oa KR m.fHeld) (s : Ak) : Er N p m s = some (if F0 p m = 0 then B2 p m s else (GZ, F0 p m)) := by
 unfold Er B2
 rw [PA N p m hN (by omega)]
 simp only [oS, A6]
 by_cases hval : F0 p m = 0
 ·obtain ⟨hp, hm⟩ := LB hw hval
  rw [if_pos hval, hval, bne_self_eq_false, As, P1]
  simp only [oS]
  cases hv : GV s
  ·rw [Bool.not_false, AN, if_pos rfl]; rfl
  ·rw [Bool.not_true, As, if_neg (by simp)]
   obtain ⟨k1, k4, i0, v0, vk⟩ := Ia hv
   have key : ∀ b : Bool, FT p s = b → (if b = false then (GZ, (4 : Int)) else match FR p m s with | none => (GZ, 11) | some x => (x, 0)) = (if b = false then (GZ, (4 : Int)) else match FR p m s with | none => (GZ, 11) | some x => (x, 0)) := fun _ _ => rfl
   have tail : FT p s = true → ((B0 N p m s).bind fun v15 => AV (!v15.2) (some (Ae.mk [] [] [], (11 : Int))) (some (v15.1, 0))) = some (match FR p m s with | none => (GZ, 11) | some x => (x, 0)) := fun hx => by
    rw [LC N hN h20 hp hm hv hx]
    cases FR p m s <;> rfl
   have zz : (Ae.mk [] [] [], (4 : Int)) = (GZ, 4) := rfl
   by_cases hk3 : s.fKind = 3
   ·rw [beq_iff_eq.2 hk3, AN, show (s.fKind != 3) = false from by rw [hk3]; rfl]
    have hX : FT p s = decide (s.fIndex < (p.fTables.length : Int)) := by unfold FT; rw [if_pos hk3]
    by_cases c : (p.fTables.length : Int) ≤ s.fIndex
    ·rw [AC c, AN, hX, decide_eq_false (by omega), if_pos rfl]; rfl
    ·have hx : FT p s = true := by rw [hX, decide_eq_true (by omega)]
     rw [Az c, As, As, beq_eq_false_iff_ne.2 (show s.fKind ≠ 1 by omega), As, As, hx, if_neg (by simp)]
     exact tail hx
   ·rw [beq_eq_false_iff_ne.2 hk3, As, bne_iff_ne.2 hk3, AN]
    have hX : FT p s = (decide (s.fIndex < (p.fVersions.length : Int)) && (s.fKind != 1 || decide (s.fVersion < p.fVersions.getD s.fIndex.toNat 0))) := by unfold FT; rw [if_neg hk3]
    by_cases c : (p.fVersions.length : Int) ≤ s.fIndex
    ·rw [decide_eq_true c, AN, hX, decide_eq_false (show ¬ s.fIndex < (p.fVersions.length : Int) by omega), Bool.false_and, if_pos rfl]; rfl
    ·rw [decide_eq_false c, As]
     by_cases hk1 : s.fKind = 1
     ·rw [beq_iff_eq.2 hk1, AN, EH (d := 0) i0 (by omega)]
      simp only [oS]
      by_cases c2 : p.fVersions.getD s.fIndex.toNat 0 ≤ s.fVersion
      ·rw [decide_eq_true c2, AN, hX, decide_eq_false (show ¬ s.fVersion < p.fVersions.getD s.fIndex.toNat 0 by omega), show (s.fKind != 1) = false from by rw [hk1]; rfl, Bool.false_or, Bool.and_false, if_pos rfl]; rfl
      ·have hx : FT p s = true := by rw [hX, decide_eq_true (by omega), decide_eq_true (by omega), Bool.or_true]; rfl
       rw [decide_eq_false c2, As, hx, if_neg (by simp)]
       exact tail hx
     ·have hx : FT p s = true := by rw [hX, decide_eq_true (by omega), bne_iff_ne.2 hk1]; rfl
      rw [beq_eq_false_iff_ne.2 hk1, As, As, hx, if_neg (by simp)]
      exact tail hx
 ·rw [if_neg hval, bne_iff_ne.2 hval, AN]; rfl
theorem Oe (N : Nat) (hN : N ≤ 1000000) (h20 : 100 ≤ N) {p : Ag} {m : Ae} (hw : Oa KR m.fHeld) (s : Ak) : Gu N p m s = some (if F0 p m = 0 then B2 p m s else (GZ, F0 p m)) := by
 unfold Gu
 rw [Jj N p m hN (by omega) hw]
 simp only [oS]
 by_cases hval : F0 p m = 0
 ·obtain ⟨hp, hm⟩ := LB hw hval
  rw [if_pos hval, hval, bne_self_eq_false, As, Ol N hN h20 hp hm s]; rfl
 ·rw [if_neg hval, bne_iff_ne.2 hval, AN]; rfl
theorem Kh {p : Ag} {m : Ae} (hp : Bl p) (hm : Bt p m) {s : Ak} (h : (B2 p m s).2 = 0) : Bt p (B2 p m s).1 := by
 unfold B2 at h ⊢
 split at h
 ·cases h
 rename_i h1
 rw [if_neg h1]
 split at h
 ·cases h
 rename_i h2
 rw [if_neg h2]
 cases ha : FR p m s with
 | none => rw [ha] at h; cases h
 | some x => exact Uk hp hm (by simpa using h1) (by simpa using h2) ha
end Go.Lift
namespace Go.Lift
open Go
section
variable {N : Nat} {p : Ag} {l : List Ak}
end
end Go.Lift
namespace Go.Lift
open Go
structure Xo (p : Ag) (m x : Ae) : Prop where
 base : m.fBase = x.fBase
 next : m.fNext = x.fNext
 held : ∀ i, i < p.fTables.length → ∀ v, DG (m.fHeld.getD i 0) v = true → DG (x.fHeld.getD i 0) v = true
theorem Xo.refl (p : Ag) (m : Ae) : Xo p m m := ⟨rfl, rfl, fun _ _ _ h => h⟩
theorem Xo.trans {p : Ag} {a b c : Ae} (h : Xo p a b) (g : Xo p b c) : Xo p a c := ⟨h.base.trans g.base, h.next.trans g.next, fun i hi v hv => g.held i hi v (h.held i hi v hv)⟩
end Go.Lift
namespace Go.Lift
open IntKind renaming wrap → wI
open Go
def FV (m : Ae) (i : Nat) (b : Int) : List Int := [wI .u8 b, wI .u8 (wI .i64 (m.fNext.getD i 0 + 1))]
def Kj (m : Ae) : List Int := CQ (FV m) 0 m.fBase ++ m.fHeld
end Go.Lift
namespace Go.Lift
open IntKind renaming wrap → wI
open List renaming getElem?_eq_some_iff → lI
open List renaming getD_eq_getElem?_getD → lD
open Go
theorem Rr (xs : List Int) : ∀ b : ByteArray, (xs.foldl (fun s n => s.push (UInt8.ofNat n.toNat)) b).data.toList = b.data.toList ++ xs.map fun n => UInt8.ofNat n.toNat := by
 induction xs with
 | nil => intro b; simp
 | cons x xs ih => intro b; rw [List.foldl_cons, ih]; simp [ByteArray.push]
theorem Lh (xs : List Int) : (CE xs).data.toList = xs.map fun n => UInt8.ofNat n.toNat := by
 unfold CE
 rw [Rr]; rfl
theorem W9 {a b : Int} (ha : 0 ≤ a ∧ a ≤ 255) (hb : 0 ≤ b ∧ b ≤ 255) (h : UInt8.ofNat a.toNat = UInt8.ofNat b.toNat) : a = b := by
 have := congrArg UInt8.toNat h
 simp at this
 omega
theorem MW : ∀ {xs ys : List Int}, (∀ x, x ∈ xs → 0 ≤ x ∧ x ≤ 255) → (∀ x, x ∈ ys → 0 ≤ x ∧ x ≤ 255) → (xs.map fun n => UInt8.ofNat n.toNat) = (ys.map fun n => UInt8.ofNat n.toNat) → xs = ys
 | [], [], _, _, _ => rfl
 | [], _ :: _, _, _, h => by cases h
 | _ :: _, [], _, _, h => by cases h
 | x :: xs, y :: ys, hx, hy, h => by
  rw [List.map_cons, List.map_cons, List.cons.injEq] at h
  rw [W9 (hx x (by simp)) (hy y (by simp)) h.1, MW (fun z hz => hx z (List.mem_cons_of_mem _ hz)) (fun z hz => hy z (List.mem_cons_of_mem _ hz)) h.2]
theorem Qf {xs ys : List Int} (hx : ∀ x, x ∈ xs → 0 ≤ x ∧ x ≤ 255) (hy : ∀ x, x ∈ ys → 0 ≤ x ∧ x ≤ 255) (h : (CE xs == CE ys) = true) : xs = ys := by
 rw [IU, beq_iff_eq] at h
 have h := congrArg Array.toList h
 rw [Lh, Lh] at h
 exact MW hx hy h
theorem PW (xs : List Int) : (CE xs == CE xs) = true := by rw [IU]; simp
theorem OM {α β : Type} {g h : Nat → α → List β} {c : Nat} : ∀ {i : Nat} {xs ys : List α}, xs.length = ys.length → (∀ i x, (g i x).length = c) → (∀ i x, (h i x).length = c) → CQ g i xs = CQ h i ys → ∀ j x y, xs[j]? = some x → ys[j]? = some y → g (i + j) x = h (i + j) y
 | i, [], ys, _, _, _, _, j, x, y, hx, _ => by simp at hx
 | i, x :: xs, [], hl, _, _, _, _, _, _, _, _ => by simp at hl
 | i, x :: xs, y :: ys, hl, hg, hh, e, j, x', y', hx, hy => by
  rw [CQ, CQ] at e
  have e1 := List.append_inj e ((hg i x).trans (hh i y).symm)
  cases j with
  | zero => simp at hx hy; subst hx; subst hy; exact e1.1
  | succ j =>
   have := OM (i := i + 1) (by simpa using hl) hg hh e1.2 j x' y' (by simpa using hx) (by simpa using hy)
   rwa [show i + 1 + j = i + (j + 1) from by omega] at this
theorem Pb {p : Ag} {m : Ae} (_hp : Bl p) (hm : Bt p m) : ∀ x, x ∈ Kj m → 0 ≤ x ∧ x ≤ 255 := by
 intro x hx
 unfold Kj at hx
 rcases List.mem_append.1 hx with h | h
 ·obtain ⟨j, b, hb, hk⟩ := Hv.1 h
  have hw : ∀ n : Int, 0 ≤ wI .u8 n ∧ wI .u8 n ≤ 255 := fun n => by
   simp [wI, IntKind.signed, IntKind.bits]; omega
  unfold FV at hk
  rcases List.mem_cons.1 hk with e | e
  ·subst e; exact hw _
  ·rcases List.mem_cons.1 e with e | e
   ·subst e; exact hw _
   ·cases e
 ·obtain ⟨j, hj⟩ := List.mem_iff_getElem?.1 h
  have hl := (lI.1 hj).1
  have := hm.range j (by rw [← hm.held]; exact hl)
  rw [lD, hj] at this
  exact this
theorem Hz {n : Int} (h : 0 ≤ n ∧ n ≤ 255) : wI .u8 n = n := by
 simp [wI, IntKind.signed, IntKind.bits]; omega
theorem Vl {p : Ag} {m x : Ae} (hp : Bl p) (hm : Bt p m) (hx : Bt p x) (h : (CE (Kj m) == CE (Kj x)) = true) : m = x := by
 have e := Qf (Pb hp hm) (Pb hp hx) h
 unfold Kj at e
 have hbl : m.fBase.length = x.fBase.length := hm.base.trans hx.base.symm
 have hfl : ∀ y : Ae, (CQ (FV y) 0 y.fBase).length = 2 * y.fBase.length := fun y => by
  have : ∀ (i : Nat) (l : List Int), (CQ (FV y) i l).length = 2 * l.length := by
   intro i l
   induction l generalizing i with
   | nil => rfl
   | cons b l ih => rw [CQ, List.length_append, ih, List.length_cons]; simp [FV]; omega
  exact this 0 _
 obtain ⟨e1, e2⟩ := List.append_inj e (by rw [hfl, hfl, hbl])
 have key : ∀ j, j < p.fVersions.length → m.fBase.getD j 0 = x.fBase.getD j 0 ∧ m.fNext.getD j 0 = x.fNext.getD j 0 := fun j hj => by
  have h1 : m.fBase[j]? = some (m.fBase.getD j 0) := by rw [lD]; simp [hm.base, hj]
  have h2 : x.fBase[j]? = some (x.fBase.getD j 0) := by rw [lD]; simp [hx.base, hj]
  have h3 := OM (c := 2) hbl (fun _ _ => by simp [FV]) (fun _ _ => by simp [FV]) e1 j _ _ h1 h2
  rw [Nat.zero_add] at h3
  have v := HQ hp hj
  have b1 := hm.b0 j hj
  have b2 := hx.b0 j hj
  have n1 := hm.n0 j hj
  have n2 := hx.n0 j hj
  unfold FV at h3
  rw [CR (n := m.fNext.getD j 0 + 1) (by omega) (by omega), CR (n := x.fNext.getD j 0 + 1) (by omega) (by omega), Hz (n := m.fBase.getD j 0) (by omega), Hz (n := x.fBase.getD j 0) (by omega), Hz (n := m.fNext.getD j 0 + 1) (by omega), Hz (n := x.fNext.getD j 0 + 1) (by omega), List.cons.injEq, List.cons.injEq] at h3
  exact ⟨h3.1, by omega⟩
 have hB : m.fBase = x.fBase := Gz hbl fun q hq => (key q (by rw [← hm.base]; exact hq)).1
 have hN : m.fNext = x.fNext := Gz (hm.next.trans hx.next.symm) fun q hq => (key q (by rw [← hm.next]; exact hq)).2
 cases m; cases x
 simp only at hB hN e2
 rw [hB, hN, e2]
end Go.Lift
namespace Go.Lift
open Option renaming bind_some → oS
open List renaming mem_of_getElem? → lM
open List renaming getElem?_eq_some_iff → lI
open Go
def IS (i : Nat) (n : Int) : List Ak := (List.range n.toNat).map fun v => ⟨1, (i : Int), ((v : Nat) : Int), ⟩
def E6 (p : Ag) : List Ak := CQ IS 0 p.fVersions ++ ((List.range p.fVersions.length).map fun i => (⟨2, ((i : Nat) : Int), 0⟩ : Ak)) ++ ((List.range p.fTables.length).map fun i => (⟨3, ((i : Nat) : Int), 0⟩ : Ak))
def FQ (p : Ag) (m : Ae) : List Ak := (E6 p).filter fun s => (B2 p m s).2 == 0
theorem MQ {p : Ag} (hp : Bl p) : (E6 p).length ≤ 54 := by
 have h1 : (CQ IS 0 p.fVersions).length ≤ 6 * p.fVersions.length := FL fun j x hx => by
  have := hp.ver x (lM hx)
  simp [IS]; omega
 have := hp.nv
 have := hp.nt
 unfold E6
 simp only [List.length_append, List.length_map, List.length_range]
 omega
theorem Qn (N : Nat) (hN : N ≤ 1000000) (h20 : 100 ≤ N) {p : Ag} (hp : Bl p) : HF N p = some (E6 p) := by
 have hnv := hp.nv
 have hnt := hp.nt
 unfold HF
 have l1 := Gf (CZ N p fun v2 => Cj N p (fun v10 => Bw N p (fun v14 => some v14) N (v10, 0)) N (v2, 0)) (fun a i => (a, i)) p.fVersions (fun v2 => Cj N p (fun v10 => Bw N p (fun v14 => some v14) N (v10, 0)) N (v2, 0)) IS 6 100
  (fun i x hx => by have := hp.ver x (lM hx); simp [IS]; omega)
  (fun n i x a hx hl => by
   have hi := (lI.1 hx).1
   have hx6 := hp.ver x (lM hx)
   obtain ⟨k, hk⟩ := Int.eq_ofNat_of_zero_le (show 0 ≤ x by omega)
   rw [CZ, AC (by simp only; omega)]
   simp only [A5, hx, oS, AR (show i < 1000000 by omega)]
   subst hk
   obtain ⟨a', e, ha⟩ := EU (Es N (a, (i : Int)) (k : Int) fun v6 => CZ N p (fun v2 => Cj N p (fun v10 => Bw N p (fun v14 => some v14) N (v10, 0)) N (v2, 0)) n (v6, ((i + 1 : Nat) : Int))) (fun b v => (b, v)) k (fun v6 => CZ N p (fun v2 => Cj N p (fun v10 => Bw N p (fun v14 => some v14) N (v10, 0)) N (v2, 0)) n (v6, ((i + 1 : Nat) : Int)))
    (fun v b => b = a ++ (List.range v).map fun v => (⟨1, (i : Int), ((v : Nat) : Int)⟩ : Ak))
    (fun n v b hv hb => by
     subst hb
     rw [Es, AC (by simp only; omega), AA (by simp [Du]; simp [IS] at hl; omega), AR (by omega)]
     exact ⟨_, rfl, by rw [List.range_succ, List.map_append, List.append_assoc]; rfl⟩)
    (fun n b hb => by rw [Es, Az (by simp)]) N 0 a (Nat.zero_le _) (by omega) (by simp)
   have e' : Es N (a, (i : Int)) (k : Int) (fun v6 => CZ N p (fun v2 => Cj N p (fun v10 => Bw N p (fun v14 => some v14) N (v10, 0)) N (v2, 0)) n (v6, ((i + 1 : Nat) : Int))) N (a, 0) = _ := e
   rw [e', ha]; rfl)
  (fun n a => by rw [CZ, Az (by simp)]) N [] (by omega) (by simp; omega)
 have l1' : CZ N p (fun v2 => Cj N p (fun v10 => Bw N p (fun v14 => some v14) N (v10, 0)) N (v2, 0)) N (([] : List Ak), 0) = _ := l1
 rw [l1', List.nil_append]
 have hA : (CQ IS 0 p.fVersions).length ≤ 6 * p.fVersions.length := FL fun j x hx => by
  have := hp.ver x (lM hx)
  simp [IS]; omega
 generalize hAe : CQ IS 0 p.fVersions = A at hA
 obtain ⟨b', e2, hb⟩ := EU (Cj N p fun v10 => Bw N p (fun v14 => some v14) N (v10, 0)) (fun b v => (b, v)) p.fVersions.length (fun v10 => Bw N p (fun v14 => some v14) N (v10, 0))
  (fun v b => b = A ++ (List.range v).map fun i => (⟨2, ((i : Nat) : Int), 0⟩ : Ak))
  (fun n v b hv hb => by
   subst hb
   rw [Cj, AC (by simp only; omega), AA (by simp [Du]; omega), AR (by omega)]
   exact ⟨_, rfl, by rw [List.range_succ, List.map_append, List.append_assoc]; rfl⟩)
  (fun n b hb => by rw [Cj, Az (by simp)]) N 0 A (Nat.zero_le _) (by omega) (by simp)
 have e2' : Cj N p (fun v10 => Bw N p (fun v14 => some v14) N (v10, 0)) N (A, 0) = _ := e2
 rw [e2', hb]
 generalize hBe : A ++ (List.range p.fVersions.length).map (fun i => (⟨2, ((i : Nat) : Int), 0⟩ : Ak)) = B
 have hB : B.length ≤ 50 := by rw [← hBe]; simp; omega
 obtain ⟨c', e3, hc⟩ := EU (Bw N p fun v14 => some v14) (fun b v => (b, v)) p.fTables.length (fun v14 => some v14)
  (fun v b => b = B ++ (List.range v).map fun i => (⟨3, ((i : Nat) : Int), 0⟩ : Ak))
  (fun n v b hv hb => by
   subst hb
   rw [Bw, AC (by simp only; omega), AA (by simp [Du]; omega), AR (by omega)]
   exact ⟨_, rfl, by rw [List.range_succ, List.map_append, List.append_assoc]; rfl⟩)
  (fun n b hb => by rw [Bw, Az (by simp)]) N 0 B (Nat.zero_le _) (by omega) (by simp)
 have e3' : Bw N p (fun v14 => some v14) N (B, 0) = _ := e3
 rw [e3', hc, ← hBe, ← hAe]; rfl
end Go.Lift
namespace Go.Lift
open Option renaming bind_some → oS
open List renaming mem_of_getElem? → lM
open List renaming getElem?_eq_some_iff → lI
open List renaming getD_eq_getElem?_getD → lD
open Go
theorem L8 {p : Ag} (hp : Bl p) {s : Ak} (h : s ∈ E6 p) : GV s = true ∧ FT p s = true := by
 have hnv := hp.nv
 unfold E6 at h
 rcases List.mem_append.1 h with h | h
 ·rcases List.mem_append.1 h with h | h
  ·obtain ⟨j, x, hx, hk⟩ := Hv.1 h
   rw [Nat.zero_add] at hk
   unfold IS at hk
   obtain ⟨v, hv, rfl⟩ := List.mem_map.1 hk
   have hx6 := hp.ver x (lM hx)
   have hv := List.mem_range.1 hv
   have hj := (lI.1 hx).1
   refine ⟨by unfold GV; simp, ?_⟩
   unfold FT
   have e : p.fVersions.getD j 0 = x := by rw [lD, hx]; rfl
   simp only
   rw [if_neg (by omega), decide_eq_true (by omega), Int.toNat_natCast, e, decide_eq_true (by omega), Bool.or_true]; rfl
  ·obtain ⟨v, hv, rfl⟩ := List.mem_map.1 h
   have hv := List.mem_range.1 hv
   refine ⟨by unfold GV; simp, ?_⟩
   unfold FT
   simp only
   rw [if_neg (by omega), decide_eq_true (by omega)]; rfl
 ·obtain ⟨v, hv, rfl⟩ := List.mem_map.1 h
  have hv := List.mem_range.1 hv
  refine ⟨by unfold GV; simp, ?_⟩
  unfold FT
  simp only
  rw [if_pos trivial, decide_eq_true (by omega)]
theorem TT {p : Ag} {m : Ae} {s : Ak} (hv : GV s = true) (hx : FT p s = true) : ((B2 p m s).2 == 0) = (FR p m s).isSome := by
 unfold B2
 rw [hv, hx, if_neg (by simp), if_neg (by simp)]
 cases FR p m s <;> rfl
theorem Q8 (N : Nat) (hN : N ≤ 1000000) (h20 : 100 ≤ N) {p : Ag} {m : Ae} (hp : Bl p) (hm : Bt p m) {s : Ak} (h : s ∈ E6 p) :
  Dl N s p.fVersions p.fNow p.fTarget p.fTables m.fBase m.fNext m.fHeld = some (!((B2 p m s).2 == 0)) := by
 obtain ⟨hv, hx⟩ := L8 hp h
 unfold Dl
 obtain ⟨o, e, _⟩ := Kv N hN h20 hp hm hv hx
 have e' : Ff N ⟨p.fVersions, p.fNow, p.fTarget, p.fTables⟩ ⟨m.fBase, m.fNext, m.fHeld⟩ s = some (o, (FR p m s).isSome) := e
 rw [e', TT hv hx]; rfl
theorem RB (N : Nat) (hN : N ≤ 1000000) (a : List Ak) (f : Ak → Option Bool) (g : Ak → Bool) (h : a.length < N) (hf : ∀ x, x ∈ a → f x = some (g x)) :
  BK N a f = some ((D1 (fun i x => if g x = true then some (i : Int) else none) 0 a).getD (-1)) := by
 unfold BK
 have := DE (A8 N a f fun _ => some (-1)) a (some (-1)) (fun i x => if g x = true then some (i : Int) else none)
  (fun n i x hx => by
   have hi := (lI.1 hx).1
   rw [A8, AC (by omega), A5, hx]
   simp only [oS]
   rw [hf x (lM hx), AR (by omega)]
   simp only [oS]
   cases g x <;> rfl)
  (fun n => by rw [A8, Az (by simp)]) N 0 (Nat.zero_le _) (by omega)
 refine this.trans ?_
 rw [List.drop_zero]
 cases D1 (fun i x => if g x = true then some (i : Int) else none) 0 a <;> rfl
theorem Or {α : Type} {l : List α} {i : Nat} {v : α} (h : i < l.length) : (l.set i v).take (i + 1) = l.take i ++ [v] := by
 rw [List.take_add_one, List.take_set_of_le (Nat.le_refl i)]
 congr 1
 simp [h]
theorem P8 (N : Nat) (hN : N ≤ 1000000) (a : List Ak) (f : Ak → Option Bool) (g : Ak → Bool) (h : a.length < N) (h9 : a.length ≤ 1000) (hf : ∀ x, x ∈ a → f x = some (g x)) :
  ∃ X n, BJ N a f = some (n, X) ∧ n ≤ X.length ∧ X.take n = a.filter fun x => !g x := by
 unfold BJ
 rw [RB N hN a f g h hf]
 simp only [oS]
 cases hs : D1 (fun i x => if g x = true then some (i : Int) else none) 0 a with
 | none =>
  refine ⟨a, a.length, rfl, Nat.le_refl _, ?_⟩
  rw [List.take_length]
  symm
  rw [List.filter_eq_self]
  intro x hx
  obtain ⟨j, hj⟩ := List.mem_iff_getElem?.1 hx
  have := GT hs j x hj
  cases hg : g x
  ·rfl
  ·rw [hg] at this; cases this
 | some r =>
  obtain ⟨j, x, hx, hr⟩ := FN hs
  rw [Nat.zero_add] at hr
  split at hr
  ·rename_i hg
   cases hr
   have hj := (lI.1 hx).1
   have e0 : ((some (j : Int)).getD (-1) == (-1 : Int)) = false := beq_eq_false_iff_ne.2 (by simp only [Option.getD_some]; omega)
   rw [e0, As]
   simp only [Option.getD_some]
   rw [AR (by omega)]
   -- what lies before the first that goes is kept
   have hpre : (a.take (j + 1)).filter (fun x => !g x) = a.take j := by
    rw [List.take_add_one, hx, List.filter_append]
    have h1 : (a.take j).filter (fun x => !g x) = a.take j := by
     rw [List.filter_eq_self]
     intro y hy
     obtain ⟨q, hq⟩ := List.mem_iff_getElem?.1 hy
     have hql := (lI.1 hq).1
     simp at hql
     rw [List.getElem?_take_of_lt (by omega)] at hq
     cases hgy : g y
     ·rfl
     ·exfalso
      have : ∀ (xs : List Ak) (i j q : Nat) (y : Ak), D1 (fun i x => if g x = true then some (i : Int) else none) i xs = some ((i + j : Nat) : Int) → q < j → xs[q]? = some y → g y = true → False := by
       intro xs
       induction xs with
       | nil => intro i j q y _ _ hq; simp at hq
       | cons z zs ih =>
        intro i j q y hs hqj hq hgy
        rw [GX] at hs
        cases hz : g z
        ·rw [hz] at hs
         cases q with
         | zero => simp at hq; subst hq; rw [hz] at hgy; cases hgy
         | succ q =>
          cases j with
          | zero => omega
          | succ j => exact ih (i + 1) j q y (by rw [show i + 1 + j = i + (j + 1) from by omega]; exact hs) (by omega) (by simpa using hq) hgy
        ·rw [hz] at hs
         have hs : (some (i : Int)) = some ((i + j : Nat) : Int) := hs
         have := Option.some.inj hs
         omega
      exact this a 0 j q y (by rw [Nat.zero_add]; exact hs) (by omega) hq hgy
    rw [h1]
    simp [hg]
   obtain ⟨b, e, hb⟩ := EU (A2 N f fun v4 => (DT ((0 : Int) ≤ v4.2 ∧ (v4.2).toNat ≤ v4.1.length ∧ v4.1.length ≤ v4.1.length)).bind fun _ =>
     (DT ((0 : Int) ≤ v4.2 ∧ 0 ≤ (v4.2).toNat ∧ (v4.2).toNat ≤ (H1 v4.1 ((v4.2).toNat) (List.replicate ((v4.1.length - (v4.2).toNat)) ((Ak.mk 0 0 0)))).length)).bind fun _ =>
     some ((v4.2).toNat, H1 v4.1 ((v4.2).toNat) (List.replicate ((v4.1.length - (v4.2).toNat)) ((Ak.mk 0 0 0)))))
    (fun (b : List Ak × Nat) i => (b.1, ((b.2 : Nat) : Int), i)) a.length (fun b => (DT ((0 : Int) ≤ ((b.2 : Nat) : Int) ∧ (((b.2 : Nat) : Int)).toNat ≤ b.1.length ∧ b.1.length ≤ b.1.length)).bind fun _ =>
     (DT ((0 : Int) ≤ ((b.2 : Nat) : Int) ∧ 0 ≤ (((b.2 : Nat) : Int)).toNat ∧ (((b.2 : Nat) : Int)).toNat ≤ (H1 b.1 ((((b.2 : Nat) : Int)).toNat) (List.replicate ((b.1.length - (((b.2 : Nat) : Int)).toNat)) ((Ak.mk 0 0 0)))).length)).bind fun _ =>
     some ((((b.2 : Nat) : Int)).toNat, H1 b.1 ((((b.2 : Nat) : Int)).toNat) (List.replicate ((b.1.length - (((b.2 : Nat) : Int)).toNat)) ((Ak.mk 0 0 0)))))
    (fun i b => b.1.length = a.length ∧ b.2 ≤ i ∧ b.1.drop i = a.drop i ∧ b.1.take b.2 = (a.take i).filter fun x => !g x)
    (fun n i b hi hb => by
     obtain ⟨b1, b2, b3, b4⟩ := hb
     rw [A2, AC (by simp only; omega)]
     have hai : a[i]? = some a[i] := by simp [hi]
     have hbi : b.1[i]? = some a[i] := by
      have := congrArg (fun l => l[0]?) b3
      simp only [List.getElem?_drop, Nat.add_zero] at this
      rw [this, hai]
     simp only [A6, A5, hbi, oS]
     rw [hf a[i] (List.getElem_mem hi), AR (i := i) (by omega)]
     simp only [oS]
     have hnext : b.1.drop (i + 1) = a.drop (i + 1) := by
      have := congrArg (List.drop 1) b3
      rwa [List.drop_drop, List.drop_drop] at this
     cases hgi : g a[i]
     ·rw [Bool.not_false, AN]
      have hbj : b.1[b.2]? = some b.1[b.2] := by simp [show b.2 < b.1.length from by omega]
      rw [hbj, AR (i := b.2) (by omega)]
      refine ⟨(b.1.set b.2 a[i], b.2 + 1), rfl, by simpa using b1, by simp only; omega, ?_, ?_⟩
      ·simp only
       rw [List.drop_set_of_lt (by omega), hnext]
      ·simp only
       rw [Or (by omega), b4, List.take_add_one, hai, List.filter_append]
       simp [hgi]
     ·rw [Bool.not_true, As]
      refine ⟨b, rfl, b1, by omega, hnext, ?_⟩
      rw [b4, List.take_add_one, hai, List.filter_append]
      simp [hgi])
    (fun n b hb => by rw [A2, Az (by simp [hb.1])]) N (j + 1) (a, j) (by omega) (by omega) ⟨rfl, by simp only; omega, rfl, hpre.symm⟩
   obtain ⟨b1, b2, b3, b4⟩ := hb
   have e' : A2 N f (fun v4 => (DT ((0 : Int) ≤ v4.2 ∧ (v4.2).toNat ≤ v4.1.length ∧ v4.1.length ≤ v4.1.length)).bind fun _ =>
     (DT ((0 : Int) ≤ v4.2 ∧ 0 ≤ (v4.2).toNat ∧ (v4.2).toNat ≤ (H1 v4.1 ((v4.2).toNat) (List.replicate ((v4.1.length - (v4.2).toNat)) ((Ak.mk 0 0 0)))).length)).bind fun _ =>
     some ((v4.2).toNat, H1 v4.1 ((v4.2).toNat) (List.replicate ((v4.1.length - (v4.2).toNat)) ((Ak.mk 0 0 0))))) N (a, (j : Int), ((j + 1 : Nat) : Int)) = _ := e
   rw [e']
   have hsl : (H1 b.1 b.2 (List.replicate (b.1.length - b.2) (Ak.mk 0 0 0))).length = b.1.length := Iw (by rw [List.length_replicate]; omega)
   simp only [Int.toNat_natCast]
   rw [AA ⟨by omega, by omega, Nat.le_refl _⟩, AA ⟨by omega, by omega, by rw [hsl]; omega⟩]
   refine ⟨_, _, rfl, by rw [hsl]; omega, ?_⟩
   unfold H1
   rw [List.append_assoc, List.take_append_of_le_length (by simp; omega), List.take_take, Nat.min_self, b4, List.take_length]
  ·cases hr
theorem Rm (N : Nat) (hN : N ≤ 1000000) (h20 : 100 ≤ N) {p : Ag} {m : Ae} (hv : CF p = 0) (hm : Bt p m) : FG N p m = some (FQ p m, 0) := by
 obtain ⟨hp, _⟩ := C1 hv
 unfold FG
 rw [Jj N p m hN (by omega) (Ld hm), JT hv hm]
 simp only [oS, bne_self_eq_false, As]
 rw [Qn N hN h20 hp]
 simp only [oS]
 have hl := MQ hp
 obtain ⟨X, n, e, h1, h2⟩ := P8 N hN (E6 p) (fun x => Dl N x p.fVersions p.fNow p.fTarget p.fTables m.fBase m.fNext m.fHeld) (fun s => !((B2 p m s).2 == 0)) (by omega) (by omega) (fun x hx => Q8 N hN h20 hp hm hx)
 rw [e]
 simp only [oS]
 rw [AA h1, h2]
 unfold FQ
 simp
theorem HM {β : Type} (g : Nat → List β) : ∀ n : Nat, CQ (fun i (_ : Nat) => g i) 0 (List.range n) = (List.range n).flatMap g
 | 0 => rfl
 | n + 1 => by rw [List.range_succ, Lu, HM g n, List.flatMap_append]; simp [CQ]
def UO (p : Ag) (m : Ae) (s : Ak) : Bool := (B2 p m s).2 == 0
def gS (p : Ag) (m : Ae) (k : Int) (i v : Nat) : List Ak := if UO p m ⟨k, (i : Int), (v : Int)⟩ = true then [⟨k, (i : Int), (v : Int)⟩] else []
def bS (p : Ag) (m : Ae) (k : Int) (i : Nat) : List Ak := (List.range 6).flatMap (gS p m k i)
def Ro (p : Ag) : Nat := max p.fVersions.length p.fTables.length
def kS (p : Ag) (m : Ae) (k : Int) : List Ak := (List.range (Ro p)).flatMap (bS p m k)
theorem JO {β : Type} (f : Nat → β) (q : β → Bool) : ∀ n : Nat, ((List.range n).flatMap fun v => if q (f v) = true then [f v] else []) = ((List.range n).map f).filter q
 | 0 => rfl
 | n + 1 => by
  rw [List.range_succ, List.flatMap_append, JO f q n, List.map_append, List.filter_append]
  cases h : q (f n) <;> simp [h]
theorem J1 {β : Type} (g : Nat → List β) (a : Nat) (h : ∀ v, a ≤ v → g v = []) : ∀ n, a ≤ n → (List.range n).flatMap g = (List.range a).flatMap g
 | 0, hn => by rw [Nat.le_zero.1 hn]
 | n + 1, hn => by
  by_cases h1 : a = n + 1
  ·rw [h1]
  ·rw [List.range_succ, List.flatMap_append, J1 g a h n (by omega)]
   simp [h n (by omega)]
theorem Tk (p : Ag) (m : Ae) (k : Int) (i v : Nat) : (gS p m k i v).length ≤ 1 := by unfold gS; split <;> simp
theorem Tc (p : Ag) (m : Ae) (k : Int) (i : Nat) : (bS p m k i).length ≤ 6 := by
 unfold bS
 rw [← HM]
 have := FL (g := fun i' (_ : Nat) => gS p m k i i') (c := 1) (i := 0) (xs := List.range 6) fun j x _ => Tk p m k i _
 simpa using this
theorem W1 {p : Ag} (hp : Bl p) (m : Ae) (k : Int) : (kS p m k).length ≤ 72 := by
 have h1 := hp.nv
 have h2 := hp.nt
 unfold kS
 rw [← HM]
 have := FL (g := fun i' (_ : Nat) => bS p m k i') (c := 6) (i := 0) (xs := List.range (Ro p)) fun j x _ => Tc p m k _
 simp only [List.length_range] at this
 have h3 : Ro p ≤ 12 := by unfold Ro; omega
 omega
theorem WH {p : Ag} {m : Ae} {s : Ak} (h : UO p m s = true) : GV s = true ∧ FT p s = true := by
 unfold UO B2 at h
 split at h
 ·cases h
 ·rename_i h1
  split at h
  ·cases h
  ·rename_i h2
   exact ⟨by simpa using h1, by simpa using h2⟩
theorem Lt {p : Ag} {m : Ae} {k : Int} {i v : Nat} (h : UO p m ⟨k, (i : Int), (v : Int)⟩ = true) : (k = 3 → i < p.fTables.length) ∧ (k ≠ 3 → i < p.fVersions.length) ∧ (k = 1 → (v : Int) < p.fVersions.getD i 0) ∧ (k ≠ 1 → v = 0) := by
 obtain ⟨h1, h2⟩ := WH h
 obtain ⟨a1, a2, a3, a4, a5⟩ := Ia h1
 obtain ⟨b1, b2, b3⟩ := IZ h2
 simp only [Int.toNat_natCast] at *
 exact ⟨fun e => by have := b1 e; omega, fun e => by have := b2 e; omega, b3, fun e => by have := a5 e; omega⟩
theorem Tr {p : Ag} (hp : Bl p) (m : Ae) : kS p m 1 ++ kS p m 2 ++ kS p m 3 = FQ p m := by
 have hnv := hp.nv
 have hnt := hp.nt
 unfold FQ E6
 rw [List.filter_append, List.filter_append]
 have e1 : kS p m 1 = (CQ IS 0 p.fVersions).filter fun s => (B2 p m s).2 == 0 := by
  unfold kS
  rw [J1 (bS p m 1) p.fVersions.length (fun i hi => by
   unfold bS
   rw [List.flatMap_eq_nil_iff]
   intro v _
   unfold gS
   rw [if_neg]
   intro h
   have := (Lt h).2.1 (by decide)
   omega) (Ro p) (by unfold Ro; omega)]
  have e : ∀ (xs : List Int) (i : Nat), (∀ j x, xs[j]? = some x → 1 ≤ x ∧ x ≤ 6 ∧ p.fVersions.getD (i + j) 0 = x) → ((List.range xs.length).flatMap fun j => bS p m 1 (i + j)) = (CQ IS i xs).filter fun s => (B2 p m s).2 == 0 := by
   intro xs
   induction xs with
   | nil => intro i _; rfl
   | cons x xs ih =>
    intro i hx
    rw [List.length_cons, List.range_succ_eq_map, List.flatMap_cons, List.flatMap_map, CQ, List.filter_append]
    have ih' := ih (i + 1) (fun j y hy => by
     have := hx (j + 1) y (by simpa using hy)
     rw [show i + 1 + j = i + (j + 1) from by omega]; exact this)
    have hx0 := hx 0 x rfl
    rw [Nat.add_zero] at hx0
    congr 1
    ·rw [Nat.add_zero]
     unfold bS IS
     rw [J1 (gS p m 1 i) x.toNat (fun v hv => by
      unfold gS
      rw [if_neg]
      intro h
      have := (Lt h).2.2.1 rfl
      rw [hx0.2.2] at this
      omega) 6 (by omega)]
     exact JO (fun v => (⟨1, (i : Int), ((v : Nat) : Int)⟩ : Ak)) (UO p m) x.toNat
    ·rw [← ih']
     congr 1
     funext j
     rw [show i + (j + 1) = i + 1 + j from by omega]
  have := e p.fVersions 0 (fun j x hx => by
   have h1 := hp.ver x (lM hx)
   refine ⟨h1.1, h1.2, ?_⟩
   rw [Nat.zero_add, lD, hx]; rfl)
  simp only [Nat.zero_add] at this
  exact this
 have e23 : ∀ (k : Int) (n : Nat), k ≠ 1 → n ≤ Ro p → (∀ i v, UO p m ⟨k, ((i : Nat) : Int), ((v : Nat) : Int)⟩ = true → i < n) → kS p m k = (((List.range n).map fun i => (⟨k, ((i : Nat) : Int), 0⟩ : Ak)).filter fun s => (B2 p m s).2 == 0) := by
  intro k n hk hn hi
  unfold kS
  rw [J1 (bS p m k) n (fun i hi' => by
   unfold bS
   rw [List.flatMap_eq_nil_iff]
   intro v _
   unfold gS
   rw [if_neg]
   intro h
   have := hi i v h
   omega) (Ro p) hn]
  show _ = List.filter (UO p m) _
  rw [← JO (fun i => (⟨k, ((i : Nat) : Int), 0⟩ : Ak)) (UO p m) n]
  congr 1
  funext i
  unfold bS
  rw [J1 (gS p m k i) 1 (fun v hv => by
   unfold gS
   rw [if_neg]
   intro h
   have := (Lt h).2.2.2 hk
   omega) 6 (by omega)]
  simp [gS]
 rw [e1, e23 2 p.fVersions.length (by decide) (by unfold Ro; omega) (fun i v h => (Lt h).2.1 (by decide)), e23 3 p.fTables.length (by decide) (by unfold Ro; omega) (fun i v h => (Lt h).1 rfl)]
theorem QT (a b : Nat) : SR (a : Int) (b : Int) = ((max a b : Nat) : Int) := by
 unfold SR
 omega
theorem PZ (N : Nat) (hN : N ≤ 1000000) (h20 : 100 ≤ N) {p : Ag} {m : Ae} (hv : CF p = 0) (hm : Bt p m) : Ew N p m = some (FQ p m) := by
 obtain ⟨hp, _⟩ := C1 hv
 have hnv := hp.nv
 have hnt := hp.nt
 have hmx : Ro p ≤ 12 := by unfold Ro; omega
 unfold Ew
 have hmix := JT hv hm
 -- one number
 have inn : ∀ (k : Int) (c0 a : List Ak) (i : Nat) (d0 : List Ak) (j : List Ak → Option (List Ak)), a.length ≤ 1000 →
   B9 N p m (c0, k) (d0, (i : Int)) j N (a, 0) = j (a ++ bS p m k i) := by
  intro k c0 a i d0 j ha
  have := Gf (B9 N p m (c0, k) (d0, (i : Int)) j) (fun a i => (a, i)) (List.range 6) j (fun v _ => gS p m k i v) 1 2000
   (fun v x _ => Tk _ _ _ _ _)
   (fun n v x a hx hl => by
    have hi := (lI.1 hx).1
    simp only [List.length_range] at hi
    rw [B9, AC (by simp only; omega)]
    simp only [A6]
    rw [Pj N hN h20 (Ld hm), if_pos hmix]
    simp only [oS, AR (show v < 1000000 by omega)]
    unfold gS UO
    cases hq : (B2 p m ⟨k, (i : Int), (v : Int)⟩).2 == 0
    ·rw [As, if_neg (by simp), List.append_nil]
    ·rw [AN, if_pos rfl, AA (by simp [Du]; unfold gS UO at hl; rw [hq] at hl; simp at hl; omega)])
   (fun n a => by rw [B9, Az (by simp)]) N a (by simp; omega) (by simp; omega)
  rw [HM] at this
  exact this
 have mid : ∀ (k : Int) (c0 a : List Ak) (j : List Ak → Option (List Ak)), a.length ≤ 500 →
   Ca N p m (c0, k) j N (a, 0) = j (a ++ kS p m k) := by
  intro k c0 a j ha
  have := Gf (Ca N p m (c0, k) j) (fun a i => (a, i)) (List.range (Ro p)) j (fun i _ => bS p m k i) 6 900
   (fun v x _ => Tc _ _ _ _)
   (fun n i x a hx hl => by
    have hi := (lI.1 hx).1
    simp only [List.length_range] at hi
    rw [Ca, AC (by simp only; rw [QT]; unfold Ro at hi; omega)]
    rw [inn k c0 a i a _ (by omega)]
    simp only [AR (show i < 1000000 by omega)])
   (fun n a => by rw [Ca, Az (by simp [QT, Ro])]) N a (by simp; omega) (by simp; omega)
  rw [HM] at this
  exact this
 have hk := W1 hp m
 have go : ∀ (k : Int) (n : Nat) (a : List Ak), k ≤ 3 → 1 ≤ k → a.length ≤ 300 → Bz N p m (fun v2 => some v2) (n + 1) (a, k) = Bz N p m (fun v2 => some v2) n (a ++ kS p m k, k + 1) := by
  intro k n a h1 h2 ha
  rw [Bz, AC h1]
  rw [mid k a a _ (by omega), CR (by omega) (by omega)]
 obtain ⟨N', hN'⟩ : ∃ q, N = q + 4 := ⟨N - 4, by omega⟩
 have e0 : Bz N p m (fun v2 => some v2) N ([], 1) = Bz N p m (fun v2 => some v2) (N' + 4) ([], 1) := by rw [hN']
 rw [e0, go 1 (N' + 3) [] (by decide) (by decide) (by simp), List.nil_append]
 rw [show (1 : Int) + 1 = 2 from rfl, go 2 (N' + 2) _ (by decide) (by decide) (by have := hk 1; omega)]
 rw [show (2 : Int) + 1 = 3 from rfl, go 3 (N' + 1) _ (by decide) (by decide) (by have h1 := hk 1; have h2 := hk 2; rw [List.length_append]; omega)]
 rw [Bz, Az (by simp), Tr hp]
end Go.Lift
namespace Go.Lift
open List renaming mem_of_getElem? → lM
open List renaming getElem?_eq_some_iff → lI
namespace Bfs
section
variable {α σ : Type}
def code (rk : σ → Nat) (K : Nat) (w : List σ) : Nat := w.foldl (fun c s => c * K + rk s) 0
theorem Kc (rk : σ → Nat) (K : Nat) (w : List σ) (s : σ) : code rk K (w ++ [s]) = code rk K w * K + rk s := by
 simp [code]
theorem QM (rk : σ → Nat) (K : Nat) : code rk K ([] : List σ) = 0 := rfl
def YF (rk : σ → Nat) (K : Nat) (w : List σ) : Prop := ∀ s, s ∈ w → 1 ≤ rk s ∧ rk s ≤ K
theorem YF.snoc {rk : σ → Nat} {K : Nat} {w : List σ} {s : σ} (h : YF rk K w) (hs : 1 ≤ rk s ∧ rk s ≤ K) : YF rk K (w ++ [s]) := by
 intro x hx; rcases List.mem_append.1 hx with h1 | h1
 ·exact h x h1
 ·rw [List.mem_singleton.1 h1]; exact hs
theorem Sc {c d K a b : Nat} (h : c < d) (_ : 1 ≤ b) (ha : a ≤ K) : c * K + a < d * K + b := by
 have : c * K + K ≤ d * K := by rw [← Nat.succ_mul]; exact Nat.mul_le_mul_right K h
 omega
abbrev Nd (α σ : Type) := α × Int × σ
def put [DecidableEq α] (i : Nat) (l : List (Nd α σ)) (q : σ × α) : List (Nd α σ) := if (l.any fun n => decide (n.1 = q.2)) = true then l else l ++ [(q.2, (i : Int), q.1)]
def inner [DecidableEq α] (most i : Nat) : List (σ × α) → List (Nd α σ) → Option (List (Nd α σ))
 | [], l => some l
 | q :: qs, l => if most < (put i l q).length then none else inner most i qs (put i l q)
def go [DecidableEq α] (nxt : α → List (σ × α)) (most : Nat) : Nat → Nat → List (Nd α σ) → Option (List (Nd α σ))
 | 0, _, _ => none
 | n + 1, i, l => match l[i]? with
  | none => some l
  | some nd => (inner most i (nxt nd.1) l).bind fun l' => go nxt most n (i + 1) l'
structure Inv (nxt : α → List (σ × α)) (rk : σ → Nat) (K : Nat) (root : α) (i : Nat) (done : List (σ × α)) (l : List (Nd α σ)) (ws : List (List σ)) : Prop where
 len : ws.length = l.length
 root : ∃ s, l[0]? = some (root, -1, s)
 root' : ws[0]? = some []
 par : ∀ (k : Nat) x f s, 0 < k → l[k]? = some (x, f, s) → ∃ (j : Nat) (y : α) (g : Int) (t : σ) (w : List σ), f = (j : Int) ∧ j < k ∧ l[j]? = some (y, g, t) ∧ (s, x) ∈ nxt y ∧ ws[j]? = some w ∧ ws[k]? = some (w ++ [s]) ∧ (j < i ∨ (j = i ∧ (s, x) ∈ done))
 nodup : ∀ (a b : Nat) x f s g t, l[a]? = some (x, f, s) → l[b]? = some (x, g, t) → a = b
 inc : ∀ (a b : Nat) u w, ws[a]? = some u → ws[b]? = some w → a < b → code rk K u < code rk K w
 dig : ∀ (k : Nat) w, ws[k]? = some w → YF rk K w
 closed : ∀ (j : Nat) x f s w, l[j]? = some (x, f, s) → ws[j]? = some w → ∀ q, (j < i ∧ q ∈ nxt x) ∨ (j = i ∧ q ∈ done) → ∃ (k : Nat) (f' : Int) (s' : σ) (w' : List σ), l[k]? = some (q.2, f', s') ∧ ws[k]? = some w' ∧ code rk K w' ≤ code rk K (w ++ [q.1])
theorem IB {β : Type} {l : List β} {y x : β} {k : Nat} (h : (l ++ [y])[k]? = some x) : l[k]? = some x ∨ (k = l.length ∧ x = y) := by
 rcases Nat.lt_trichotomy k l.length with h1 | h1 | h1
 ·rw [List.getElem?_append_left h1] at h; exact .inl h
 ·subst h1; simp at h; exact .inr ⟨rfl, h.symm⟩
 ·rw [List.getElem?_eq_none (by simp; omega)] at h; cases h
theorem get_app_of {β : Type} {l : List β} {y x : β} {k : Nat} (h : l[k]? = some x) : (l ++ [y])[k]? = some x := by
 rw [List.getElem?_append_left ((lI.1 h).1)]; exact h
theorem JZ {β : Type} {l : List β} {y : β} : (l ++ [y])[l.length]? = some y := by simp
theorem lt_get {β : Type} {l : List β} {k : Nat} {x : β} (h : l[k]? = some x) : k < l.length := (lI.1 h).1
theorem get_ex {β : Type} {l : List β} {k : Nat} (h : k < l.length) : ∃ x, l[k]? = some x := ⟨l[k], List.getElem?_eq_getElem h⟩
theorem Vc [DecidableEq α] {nxt : α → List (σ × α)} {rk : σ → Nat} {K : Nat} {root : α} {i : Nat} {done : List (σ × α)} {l : List (Nd α σ)} {ws : List (List σ)} {x : α} {f : Int} {s : σ} {q : σ × α}
  (hI : Inv nxt rk K root i done l ws) (hx : l[i]? = some (x, f, s)) (hq : q ∈ nxt x) (hd : ∀ r, r ∈ done → rk r.1 < rk q.1) (hr : 1 ≤ rk q.1 ∧ rk q.1 ≤ K) :
  ∃ ws', Inv nxt rk K root i (done ++ [q]) (put i l q) ws' ∧ (∀ (k : Nat) w, ws[k]? = some w → ws'[k]? = some w) ∧ (∀ (k : Nat) n, l[k]? = some n → (put i l q)[k]? = some n) := by
 obtain ⟨w0, hw0⟩ := get_ex (l := ws) (k := i) (by rw [hI.len]; exact lt_get hx)
 unfold put
 by_cases hin : (l.any fun n => decide (n.1 = q.2)) = true
 ·rw [if_pos hin]
  refine ⟨ws, ⟨hI.len, hI.root, hI.root', ?_, hI.nodup, hI.inc, hI.dig, ?_⟩, fun _ _ h => h, fun _ _ h => h⟩
  ·intro k y g t hk hy
   obtain ⟨j, y', g', t', w, h1, h2, h3, h4, h5, h6, h7⟩ := hI.par k y g t hk hy
   exact ⟨j, y', g', t', w, h1, h2, h3, h4, h5, h6, h7.imp id fun h => ⟨h.1, List.mem_append_left _ h.2⟩⟩
  ·intro j y g t w hy hw r hr'
   by_cases hold : (j < i ∧ r ∈ nxt y) ∨ (j = i ∧ r ∈ done)
   ·exact hI.closed j y g t w hy hw r hold
   ·have hjr : j = i ∧ r = q := by
     rcases hr' with h | ⟨h1, h2⟩
     ·exact absurd (.inl h) hold
     ·rcases List.mem_append.1 h2 with h3 | h3
      ·exact absurd (.inr ⟨h1, h3⟩) hold
      ·exact ⟨h1, List.mem_singleton.1 h3⟩
    obtain ⟨rfl, rfl⟩ := hjr
    rw [hw0] at hw; cases hw
    obtain ⟨n, hn1, hn2⟩ := List.any_eq_true.1 hin
    obtain ⟨k, hk⟩ := List.mem_iff_getElem?.1 hn1
    obtain ⟨nx, nf, ns⟩ := n
    have hn2 : nx = r.2 := of_decide_eq_true hn2
    subst hn2
    obtain ⟨wk, hwk⟩ := get_ex (l := ws) (k := k) (by rw [hI.len]; exact lt_get hk)
    refine ⟨k, nf, ns, wk, hk, hwk, ?_⟩
    rw [Kc]
    rcases Nat.eq_zero_or_pos k with rfl | hk0
    ·rw [hI.root'] at hwk; cases hwk; rw [QM]; omega
    ·obtain ⟨j', y', g', t', w, h1, h2, h3, h4, h5, h6, h7⟩ := hI.par k _ _ _ hk0 hk
     rw [h6] at hwk; cases hwk
     rw [Kc]
     have hdg : 1 ≤ rk ns ∧ rk ns ≤ K := hI.dig k _ h6 ns (by simp)
     rcases h7 with h7 | ⟨h7, h8⟩
     ·exact Nat.le_of_lt (Sc (hI.inc _ _ _ _ h5 hw0 h7) hr.1 hdg.2)
     ·subst h7; rw [hw0] at h5; cases h5
      have := hd _ h8
      simp only at this; omega
 ·rw [if_neg hin]
  have hnew : ∀ (k : Nat) y g t, l[k]? = some (y, g, t) → y ≠ q.2 := fun k y g t hy e => hin (List.any_eq_true.2 ⟨_, lM hy, decide_eq_true e⟩)
  have hbig : ∀ (k : Nat) u, ws[k]? = some u → code rk K u < code rk K (w0 ++ [q.1]) := by
   intro k u hu
   rw [Kc]
   obtain ⟨⟨nx, nf, ns⟩, hk⟩ := get_ex (l := l) (k := k) (by rw [← hI.len]; exact lt_get hu)
   rcases Nat.eq_zero_or_pos k with rfl | hk0
   ·rw [hI.root'] at hu; cases hu; rw [QM]; omega
   ·obtain ⟨j', y', g', t', w, h1, h2, h3, h4, h5, h6, h7⟩ := hI.par k _ _ _ hk0 hk
    rw [h6] at hu; cases hu
    rw [Kc]
    have hdg : 1 ≤ rk ns ∧ rk ns ≤ K := hI.dig k _ h6 ns (by simp)
    rcases h7 with h7 | ⟨h7, h8⟩
    ·exact Sc (hI.inc _ _ _ _ h5 hw0 h7) hr.1 hdg.2
    ·subst h7; rw [hw0] at h5; cases h5
     have := hd _ h8
     simp only at this; omega
  refine ⟨ws ++ [w0 ++ [q.1]], ⟨by simp [hI.len], ?_, get_app_of hI.root', ?_, ?_, ?_, ?_, ?_⟩, fun _ _ h => get_app_of h, fun _ _ h => get_app_of h⟩
  ·obtain ⟨s0, hs0⟩ := hI.root; exact ⟨s0, get_app_of hs0⟩
  ·intro k y g t hk hy
   rcases IB hy with hy | ⟨hk1, hy⟩
   ·obtain ⟨j, y', g', t', w, h1, h2, h3, h4, h5, h6, h7⟩ := hI.par k y g t hk hy
    exact ⟨j, y', g', t', w, h1, h2, get_app_of h3, h4, get_app_of h5, get_app_of h6, h7.imp id fun h => ⟨h.1, List.mem_append_left _ h.2⟩⟩
   ·cases hy
    refine ⟨i, x, f, s, w0, rfl, by rw [hk1]; exact lt_get hx, get_app_of hx, hq, get_app_of hw0, by rw [hk1, ← hI.len]; exact JZ, .inr ⟨rfl, by simp⟩⟩
  ·intro a b y g t g' t' ha hb
   rcases IB ha with ha | ⟨ha1, ha⟩ <;> rcases IB hb with hb | ⟨hb1, hb⟩
   ·exact hI.nodup a b y g t g' t' ha hb
   ·cases hb; exact absurd rfl (hnew _ _ _ _ ha)
   ·cases ha; exact absurd rfl (hnew _ _ _ _ hb)
   ·omega
  ·intro a b u w ha hb hab
   rcases IB ha with ha | ⟨ha1, ha⟩ <;> rcases IB hb with hb | ⟨hb1, hb⟩
   ·exact hI.inc a b u w ha hb hab
   ·rw [hb]; exact hbig _ _ ha
   ·have := lt_get hb; omega
   ·omega
  ·intro k w hw
   rcases IB hw with hw | ⟨hw1, hw⟩
   ·exact hI.dig k w hw
   ·rw [hw]; exact (hI.dig _ _ hw0).snoc hr
  ·intro j y g t w hy hw r hr'
   rcases IB hy with hy1 | ⟨hy1, hy2⟩
   ·have hw1 : ws[j]? = some w := by
     rcases IB hw with h | ⟨h, _⟩
     ·exact h
     ·have := lt_get hy1; rw [← hI.len] at this; omega
    by_cases hold : (j < i ∧ r ∈ nxt y) ∨ (j = i ∧ r ∈ done)
    ·obtain ⟨k, f', s', w', h1, h2, h3⟩ := hI.closed j y g t w hy1 hw1 r hold
     exact ⟨k, f', s', w', get_app_of h1, get_app_of h2, h3⟩
    ·have hjr : j = i ∧ r = q := by
      rcases hr' with h | ⟨h1, h2⟩
      ·exact absurd (.inl h) hold
      ·rcases List.mem_append.1 h2 with h3 | h3
       ·exact absurd (.inr ⟨h1, h3⟩) hold
       ·exact ⟨h1, List.mem_singleton.1 h3⟩
     obtain ⟨rfl, rfl⟩ := hjr
     rw [hw0] at hw1; cases hw1
     exact ⟨l.length, _, _, _, JZ, by rw [← hI.len]; exact JZ, Nat.le_refl _⟩
   ·have := lt_get hx
    rcases hr' with h | h <;> omega
theorem O9 [DecidableEq α] {nxt : α → List (σ × α)} {rk : σ → Nat} {K : Nat} {root : α} {i most : Nat} {x : α} {f : Int} {s : σ} (hP : (nxt x).Pairwise fun a b => rk a.1 < rk b.1) (hD : ∀ q, q ∈ nxt x → 1 ≤ rk q.1 ∧ rk q.1 ≤ K) :
  ∀ (qs done : List (σ × α)) (l l' : List (Nd α σ)) (ws : List (List σ)), done ++ qs = nxt x → Inv nxt rk K root i done l ws → l[i]? = some (x, f, s) → inner most i qs l = some l' →
   ∃ ws', Inv nxt rk K root i (nxt x) l' ws' ∧ (∀ (k : Nat) w, ws[k]? = some w → ws'[k]? = some w) ∧ (∀ (k : Nat) n, l[k]? = some n → l'[k]? = some n)
 | [], done, l, l', ws, he, hI, hx, h => by
  cases h; rw [List.append_nil] at he; subst he; exact ⟨ws, hI, fun _ _ h => h, fun _ _ h => h⟩
 | q :: qs, done, l, l', ws, he, hI, hx, h => by
  have hqm : q ∈ nxt x := by rw [← he]; simp
  have hlt : ∀ r, r ∈ done → rk r.1 < rk q.1 := fun r hr => by
   rw [← he] at hP
   exact (List.pairwise_append.1 hP).2.2 r hr q (by simp)
  obtain ⟨ws1, h1, h2, h3⟩ := Vc hI hx hqm hlt (hD q hqm)
  simp only [inner] at h
  split at h
  ·cases h
  ·obtain ⟨ws2, g1, g2, g3⟩ := O9 hP hD qs (done ++ [q]) _ l' ws1 (by rw [List.append_assoc]; exact he) h1 (h3 _ _ hx) h
   exact ⟨ws2, g1, fun k w hw => g2 k w (h2 k w hw), fun k n hn => g3 k n (h3 k n hn)⟩
theorem Um {nxt : α → List (σ × α)} {rk : σ → Nat} {K : Nat} {root : α} {i : Nat} {x : α} {f : Int} {s : σ} {l : List (Nd α σ)} {ws : List (List σ)} (h : Inv nxt rk K root i (nxt x) l ws) (hx : l[i]? = some (x, f, s)) : Inv nxt rk K root (i + 1) [] l ws := by
 refine ⟨h.len, h.root, h.root', ?_, h.nodup, h.inc, h.dig, ?_⟩
 ·intro k y g t hk hy
  obtain ⟨j, y', g', t', w, h1, h2, h3, h4, h5, h6, h7⟩ := h.par k y g t hk hy
  exact ⟨j, y', g', t', w, h1, h2, h3, h4, h5, h6, .inl (by rcases h7 with h7 | h7 <;> omega)⟩
 ·intro j y g t w hy hw r hr
  rcases hr with ⟨h1, h2⟩ | ⟨_, h2⟩
  ·refine h.closed j y g t w hy hw r ?_
   by_cases hj : j < i
   ·exact .inl ⟨hj, h2⟩
   ·have : j = i := by omega
    subst this; rw [hx] at hy; cases hy; exact .inr ⟨rfl, h2⟩
  ·cases h2
theorem inv_go [DecidableEq α] {nxt : α → List (σ × α)} {rk : σ → Nat} {K : Nat} {root : α} {most : Nat} (P : α → Prop) (hP : ∀ x, P x → (nxt x).Pairwise fun a b => rk a.1 < rk b.1) (hD : ∀ x, P x → ∀ q, q ∈ nxt x → (1 ≤ rk q.1 ∧ rk q.1 ≤ K) ∧ P q.2) (hroot : P root) :
  ∀ (n i : Nat) (l l' : List (Nd α σ)) (ws : List (List σ)), i ≤ l.length → Inv nxt rk K root i [] l ws → (∀ (k : Nat) x f s, l[k]? = some (x, f, s) → P x) → go nxt most n i l = some l' → ∃ ws', Inv nxt rk K root l'.length [] l' ws' ∧ (∀ (k : Nat) x f s, l'[k]? = some (x, f, s) → P x)
 | 0, i, l, l', ws, _, _, _, h => by cases h
 | n + 1, i, l, l', ws, hi, hI, hA, h => by
  simp only [go] at h
  split at h
  ·rename_i hn
   cases h
   have : i = l.length := by
    have := List.getElem?_eq_none_iff.1 hn; omega
   subst this
   exact ⟨ws, hI, hA⟩
  ·rename_i nd hn
   obtain ⟨x, f, s⟩ := nd
   cases hin : inner most i (nxt x) l with
   | none => rw [hin] at h; cases h
   | some l1 =>
    rw [hin] at h
    have hx := hA _ _ _ _ hn
    obtain ⟨ws1, h1, h2, h3⟩ := O9 (hP x hx) (fun q hq => (hD x hx q hq).1) (nxt x) [] l l1 ws rfl hI hn hin
    have hA1 : ∀ (k : Nat) y g t, l1[k]? = some (y, g, t) → P y := fun k y g t hy => by
     rcases Nat.eq_zero_or_pos k with rfl | hk
     ·obtain ⟨s0, hs0⟩ := h1.root; rw [hs0] at hy; cases hy; exact hroot
     ·obtain ⟨j, y', g', t', w, e1, e2, e3, e4, e5, e6, e7⟩ := h1.par k y g t hk hy
      have hj : P y' := by
       have hjl : j < l.length := by rcases e7 with h | h <;> have := lt_get hn <;> omega
       obtain ⟨⟨z, zf, zs⟩, hz⟩ := get_ex hjl
       have := h3 _ _ hz
       rw [e3] at this; cases this
       exact hA _ _ _ _ hz
      exact (hD y' hj _ e4).2
    exact inv_go P hP hD hroot n (i + 1) l1 l' ws1 (by have := lt_get (h3 _ _ hn); omega) (Um h1 (h3 _ _ hn)) hA1 h
theorem inv_start {nxt : α → List (σ × α)} {rk : σ → Nat} {K : Nat} {root : α} {s : σ} : Inv nxt rk K root 0 [] [(root, -1, s)] [[]] := by
 refine ⟨rfl, ⟨s, rfl⟩, rfl, ?_, ?_, ?_, ?_, ?_⟩
 ·intro k x f s hk h; rw [List.getElem?_eq_none (by simp; omega)] at h; cases h
 ·intro a b x f s g t ha hb; have := lt_get ha; have := lt_get hb; simp at *; omega
 ·intro a b u w ha hb hab; have := lt_get hb; simp at this; omega
 ·intro k w hw
  have := lt_get hw; simp at this; subst this; simp at hw; subst hw
  intro s hs; cases hs
 ·intro j x f s w _ _ q h
  rcases h with h | h
  ·omega
  ·cases h.2
def run (nxt : α → List (σ × α)) (x : α) : List σ → α → Prop
 | [], y => y = x
 | s :: w, y => ∃ z, (s, z) ∈ nxt x ∧ run nxt z w y
theorem FC {nxt : α → List (σ × α)} : ∀ {u w : List σ} {x y : α}, run nxt x (u ++ w) y ↔ ∃ z, run nxt x u z ∧ run nxt z w y
 | [], w, x, y => by simp [run]
 | s :: u, w, x, y => by
  simp only [List.cons_append, run]
  constructor
  ·rintro ⟨z, h1, h2⟩
   obtain ⟨z', h3, h4⟩ := FC.1 h2
   exact ⟨z', ⟨z, h1, h3⟩, h4⟩
  ·rintro ⟨z', ⟨z, h1, h3⟩, h4⟩
   exact ⟨z, h1, FC.2 ⟨z', h3, h4⟩⟩
theorem inner_len [DecidableEq α] {most i : Nat} : ∀ (qs : List (σ × α)) (l l' : List (Nd α σ)), l.length ≤ most → inner most i qs l = some l' → l'.length ≤ most
 | [], l, l', h0, h => by cases h; exact h0
 | q :: qs, l, l', h0, h => by
  simp only [inner] at h
  split at h
  ·cases h
  ·exact inner_len qs _ _ (by omega) h
theorem go_len [DecidableEq α] {nxt : α → List (σ × α)} {most : Nat} : ∀ (n i : Nat) (l l' : List (Nd α σ)), l.length ≤ most → go nxt most n i l = some l' → l'.length ≤ most
 | 0, i, l, l', _, h => by cases h
 | n + 1, i, l, l', h0, h => by
  simp only [go] at h
  split at h
  ·cases h; exact h0
  ·rename_i nd hn
   cases hin : inner most i (nxt nd.1) l with
   | none => rw [hin] at h; cases h
   | some l1 => rw [hin] at h; exact go_len n (i + 1) l1 l' (inner_len _ _ _ h0 hin) h
end
end Bfs
end Go.Lift
namespace Go.Lift
open Option renaming bind_some → oS
open List renaming mem_of_getElem? → lM
open List renaming getElem?_eq_some_iff → lI
open Go
theorem Qg : ∀ {l : List Int}, Re l = 0 → ∀ x, x ∈ l → x = 0
 | [], _, x, hx => by cases hx
 | y :: ys, h, x, hx => by
  unfold Re at h
  split at h
  ·rename_i hy
   rcases List.mem_cons.1 hx with rfl | hx
   ·exact hy
   ·exact Qg h x hx
  ·rename_i hy; exact absurd h hy
theorem Kg {a b : Ae} (h : Hm a b = 0) : a = b := by
 have := Qg h
 have h1 := MT _ _ (this (Ex a.fBase b.fBase) (by simp))
 have h2 := MT _ _ (this (Ex a.fNext b.fNext) (by simp))
 have h3 := MT _ _ (this (Ex a.fHeld b.fHeld) (by simp))
 cases a; cases b; simp only at h1 h2 h3; subst h1; subst h2; subst h3; rfl
instance ZH : DecidableEq Ae := fun a b => if h : Hm a b = 0 then isTrue (Kg h) else isFalse (fun e => h (by rw [e]; exact OY b))
theorem T9 (a b : Ae) : (Hm a b == 0) = decide (a = b) := by
 by_cases h : a = b
 ·rw [decide_eq_true h, h, OY]; rfl
 ·rw [decide_eq_false h]
  exact beq_eq_false_iff_ne.2 fun e => h (Kg e)
def Oy (p : Ag) (m : Ae) (ss : List Ak) : List (Ak × Ae) := ss.filterMap fun s => if Cn p (B2 p m s).1 = true then some (s, (B2 p m s).1) else none
def HG (p : Ag) (m : Ae) : List (Ak × Ae) := Oy p m (FQ p m)
def MK (s : Ak) : Nat := if s.fKind = 1 then 1 + 8 * s.fIndex.toNat + s.fVersion.toNat else if s.fKind = 2 then 60 + s.fIndex.toNat else 70 + s.fIndex.toNat
theorem I4 {p : Ag} {m : Ae} {s : Ak} (h : s ∈ FQ p m) : s ∈ E6 p ∧ (B2 p m s).2 = 0 := by
 unfold FQ at h
 have := List.mem_filter.1 h
 exact ⟨this.1, by simpa using this.2⟩
theorem VV {p : Ag} {m : Ae} {ss : List Ak} {q : Ak × Ae} : q ∈ Oy p m ss ↔ q.1 ∈ ss ∧ q.2 = (B2 p m q.1).1 ∧ Cn p q.2 = true := by
 unfold Oy
 rw [List.mem_filterMap]
 constructor
 ·rintro ⟨s, h1, h2⟩
  split at h2
  ·rename_i h3; cases h2; exact ⟨h1, rfl, h3⟩
  ·cases h2
 ·rintro ⟨h1, h2, h3⟩
  refine ⟨q.1, h1, ?_⟩
  rw [← h2, if_pos h3]
theorem MS {p : Ag} {m : Ae} {q : Ak × Ae} : q ∈ HG p m ↔ q.1 ∈ FQ p m ∧ q.2 = (B2 p m q.1).1 ∧ Cn p q.2 = true := VV
theorem MX {p : Ag} {m : Ae} (hp : Bl p) (hm : Bt p m) {q : Ak × Ae} (h : q ∈ HG p m) : Bt p q.2 ∧ Cn p q.2 = true := by
 obtain ⟨h1, h2, h3⟩ := MS.1 h
 exact ⟨by rw [h2]; exact Kh hp hm (I4 h1).2, h3⟩
theorem Tl {p : Ag} (hp : Bl p) {s : Ak} (h : s ∈ E6 p) : s.fKind ≤ 3 ∧ 1 ≤ MK s ∧ MK s ≤ 100 := by
 obtain ⟨h1, h2⟩ := L8 hp h
 obtain ⟨a1, a2, a3, a4, a5⟩ := Ia h1
 obtain ⟨b1, b2, b3⟩ := IZ h2
 have hnv := hp.nv
 have hnt := hp.nt
 have hk : s.fKind ≤ 3 := by
  unfold E6 at h
  rcases List.mem_append.1 h with h | h
  ·rcases List.mem_append.1 h with h | h
   ·obtain ⟨j, x, hx, hk⟩ := Hv.1 h
    unfold IS at hk
    obtain ⟨v, hv, rfl⟩ := List.mem_map.1 hk
    exact (by decide : (1 : Int) ≤ 3)
   ·obtain ⟨v, hv, rfl⟩ := List.mem_map.1 h
    exact (by decide : (2 : Int) ≤ 3)
  ·obtain ⟨v, hv, rfl⟩ := List.mem_map.1 h
   exact (by decide : (3 : Int) ≤ 3)
 refine ⟨hk, ?_⟩
 unfold MK
 by_cases h1 : s.fKind = 1
 ·rw [if_pos h1]
  have := b2 (by omega)
  have h3 := b3 h1
  have h4 := (HQ hp (i := s.fIndex.toNat) (by omega)).2
  omega
 ·rw [if_neg h1]
  by_cases h2 : s.fKind = 2
  ·rw [if_pos h2]
   have := b2 (by omega)
   omega
  ·rw [if_neg h2]
   have := b1 (by omega)
   omega
theorem VS (i : Nat) (n : Int) : (IS i n).Pairwise fun a b => MK a < MK b := by
 unfold IS
 rw [List.pairwise_map]
 refine List.Pairwise.imp ?_ List.pairwise_lt_range
 intro a b h
 simp [MK]; omega
theorem UY {p : Ag} (hp : Bl p) : (E6 p).Pairwise fun a b => MK a < MK b := by
 have hnv := hp.nv
 have hnt := hp.nt
 have e1 : ∀ (xs : List Int) (i : Nat), (∀ x, x ∈ xs → x ≤ 6) → (CQ IS i xs).Pairwise fun a b => MK a < MK b := by
  intro xs
  induction xs with
  | nil => intro i _; exact List.Pairwise.nil
  | cons x xs ih =>
   intro i hx
   rw [CQ, List.pairwise_append]
   refine ⟨VS i x, ih (i + 1) fun y hy => hx y (List.mem_cons_of_mem _ hy), ?_⟩
   intro a ha b hb
   unfold IS at ha
   obtain ⟨v, hv, rfl⟩ := List.mem_map.1 ha
   obtain ⟨j, y, hy, hb⟩ := Hv.1 hb
   unfold IS at hb
   obtain ⟨w, hw, rfl⟩ := List.mem_map.1 hb
   have := hx x (by simp)
   have := List.mem_range.1 hv
   simp [MK]; omega
 unfold E6
 rw [List.pairwise_append, List.pairwise_append]
 refine ⟨⟨e1 _ 0 fun x hx => (hp.ver x hx).2, ?_, ?_⟩, ?_, ?_⟩
 ·rw [List.pairwise_map]
  refine List.Pairwise.imp ?_ List.pairwise_lt_range
  intro a b h
  simp [MK]; omega
 ·intro a ha b hb
  obtain ⟨w, hw, rfl⟩ := List.mem_map.1 hb
  obtain ⟨j, y, hy, ha⟩ := Hv.1 ha
  unfold IS at ha
  obtain ⟨v, hv, rfl⟩ := List.mem_map.1 ha
  have := List.mem_range.1 hv
  have := (hp.ver y (lM hy)).2
  have := (lI.1 hy).1
  simp [MK]; omega
 ·rw [List.pairwise_map]
  refine List.Pairwise.imp ?_ List.pairwise_lt_range
  intro a b h
  simp [MK]; omega
 ·intro a ha b hb
  obtain ⟨w, hw, rfl⟩ := List.mem_map.1 hb
  have hw := List.mem_range.1 hw
  rcases List.mem_append.1 ha with ha | ha
  ·obtain ⟨j, y, hy, ha⟩ := Hv.1 ha
   unfold IS at ha
   obtain ⟨v, hv, rfl⟩ := List.mem_map.1 ha
   have := List.mem_range.1 hv
   have := (hp.ver y (lM hy)).2
   have := (lI.1 hy).1
   simp [MK]; omega
  ·obtain ⟨v, hv, rfl⟩ := List.mem_map.1 ha
   have := List.mem_range.1 hv
   simp [MK]; omega
theorem Wv {p : Ag} {m : Ae} {ss : List Ak} (h : ss.Pairwise fun a b => MK a < MK b) : (Oy p m ss).Pairwise fun a b => MK a.1 < MK b.1 := by
 unfold Oy
 rw [List.pairwise_filterMap]
 refine List.Pairwise.imp ?_ h
 intro a b hab x hx y hy
 split at hx
 ·cases hx
  split at hy
  ·cases hy; exact hab
  ·cases hy
 ·cases hx
theorem W5 {p : Ag} (hp : Bl p) (m : Ae) : (HG p m).Pairwise fun a b => MK a.1 < MK b.1 := Wv ((UY hp).filter _)
abbrev MR := Bfs.Nd Ae Ak
def QO : Ak := ⟨0, 0, 0⟩
theorem T3 {N : Nat} {p : Ag} {a b : Ae} (hN : N ≤ 1000000) (h20 : 100 ≤ N) (hp : Bl p) (ha : Bt p a) (hb : Bt p b) : Eu N a b = some (decide (a = b)) := by
 have hnv := hp.nv
 have hnt := hp.nt
 unfold Eu
 rw [Mo hN (by rw [ha.base]; omega) (by rw [ha.next]; omega) (by rw [ha.held]; omega) (by rw [hb.held]; omega) (Ld ha) (Ld hb)]
 simp only [oS]
 rw [T9]
theorem Ql {i : Nat} {l : List MR} {q : Ak × Ae} {k : Nat} {n : MR} (h : l[k]? = some n) : (Bfs.put i l q)[k]? = some n := by
 unfold Bfs.put
 split
 ·exact h
 ·exact Bfs.get_app_of h
theorem PM {i : Nat} {l : List MR} {q : Ak × Ae} {n : MR} (h : n ∈ Bfs.put i l q) : n ∈ l ∨ n.1 = q.2 := by
 unfold Bfs.put at h
 split at h
 ·exact .inl h
 ·rcases List.mem_append.1 h with h | h
  ·exact .inl h
  ·rw [List.mem_singleton.1 h]; exact .inr rfl
theorem JX {p : Ag} {m : Ae} {s : Ak} {ss : List Ak} : Oy p m (s :: ss) = if Cn p (B2 p m s).1 = true then (s, (B2 p m s).1) :: Oy p m ss else Oy p m ss := by
 unfold Oy
 rw [List.filterMap_cons]
 split <;> rename_i h
 ·split at h
  ·cases h
  ·rename_i h2; rw [if_neg h2]
 ·split at h
  ·rename_i h2; cases h; rw [if_pos h2]
  ·cases h
theorem Jg {p : Ag} {most i : Nat} : ∀ {qs : List (Ak × Ae)} {l l' : List MR}, Bfs.inner most i qs l = some l' → (∀ q, q ∈ qs → Bt p q.2 ∧ Cn p q.2 = true) → (∀ n, n ∈ l → Bt p n.1 ∧ Cn p n.1 = true) → (∀ n, n ∈ l' → Bt p n.1 ∧ Cn p n.1 = true) ∧ (∀ (k : Nat) n, l[k]? = some n → l'[k]? = some n)
 | [], l, l', h, _, hA => by cases h; exact ⟨hA, fun _ _ h => h⟩
 | q :: qs, l, l', h, hq, hA => by
  simp only [Bfs.inner] at h
  split at h
  ·cases h
  ·obtain ⟨h1, h2⟩ := Jg h (fun q hq' => hq q (List.mem_cons_of_mem _ hq')) (fun n hn => by
    rcases PM hn with h | h
    ·exact hA n h
    ·rw [h]; exact hq q (by simp))
   exact ⟨h1, fun k n hn => h2 k n (Ql hn)⟩
theorem Jv (N : Nat) (hN : N ≤ 1000000) (h20 : 100 ≤ N) {p : Ag} {m : Ae} (hp : Bl p) (hm : Bt p m) {s : Ak} (hs : s ∈ FQ p m) : ∃ b, B0 N p m s = some ((B2 p m s).1, b) := by
 obtain ⟨h1, h2⟩ := I4 hs
 obtain ⟨h3, h4⟩ := L8 hp h1
 rw [LC N hN h20 hp hm h3 h4]
 unfold B2 at h2 ⊢
 rw [h3, h4, if_neg (by simp), if_neg (by simp)] at h2 ⊢
 cases h : FR p m s with
 | none => rw [h] at h2; cases h2
 | some x => exact ⟨true, rfl⟩
theorem Ly {p : Ag} {m : Ae} (hm : Bt p m) (hr : Cn p m = true) : ∀ n, n ∈ ([(m, -1, QO)] : List MR) → Bt p n.1 ∧ Cn p n.1 = true := fun n hn => by
 rw [List.mem_singleton.1 hn]; exact ⟨hm, hr⟩
def LZ (p : Ag) (m : Ae) (most n : Nat) : Option (List MR) := Bfs.go (HG p) most n 0 [(m, -1, QO)]
structure Xy (p : Ag) (m : Ae) (l : List MR) (ws : List (List Ak)) : Prop where
 inv : Bfs.Inv (HG p) MK 100 m l.length [] l ws
 ok : ∀ (k : Nat) x f s, l[k]? = some (x, f, s) → Bt p x ∧ Cn p x = true
theorem Ti {p : Ag} (hp : Bl p) {m : Ae} (hm : Bt p m) (hr : Cn p m = true) {most n : Nat} {l : List MR} (h : LZ p m most n = some l) : ∃ ws, Xy p m l ws := by
 obtain ⟨ws, h1, h2⟩ := Bfs.inv_go (rk := MK) (K := 100) (fun x => Bt p x ∧ Cn p x = true) (fun x _ => W5 hp x) (fun x hx q hq => by
  refine ⟨?_, MX hp hx.1 hq⟩
  exact (Tl hp (I4 (MS.1 hq).1).1).2) ⟨hm, hr⟩ n 0 [(m, -1, QO)] l [[]] (Nat.zero_le _) Bfs.inv_start (fun k x f s hk => by
   have := Bfs.lt_get hk
   simp at this; subst this
   cases hk; exact ⟨hm, hr⟩) h
 exact ⟨ws, h1, h2⟩
end Go.Lift
namespace Go.Lift
open IntKind renaming wrap → wI
open Option renaming bind_some → oS
open List renaming mem_of_getElem? → lM
open Go
open Go.Sort (swp insInner insOuter insertionSort siftDown heapBuild heapPop heapSort)
section
variable {α : Type} [Inhabited α]
theorem wn {e : Int} {n : Nat} (h : e = (n : Int)) (hn : n < 1000000000) : wI .i64 e = (n : Int) := by
 subst h; exact CR (by omega) (by omega)
theorem gi {d : Array α} {i : Nat} (h : i < d.size) : A9 d.toList (i : Int) = some d[i]! := by
 rw [A5]
 simp [h, getElem!_pos]
theorem Ip {β γ : Type} {l : List β} {i : Nat} (h : i < l.length) (X : Option γ) : ((A9 l (i : Int)).bind fun _ => X) = X := by
 rw [A5, List.getElem?_eq_getElem h]; rfl
theorem EB (d : Array α) (i j : Nat) : (swp d i j).toList = (d.toList.set i d[j]!).set j d[i]! := by
 unfold swp; simp
theorem Bi (d : Array α) (i j : Nat) : (swp d i j).size = d.size := by unfold swp; simp
def C0 (P : α → Prop) (d : Array α) : Prop := ∀ x, x ∈ d.toList → P x
theorem C0.get {P : α → Prop} {d : Array α} (h : C0 P d) {i : Nat} (hi : i < d.size) : P d[i]! := by
 have := gi hi
 rw [A5] at this
 exact h _ (lM this)
theorem C0.swp {P : α → Prop} {d : Array α} (h : C0 P d) {i j : Nat} (hi : i < d.size) (hj : j < d.size) : C0 P (swp d i j) := by
 intro x hx
 rw [EB] at hx
 rcases List.mem_or_eq_of_mem_set hx with hx | hx
 ·rcases List.mem_or_eq_of_mem_set hx with hx | hx
  ·exact h x hx
  ·rw [hx]; exact h.get hj
 ·rw [hx]; exact h.get hi
variable {P : α → Prop} {cmp : α × α → Option Int} {c : α → α → Int}
def B7 (c : α → α → Int) (x y : α) : Bool := decide (c x y < 0)
theorem TY (hc : ∀ x y, P x → P y → cmp (x, y) = some (c x y)) (N a : Nat) (J : List α → Option (List α)) : ∀ (n j : Nat) (d : Array α), j < n → j < d.size → d.size ≤ 100000 → C0 P d →
  Gs.insertionSort_L4 N (a : Int) cmp J n (d.toList, (j : Int)) = J (insInner (B7 c) a j d).toList ∧ (insInner (B7 c) a j d).size = d.size ∧ C0 P (insInner (B7 c) a j d)
 | 0, j, d, h, _, _, _ => by omega
 | n + 1, j, d, h, hj, hs, hA => by
  rw [Gs.insertionSort_L4]
  simp only [A6]
  rcases j with _ | j
  ·rw [Az (by omega), As]
   exact ⟨rfl, rfl, hA⟩
  ·simp only [wn (e := ((j + 1 : Nat) : Int) - 1) (n := j) (by omega) (by omega), gi hj, gi (show j < d.size by omega), oS, Int.toNat_natCast]
   rw [hc _ _ (hA.get hj) (hA.get (by omega))]
   simp only [oS]
   rw [Ip (by simp; omega), ← EB]
   rw [insInner]
   by_cases ha : a < j + 1
   ·rw [AC (by omega), Vs]
    by_cases hl : c d[j + 1]! d[j]! < 0
    ·rw [if_pos (decide_eq_true hl), if_pos (by simp [ha, B7, hl])]
     have := TY hc N a J n j (swp d (j + 1) j) (by omega) (by rw [Bi]; omega) (by rw [Bi]; exact hs) (hA.swp hj (by omega))
     rw [Bi] at this
     exact this
    ·rw [if_neg (by simpa using hl), if_neg (by simp [B7, hl])]
     exact ⟨rfl, rfl, hA⟩
   ·rw [Az (by omega), As, if_neg (by simp [ha])]
    exact ⟨rfl, rfl, hA⟩
theorem Sw (hc : ∀ x y, P x → P y → cmp (x, y) = some (c x y)) (N a b : Nat) (J : List α → Option (List α)) : ∀ (n i : Nat) (d : Array α), b - i < n → b ≤ d.size → d.size < N → d.size ≤ 100000 → i ≤ 200000 → C0 P d →
  Gs.insertionSort_L1 N (a : Int) (b : Int) cmp J n (d.toList, (i : Int)) = J (insOuter (B7 c) a b i d).toList ∧ (insOuter (B7 c) a b i d).size = d.size ∧ C0 P (insOuter (B7 c) a b i d)
 | 0, i, d, h, _, _, _, _, _ => by omega
 | n + 1, i, d, h, hb, hN, hs, hi2, hA => by
  rw [Gs.insertionSort_L1, insOuter]
  by_cases hi : i < b
  ·rw [AC (by simp only; omega), if_pos hi]
   obtain ⟨e1, e2, e3⟩ := TY hc N a (fun v5 => Gs.insertionSort_L1 N (a : Int) (b : Int) cmp J n (v5, ((i + 1 : Nat) : Int))) N i d (by omega) (by omega) hs hA
   simp only [wn (e := (i : Int) + 1) (n := i + 1) (by omega) (by omega)]
   rw [e1]
   have := Sw hc N a b J n (i + 1) (insInner (B7 c) a i d) (by omega) (by omega) (by omega) (by omega) (by omega) e3
   rw [e2] at this
   exact this
  ·rw [Az (by simp only; omega), if_neg hi]
   exact ⟨rfl, rfl, hA⟩
theorem Xg (hc : ∀ x y, P x → P y → cmp (x, y) = some (c x y)) {N a b : Nat} {d : Array α} (hab : a ≤ b) (hb : b ≤ d.size) (hN : d.size < N) (hs : d.size ≤ 100000) (hA : C0 P d) :
  Gs.insertionSort N d.toList (a : Int) (b : Int) cmp = some (insertionSort (B7 c) d a b).toList ∧ (insertionSort (B7 c) d a b).size = d.size ∧ C0 P (insertionSort (B7 c) d a b) := by
 unfold Gs.insertionSort
 rw [wn (e := (a : Int) + 1) (n := a + 1) (by omega) (by omega)]
 exact Sw hc N a b (fun v2 => some v2) N (a + 1) d (by omega) hb hN hs (by omega) hA
theorem P5 (hc : ∀ x y, P x → P y → cmp (x, y) = some (c x y)) {N hi first : Nat} : ∀ (n root : Nat) (d : Array α), hi - root < n → first + hi ≤ d.size → d.size ≤ 100000 → root ≤ 100000 → C0 P d → root < hi ∨ hi = 0 ∨ True → (2 * root + 1 < hi → root < hi) →
  Gs.siftDown_L1 N (hi : Int) (first : Int) cmp (fun v2 => some v2) n (d.toList, (root : Int)) = some (siftDown (B7 c) hi first root d).toList ∧ (siftDown (B7 c) hi first root d).size = d.size ∧ C0 P (siftDown (B7 c) hi first root d)
 | 0, root, d, h, _, _, _, _, _, _ => by omega
 | n + 1, root, d, h, hf, hs, hr, hA, _, _ => by
  rw [Gs.siftDown_L1, siftDown]
  simp only [A6]
  have e1 : wI .i64 ((wI .i64 (2 * (root : Int))) + 1) = ((2 * root + 1 : Nat) : Int) := by
   rw [wn (e := 2 * (root : Int)) (n := 2 * root) (by omega) (by omega), wn (n := 2 * root + 1) (by omega) (by omega)]
  have e2 : wI .i64 (((2 * root + 1 : Nat) : Int) + 1) = ((2 * root + 2 : Nat) : Int) := wn (by omega) (by omega)
  have e3 : wI .i64 ((first : Int) + ((2 * root + 1 : Nat) : Int)) = ((first + (2 * root + 1) : Nat) : Int) := by
   by_cases hx : first < 200000
   ·exact wn (by omega) (by omega)
   ·omega
  have e4 : wI .i64 ((first : Int) + (root : Int)) = ((first + root : Nat) : Int) := wn (by omega) (by omega)
  have e5 : wI .i64 (((first + (2 * root + 1) : Nat) : Int) + 1) = ((first + (2 * root + 1) + 1 : Nat) : Int) := wn (by omega) (by omega)
  have e6 : wI .i64 ((first : Int) + ((2 * root + 2 : Nat) : Int)) = ((first + (2 * root + 2) : Nat) : Int) := wn (by omega) (by omega)
  simp only [e1, e2, e3, e4, e5]
  by_cases h1 : 2 * root + 1 ≥ hi
  ·rw [AC (by omega), dif_pos h1]
   exact ⟨rfl, rfl, hA⟩
  ·rw [Az (by omega), dif_neg h1]
   -- what follows when the child is known
   have tail : ∀ ch : Nat, ch < hi → root < ch → wI .i64 ((first : Int) + (ch : Int)) = ((first + ch : Nat) : Int) →
     (((A9 d.toList ((first + root : Nat) : Int)).bind fun v11 => (A9 d.toList (wI .i64 ((first : Int) + (ch : Int)))).bind fun v12 => (cmp (v11, v12)).bind fun v13 => AV (!(decide (v13 < 0))) (some d.toList)
      ((A9 d.toList (wI .i64 ((first : Int) + (ch : Int)))).bind fun v15 => (A9 d.toList ((first + root : Nat) : Int)).bind fun v16 => (A9 d.toList ((first + root : Nat) : Int)).bind fun _ =>
       (A9 (d.toList.set (((first + root : Nat) : Int)).toNat v15) (wI .i64 ((first : Int) + (ch : Int)))).bind fun _ =>
       Gs.siftDown_L1 N (hi : Int) (first : Int) cmp (fun v2 => some v2) n ((d.toList.set (((first + root : Nat) : Int)).toNat v15).set ((wI .i64 ((first : Int) + (ch : Int)))).toNat v16, (ch : Int)))) =
      some (if !B7 c d[first + root]! d[first + ch]! then d else siftDown (B7 c) hi first ch (swp d (first + root) (first + ch))).toList) ∧
     (if !B7 c d[first + root]! d[first + ch]! then d else siftDown (B7 c) hi first ch (swp d (first + root) (first + ch))).size = d.size ∧ C0 P (if !B7 c d[first + root]! d[first + ch]! then d else siftDown (B7 c) hi first ch (swp d (first + root) (first + ch))) := by
    intro ch h2 h3 h4
    have a1 : first + root < d.size := by omega
    have a2 : first + ch < d.size := by omega
    simp only [h4, gi a1, gi a2, oS, Int.toNat_natCast]
    rw [hc _ _ (hA.get a1) (hA.get a2)]
    simp only [oS]
    rw [Ip (by simp; omega), ← EB]
    unfold B7
    cases hl : decide (c d[first + root]! d[first + ch]! < 0)
    ·rw [Bool.not_false, AN, if_pos rfl]
     exact ⟨rfl, rfl, hA⟩
    ·rw [Bool.not_true, As, if_neg (by simp)]
     have := P5 hc (N := N) (hi := hi) (first := first) n ch (swp d (first + root) (first + ch)) (by omega) (by rw [Bi]; omega) (by rw [Bi]; exact hs) (by omega) (hA.swp a1 a2) (.inl h2) (fun _ => h2)
     rw [Bi] at this
     exact this
   have t1 := tail (2 * root + 1) (by omega) (by omega) e3
   rw [e3] at t1
   by_cases h2 : 2 * root + 1 + 1 < hi
   ·rw [AC (by omega)]
    simp only [gi (show first + (2 * root + 1) < d.size by omega), gi (show first + (2 * root + 1) + 1 < d.size by omega), oS] at t1 ⊢
    rw [hc _ _ (hA.get (by omega)) (hA.get (by omega))]
    simp only [oS]
    have t2 := tail (2 * root + 2) (by omega) (by omega) e6
    rw [e6] at t2
    cases hl : decide (c d[first + (2 * root + 1)]! d[first + (2 * root + 1) + 1]! < 0)
    ·rw [As, if_neg (by simp [B7, hl])]
     exact t1
    ·rw [AN, if_pos (by simp [B7, h2]; simpa using hl), dif_pos (show 2 * root + 2 < hi by omega)]
     simp only [e6]
     exact t2
   ·rw [Az (by omega), As, if_neg (by simp [h2])]
    exact t1
theorem M8 (hc : ∀ x y, P x → P y → cmp (x, y) = some (c x y)) {N a b : Nat} (hab : a ≤ b) (J : List α → Option (List α)) : ∀ (n k : Nat) (d : Array α), k < n → b ≤ d.size → d.size < N → d.size ≤ 100000 → k ≤ 100000 → C0 P d →
  Gs.heapSort_L1 N (a : Int) (b : Int) cmp J n (d.toList, (k : Int) - 1) = J (heapBuild (B7 c) (b - a) a k d).toList ∧ (heapBuild (B7 c) (b - a) a k d).size = d.size ∧ C0 P (heapBuild (B7 c) (b - a) a k d)
 | 0, k, d, h, _, _, _, _, _ => by omega
 | n + 1, k, d, h, hb, hN, hs, hk, hA => by
  rw [Gs.heapSort_L1]
  rcases k with _ | k
  ·rw [Az (by simp only; omega)]
   exact ⟨rfl, rfl, hA⟩
  ·have e0 : (((k + 1 : Nat) : Int) - 1) = (k : Int) := by omega
   simp only [e0]
   rw [AC (by omega)]
   unfold Gs.siftDown
   rw [wn (e := (b : Int) - (a : Int)) (n := b - a) (by omega) (by omega)]
   obtain ⟨e1, e2, e3⟩ := P5 hc (N := N) (hi := b - a) (first := a) N k d (by omega) (by omega) hs (by omega) hA (.inr (.inr trivial)) (fun _ => by omega)
   rw [e1]
   simp only [oS, heapBuild]
   have ew : wI .i64 ((k : Int) - 1) = (k : Int) - 1 := CR (by omega) (by omega)
   rw [ew]
   have := M8 hc (N := N) hab J n k (siftDown (B7 c) (b - a) a k d) (by omega) (by omega) (by omega) (by omega) (by omega) e3
   rw [e2] at this
   exact this
theorem Q7 (hc : ∀ x y, P x → P y → cmp (x, y) = some (c x y)) {N a b : Nat} (hab : a ≤ b) (J : List α → Option (List α)) : ∀ (n k : Nat) (d : Array α), k < n → a + k ≤ d.size → d.size < N → d.size ≤ 100000 → C0 P d →
  Gs.heapSort_L5 N (a : Int) cmp J n (d.toList, (k : Int) - 1) = J (heapPop (B7 c) a k d).toList ∧ (heapPop (B7 c) a k d).size = d.size ∧ C0 P (heapPop (B7 c) a k d)
 | 0, k, d, h, _, _, _, _ => by omega
 | n + 1, k, d, h, hb, hN, hs, hA => by
  rw [Gs.heapSort_L5]
  rcases k with _ | k
  ·rw [Az (by simp only; omega)]
   exact ⟨rfl, rfl, hA⟩
  ·have e0 : (((k + 1 : Nat) : Int) - 1) = (k : Int) := by omega
   have a1 : a + k < d.size := by omega
   have a2 : a < d.size := by omega
   have e1 : wI .i64 ((a : Int) + (k : Int)) = ((a + k : Nat) : Int) := wn (by omega) (by omega)
   simp only [e0, e1]
   rw [AC (by omega)]
   simp only [gi a1, gi a2, oS, Int.toNat_natCast]
   rw [Ip (by simp; omega), ← EB]
   unfold Gs.siftDown
   obtain ⟨f1, f2, f3⟩ := P5 hc (N := N) (hi := k) (first := a) N 0 (swp d a (a + k)) (by omega) (by rw [Bi]; omega) (by rw [Bi]; exact hs) (by omega) (hA.swp a2 a1) (.inr (.inr trivial)) (fun _ => by omega)
   have f1' : Gs.siftDown_L1 N (k : Int) (a : Int) cmp (fun v2 => some v2) N ((swp d a (a + k)).toList, 0) = _ := f1
   rw [f1']
   rw [Bi] at f2
   simp only [oS, heapPop]
   have ew : wI .i64 ((k : Int) - 1) = (k : Int) - 1 := CR (by omega) (by omega)
   rw [ew]
   have := Q7 hc (N := N) hab J n k (siftDown (B7 c) k a 0 (swp d a (a + k))) (by omega) (by omega) (by omega) (by omega) f3
   rw [f2] at this
   exact this
theorem VC (hc : ∀ x y, P x → P y → cmp (x, y) = some (c x y)) {N a b : Nat} {d : Array α} (hab : a < b) (hb : b ≤ d.size) (hN : d.size < N) (hs : d.size ≤ 100000) (hA : C0 P d) :
  Gs.heapSort N d.toList (a : Int) (b : Int) cmp = some (heapSort (B7 c) d a b).toList ∧ (heapSort (B7 c) d a b).size = d.size ∧ C0 P (heapSort (B7 c) d a b) := by
 unfold Gs.heapSort heapSort
 have e1 : wI .i64 (Int.tdiv (wI .i64 ((wI .i64 ((b : Int) - (a : Int))) - 1)) 2) = (((b - a - 1) / 2 + 1 : Nat) : Int) - 1 := by
  rw [wn (e := (b : Int) - (a : Int)) (n := b - a) (by omega) (by omega), wn (e := ((b - a : Nat) : Int) - 1) (n := b - a - 1) (by omega) (by omega)]
  rw [wn (n := (b - a - 1) / 2) (by rw [Int.tdiv_eq_ediv_of_nonneg (by omega)]; omega) (by omega)]
  omega
 have e2 : wI .i64 ((wI .i64 ((b : Int) - (a : Int))) - 1) = (((b - a : Nat) : Int)) - 1 := by
  rw [wn (e := (b : Int) - (a : Int)) (n := b - a) (by omega) (by omega)]
  exact CR (by omega) (by omega)
 rw [e1, e2]
 obtain ⟨f1, f2, f3⟩ := M8 hc (N := N) (a := a) (b := b) (by omega) (fun v2 => Gs.heapSort_L5 N (a : Int) cmp (fun v6 => some v6) N (v2, (((b - a : Nat) : Int)) - 1)) N ((b - a - 1) / 2 + 1) d (by omega) hb hN hs (by omega) hA
 rw [f1]
 obtain ⟨g1, g2, g3⟩ := Q7 hc (N := N) (a := a) (b := b) (by omega) (fun v6 => some v6) N (b - a) (heapBuild (B7 c) (b - a) a ((b - a - 1) / 2 + 1) d) (by omega) (by omega) (by omega) (by omega) f3
 rw [g1]
 exact ⟨rfl, by rw [g2, f2], g3⟩
end
end Go.Lift
namespace Go.Lift
open IntKind renaming wrap → wI
open Option renaming bind_some → oS
open Go
open Go.Sort (swp scanUp scanDown partLoop partition partEqLoop partitionEqual scanSorted shiftDown shiftUp partialIns partialInsertionSort reverseLoop reverseRange)
section
variable {α : Type} [Inhabited α] {P : α → Prop} {cmp : α × α → Option Int} {c : α → α → Int}
theorem O0 (N : Nat) (J : List α → Option (List α)) : ∀ (n i j : Nat) (d : Array α), j - i < n → j < d.size → d.size ≤ 100000 → i ≤ 100000 → C0 P d →
  Gs.reverseRange_L1 N J n (d.toList, (i : Int), (j : Int)) = J (reverseLoop i j d).toList ∧ (reverseLoop i j d).size = d.size ∧ C0 P (reverseLoop i j d)
 | 0, i, j, d, h, _, _, _, _ => by omega
 | n + 1, i, j, d, h, hj, hs, hi, hA => by
  rw [Gs.reverseRange_L1, reverseLoop]
  by_cases hij : i < j
  ·rw [AC (by simp only; omega), if_pos hij]
   simp only [gi hj, gi (show i < d.size by omega), oS, Int.toNat_natCast]
   rw [Ip (by simp; omega), ← EB, wn (e := (i : Int) + 1) (n := i + 1) (by omega) (by omega), wn (e := (j : Int) - 1) (n := j - 1) (by omega) (by omega)]
   have := O0 N J n (i + 1) (j - 1) (swp d i j) (by omega) (by rw [Bi]; omega) (by rw [Bi]; exact hs) (by omega) (hA.swp (by omega) hj)
   rw [Bi] at this
   exact this
  ·rw [Az (by simp only; omega), if_neg hij]
   exact ⟨rfl, rfl, hA⟩
theorem Xh {N a b : Nat} {d : Array α} (hab : a < b) (hb : b ≤ d.size) (hN : d.size < N) (hs : d.size ≤ 100000) (hA : C0 P d) :
  Gs.reverseRange N d.toList (a : Int) (b : Int) cmp = some (reverseRange d a b).toList ∧ (reverseRange d a b).size = d.size ∧ C0 P (reverseRange d a b) := by
 unfold Gs.reverseRange reverseRange
 rw [wn (e := (b : Int) - 1) (n := b - 1) (by omega) (by omega)]
 exact O0 N (fun v2 => some v2) N a (b - 1) d (by omega) (by omega) hs (by omega) hA
theorem My (hc : ∀ x y, P x → P y → cmp (x, y) = some (c x y)) (N b : Nat) {d : Array α} (hb : b ≤ d.size) (hs : d.size ≤ 100000) (hA : C0 P d) (x y : Int) (J : Int → Option (Bool × List α)) : ∀ (n i : Nat), b - i < n → 1 ≤ i → i ≤ 100001 →
  Gs.partialInsertionSort_L5 N (b : Int) cmp (d.toList, x, y) J n (i : Int) = J (scanSorted (B7 c) d b i : Nat)
 | 0, i, h, _, _ => by omega
 | n + 1, i, h, hi, hi2 => by
  rw [Gs.partialInsertionSort_L5, scanSorted]
  simp only [A6]
  by_cases h1 : i < b
  ·rw [AC (by omega)]
   simp only [wn (e := (i : Int) - 1) (n := i - 1) (by omega) (by omega), gi (show i < d.size by omega), gi (show i - 1 < d.size by omega), oS]
   rw [hc _ _ (hA.get (by omega)) (hA.get (by omega))]
   simp only [oS]
   cases hl : decide (c d[i]! d[i - 1]! < 0)
   ·rw [Bool.not_false, AN, if_pos (by simp [h1, B7, hl]), wn (e := (i : Int) + 1) (n := i + 1) (by omega) (by omega)]
    exact My hc N b hb hs hA x y J n (i + 1) (by omega) (by omega) (by omega)
   ·rw [Bool.not_true, As, if_neg (by simp [B7, hl])]
  ·rw [Az (by omega), As, if_neg (by simp [h1])]
theorem JQ (lt : α → α → Bool) (d : Array α) (b : Nat) : ∀ (n i : Nat), b - i < n → i ≤ scanSorted lt d b i ∧ (i ≤ b → scanSorted lt d b i ≤ b)
 | 0, i, h => by omega
 | n + 1, i, h => by
  rw [scanSorted]
  by_cases h1 : (decide (i < b) && !lt d[i]! d[i - 1]!) = true
  ·rw [if_pos h1]
   simp only [Bool.and_eq_true, decide_eq_true_eq] at h1
   have := JQ lt d b n (i + 1) (by omega)
   omega
  ·rw [if_neg h1]; omega
theorem NO (hc : ∀ x y, P x → P y → cmp (x, y) = some (c x y)) (N : Nat) (J : List α → Option (Bool × List α)) : ∀ (n j : Nat) (d : Array α), j < n → j < d.size → d.size ≤ 100000 → C0 P d →
  Gs.partialInsertionSort_L21 N cmp J n (d.toList, (j : Int)) = J (shiftDown (B7 c) j d).toList ∧ (shiftDown (B7 c) j d).size = d.size ∧ C0 P (shiftDown (B7 c) j d)
 | 0, j, d, h, _, _, _ => by omega
 | n + 1, j, d, h, hj, hs, hA => by
  rw [Gs.partialInsertionSort_L21]
  rcases j with _ | j
  ·rw [Az (by simp)]
   exact ⟨rfl, rfl, hA⟩
  ·rw [AC (by simp only; omega)]
   simp only [wn (e := ((j + 1 : Nat) : Int) - 1) (n := j) (by omega) (by omega), gi hj, gi (show j < d.size by omega), oS, Int.toNat_natCast]
   rw [hc _ _ (hA.get hj) (hA.get (by omega))]
   simp only [oS]
   rw [Ip (by simp; omega), ← EB]
   rw [shiftDown]
   cases hl : decide (c d[j + 1]! d[j]! < 0)
   ·rw [Bool.not_false, AN, if_pos (by simp [B7, hl])]
    exact ⟨rfl, rfl, hA⟩
   ·rw [Bool.not_true, As, if_neg (by simp [B7, hl])]
    have := NO hc N J n j (swp d (j + 1) j) (by omega) (by rw [Bi]; omega) (by rw [Bi]; exact hs) (hA.swp hj (by omega))
    rw [Bi] at this
    exact this
theorem QS (hc : ∀ x y, P x → P y → cmp (x, y) = some (c x y)) (N b : Nat) (J : List α → Option (Bool × List α)) : ∀ (n j : Nat) (d : Array α), b - j < n → 1 ≤ j → j ≤ 100001 → b ≤ d.size → d.size ≤ 100000 → C0 P d →
  Gs.partialInsertionSort_L33 N (b : Int) cmp J n (d.toList, (j : Int)) = J (shiftUp (B7 c) b j d).toList ∧ (shiftUp (B7 c) b j d).size = d.size ∧ C0 P (shiftUp (B7 c) b j d)
 | 0, j, d, h, _, _, _, _, _ => by omega
 | n + 1, j, d, h, hj, hj2, hb, hs, hA => by
  rw [Gs.partialInsertionSort_L33, shiftUp]
  by_cases h1 : j < b
  ·rw [AC (by simp only; omega), if_pos h1]
   simp only [wn (e := (j : Int) - 1) (n := j - 1) (by omega) (by omega), gi (show j < d.size by omega), gi (show j - 1 < d.size by omega), oS, Int.toNat_natCast]
   rw [hc _ _ (hA.get (by omega)) (hA.get (by omega))]
   simp only [oS]
   rw [Ip (by simp; omega), ← EB]
   cases hl : decide (c d[j]! d[j - 1]! < 0)
   ·rw [Bool.not_false, AN, if_pos (by simp [B7, hl])]
    exact ⟨rfl, rfl, hA⟩
   ·rw [Bool.not_true, As, if_neg (by simp [B7, hl]), wn (e := (j : Int) + 1) (n := j + 1) (by omega) (by omega)]
    have := QS hc N b J n (j + 1) (swp d j (j - 1)) (by omega) (by omega) (by omega) (by rw [Bi]; exact hb) (by rw [Bi]; exact hs) (hA.swp (by omega) (by omega))
    rw [Bi] at this
    exact this
  ·rw [Az (by simp only; omega), if_neg h1]
   exact ⟨rfl, rfl, hA⟩
theorem Jy (hc : ∀ x y, P x → P y → cmp (x, y) = some (c x y)) {N a b : Nat} (J : List α → Option (Bool × List α)) (hJ : ∀ l, J l = some (false, l)) : ∀ (s i : Nat) (n : Nat) (d : Array α), s < n → s ≤ 5 → a < i → i ≤ b → b ≤ d.size → d.size < N → d.size ≤ 100000 → C0 P d →
  Gs.partialInsertionSort_L1 N (a : Int) (b : Int) cmp J n (d.toList, (i : Int), ((5 - s : Nat) : Int)) = some ((partialIns (B7 c) a b s i d).2, (partialIns (B7 c) a b s i d).1.toList) ∧ (partialIns (B7 c) a b s i d).1.size = d.size ∧ C0 P (partialIns (B7 c) a b s i d).1
 | s, i, 0, d, h, _, _, _, _, _, _, _ => by omega
 | 0, i, n + 1, d, h, _, _, _, hb, hN, hs, hA => by
  rw [Gs.partialInsertionSort_L1, Az (by simp), hJ]
  exact ⟨rfl, rfl, hA⟩
 | s + 1, i, n + 1, d, h, h5, hai, hib, hb, hN, hs, hA => by
  rw [Gs.partialInsertionSort_L1, AC (by simp only; omega)]
  simp only [A6]
  rw [My hc N b hb hs hA _ _ _ N i (by omega) (by omega) (by omega)]
  obtain ⟨g1, g2⟩ := JQ (B7 c) d b (b + 1) i (by omega)
  have g2 := g2 hib
  unfold partialIns
  simp only
  generalize hk : scanSorted (B7 c) d b i = k at g1 g2
  have e5 : wI .i64 (((5 - (s + 1) : Nat) : Int) + 1) = ((5 - s : Nat) : Int) := wn (by omega) (by omega)
  by_cases h1 : k = b
  ·rw [if_pos h1, show (((k : Nat) : Int) == (b : Int)) = true from beq_iff_eq.2 (by omega), AN]
   exact ⟨rfl, rfl, hA⟩
  ·rw [if_neg h1, show (((k : Nat) : Int) == (b : Int)) = false from beq_eq_false_iff_ne.2 (by omega), As, wn (e := (b : Int) - (a : Int)) (n := b - a) (by omega) (by omega)]
   by_cases h2 : b - a < 50
   ·rw [if_pos h2, AC (by omega)]
    exact ⟨rfl, rfl, hA⟩
   ·rw [if_neg h2, Az (by omega)]
    have k1 : k < d.size := by omega
    have k2 : k - 1 < d.size := by omega
    simp only [wn (e := (k : Int) - 1) (n := k - 1) (by omega) (by omega), gi k1, gi k2, oS, Int.toNat_natCast]
    rw [Ip (by simp; omega)]
    simp only [← EB]
    rw [wn (e := (k : Int) - (a : Int)) (n := k - a) (by omega) (by omega), e5]
    have hA1 := hA.swp (i := k) (j := k - 1) k1 k2
    have hs1 := Bi d k (k - 1)
    -- the second shift and the next step
    have fin : ∀ d2 : Array α, d2.size = d.size → C0 P d2 →
      (AV (decide (2 ≤ (wI .i64 ((b : Int) - (k : Int)))))
        (Gs.partialInsertionSort_L33 N (b : Int) cmp (fun v34 => Gs.partialInsertionSort_L1 N (a : Int) (b : Int) cmp J n (v34, (k : Int), ((5 - s : Nat) : Int))) N (d2.toList, (wI .i64 ((k : Int) + 1))))
        (Gs.partialInsertionSort_L1 N (a : Int) (b : Int) cmp J n (d2.toList, (k : Int), ((5 - s : Nat) : Int))) =
       some ((partialIns (B7 c) a b s k (if b - k ≥ 2 then shiftUp (B7 c) b (k + 1) d2 else d2)).2, (partialIns (B7 c) a b s k (if b - k ≥ 2 then shiftUp (B7 c) b (k + 1) d2 else d2)).1.toList)) ∧
       (partialIns (B7 c) a b s k (if b - k ≥ 2 then shiftUp (B7 c) b (k + 1) d2 else d2)).1.size = d.size ∧ C0 P (partialIns (B7 c) a b s k (if b - k ≥ 2 then shiftUp (B7 c) b (k + 1) d2 else d2)).1 := by
     intro d2 z1 z2
     rw [wn (e := (b : Int) - (k : Int)) (n := b - k) (by omega) (by omega), wn (e := (k : Int) + 1) (n := k + 1) (by omega) (by omega)]
     by_cases h3 : b - k ≥ 2
     ·rw [AC (by omega), if_pos h3]
      obtain ⟨f1, f2, f3⟩ := QS hc N b (fun v34 => Gs.partialInsertionSort_L1 N (a : Int) (b : Int) cmp J n (v34, (k : Int), ((5 - s : Nat) : Int))) N (k + 1) d2 (by omega) (by omega) (by omega) (by omega) (by omega) z2
      rw [f1]
      have := Jy hc (N := N) (a := a) (b := b) J hJ s k n (shiftUp (B7 c) b (k + 1) d2) (by omega) (by omega) (by omega) (by omega) (by omega) (by omega) (by omega) f3
      rw [f2, z1] at this
      exact this
     ·rw [Az (by omega), if_neg h3]
      have := Jy hc (N := N) (a := a) (b := b) J hJ s k n d2 (by omega) (by omega) (by omega) (by omega) (by omega) (by omega) (by omega) z2
      rw [z1] at this
      exact this
    by_cases h4 : k - a ≥ 2
    ·rw [AC (by omega), if_pos h4]
     obtain ⟨f1, f2, f3⟩ := NO hc N (fun v22 => AV (decide (2 ≤ (wI .i64 ((b : Int) - (k : Int)))))
        (Gs.partialInsertionSort_L33 N (b : Int) cmp (fun v34 => Gs.partialInsertionSort_L1 N (a : Int) (b : Int) cmp J n (v34, (k : Int), ((5 - s : Nat) : Int))) N (v22, (wI .i64 ((k : Int) + 1))))
        (Gs.partialInsertionSort_L1 N (a : Int) (b : Int) cmp J n (v22, (k : Int), ((5 - s : Nat) : Int)))) N (k - 1) (swp d k (k - 1)) (by omega) (by omega) (by omega) hA1
     rw [f1]
     exact fin _ (by rw [f2, hs1]) f3
    ·rw [Az (by omega), if_neg h4]
     exact fin _ hs1 hA1
theorem Rw (hc : ∀ x y, P x → P y → cmp (x, y) = some (c x y)) {N a b : Nat} {d : Array α} (hab : a < b) (hb : b ≤ d.size) (hN : d.size < N) (h6 : 6 ≤ N) (hs : d.size ≤ 100000) (hA : C0 P d) :
  Gs.partialInsertionSort N d.toList (a : Int) (b : Int) cmp = some ((partialInsertionSort (B7 c) d a b).2, (partialInsertionSort (B7 c) d a b).1.toList) ∧ (partialInsertionSort (B7 c) d a b).1.size = d.size ∧ C0 P (partialInsertionSort (B7 c) d a b).1 := by
 unfold Gs.partialInsertionSort partialInsertionSort
 rw [wn (e := (a : Int) + 1) (n := a + 1) (by omega) (by omega)]
 exact Jy hc (fun v2 => some (false, v2)) (fun _ => rfl) 5 (a + 1) N d (by omega) (Nat.le_refl _) (by omega) (by omega) hb hN hs hA
end
end Go.Lift
namespace Go.Lift
open Option renaming bind_some → oS
open Go
open Go.Sort (swp scanUp scanDown partLoop partition partEqLoop partitionEqual scanUp_ge scanDown_le scanUp_spec scanDown_spec guard_of)
section
variable {α : Type} [Inhabited α] {P : α → Prop} {cmp : α × α → Option Int} {c : α → α → Int}
theorem Wa (hc : ∀ x y, P x → P y → cmp (x, y) = some (c x y)) (N a : Nat) {d : Array α} (ha : a < d.size) (hs : d.size ≤ 100000) (hA : C0 P d) (x : Int) {j : Nat} (hj : j < d.size) (J : Int → Option (Int × List α)) : ∀ (n i : Nat), j + 1 - i < n → i ≤ 100001 →
  Gs.partitionEqual_L7 N (a : Int) cmp (d.toList, x, (j : Int)) J n (i : Int) = J (scanUp (fun x => !B7 c d[a]! x) d j i : Nat)
 | 0, i, h, _ => by omega
 | n + 1, i, h, hi => by
  rw [Gs.partitionEqual_L7, scanUp]
  simp only [A6]
  by_cases h1 : i ≤ j
  ·rw [AC (by omega)]
   simp only [gi ha, gi (show i < d.size by omega), oS]
   rw [hc _ _ (hA.get ha) (hA.get (by omega))]
   simp only [oS]
   cases hl : decide (c d[a]! d[i]! < 0)
   ·rw [Bool.not_false, AN, if_pos (by simp [h1, B7, hl]), wn (e := (i : Int) + 1) (n := i + 1) (by omega) (by omega)]
    exact Wa hc N a ha hs hA x hj J n (i + 1) (by omega) (by omega)
   ·rw [Bool.not_true, As, if_neg (by simp [B7, hl])]
  ·rw [Az (by omega), As, if_neg (by simp [h1])]
theorem So (hc : ∀ x y, P x → P y → cmp (x, y) = some (c x y)) (N a : Nat) {d : Array α} (ha : a < d.size) (hs : d.size ≤ 100000) (hA : C0 P d) (x y : Int) {i : Nat} (hi : 1 ≤ i) (J : Int → Option (Int × List α)) : ∀ (n j : Nat), j < n → j < d.size →
  Gs.partitionEqual_L15 N (a : Int) cmp (d.toList, x, y) (i : Int) J n (j : Int) = J (scanDown (fun x => B7 c d[a]! x) d i j : Nat)
 | 0, j, h, _ => by omega
 | n + 1, j, h, hj => by
  rw [Gs.partitionEqual_L15]
  simp only [A6]
  rcases j with _ | j
  ·rw [Az (by omega), As]; rfl
  ·rw [scanDown]
   by_cases h1 : i ≤ j + 1
   ·rw [AC (by omega)]
    simp only [gi ha, gi hj, oS]
    rw [hc _ _ (hA.get ha) (hA.get hj)]
    simp only [oS]
    cases hl : decide (c d[a]! d[j + 1]! < 0)
    ·rw [As, if_neg (by simp [B7, hl])]
    ·rw [AN, if_pos (by simp [h1, B7, hl]), wn (e := ((j + 1 : Nat) : Int) - 1) (n := j) (by omega) (by omega)]
     exact So hc N a ha hs hA x y hi J n j (by omega) (by omega)
   ·rw [Az (by omega), As, if_neg (by simp [h1])]
theorem R7 (hc : ∀ x y, P x → P y → cmp (x, y) = some (c x y)) (N a : Nat) (J : List α × Int → Option (Int × List α)) : ∀ (n i j : Nat) (d : Array α), j + 1 - i < n → a < d.size → d.size + 1 < N → d.size ≤ 100000 → 1 ≤ i → i ≤ j + 2 → j < d.size → C0 P d →
  Gs.partitionEqual_L5 N (a : Int) cmp J n (d.toList, (i : Int), (j : Int)) = J ((partEqLoop (B7 c) a i j d).2.toList, ((partEqLoop (B7 c) a i j d).1 : Int)) ∧ (partEqLoop (B7 c) a i j d).2.size = d.size ∧ C0 P (partEqLoop (B7 c) a i j d).2 ∧ i ≤ (partEqLoop (B7 c) a i j d).1 ∧ ∀ B, i ≤ B → j + 1 ≤ B → (partEqLoop (B7 c) a i j d).1 ≤ B
 | 0, i, j, d, h, _, _, _, _, _, _, _ => by omega
 | n + 1, i, j, d, h, ha, hN, hs, hi, hij, hj, hA => by
  rw [Gs.partitionEqual_L5]
  have u1 := scanUp_ge (fun x => !B7 c d[a]! x) d j i
  have u2 := (scanUp_spec (fun x => !B7 c d[a]! x) d j _ i rfl).2.1
  rw [Wa hc N a ha hs hA _ hj _ N i (by omega) (by omega)]
  rw [partEqLoop]
  simp only
  generalize hi2 : scanUp (fun x => !B7 c d[a]! x) d j i = i2 at u1 u2
  have d1 := scanDown_le (fun x => B7 c d[a]! x) d i2 j
  have d2 := (scanDown_spec (fun x => B7 c d[a]! x) d i2 j).2.1
  rw [So hc N a ha hs hA _ _ (show 1 ≤ i2 by omega) _ N j (by omega) hj]
  generalize hj2 : scanDown (fun x => B7 c d[a]! x) d i2 j = j2 at d1 d2
  by_cases h1 : i2 > j2
  ·rw [if_pos h1, AC (by omega)]
   refine ⟨rfl, rfl, hA, u1, fun B h2 h3 => ?_⟩
   by_cases h4 : i ≤ j + 1
   ·exact Nat.le_trans (u2 h4) h3
   ·rw [Go.Sort.scanUp, if_neg (by simp; omega)] at hi2
    simp only; omega
  ·rw [if_neg h1, Az (by omega), dif_pos (guard_of u1 d1 h1)]
   have k1 : i2 < d.size := by omega
   have k2 : j2 < d.size := by omega
   simp only [gi k1, gi k2, oS, Int.toNat_natCast]
   rw [Ip (by simp; omega)]
   simp only [← EB]
   rw [wn (e := (i2 : Int) + 1) (n := i2 + 1) (by omega) (by omega), wn (e := (j2 : Int) - 1) (n := j2 - 1) (by omega) (by omega)]
   obtain ⟨g1, g2, g3, g4, g5⟩ := R7 hc N a J n (i2 + 1) (j2 - 1) (swp d i2 j2) (by omega) (by rw [Bi]; omega) (by rw [Bi]; omega) (by rw [Bi]; omega) (by omega) (by omega) (by rw [Bi]; omega) (hA.swp k1 k2)
   rw [Bi] at g2
   exact ⟨g1, g2, g3, by omega, fun B h2 h3 => g5 B (by omega) (by omega)⟩
theorem XV (hc : ∀ x y, P x → P y → cmp (x, y) = some (c x y)) {N a b pv : Nat} {d : Array α} (hab : a < b) (hap : a ≤ pv) (hpb : pv < b) (hb : b ≤ d.size) (hN : d.size + 1 < N) (hs : d.size ≤ 100000) (hA : C0 P d) :
  Gs.partitionEqual N d.toList (a : Int) (b : Int) (pv : Int) cmp = some (((partitionEqual (B7 c) d a b pv).1 : Int), (partitionEqual (B7 c) d a b pv).2.toList) ∧ (partitionEqual (B7 c) d a b pv).2.size = d.size ∧ C0 P (partitionEqual (B7 c) d a b pv).2 ∧ a < (partitionEqual (B7 c) d a b pv).1 ∧ (partitionEqual (B7 c) d a b pv).1 ≤ b := by
 unfold Gs.partitionEqual partitionEqual
 have k1 : a < d.size := by omega
 have k2 : pv < d.size := by omega
 simp only [gi k1, gi k2, oS, Int.toNat_natCast]
 rw [Ip (by simp; omega)]
 simp only [← EB]
 rw [wn (e := (a : Int) + 1) (n := a + 1) (by omega) (by omega), wn (e := (b : Int) - 1) (n := b - 1) (by omega) (by omega)]
 obtain ⟨g1, g2, g3, g4, g5⟩ := R7 hc N a (fun v6 => some (v6.2, v6.1)) N (a + 1) (b - 1) (swp d a pv) (by omega) (by rw [Bi]; omega) (by rw [Bi]; omega) (by rw [Bi]; omega) (by omega) (by omega) (by rw [Bi]; omega) (hA.swp k1 k2)
 rw [Bi] at g2
 exact ⟨g1, g2, g3, by omega, g5 b (by omega) (by omega)⟩
theorem V7 (hc : ∀ x y, P x → P y → cmp (x, y) = some (c x y)) (N a : Nat) {d : Array α} (ha : a < d.size) (hs : d.size ≤ 100000) (hA : C0 P d) (x : Int) {j : Nat} (hj : j < d.size) (J : Int → Option (Int × Bool × List α)) : ∀ (n i : Nat), j + 1 - i < n → i ≤ 100001 →
  Gs.partition_L32 N (a : Int) cmp (d.toList, x, (j : Int)) J n (i : Int) = J (scanUp (fun x => B7 c x d[a]!) d j i : Nat)
 | 0, i, h, _ => by omega
 | n + 1, i, h, hi => by
  rw [Gs.partition_L32, scanUp]
  simp only [A6]
  by_cases h1 : i ≤ j
  ·rw [AC (by omega)]
   simp only [gi ha, gi (show i < d.size by omega), oS]
   rw [hc _ _ (hA.get (by omega)) (hA.get ha)]
   simp only [oS]
   cases hl : decide (c d[i]! d[a]! < 0)
   ·rw [As, if_neg (by simp [B7, hl])]
   ·rw [AN, if_pos (by simp [h1, B7, hl]), wn (e := (i : Int) + 1) (n := i + 1) (by omega) (by omega)]
    exact V7 hc N a ha hs hA x hj J n (i + 1) (by omega) (by omega)
  ·rw [Az (by omega), As, if_neg (by simp [h1])]
theorem SA (hc : ∀ x y, P x → P y → cmp (x, y) = some (c x y)) (N a : Nat) {d : Array α} (ha : a < d.size) (hs : d.size ≤ 100000) (hA : C0 P d) (x y : Int) {i : Nat} (hi : 1 ≤ i) (J : Int → Option (Int × Bool × List α)) : ∀ (n j : Nat), j < n → j < d.size →
  Gs.partition_L40 N (a : Int) cmp (d.toList, x, y) (i : Int) J n (j : Int) = J (scanDown (fun x => !B7 c x d[a]!) d i j : Nat)
 | 0, j, h, _ => by omega
 | n + 1, j, h, hj => by
  rw [Gs.partition_L40]
  simp only [A6]
  rcases j with _ | j
  ·rw [Az (by omega), As]; rfl
  ·rw [scanDown]
   by_cases h1 : i ≤ j + 1
   ·rw [AC (by omega)]
    simp only [gi ha, gi hj, oS]
    rw [hc _ _ (hA.get hj) (hA.get ha)]
    simp only [oS]
    cases hl : decide (c d[j + 1]! d[a]! < 0)
    ·rw [Bool.not_false, AN, if_pos (by simp [h1, B7, hl]), wn (e := ((j + 1 : Nat) : Int) - 1) (n := j) (by omega) (by omega)]
     exact SA hc N a ha hs hA x y hi J n j (by omega) (by omega)
    ·rw [Bool.not_true, As, if_neg (by simp [B7, hl])]
   ·rw [Az (by omega), As, if_neg (by simp [h1])]
theorem Sl (hc : ∀ x y, P x → P y → cmp (x, y) = some (c x y)) (N a : Nat) (J : List α × Int → Option (Int × Bool × List α)) : ∀ (n i j : Nat) (d : Array α), j + 1 - i < n → a < d.size → d.size + 1 < N → d.size ≤ 100000 → 1 ≤ i → i ≤ j + 2 → j < d.size → C0 P d →
  Gs.partition_L30 N (a : Int) cmp J n (d.toList, (i : Int), (j : Int)) = J ((partLoop (B7 c) a i j d).2.toList, ((partLoop (B7 c) a i j d).1 : Int)) ∧ (partLoop (B7 c) a i j d).2.size = d.size ∧ C0 P (partLoop (B7 c) a i j d).2 ∧ (partLoop (B7 c) a i j d).1 ≤ j ∧ ∀ A, A + 1 ≤ i → A ≤ j → A ≤ (partLoop (B7 c) a i j d).1
 | 0, i, j, d, h, _, _, _, _, _, _, _ => by omega
 | n + 1, i, j, d, h, ha, hN, hs, hi, hij, hj, hA => by
  rw [Gs.partition_L30]
  have u1 := scanUp_ge (fun x => B7 c x d[a]!) d j i
  have u2 := (scanUp_spec (fun x => B7 c x d[a]!) d j _ i rfl).2.1
  rw [V7 hc N a ha hs hA _ hj _ N i (by omega) (by omega)]
  rw [partLoop]
  simp only
  generalize hi2 : scanUp (fun x => B7 c x d[a]!) d j i = i2 at u1 u2
  have d1 := scanDown_le (fun x => !B7 c x d[a]!) d i2 j
  rw [SA hc N a ha hs hA _ _ (show 1 ≤ i2 by omega) _ N j (by omega) hj]
  generalize hj2 : scanDown (fun x => !B7 c x d[a]!) d i2 j = j2 at d1
  by_cases h1 : i2 > j2
  ·rw [if_pos h1, AC (by omega)]
   refine ⟨rfl, rfl, hA, d1, fun A h2 h3 => ?_⟩
   by_cases h4 : i ≤ j + 1
   ·have := (scanDown_spec (fun x => !B7 c x d[a]!) d i2 j).2.1 (u2 h4)
    rw [hj2] at this
    simp only; omega
   ·have : j2 = j := by
     rw [← hj2]
     rcases j with _ | j
     ·rfl
     ·rw [scanDown, if_neg (by simp; omega)]
    simp only; omega
  ·rw [if_neg h1, Az (by omega), dif_pos (guard_of u1 d1 h1)]
   have k1 : i2 < d.size := by omega
   have k2 : j2 < d.size := by omega
   simp only [gi k1, gi k2, oS, Int.toNat_natCast]
   rw [Ip (by simp; omega)]
   simp only [← EB]
   rw [wn (e := (i2 : Int) + 1) (n := i2 + 1) (by omega) (by omega), wn (e := (j2 : Int) - 1) (n := j2 - 1) (by omega) (by omega)]
   obtain ⟨g1, g2, g3, g4, g5⟩ := Sl hc N a J n (i2 + 1) (j2 - 1) (swp d i2 j2) (by omega) (by rw [Bi]; omega) (by rw [Bi]; omega) (by rw [Bi]; omega) (by omega) (by omega) (by rw [Bi]; omega) (hA.swp k1 k2)
   rw [Bi] at g2
   exact ⟨g1, g2, g3, by omega, fun A h2 h3 => g5 A (by omega) (by omega)⟩
theorem Uj (hc : ∀ x y, P x → P y → cmp (x, y) = some (c x y)) (N a pv b : Nat) {p0 : List α} {v1 v2 : α} {d : Array α} (hd : (p0.set ((a : Int)).toNat v1).set ((pv : Int)).toNat v2 = d.toList) (ha : a < d.size) (hs : d.size ≤ 100000) (hA : C0 P d) (hb : b ≤ d.size) (hb1 : 1 ≤ b) (J : Int → Option (Int × Bool × List α)) : ∀ (n i : Nat), b - i < n → i ≤ 100001 →
  Gs.partition_L5 N p0 (a : Int) (b : Int) (pv : Int) cmp v1 v2 J n (i : Int) = J (scanUp (fun x => B7 c x d[a]!) d (b - 1) i : Nat)
 | 0, i, h, _ => by omega
 | n + 1, i, h, hi => by
  rw [Gs.partition_L5, scanUp]
  simp only [A6, hd]
  rw [wn (e := (b : Int) - 1) (n := b - 1) (by omega) (by omega)]
  by_cases h1 : i ≤ b - 1
  ·rw [AC (by omega)]
   simp only [gi ha, gi (show i < d.size by omega), oS]
   rw [hc _ _ (hA.get (by omega)) (hA.get ha)]
   simp only [oS]
   cases hl : decide (c d[i]! d[a]! < 0)
   ·rw [As, if_neg (by simp [B7, hl])]
   ·rw [AN, if_pos (by simp [h1, B7, hl]), wn (e := (i : Int) + 1) (n := i + 1) (by omega) (by omega)]
    exact Uj hc N a pv b hd ha hs hA hb hb1 J n (i + 1) (by omega) (by omega)
  ·rw [Az (by omega), As, if_neg (by simp [h1])]
theorem Q5 (hc : ∀ x y, P x → P y → cmp (x, y) = some (c x y)) (N a pv : Nat) {p0 : List α} {v1 v2 : α} {d : Array α} (hd : (p0.set ((a : Int)).toNat v1).set ((pv : Int)).toNat v2 = d.toList) (ha : a < d.size) (hs : d.size ≤ 100000) (hA : C0 P d) {i : Nat} (hi : 1 ≤ i) (J : Int → Option (Int × Bool × List α)) : ∀ (n j : Nat), j < n → j < d.size →
  Gs.partition_L13 N p0 (a : Int) (pv : Int) cmp v1 v2 (i : Int) J n (j : Int) = J (scanDown (fun x => !B7 c x d[a]!) d i j : Nat)
 | 0, j, h, _ => by omega
 | n + 1, j, h, hj => by
  rw [Gs.partition_L13]
  simp only [A6, hd]
  rcases j with _ | j
  ·rw [Az (by omega), As]; rfl
  ·rw [scanDown]
   by_cases h1 : i ≤ j + 1
   ·rw [AC (by omega)]
    simp only [gi ha, gi hj, oS]
    rw [hc _ _ (hA.get hj) (hA.get ha)]
    simp only [oS]
    cases hl : decide (c d[j + 1]! d[a]! < 0)
    ·rw [Bool.not_false, AN, if_pos (by simp [h1, B7, hl]), wn (e := ((j + 1 : Nat) : Int) - 1) (n := j) (by omega) (by omega)]
     exact Q5 hc N a pv hd ha hs hA hi J n j (by omega) (by omega)
    ·rw [Bool.not_true, As, if_neg (by simp [B7, hl])]
   ·rw [Az (by omega), As, if_neg (by simp [h1])]
theorem XH (hc : ∀ x y, P x → P y → cmp (x, y) = some (c x y)) {N a b pv : Nat} {d0 : Array α} (hab : a < b) (hap : a ≤ pv) (hpb : pv < b) (hb : b ≤ d0.size) (hN : d0.size + 1 < N) (hs : d0.size ≤ 100000) (hA0 : C0 P d0) :
  Gs.partition N d0.toList (a : Int) (b : Int) (pv : Int) cmp = some (((partition (B7 c) d0 a b pv).1 : Int), (partition (B7 c) d0 a b pv).2.1, (partition (B7 c) d0 a b pv).2.2.toList) ∧ (partition (B7 c) d0 a b pv).2.2.size = d0.size ∧ C0 P (partition (B7 c) d0 a b pv).2.2 ∧ a ≤ (partition (B7 c) d0 a b pv).1 ∧ (partition (B7 c) d0 a b pv).1 < b := by
 unfold Gs.partition partition
 have k1 : a < d0.size := by omega
 have k2 : pv < d0.size := by omega
 simp only [gi k1, gi k2, oS]
 have hd : (d0.toList.set ((a : Int)).toNat d0[pv]!).set ((pv : Int)).toNat d0[a]! = (swp d0 a pv).toList := by rw [EB]; rfl
 have hsz := Bi d0 a pv
 have hA := hA0.swp k1 k2
 generalize swp d0 a pv = d at hd hsz hA
 rw [Ip (by simp; omega)]
 simp only [Int.toNat_natCast] at hd ⊢
 rw [wn (e := (a : Int) + 1) (n := a + 1) (by omega) (by omega), wn (e := (b : Int) - 1) (n := b - 1) (by omega) (by omega)]
 have u1 := scanUp_ge (fun x => B7 c x d[a]!) d (b - 1) (a + 1)
 have u2 := (scanUp_spec (fun x => B7 c x d[a]!) d (b - 1) _ (a + 1) rfl).2.1
 rw [Uj hc N a pv b (p0 := d0.toList) (by simpa using hd) (by omega) (by omega) hA (by omega) (by omega) _ N (a + 1) (by omega) (by omega)]
 generalize hi2 : scanUp (fun x => B7 c x d[a]!) d (b - 1) (a + 1) = i at u1 u2
 have d1 := scanDown_le (fun x => !B7 c x d[a]!) d i (b - 1)
 rw [Q5 hc N a pv (p0 := d0.toList) (by simpa using hd) (by omega) (by omega) hA (show 1 ≤ i by omega) _ N (b - 1) (by omega) (by omega)]
 generalize hj2 : scanDown (fun x => !B7 c x d[a]!) d i (b - 1) = j at d1
 have a1 : a < d.size := by omega
 have a2 : j < d.size := by omega
 by_cases h1 : i > j
 ·rw [if_pos h1, AC (by omega)]
  simp only [hd, gi a1, gi a2, oS, Int.toNat_natCast]
  rw [Ip (by simp; omega)]
  simp only [← EB]
  refine ⟨trivial, by rw [Bi]; omega, hA.swp a2 a1, ?_, by omega⟩
  have := (scanDown_spec (fun x => !B7 c x d[a]!) d i (b - 1)).2.1 (u2 (by omega))
  rw [hj2] at this
  omega
 ·rw [if_neg h1, Az (by omega)]
  have a3 : i < d.size := by omega
  simp only [hd, gi a3, gi a2, oS, Int.toNat_natCast]
  rw [Ip (by simp; omega)]
  simp only [← EB]
  rw [wn (e := (i : Int) + 1) (n := i + 1) (by omega) (by omega), wn (e := (j : Int) - 1) (n := j - 1) (by omega) (by omega)]
  obtain ⟨g1, g2, g3, g4, g5⟩ := Sl hc N a (fun v31 => (A9 v31.1 (a : Int)).bind fun v53 => (A9 v31.1 v31.2).bind fun v54 => (A9 v31.1 v31.2).bind fun _ => (A9 (v31.1.set ((v31.2).toNat) v53) (a : Int)).bind fun _ =>
     some (v31.2, false, (v31.1.set ((v31.2).toNat) v53).set a v54)) N (i + 1) (j - 1) (swp d i j) (by omega) (by rw [Bi]; omega) (by rw [Bi]; omega) (by rw [Bi]; omega) (by omega) (by omega) (by rw [Bi]; omega) (hA.swp a3 a2)
  rw [Bi] at g2
  rw [g1]
  generalize hr : partLoop (B7 c) a (i + 1) (j - 1) (swp d i j) = r at g2 g3 g4 g5
  have b1 : a < r.2.size := by omega
  have b2 : r.1 < r.2.size := by omega
  simp only [gi b1, gi b2, oS, Int.toNat_natCast]
  rw [Ip (by simp; omega)]
  simp only [← EB]
  exact ⟨trivial, by rw [Bi]; omega, g3.swp b2 b1, g5 a (by omega) (by omega), by omega⟩
end
end Go.Lift
