/- Lemmas for ReachAbortsSaid, which YtfnobkfnohhmmaaGreatFinW8 proves. -/
import Derived.Test.YtfnobkfnohhmmaaGreatDec
import Derived.KernelRfl
import Derived.Sort.AssemblyPlain
namespace Go.Lift
open IntKind renaming wrap → wI
open Option renaming bind_some → oS
open List renaming getElem?_eq_some_iff → lI
theorem Bi {α : Type} (xs : List α) (i : Nat) : A4 xs (i : Int) = xs[i]? := by
 unfold A4; simp
theorem Ch {n : Int} (h0 : -9223372036854775808 ≤ n) (h1 : n ≤ 9223372036854775807) : wI .i64 n = n := by
 simp [wI, IntKind.signed, IntKind.bits]; omega
theorem A2 {i : Nat} (h : i < 1000000) : wI .i64 ((i : Int) + 1) = ((i + 1 : Nat) : Int) := by
 rw [Ch (by omega) (by omega)]; simp
@[simp] theorem AK {α : Type} {a b : Option α} : AT true a b = a := rfl
@[simp] theorem As {α : Type} {a b : Option α} : AT false a b = b := rfl
theorem AF {α : Type} {p : Prop} [Decidable p] {a b : Option α} (h : p) : AT (decide p) a b = a := by simp [h]
theorem AD {α : Type} {p : Prop} [Decidable p] {a b : Option α} (h : ¬ p) : AT (decide p) a b = b := by simp [h]
def Ve (a b : Int) : Int := if a < b then -1 else if b < a then 1 else 0
def DI : List Int → List Int → Int
 | [], [] => 0
 | [], _ :: _ => -1
 | _ :: _, [] => 1
 | a :: as1, b :: bs => if a < b then -1 else if b < a then 1 else DI as1 bs
theorem Ts (N : Nat) (a b : Int) : D9 N a b = some (Ve a b) := by
 unfold D9 EA Ve
 by_cases h1 : a < b <;> by_cases h2 : b < a <;> simp [h1, h2]
theorem S7 (N : Nat) (a b : Int) : Dk N a b = some (Ve a b) := by
 unfold Dk DK Ve
 by_cases h1 : a < b <;> by_cases h2 : b < a <;> simp [h1, h2]
theorem C8 {α : Type} {xs : List α} {i : Nat} {x : α} (h : xs[i]? = some x) : xs.drop i = x :: xs.drop (i + 1) := by
 obtain ⟨hi, rfl⟩ := lI.1 h
 exact List.drop_eq_getElem_cons hi
theorem OE (N : Nat) (a b : List Int) (hb : a.length < 1000000) : ∀ (n i : Nat), i ≤ a.length → i ≤ b.length → a.length - i < n →
  B1 N a b (fun _ => AT (decide ((a.length : Int) < (b.length : Int))) (some (-1)) (some 0)) n (i : Int) = some (DI (a.drop i) (b.drop i))
 | 0, i, _, _, h => by omega
 | n + 1, i, hi, hj, h => by
  unfold B1
  by_cases h1 : i < a.length
  ·rw [AF (by omega), Bi]
   have ha : a[i]? = some a[i] := by simp [h1]
   rw [ha, C8 ha]
   simp only [oS]
   by_cases h2 : i < b.length
   ·rw [AD (by omega), Bi]
    have hbb : b[i]? = some b[i] := by simp [h2]
    rw [hbb, C8 hbb]
    simp only [oS, Ts, DI, Ve]
    rw [A2 (by omega), OE N a b hb n (i + 1) (by omega) (by omega) (by omega)]
    by_cases h3 : a[i] < b[i]
    ·simp [h3]
    ·by_cases h4 : b[i] < a[i]
     ·simp [h3, h4]
     ·simp [h3, h4]
   ·rw [AF (by omega), List.drop_eq_nil_of_le (by omega : b.length ≤ i)]
    simp [DI]
  ·rw [AD (by omega), List.drop_eq_nil_of_le (by omega : a.length ≤ i)]
   by_cases h2 : a.length < b.length
   ·rw [AF (by omega)]
    have hbb : b[i]? = some b[i] := by simp [show i < b.length from by omega]
    rw [C8 hbb]; simp [DI]
   ·rw [AD (by omega), List.drop_eq_nil_of_le (by omega : b.length ≤ i)]
    simp [DI]
theorem Nq (N : Nat) (a b : List Int) (hb : a.length < 1000000) : ∀ (n i : Nat), i ≤ a.length → i ≤ b.length → a.length - i < n →
  Bm N a b (fun _ => AT (decide ((a.length : Int) < (b.length : Int))) (some (-1)) (some 0)) n (i : Int) = some (DI (a.drop i) (b.drop i))
 | 0, i, _, _, h => by omega
 | n + 1, i, hi, hj, h => by
  unfold Bm
  by_cases h1 : i < a.length
  ·rw [AF (by omega), Bi]
   have ha : a[i]? = some a[i] := by simp [h1]
   rw [ha, C8 ha]
   simp only [oS]
   by_cases h2 : i < b.length
   ·rw [AD (by omega), Bi]
    have hbb : b[i]? = some b[i] := by simp [h2]
    rw [hbb, C8 hbb]
    simp only [oS, S7, DI, Ve]
    rw [A2 (by omega), Nq N a b hb n (i + 1) (by omega) (by omega) (by omega)]
    by_cases h3 : a[i] < b[i]
    ·simp [h3]
    ·by_cases h4 : b[i] < a[i]
     ·simp [h3, h4]
     ·simp [h3, h4]
   ·rw [AF (by omega), List.drop_eq_nil_of_le (by omega : b.length ≤ i)]
    simp [DI]
  ·rw [AD (by omega), List.drop_eq_nil_of_le (by omega : a.length ≤ i)]
   by_cases h2 : a.length < b.length
   ·rw [AF (by omega)]
    have hbb : b[i]? = some b[i] := by simp [show i < b.length from by omega]
    rw [C8 hbb]; simp [DI]
   ·rw [AD (by omega), List.drop_eq_nil_of_le (by omega : b.length ≤ i)]
    simp [DI]
theorem Qm (N : Nat) (a b : List Int) (hb : a.length < 1000000) : ∀ (n i : Nat), i ≤ a.length → i ≤ b.length → a.length - i < n →
  CK N a b (fun _ => AT (decide ((a.length : Int) < (b.length : Int))) (some (-1)) (AT (decide ((b.length : Int) < (a.length : Int))) (some 1) (some 0))) n (i : Int) = some (DI (a.drop i) (b.drop i))
 | 0, i, _, _, h => by omega
 | n + 1, i, hi, hj, h => by
  unfold CK
  simp only [A7]
  by_cases h1 : i < a.length
  ·rw [AF (p := (i : Int) < (a.length : Int)) (by omega)]
   have ha : a[i]? = some a[i] := by simp [h1]
   rw [C8 ha]
   by_cases h2 : i < b.length
   ·have hbb : b[i]? = some b[i] := by simp [h2]
    rw [show decide ((i : Int) < (b.length : Int)) = true from decide_eq_true (by omega), AK, Bi, Bi, ha, hbb, C8 hbb]
    simp only [oS, DI]
    rw [A2 (by omega), Qm N a b hb n (i + 1) (by omega) (by omega) (by omega)]
    by_cases h3 : a[i] < b[i]
    ·simp [h3]
    ·by_cases h4 : b[i] < a[i]
     ·simp [h3, h4]
     ·simp [h3, h4]
   ·rw [show decide ((i : Int) < (b.length : Int)) = false from decide_eq_false (by omega), As, AD (by omega), AF (by omega), List.drop_eq_nil_of_le (by omega : b.length ≤ i)]
    simp [DI]
  ·rw [AD (p := (i : Int) < (a.length : Int)) (by omega), As, List.drop_eq_nil_of_le (by omega : a.length ≤ i)]
   by_cases h2 : a.length < b.length
   ·rw [AF (by omega)]
    have hbb : b[i]? = some b[i] := by simp [show i < b.length from by omega]
    rw [C8 hbb]; simp [DI]
   ·rw [AD (by omega), AD (by omega), List.drop_eq_nil_of_le (by omega : b.length ≤ i)]
    simp [DI]
theorem Mx {N : Nat} {a b : List Int} (h : a.length < N) (hN : N ≤ 1000000) : Cm N a b = some (DI a b) := by
 have := OE N a b (by omega) N 0 (by omega) (by omega) (by omega)
 simpa [Cm] using this
theorem Pi {N : Nat} {a b : List Int} (h : a.length < N) (hN : N ≤ 1000000) : BZ N a b = some (DI a b) := by
 have := Nq N a b (by omega) N 0 (by omega) (by omega) (by omega)
 simpa [BZ] using this
theorem Mh {N : Nat} {a b : List Int} (h : a.length < N) (hN : N ≤ 1000000) : CS N a b = some (DI a b) := by
 have := Qm N a b (by omega) N 0 (by omega) (by omega) (by omega)
 simpa [CS] using this
theorem M9 : ∀ a : List Int, DI a a = 0
 | [] => rfl
 | a :: as1 => by simp [DI, M9 as1]
theorem Lr : ∀ a b : List Int, DI a b = 0 → a = b
 | [], [], _ => rfl
 | [], _ :: _, h => by simp [DI] at h
 | _ :: _, [], h => by simp [DI] at h
 | a :: as1, b :: bs, h => by
  unfold DI at h
  split at h
  ·omega
  ·split at h
   ·omega
   ·rw [Lr as1 bs h, show a = b from by omega]
theorem Nj : ∀ a b : List Int, DI b a = - DI a b
 | [], [] => rfl
 | [], _ :: _ => rfl
 | _ :: _, [] => rfl
 | a :: as1, b :: bs => by
  have := Nj as1 bs
  unfold DI
  by_cases h1 : a < b
  ·simp [h1, show ¬ b < a from by omega]
  ·by_cases h2 : b < a
   ·simp [h1, h2]
   ·simp [h1, h2, this]
theorem QC : ∀ a b c : List Int, DI a b ≤ 0 → DI b c ≤ 0 → DI a c ≤ 0
 | [], _, [], _, _ => by simp [DI]
 | [], _, _ :: _, _, _ => by simp [DI]
 | _ :: _, [], _, h, _ => by simp [DI] at h
 | _ :: _, _ :: _, [], _, h => by simp [DI] at h
 | a :: as1, b :: bs, c :: cs, h1, h2 => by
  have ih := QC as1 bs cs
  unfold DI at h1 h2 ⊢
  split at h1 <;> split at h2 <;> (try split at h1) <;> (try split at h2) <;> split <;> (try split) <;> omega
def PE : List Int → Int
 | [] => 0
 | x :: xs => if x = 0 then PE xs else x
theorem XD (N : Nat) (a : List Int) (hb : a.length < 1000000) : ∀ (n i : Nat), i ≤ a.length → a.length - i < n →
  D4 N a (fun _ => some 0) n (i : Int) = some (PE (a.drop i))
 | 0, i, _, h => by omega
 | n + 1, i, hi, h => by
  unfold D4
  by_cases h1 : i < a.length
  ·have ha : a[i]? = some a[i] := by simp [h1]
   rw [AF (by omega), Bi, ha, C8 ha]
   simp only [oS, PE]
   rw [A2 (by omega), XD N a hb n (i + 1) (by omega) (by omega)]
   by_cases h3 : a[i] = 0
   ·simp [h3]
   ·have : (a[i] != 0) = true := by simpa using h3
    simp [h3, this]
  ·rw [AD (by omega), List.drop_eq_nil_of_le (by omega : a.length ≤ i)]
   simp [PE]
theorem U8 {N : Nat} {a : List Int} (h : a.length < N) (hN : N ≤ 1000000) : Fx N a = some (PE a) := by
 have := XD N a (by omega) N 0 (by omega) (by omega)
 simpa [Fx] using this
theorem VB (N : Nat) (a : List Int) (hb : a.length < 1000000) (hw : Mq Jp a) : ∀ (n i : Nat), i ≤ a.length → a.length - i < n →
  Cl N a (fun v => some v) n (a.take i, (i : Int)) = some a
 | 0, i, _, h => by omega
 | n + 1, i, hi, h => by
  unfold Cl
  by_cases h1 : i < a.length
  ·have ha : a[i]? = some a[i] := by simp [h1]
   rw [AF (by simpa using h1)]
   simp only
   rw [Bi, ha]
   have hr : wI .i64 a[i] = a[i] := by
    have := hw a[i] (List.getElem_mem h1)
    unfold Jp at this
    have h2 : 0 ≤ a[i] ∧ a[i] ≤ 255 := by simpa [Lit.wf, IntKind.min, IntKind.max, IntKind.signed, IntKind.bits] using this
    exact Ch (by omega) (by omega)
   simp only [oS, hr]
   have hlen : (a.take i).length + ([a[i]] : List Int).length ≤ D2 := by
    simp [D2]; omega
   rw [show DB ((a.take i).length + ([a[i]] : List Int).length ≤ D2) = some () from by unfold DB; rw [if_pos hlen]]
   simp only [oS]
   rw [A2 (by omega), show a.take i ++ [a[i]] = a.take (i + 1) from by rw [List.take_add_one, ha]; rfl]
   exact VB N a hb hw n (i + 1) (by omega) (by omega)
  ·rw [AD (by simpa using h1)]
   simp only
   rw [List.take_of_length_le (by omega)]
theorem Lb {N : Nat} {a : List Int} (h : a.length < N) (hN : N ≤ 1000000) (hw : Mq Jp a) : CL N a = some a := by
 have := VB N a (by omega) hw N 0 (by omega) (by omega)
 simpa [CL] using this
def XC (a : Ae) : Prop := a.fBase.length ≤ 8 ∧ a.fNext.length ≤ 8 ∧ a.fHeld.length ≤ 14
def JY (a b : Ae) : Int := PE [DI a.fBase b.fBase, DI a.fNext b.fNext, DI a.fHeld b.fHeld]
theorem Nk (a : Ae) : JY a a = 0 := by unfold JY; simp [M9, PE]
def DY {α R : Type} (f : Nat → α → Option R) : Nat → List α → Option R
 | _, [] => none
 | i, x :: xs => match f i x with
  | some r => some r
  | none => DY f (i + 1) xs
theorem HS {α R : Type} (f : Nat → α → Option R) (i : Nat) (x : α) (xs : List α) : DY f i (x :: xs) = match f i x with
  | some r => some r
  | none => DY f (i + 1) xs := rfl
def BH {R : Type} (a : Option R) (b : Option R) : Option R := match a with
 | some r => some r
 | none => b
theorem DR {α R : Type} (L : Nat → Int → Option R) (xs : List α) (j : Option R) (f : Nat → α → Option R)
  (hs : ∀ (n i : Nat) (x : α), xs[i]? = some x → L (n + 1) (i : Int) = BH (f i x) (L n ((i + 1 : Nat) : Int))) (he : ∀ n : Nat, L (n + 1) (xs.length : Int) = j) :
  ∀ n i : Nat, i ≤ xs.length → xs.length - i < n → L n (i : Int) = BH (DY f i (xs.drop i)) j
 | 0, i, _, h => by omega
 | n + 1, i, hi, h => by
  by_cases h1 : i < xs.length
  ·have hx : xs[i]? = some xs[i] := by simp [h1]
   rw [hs n i _ hx, C8 hx, DR L xs j f hs he n (i + 1) (by omega) (by omega)]
   rw [HS]
   cases f i xs[i] <;> rfl
  ·have : i = xs.length := by omega
   subst this
   rw [he n, List.drop_eq_nil_of_le (Nat.le_refl _)]
   rfl
theorem Nr (N : Nat) (k n : Int) : Dp N k n = some (decide (0 ≤ k) && decide (k < n)) := by
 unfold Dp
 simp only [A7]
 by_cases h : 0 ≤ k
 ·rw [AF h]; simp [h]
 ·rw [AD h]; simp [h]
theorem KM (N : Nat) (t : AO) : Ba N t = some (t.fKind == 3 || t.fKind == 4) := by
 unfold Ba
 simp only [A7]
 cases h : t.fKind == 3 <;> simp
def sq (l : List (List Bool)) (n m : Int) : Bool := decide ((l.length : Int) = n) && l.all fun r => decide ((r.length : Int) = m)
theorem LU {α : Type} (p : α → Bool) {R : Type} (r : Nat → R) : ∀ (i : Nat) (xs : List α), (DY (fun i x => if p x then none else some (r i)) i xs).isNone = xs.all p
 | i, [] => rfl
 | i, x :: xs => by
  unfold DY
  cases h : p x <;> simp [h, LU p r (i + 1) xs]
theorem Nz (N : Nat) (l : List (List Bool)) (n m : Int) (h : n < (N : Int)) (hN : N ≤ 1000000) : CZ N l n m = some (sq l n m) := by
 unfold CZ sq
 by_cases h1 : (l.length : Int) = n
 ·subst h1
  simp only [bne_self_eq_false, As, decide_true, Bool.true_and]
  have := DR (B7 N l (l.length : Int) m (fun _ => some true)) l (some true) (fun _ r => if decide ((r.length : Int) = m) then none else some false)
   (fun n i x hx => by
    have hi := (lI.1 hx).1
    rw [B7, AF (by omega), Bi, hx]
    simp only [oS]
    rw [A2 (by omega)]
    by_cases h2 : (x.length : Int) = m
    ·simp [h2, BH]
    ·have : ((x.length : Int) != m) = true := by simpa using h2
     simp [h2, this, BH])
   (fun n => by rw [B7, AD (by omega)]) N 0 (by omega) (by omega)
  simp only [Int.ofNat_zero, List.drop_zero] at this
  rw [this]
  have h3 := LU (fun r : List Bool => decide ((r.length : Int) = m)) (fun _ => false) 0 l
  cases hsc : DY (fun (_ : Nat) (r : List Bool) => if decide ((r.length : Int) = m) = true then none else some false) 0 l with
  | none => rw [hsc] at h3; rw [← h3]; rfl
  | some b =>
   rw [hsc] at h3
   rw [← h3]
   have : ∀ (i : Nat) (xs : List (List Bool)) b, DY (fun (_ : Nat) (r : List Bool) => if decide ((r.length : Int) = m) = true then none else some false) i xs = some b → b = false := by
    intro i xs
    induction xs generalizing i with
    | nil => intro b hb; cases hb
    | cons x xs ih =>
     intro b hb
     unfold DY at hb
     split at hb
     ·rename_i r hr; cases hb; split at hr <;> simp at hr; exact hr
     ·exact ih _ b hb
   rw [this 0 l b hsc]; rfl
 ·have : ((l.length : Int) != n) = true := by simpa using h1
  simp [this, h1]
theorem M5 (N : Nat) (l : List (List Bool)) (n m : Int) (h : n < (N : Int)) (hN : N ≤ 1000000) : Eg N l n m = some (sq l n m) := by
 unfold Eg sq
 simp only [A7]
 by_cases h1 : (l.length : Int) = n
 ·subst h1
  simp only [beq_self_eq_true, AK, decide_true, Bool.true_and]
  have := DR (Bk N l (fun x => Dj N x m) (fun _ => some (-1))) l (some (-1)) (fun i r => if decide ((r.length : Int) = m) then none else some (i : Int))
   (fun n i x hx => by
    have hi := (lI.1 hx).1
    rw [Bk, AF (by omega), Bi, hx]
    simp only [oS, Dj]
    rw [A2 (by omega)]
    by_cases h2 : (x.length : Int) = m
    ·simp [h2, BH]
    ·have : ((x.length : Int) != m) = true := by simpa using h2
     simp [h2, this, BH])
   (fun n => by rw [Bk, AD (by omega)]) N 0 (by omega) (by omega)
  simp only [Int.ofNat_zero, List.drop_zero] at this
  unfold Ct CU
  rw [this]
  have h3 := LU (fun r : List Bool => decide ((r.length : Int) = m)) (fun i : Nat => (i : Int)) 0 l
  cases hsc : DY (fun (i : Nat) (r : List Bool) => if decide ((r.length : Int) = m) = true then none else some (i : Int)) 0 l with
  | none => rw [hsc] at h3; rw [← h3]; rfl
  | some b =>
   rw [hsc] at h3
   rw [← h3]
   have : ∀ (i : Nat) (xs : List (List Bool)) b, DY (fun (i : Nat) (r : List Bool) => if decide ((r.length : Int) = m) = true then none else some (i : Int)) i xs = some b → 0 ≤ b := by
    intro i xs
    induction xs generalizing i with
    | nil => intro b hb; cases hb
    | cons x xs ih =>
     intro b hb
     rw [HS] at hb
     split at hb
     ·rename_i r hr
      cases hb
      split at hr
      ·cases hr
      ·cases hr; omega
     ·exact ih _ b hb
   have := this 0 l b hsc
   simp [BH, this]
 ·have : ((l.length : Int) == n) = false := by simpa using h1
  simp [this, h1]
open List renaming mem_of_getElem? → lM
open List renaming getD_eq_getElem?_getD → lD
def Hr (l : List (List Bool)) : Option Int := DY (fun i row => if row.getD i false then none else some 1) 0 l
theorem Pp {row : List Bool} {i : Nat} (h : i < row.length) : A4 row (i : Int) = some (row.getD i false) := by
 rw [Bi, lD]; simp [h]
theorem TV (N : Nat) (t : AO) (h : t.fRewrite.length < N) (hN : N ≤ 1000000) (hsq : ∀ row, row ∈ t.fRewrite → row.length = t.fRewrite.length) (j : Option Int) :
  BK N t (fun _ => j) N 0 = BH (Hr t.fRewrite) j := by
 have := DR (BK N t (fun _ => j)) t.fRewrite j (fun i row => if row.getD i false then none else some 1)
  (fun n i x hx => by
   have hi := (lI.1 hx).1
   have hl := hsq x (lM hx)
   rw [BK, AF (by omega), Bi, hx]
   simp only [oS]
   rw [Pp (by omega), A2 (by omega)]
   simp only [oS]
   cases x.getD i false <;> rfl)
  (fun n => by rw [BK, AD (by omega)]) N 0 (by omega) (by omega)
 simpa [Hr] using this
theorem Np (N : Nat) (t : AO) (h : t.fRewrite.length < N) (hN : N ≤ 1000000) (hsq : ∀ row, row ∈ t.fRewrite → row.length = t.fRewrite.length) (j : Option Int) :
  CG N t (fun _ => j) N 0 = BH (Hr t.fRewrite) j := by
 have := DR (CG N t (fun _ => j)) t.fRewrite j (fun i row => if row.getD i false then none else some 1)
  (fun n i x hx => by
   have hi := (lI.1 hx).1
   have hl := hsq x (lM hx)
   rw [CG, AF (by omega), Bi, hx]
   simp only [oS]
   rw [Pp (by omega), A2 (by omega)]
   simp only [oS]
   cases x.getD i false <;> rfl)
  (fun n => by rw [CG, AD (by omega)]) N 0 (by omega) (by omega)
 simpa [Hr] using this
theorem Lq {l : List (List Bool)} {n m : Int} (h : sq l n m = true) : (l.length : Int) = n ∧ ∀ row, row ∈ l → (row.length : Int) = m := by
 unfold sq at h
 simp only [Bool.and_eq_true, decide_eq_true_eq, List.all_eq_true] at h
 exact h
def Dq (p : Ag) (t : AO) : Int :=
 if t.fKind < 1 ∨ 4 < t.fKind ∨ (t.fAware = true ∧ (t.fKind = 3 ∨ t.fKind = 4)) then 1
 else if t.fFrom < 0 ∨ (p.fVersions.length : Int) ≤ t.fFrom ∨ t.fTo < 0 ∨ (p.fVersions.length : Int) ≤ t.fTo then 4
 else
  let f := p.fVersions.getD t.fFrom.toNat 0
  let g := p.fVersions.getD t.fTo.toNat 0
  if sq t.fOK f g = false then 6
  else if t.fKind = 4 then (if sq t.fRewrite f f = false then 6 else (Hr t.fRewrite).getD 0)
  else if t.fRewrite.length = 0 then 0 else 6
theorem Ev {α : Type} {xs : List α} {i : Int} {d : α} (h0 : 0 ≤ i) (h1 : i < (xs.length : Int)) : A4 xs i = some (xs.getD i.toNat d) := by
 obtain ⟨k, rfl⟩ := Int.eq_ofNat_of_zero_le h0
 rw [Bi, lD, Int.toNat_natCast]
 simp [show k < xs.length from by omega]
theorem RV {t : AO} (A B : Option Int) (hk : ¬ (t.fAware = true ∧ (t.fKind = 3 ∨ t.fKind = 4))) : AT t.fAware (AT (t.fKind == 3 || t.fKind == 4) A B) B = B := by
 cases ha : t.fAware
 ·rfl
 ·have : (t.fKind == 3 || t.fKind == 4) = false := by
   rw [Bool.or_eq_false_iff]
   constructor
   ·simp only [beq_eq_false_iff_ne]; intro h; exact hk ⟨ha, .inl h⟩
   ·simp only [beq_eq_false_iff_ne]; intro h; exact hk ⟨ha, .inr h⟩
  rw [this]; rfl
theorem KD {p : Ag} {i : Int} (hv : ∀ v, v ∈ p.fVersions → 1 ≤ v ∧ v ≤ 6) (h0 : 0 ≤ i) (h1 : i < (p.fVersions.length : Int)) : 1 ≤ p.fVersions.getD i.toNat 0 ∧ p.fVersions.getD i.toNat 0 ≤ 6 := by
 refine hv _ ?_
 rw [lD, List.getElem?_eq_getElem (by omega)]
 exact List.getElem_mem _
theorem Q7 (N : Nat) (p : Ag) (t : AO) (hN : N ≤ 1000000) (h6 : 7 ≤ N) (hv : ∀ v, v ∈ p.fVersions → 1 ≤ v ∧ v ≤ 6) : DF N p t = some (Dq p t) := by
 unfold DF Dq
 simp only [A7, KM, oS]
 by_cases k1 : t.fKind < 1
 ·simp [k1]
 by_cases k2 : 4 < t.fKind
 ·simp [k1, k2]
 rw [AD k1, AD k2]
 by_cases hk : t.fAware = true ∧ (t.fKind = 3 ∨ t.fKind = 4)
 ·obtain ⟨ha, k | k⟩ := hk <;> simp [ha, k]
 rw [As, RV _ _ hk, if_neg (fun h => h.elim k1 fun h => h.elim k2 hk)]
 by_cases f1 : t.fFrom < 0
 ·simp [f1]
 by_cases f2 : (p.fVersions.length : Int) ≤ t.fFrom
 ·simp [f1, f2]
 by_cases f3 : t.fTo < 0
 ·simp [f1, f2, f3]
 by_cases f4 : (p.fVersions.length : Int) ≤ t.fTo
 ·simp [f1, f2, f3, f4]
 rw [AD f1, AD f2, AD f3, if_neg (fun h => h.elim f1 fun h => h.elim f2 fun h => h.elim f3 f4)]
 have hf := KD hv (i := t.fFrom) (by omega) (by omega)
 rw [decide_eq_false f4, As, Ev (d := 0) (by omega : 0 ≤ t.fFrom) (by omega), Ev (d := 0) (by omega : 0 ≤ t.fTo) (by omega)]
 simp only [oS]
 generalize p.fVersions.getD t.fFrom.toNat 0 = f at *
 generalize p.fVersions.getD t.fTo.toNat 0 = g at *
 rw [Nz N t.fOK f g (by omega) hN, Nz N t.fRewrite f f (by omega) hN]
 simp only [oS]
 cases hq : sq t.fOK f g
 ·rfl
 simp only [Bool.not_true, As]
 by_cases k4 : t.fKind = 4
 ·have : (t.fKind != 4) = false := by simp [k4]
  rw [this, As]
  simp only [k4, if_true]
  cases hr : sq t.fRewrite f f
  ·rfl
  ·have h7 := Lq hr
   simp only [Bool.not_true, As]
   rw [TV N t (by omega) hN (fun row hm => by have := h7.2 row hm; omega)]
   cases Hr t.fRewrite <;> simp [BH]
 ·have : (t.fKind != 4) = true := by simpa using k4
  rw [this, AK]
  simp only [k4, if_false]
  by_cases hr : t.fRewrite.length = 0
  ·simp [hr]
  ·have : ((t.fRewrite.length : Int) != 0) = true := bne_iff_ne.2 (by omega)
   rw [this]; simp [hr]
theorem S5 (N : Nat) (k : Int) (a : Bool) : FC N k a = some (k == 1 || (k == 2 || ((k == 3 || k == 4) && !a))) := by
 unfold FC
 simp only [A7]
 cases h1 : k == 1 <;> cases h2 : k == 2 <;> cases h3 : k == 3 <;> cases h4 : k == 4 <;> cases a <;> rfl
theorem LW (N : Nat) (p : Ag) (t : AO) (hN : N ≤ 1000000) (h6 : 7 ≤ N) (hv : ∀ v, v ∈ p.fVersions → 1 ≤ v ∧ v ≤ 6) : Ff N p t = some (Dq p t) := by
 unfold Ff Dq
 simp only [A7, S5, Nr, oS]
 by_cases hb : t.fKind < 1 ∨ 4 < t.fKind ∨ (t.fAware = true ∧ (t.fKind = 3 ∨ t.fKind = 4))
 ·have : (t.fKind == 1 || (t.fKind == 2 || ((t.fKind == 3 || t.fKind == 4) && !t.fAware))) = false := by
   rcases hb with h | h | ⟨ha, h | h⟩
   ·rw [beq_eq_false_iff_ne.2 (by omega : t.fKind ≠ 1), beq_eq_false_iff_ne.2 (by omega : t.fKind ≠ 2), beq_eq_false_iff_ne.2 (by omega : t.fKind ≠ 3), beq_eq_false_iff_ne.2 (by omega : t.fKind ≠ 4)]; rfl
   ·rw [beq_eq_false_iff_ne.2 (by omega : t.fKind ≠ 1), beq_eq_false_iff_ne.2 (by omega : t.fKind ≠ 2), beq_eq_false_iff_ne.2 (by omega : t.fKind ≠ 3), beq_eq_false_iff_ne.2 (by omega : t.fKind ≠ 4)]; rfl
   ·simp [ha, h]
   ·simp [ha, h]
  rw [this, if_pos hb]; rfl
 ·have : (t.fKind == 1 || (t.fKind == 2 || ((t.fKind == 3 || t.fKind == 4) && !t.fAware))) = true := by
   have hk : t.fKind = 1 ∨ t.fKind = 2 ∨ t.fKind = 3 ∨ t.fKind = 4 := by
    have h1 : ¬ t.fKind < 1 := fun h => hb (.inl h)
    have h2 : ¬ 4 < t.fKind := fun h => hb (.inr (.inl h))
    omega
   rcases hk with h | h | h | h
   ·simp [h]
   ·simp [h]
   ·cases ha : t.fAware
    ·simp [h]
    ·exact (hb (.inr (.inr ⟨ha, .inl h⟩))).elim
   ·cases ha : t.fAware
    ·simp [h]
    ·exact (hb (.inr (.inr ⟨ha, .inr h⟩))).elim
  rw [this, if_neg hb]
  simp only [Bool.not_true, As]
  by_cases f1 : t.fFrom < 0
  ·simp [f1, show ¬ (0 ≤ t.fFrom) from by omega]
  by_cases f2 : (p.fVersions.length : Int) ≤ t.fFrom
  ·simp [f2, show ¬ (t.fFrom < (p.fVersions.length : Int)) from by omega]
  by_cases f3 : t.fTo < 0
  ·simp [f3, show 0 ≤ t.fFrom from by omega, show t.fFrom < (p.fVersions.length : Int) from by omega, show ¬ (0 ≤ t.fTo) from by omega]
  by_cases f4 : (p.fVersions.length : Int) ≤ t.fTo
  ·simp [f4, show 0 ≤ t.fFrom from by omega, show t.fFrom < (p.fVersions.length : Int) from by omega, show ¬ (t.fTo < (p.fVersions.length : Int)) from by omega]
  rw [if_neg (fun h => h.elim f1 fun h => h.elim f2 fun h => h.elim f3 f4)]
  have hf := KD hv (i := t.fFrom) (by omega) (by omega)
  have hg := KD hv (i := t.fTo) (by omega) (by omega)
  rw [decide_eq_true (by omega : 0 ≤ t.fFrom), decide_eq_true (by omega : t.fFrom < (p.fVersions.length : Int)), decide_eq_true (by omega : 0 ≤ t.fTo), decide_eq_true (by omega : t.fTo < (p.fVersions.length : Int)), Ev (d := 0) (by omega : 0 ≤ t.fFrom) (by omega), Ev (d := 0) (by omega : 0 ≤ t.fTo) (by omega)]
  simp only [Bool.and_self, Bool.not_true, As, oS]
  generalize p.fVersions.getD t.fFrom.toNat 0 = f at *
  generalize p.fVersions.getD t.fTo.toNat 0 = g at *
  rw [M5 N t.fOK f g (by omega) hN, M5 N t.fRewrite f f (by omega) hN]
  simp only [oS]
  cases hq : sq t.fOK f g
  ·rfl
  simp only [Bool.not_true, As]
  by_cases k4 : t.fKind = 4
  ·simp only [k4, beq_self_eq_true, AK, if_true]
   cases hr : sq t.fRewrite f f
   ·rfl
   ·have h7 := Lq hr
    simp only [Bool.not_true, As]
    rw [Np N t (by omega) hN (fun row hm => by have := h7.2 row hm; omega)]
    cases Hr t.fRewrite <;> simp [BH]
  ·have : (t.fKind == 4) = false := beq_eq_false_iff_ne.2 k4
   rw [this, As]
   simp only [k4, if_false, Bool.not_false, AK]
   by_cases hr : t.fRewrite.length = 0
   ·rw [Np N t (by omega) hN (fun row hm => by rw [List.eq_nil_of_length_eq_zero hr] at hm; cases hm), List.eq_nil_of_length_eq_zero hr]
    simp [Hr, DY, BH]
   ·rw [decide_eq_true (by omega : 0 < (t.fRewrite.length : Int))]
    simp [hr]
def EY (p : Ag) (i : Nat) (v : Int) : Option Int :=
 if v < 1 ∨ 6 < v ∨ p.fNow.getD i 0 < 0 ∨ v ≤ p.fNow.getD i 0 ∨ p.fTarget.getD i 0 < 0 ∨ v ≤ p.fTarget.getD i 0 then some 7 else none
def Kb (p : Ag) (_ : Nat) (t : AO) : Option Int := if Dq p t = 0 then none else some (Dq p t)
def Cg (p : Ag) : Int :=
 if 6 < p.fVersions.length ∨ 12 < p.fTables.length then 3
 else if p.fNow.length ≠ p.fVersions.length ∨ p.fTarget.length ≠ p.fVersions.length then 6
 else ((BH (DY (EY p) 0 p.fVersions) (DY (Kb p) 0 p.fTables)).getD 0)
theorem Gx {α R : Type} {f : Nat → α → Option R} : ∀ {i : Nat} {xs : List α}, DY f i xs = none → ∀ j x, xs[j]? = some x → f (i + j) x = none
 | _, [], _, j, x, hx => by simp at hx
 | i, y :: ys, h, j, x, hx => by
  rw [HS] at h
  split at h
  ·cases h
  ·rename_i h0
   cases j with
   | zero => simp at hx; subst hx; exact h0
   | succ j =>
    have := Gx h j x (by simpa using hx)
    rwa [show i + 1 + j = i + (j + 1) from by omega] at this
theorem LV {p : Ag} (h : DY (EY p) 0 p.fVersions = none) : ∀ v, v ∈ p.fVersions → 1 ≤ v ∧ v ≤ 6 := by
 intro v hv
 obtain ⟨i, hi⟩ := List.mem_iff_getElem?.1 hv
 have := Gx h i v hi
 unfold EY at this
 split at this
 ·cases this
 ·rename_i hn
  constructor
  ·exact Int.not_lt.1 fun h => hn (.inl h)
  ·exact Int.not_lt.1 fun h => hn (.inr (.inl h))
theorem Di {α : Type} {xs : List α} {i : Nat} {d : α} (h : i < xs.length) : A4 xs (i : Int) = some (xs.getD i d) := by
 rw [Bi, lD]; simp [h]
theorem P2 (N : Nat) (p : Ag) (hN : N ≤ 1000000) (h1 : p.fVersions.length < N) (h2 : p.fNow.length = p.fVersions.length) (h3 : p.fTarget.length = p.fVersions.length) (j : Option Int) :
  Be N p (fun _ => j) N 0 = BH (DY (EY p) 0 p.fVersions) j := by
 have := DR (Be N p (fun _ => j)) p.fVersions j (EY p)
  (fun n i x hx => by
   have hi := (lI.1 hx).1
   rw [Be, AF (by omega), Bi, hx]
   simp only [oS, A7]
   rw [Di (d := 0) (by omega), Di (d := 0) (by omega), A2 (by omega)]
   simp only [oS]
   unfold EY
   generalize p.fNow.getD i 0 = a
   generalize p.fTarget.getD i 0 = b
   by_cases k1 : x < 1 <;> by_cases k2 : 6 < x <;> by_cases k3 : a < 0 <;> by_cases k4 : x ≤ a <;> by_cases k5 : b < 0 <;> by_cases k6 : x ≤ b <;> simp [k1, k2, k3, k4, k5, k6, BH])
  (fun n => by rw [Be, AD (by omega)]) N 0 (by omega) (by omega)
 simpa using this
theorem N2 (N : Nat) (p : Ag) (hN : N ≤ 1000000) (h1 : p.fVersions.length < N) (h2 : p.fNow.length = p.fVersions.length) (h3 : p.fTarget.length = p.fVersions.length) (j : Option Int) :
  BI N p (fun _ => j) N 0 = BH (DY (EY p) 0 p.fVersions) j := by
 have := DR (BI N p (fun _ => j)) p.fVersions j (EY p)
  (fun n i x hx => by
   have hi := (lI.1 hx).1
   rw [BI, AF (by omega), Bi, hx]
   simp only [oS, A7, Nr]
   rw [Di (d := 0) (by omega), Di (d := 0) (by omega), A2 (by omega)]
   simp only [oS]
   unfold EY
   generalize p.fNow.getD i 0 = a
   generalize p.fTarget.getD i 0 = b
   have e1 : decide (0 ≤ a) = !decide (a < 0) := by rw [← decide_not]; congr 1; simp
   have e2 : decide (a < x) = !decide (x ≤ a) := by rw [← decide_not]; congr 1; simp
   have e3 : decide (0 ≤ b) = !decide (b < 0) := by rw [← decide_not]; congr 1; simp
   have e4 : decide (b < x) = !decide (x ≤ b) := by rw [← decide_not]; congr 1; simp
   rw [e1, e2, e3, e4]
   by_cases k1 : x < 1 <;> by_cases k2 : 6 < x <;> by_cases k3 : a < 0 <;> by_cases k4 : x ≤ a <;> by_cases k5 : b < 0 <;> by_cases k6 : x ≤ b <;> simp [k1, k2, k3, k4, k5, k6, BH])
  (fun n => by rw [BI, AD (by omega)]) N 0 (by omega) (by omega)
 simpa using this
theorem Su (N : Nat) (p : Ag) (hN : N ≤ 1000000) (h6 : 7 ≤ N) (h1 : p.fTables.length < N) (hv : ∀ v, v ∈ p.fVersions → 1 ≤ v ∧ v ≤ 6) (j : Option Int) :
  Bc N p (fun _ => j) N 0 = BH (DY (Kb p) 0 p.fTables) j := by
 have := DR (Bc N p (fun _ => j)) p.fTables j (Kb p)
  (fun n i x hx => by
   have hi := (lI.1 hx).1
   rw [Bc, AF (by omega), Bi, hx]
   simp only [oS]
   rw [Q7 N p x hN h6 hv, A2 (by omega)]
   simp only [oS]
   unfold Kb
   by_cases k : Dq p x = 0
   ·simp [k, BH]
   ·rw [bne_iff_ne.2 k, if_neg k]; rfl)
  (fun n => by rw [Bc, AD (by omega)]) N 0 (by omega) (by omega)
 simpa using this
theorem Pt (N : Nat) (p : Ag) (hN : N ≤ 1000000) (h6 : 7 ≤ N) (h1 : p.fTables.length < N) (hv : ∀ v, v ∈ p.fVersions → 1 ≤ v ∧ v ≤ 6) (j : Option Int) :
  BC N p (fun _ => j) N 0 = BH (DY (Kb p) 0 p.fTables) j := by
 have := DR (BC N p (fun _ => j)) p.fTables j (Kb p)
  (fun n i x hx => by
   have hi := (lI.1 hx).1
   rw [BC, AF (by omega), Bi, hx]
   simp only [oS]
   rw [LW N p x hN h6 hv, A2 (by omega)]
   simp only [oS]
   unfold Kb
   by_cases k : Dq p x = 0
   ·simp [k, BH]
   ·rw [bne_iff_ne.2 k, if_neg k]; rfl)
  (fun n => by rw [BC, AD (by omega)]) N 0 (by omega) (by omega)
 simpa using this
theorem Mc (N : Nat) (p : Ag) (hN : N ≤ 1000000) (h : 20 ≤ N) : B8 N p = some (Cg p) := by
 unfold B8 Cg
 simp only [A7]
 by_cases k1 : 6 < p.fVersions.length
 ·rw [AF (by omega)]; simp [k1]
 rw [AD (by omega)]
 by_cases k2 : 12 < p.fTables.length
 ·rw [decide_eq_true (by omega : (12 : Int) < (p.fTables.length : Int))]; simp [k2]
 rw [decide_eq_false (by omega : ¬ (12 : Int) < (p.fTables.length : Int)), As, if_neg (by omega)]
 by_cases k3 : p.fNow.length = p.fVersions.length
 ·by_cases k4 : p.fTarget.length = p.fVersions.length
  ·rw [k3, k4]
   simp only [bne_self_eq_false, As, ne_eq, not_true_eq_false, or_self, if_false]
   rw [P2 N p hN (by omega) k3 k4]
   cases hs : DY (EY p) 0 p.fVersions with
   | some r => rfl
   | none =>
    simp only [BH]
    rw [Su N p hN (by omega) (by omega) (LV hs)]
    cases DY (Kb p) 0 p.fTables <;> rfl
  ·have : ((p.fTarget.length : Int) != (p.fVersions.length : Int)) = true := bne_iff_ne.2 (by omega)
   rw [this, k3]; simp [k4]
 ·have : ((p.fNow.length : Int) != (p.fVersions.length : Int)) = true := bne_iff_ne.2 (by omega)
  rw [this]; simp [k3]
theorem JV (N : Nat) (p : Ag) (hN : N ≤ 1000000) (h : 20 ≤ N) : CY N p = some (Cg p) := by
 unfold CY Cg
 simp only [A7]
 by_cases k1 : 6 < p.fVersions.length
 ·rw [AF (by omega)]; simp [k1]
 rw [AD (by omega)]
 by_cases k2 : 12 < p.fTables.length
 ·rw [decide_eq_true (by omega : (12 : Int) < (p.fTables.length : Int))]; simp [k2]
 rw [decide_eq_false (by omega : ¬ (12 : Int) < (p.fTables.length : Int)), As, if_neg (by omega)]
 by_cases k3 : p.fNow.length = p.fVersions.length
 ·by_cases k4 : p.fTarget.length = p.fVersions.length
  ·rw [k3, k4]
   simp only [bne_self_eq_false, As, ne_eq, not_true_eq_false, or_self, if_false]
   rw [N2 N p hN (by omega) k3 k4]
   cases hs : DY (EY p) 0 p.fVersions with
   | some r => rfl
   | none =>
    simp only [BH]
    rw [Pt N p hN (by omega) (by omega) (LV hs)]
    cases DY (Kb p) 0 p.fTables <;> rfl
  ·have : ((p.fTarget.length : Int) != (p.fVersions.length : Int)) = true := bne_iff_ne.2 (by omega)
   rw [this, k3]; simp [k4]
 ·have : ((p.fNow.length : Int) != (p.fVersions.length : Int)) = true := bne_iff_ne.2 (by omega)
  rw [this]; simp [k3]
theorem Hh {n : Int} (h : Jp n) : 0 ≤ n ∧ n ≤ 255 := by
 unfold Jp at h
 simpa [Lit.wf, IntKind.min, IntKind.max, IntKind.signed, IntKind.bits] using h
theorem MG : ∀ k : Fin 256, CJ .u8 0 (k.val : Int) = 0 := by decide +kernel
theorem MU : ∀ k : Fin 256, CJ .u8 (k.val : Int) 0 = (k.val : Int) := by decide +kernel
theorem Sn {n : Int} (h : Jp n) : CJ .u8 0 n = 0 := by
 have := Hh h
 obtain ⟨k, rfl⟩ := Int.eq_ofNat_of_zero_le this.1
 exact MG ⟨k, by omega⟩
theorem RY {n : Int} (h : Jp n) : CJ .u8 n 0 = n := by
 have := Hh h
 obtain ⟨k, rfl⟩ := Int.eq_ofNat_of_zero_le this.1
 exact MU ⟨k, by omega⟩
theorem Fm {α R : Type} {f : Nat → α → Option R} : ∀ {i : Nat} {xs : List α} {r : R}, DY f i xs = some r → ∃ j x, xs[j]? = some x ∧ f (i + j) x = some r
 | _, [], _, h => by cases h
 | i, y :: ys, r, h => by
  rw [HS] at h
  split at h
  ·rename_i r' h0
   cases h
   exact ⟨0, y, rfl, h0⟩
  ·obtain ⟨j, x, h1, h2⟩ := Fm h
   exact ⟨j + 1, x, by simpa using h1, by rwa [show i + (j + 1) = i + 1 + j from by omega]⟩
structure B9 (p : Ag) : Prop where
 nv : p.fVersions.length ≤ 6
 nt : p.fTables.length ≤ 12
 now : p.fNow.length = p.fVersions.length
 tgt : p.fTarget.length = p.fVersions.length
 ver : ∀ v, v ∈ p.fVersions → 1 ≤ v ∧ v ≤ 6
 tab : ∀ t, t ∈ p.fTables → Dq p t = 0
theorem Pz (l : List (List Bool)) : (Hr l).getD 0 = 0 ∨ (Hr l).getD 0 = 1 := by
 cases h : Hr l with
 | none => exact .inl rfl
 | some r =>
  obtain ⟨j, x, _, h⟩ := Fm h
  split at h
  ·cases h
  ·cases h; exact .inr rfl
theorem N5 (p : Ag) (t : AO) : Dq p t = 0 ∨ Dq p t = 1 ∨ Dq p t = 4 ∨ Dq p t = 6 := by
 unfold Dq
 split
 ·exact .inr (.inl rfl)
 split
 ·exact .inr (.inr (.inl rfl))
 simp only
 split
 ·exact .inr (.inr (.inr rfl))
 split
 ·split
  ·exact .inr (.inr (.inr rfl))
  ·rcases Pz t.fRewrite with h | h
   ·exact .inl h
   ·exact .inr (.inl h)
 ·split
  ·exact .inl rfl
  ·exact .inr (.inr (.inr rfl))
theorem G8 (p : Ag) : (Cg p = 0 ∧ B9 p) ∨ (Cg p = 1 ∨ Cg p = 3 ∨ Cg p = 4 ∨ Cg p = 6 ∨ Cg p = 7) := by
 unfold Cg
 split
 ·simp
 rename_i k1
 split
 ·simp
 rename_i k2
 cases hs : DY (EY p) 0 p.fVersions with
 | some r =>
  obtain ⟨j, x, _, h⟩ := Fm hs
  unfold EY at h
  split at h
  ·cases h; simp [BH]
  ·cases h
 | none =>
  cases ht : DY (Kb p) 0 p.fTables with
  | some r =>
   obtain ⟨j, t, _, h⟩ := Fm ht
   unfold Kb at h
   split at h
   ·cases h
   ·rename_i hne
    cases h
    simp only [BH, Option.getD_some]
    right
    rcases N5 p t with h | h | h | h
    ·exact (hne h).elim
    ·exact .inl h
    ·exact .inr (.inr (.inl h))
    ·exact .inr (.inr (.inr (.inl h)))
  | none =>
   left
   refine ⟨rfl, by omega, by omega, by omega, by omega, LV hs, fun t hm => ?_⟩
   obtain ⟨j, hj⟩ := List.mem_iff_getElem?.1 hm
   have := Gx ht j t hj
   unfold Kb at this
   split at this
   ·assumption
   ·cases this
def Fy (m : Ae) (s : Nat) : Int :=
 if 0 ≤ m.fNext.getD s 0 then Ls .u8 (B3 .u8 1 (m.fBase.getD s 0)) (B3 .u8 1 (m.fNext.getD s 0)) else B3 .u8 1 (m.fBase.getD s 0)
def JL (m : Ae) (i : Nat) (v : Int) : Option Int :=
 if m.fBase.getD i 0 < 0 ∨ v ≤ m.fBase.getD i 0 ∨ m.fNext.getD i 0 < -1 ∨ v ≤ m.fNext.getD i 0 then some 7
 else if m.fBase.getD i 0 = m.fNext.getD i 0 then some 1 else none
def Ca (t : AO) : Bool := t.fKind == 3 || t.fKind == 4
def TF (p : Ag) (t : AO) : Int := wI .u8 (B3 .u8 1 (p.fVersions.getD t.fFrom.toNat 0) - 1)
def HB (p : Ag) (m : Ae) (i : Nat) (t : AO) : Option Int :=
 if Ca t = true then (if CJ .u8 (Fy m t.fFrom.toNat) (m.fHeld.getD i 0) ≠ 0 ∨ CJ .u8 (m.fHeld.getD i 0) (TF p t) ≠ 0 then some 1 else none)
 else if m.fHeld.getD i 0 ≠ 0 then some 1 else none
def GU (p : Ag) (m : Ae) : Int :=
 if Cg p ≠ 0 then Cg p
 else if m.fBase.length ≠ p.fVersions.length ∨ m.fNext.length ≠ p.fVersions.length ∨ m.fHeld.length ≠ p.fTables.length then 6
 else (BH (DY (JL m) 0 p.fVersions) (DY (HB p m) 0 p.fTables)).getD 0
theorem Hn {p : Ag} {t : AO} (h : Dq p t = 0) : 0 ≤ t.fFrom ∧ t.fFrom < (p.fVersions.length : Int) ∧ 0 ≤ t.fTo ∧ t.fTo < (p.fVersions.length : Int) := by
 unfold Dq at h
 split at h
 ·cases h
 ·split at h
  ·cases h
  ·omega
theorem PD (N : Nat) (m : Ae) (s : Int) (h0 : 0 ≤ s) (h1 : s < (m.fBase.length : Int)) (h2 : s < (m.fNext.length : Int)) (hb : 0 ≤ m.fBase.getD s.toNat 0) : D6 N m s = some (Fy m s.toNat) := by
 unfold D6 Fy
 rw [Ev (d := 0) h0 h1, Ev (d := 0) h0 h2]
 simp only [oS, A7]
 rw [show DB (0 ≤ m.fBase.getD s.toNat 0) = some () from by unfold DB; rw [if_pos hb]]
 simp only [oS]
 by_cases h : 0 ≤ m.fNext.getD s.toNat 0
 ·rw [AF h, if_pos h, show DB (0 ≤ m.fNext.getD s.toNat 0) = some () from by unfold DB; rw [if_pos h]]; rfl
 ·rw [AD h, if_neg h]
theorem LG (N : Nat) (m : Ae) (s : Int) (h0 : 0 ≤ s) (h1 : s < (m.fBase.length : Int)) (h2 : s < (m.fNext.length : Int)) (hb : 0 ≤ m.fBase.getD s.toNat 0) : Cn N m s = some (Fy m s.toNat) := by
 unfold Cn Fy
 rw [Ev (d := 0) h0 h1, Ev (d := 0) h0 h2]
 simp only [oS, A7]
 rw [show DB (0 ≤ m.fBase.getD s.toNat 0) = some () from by unfold DB; rw [if_pos hb]]
 simp only [oS]
 by_cases h : 0 ≤ m.fNext.getD s.toNat 0
 ·rw [AF h, if_pos h, show DB (0 ≤ m.fNext.getD s.toNat 0) = some () from by unfold DB; rw [if_pos h]]; rfl
 ·rw [AD h, if_neg h]
theorem NQ (N : Nat) (p : Ag) (m : Ae) (hN : N ≤ 1000000) (h1 : p.fVersions.length < N) (h2 : m.fBase.length = p.fVersions.length) (h3 : m.fNext.length = p.fVersions.length) (j : Option Int) :
  Do N p m (fun _ => j) N 0 = BH (DY (JL m) 0 p.fVersions) j := by
 have := DR (Do N p m (fun _ => j)) p.fVersions j (JL m)
  (fun n i x hx => by
   have hi := (lI.1 hx).1
   rw [Do, AF (by omega), Bi, hx]
   simp only [oS, A7]
   rw [Di (d := 0) (by omega), Di (d := 0) (by omega), A2 (by omega)]
   simp only [oS]
   unfold JL
   generalize m.fBase.getD i 0 = a
   generalize m.fNext.getD i 0 = b
   by_cases k7 : a = b
   ·subst k7
    by_cases k3 : a < 0 <;> by_cases k4 : x ≤ a <;> by_cases k5 : a < -1 <;> simp [k3, k4, k5, BH]
   ·have k8 : (a == b) = false := beq_eq_false_iff_ne.2 k7
    by_cases k3 : a < 0 <;> by_cases k4 : x ≤ a <;> by_cases k5 : b < -1 <;> by_cases k6 : x ≤ b <;> simp [k3, k4, k5, k6, k7, k8, BH])
  (fun n => by rw [Do, AD (by omega)]) N 0 (by omega) (by omega)
 simpa using this
theorem Om (N : Nat) (p : Ag) (m : Ae) (hN : N ≤ 1000000) (h1 : p.fVersions.length < N) (h2 : m.fBase.length = p.fVersions.length) (h3 : m.fNext.length = p.fVersions.length) (j : Option Int) :
  BU N p m (fun _ => j) N 0 = BH (DY (JL m) 0 p.fVersions) j := by
 have := DR (BU N p m (fun _ => j)) p.fVersions j (JL m)
  (fun n i x hx => by
   have hi := (lI.1 hx).1
   rw [BU, AF (by omega), show A4 p.fVersions (i : Int) = some x from by rw [Bi, hx]]
   simp only [oS, A7]
   rw [Di (d := 0) (by omega), Di (d := 0) (by omega), A2 (by omega)]
   simp only [oS]
   unfold JL
   generalize m.fBase.getD i 0 = a
   generalize m.fNext.getD i 0 = b
   by_cases k7 : a = b
   ·subst k7
    by_cases k3 : a < 0 <;> by_cases k4 : x ≤ a <;> by_cases k5 : a < -1 <;> simp [k3, k4, k5, BH]
   ·have k8 : (a == b) = false := beq_eq_false_iff_ne.2 k7
    by_cases k3 : a < 0 <;> by_cases k4 : x ≤ a <;> by_cases k5 : b < -1 <;> by_cases k6 : x ≤ b <;> simp [k3, k4, k5, k6, k7, k8, BH])
  (fun n => by rw [BU, AD (by omega)]) N 0 (by omega) (by omega)
 simpa using this
structure MixServ (p : Ag) (m : Ae) : Prop where
 base : m.fBase.length = p.fVersions.length
 next : m.fNext.length = p.fVersions.length
 held : m.fHeld.length = p.fTables.length
 b0 : ∀ i, i < p.fVersions.length → 0 ≤ m.fBase.getD i 0 ∧ m.fBase.getD i 0 < p.fVersions.getD i 0
 n0 : ∀ i, i < p.fVersions.length → -1 ≤ m.fNext.getD i 0 ∧ m.fNext.getD i 0 < p.fVersions.getD i 0
 ne : ∀ i, i < p.fVersions.length → m.fBase.getD i 0 ≠ m.fNext.getD i 0
theorem N6 {p : Ag} {m : Ae} (h2 : m.fBase.length = p.fVersions.length) (h3 : m.fNext.length = p.fVersions.length) (h4 : m.fHeld.length = p.fTables.length) (h : DY (JL m) 0 p.fVersions = none) : MixServ p m := by
 have key : ∀ i, i < p.fVersions.length → ¬ (m.fBase.getD i 0 < 0 ∨ p.fVersions.getD i 0 ≤ m.fBase.getD i 0 ∨ m.fNext.getD i 0 < -1 ∨ p.fVersions.getD i 0 ≤ m.fNext.getD i 0) ∧ ¬ m.fBase.getD i 0 = m.fNext.getD i 0 := by
  intro i hi
  have hx : p.fVersions[i]? = some (p.fVersions.getD i 0) := by rw [lD]; simp [hi]
  have := Gx h i _ hx
  rw [Nat.zero_add] at this
  unfold JL at this
  split at this
  ·cases this
  ·split at this
   ·cases this
   ·rename_i k1 k2; exact ⟨k1, k2⟩
 exact ⟨h2, h3, h4, fun i hi => by have := (key i hi).1; omega, fun i hi => by have := (key i hi).1; omega, fun i hi => (key i hi).2⟩
theorem OC {m : Ae} (hw : Mq Jp m.fHeld) {i : Nat} (h : i < m.fHeld.length) : Jp (m.fHeld.getD i 0) := by
 refine hw _ ?_
 rw [lD, List.getElem?_eq_getElem h]
 exact List.getElem_mem _
theorem JF (N : Nat) (t : AO) : Eo N t = some (Ca t) := by
 unfold Eo Ca
 simp only [A7]
 cases h : t.fKind == 3 <;> simp
theorem GC (N : Nat) (t : AO) : Ba N t = some (Ca t) := KM N t
theorem PU (N : Nat) (p : Ag) (m : Ae) (hN : N ≤ 1000000) (h1 : p.fTables.length < N) (hp : B9 p) (hm : MixServ p m) (hw : Mq Jp m.fHeld) (j : Option Int) :
  Dd N p m (fun _ => j) N 0 = BH (DY (HB p m) 0 p.fTables) j := by
 have := DR (Dd N p m (fun _ => j)) p.fTables j (HB p m)
  (fun n i x hx => by
   have hi := (lI.1 hx).1
   have hin := Hn (hp.tab x (lM hx))
   have hheld := OC hw (show i < m.fHeld.length from by rw [hm.held]; exact hi)
   have hv := KD hp.ver hin.1 hin.2.1
   rw [Dd, AF (by omega), Bi, hx]
   simp only [oS, A7, JF]
   rw [PD N m x.fFrom hin.1 (by rw [hm.base]; exact hin.2.1) (by rw [hm.next]; exact hin.2.1) (hm.b0 _ (by omega)).1, Ev (d := 0) hin.1 hin.2.1, Di (d := 0) (show i < m.fHeld.length from by rw [hm.held]; exact hi), A2 (by omega)]
   simp only [oS]
   rw [show DB (0 ≤ p.fVersions.getD x.fFrom.toNat 0) = some () from by unfold DB; rw [if_pos (by omega)]]
   simp only [oS]
   unfold HB TF
   rw [Sn hheld, RY hheld]
   generalize CJ .u8 (Fy m x.fFrom.toNat) (m.fHeld.getD i 0) = A
   generalize CJ .u8 (m.fHeld.getD i 0) (wI .u8 (B3 .u8 1 (p.fVersions.getD x.fFrom.toNat 0) - 1)) = B
   generalize m.fHeld.getD i 0 = H
   cases Ca x
   ·simp only [As, bne_self_eq_false]
    by_cases k : H = 0
    ·simp [k, BH]
    ·have : (H != 0) = true := bne_iff_ne.2 k
     simp [k, this, BH]
   ·simp only [AK]
    by_cases k : A = 0
    ·by_cases k2 : B = 0
     ·simp [k, k2, BH]
     ·have : (B != 0) = true := bne_iff_ne.2 k2
      simp [k, k2, this, BH]
    ·have : (A != 0) = true := bne_iff_ne.2 k
     simp [k, this, BH])
  (fun n => by rw [Dd, AD (by omega)]) N 0 (by omega) (by omega)
 simpa using this
theorem PK (N : Nat) (p : Ag) (m : Ae) (hN : N ≤ 1000000) (h1 : p.fTables.length < N) (hp : B9 p) (hm : MixServ p m) (j : Option Int) :
  BL N p m (fun _ => j) N 0 = BH (DY (HB p m) 0 p.fTables) j := by
 have := DR (BL N p m (fun _ => j)) p.fTables j (HB p m)
  (fun n i x hx => by
   have hi := (lI.1 hx).1
   have hin := Hn (hp.tab x (lM hx))
   have hv := KD hp.ver hin.1 hin.2.1
   rw [BL, AF (by omega), Bi, hx]
   simp only [oS, A7, GC]
   rw [LG N m x.fFrom hin.1 (by rw [hm.base]; exact hin.2.1) (by rw [hm.next]; exact hin.2.1) (hm.b0 _ (by omega)).1, Ev (d := 0) hin.1 hin.2.1, Di (d := 0) (show i < m.fHeld.length from by rw [hm.held]; exact hi), A2 (by omega)]
   simp only [oS]
   rw [show DB (0 ≤ p.fVersions.getD x.fFrom.toNat 0) = some () from by unfold DB; rw [if_pos (by omega)]]
   simp only [oS]
   unfold HB TF
   generalize CJ .u8 (Fy m x.fFrom.toNat) (m.fHeld.getD i 0) = A
   generalize CJ .u8 (m.fHeld.getD i 0) (wI .u8 (B3 .u8 1 (p.fVersions.getD x.fFrom.toNat 0) - 1)) = B
   generalize m.fHeld.getD i 0 = H
   cases Ca x
   ·simp only [Bool.not_false, AK, As]
    by_cases k : H = 0
    ·simp [k, BH]
    ·have : (H != 0) = true := bne_iff_ne.2 k
     simp [k, this, BH]
   ·simp only [Bool.not_true, As, AK]
    by_cases k : A = 0
    ·by_cases k2 : B = 0
     ·simp [k, k2, BH]
     ·have : (B != 0) = true := bne_iff_ne.2 k2
      simp [k, k2, this, BH]
    ·have : (A != 0) = true := bne_iff_ne.2 k
     by_cases k2 : B = 0
     ·simp [k, k2, this, BH]
     ·have h5 : (B != 0) = true := bne_iff_ne.2 k2
      simp [k, h5, BH])
  (fun n => by rw [BL, AD (by omega)]) N 0 (by omega) (by omega)
 simpa using this
theorem Io (N : Nat) (p : Ag) (m : Ae) (hN : N ≤ 1000000) (h : 20 ≤ N) (hw : Mq Jp m.fHeld) : Ek N p m = some (GU p m) := by
 unfold Ek GU
 rw [JV N p hN h]
 simp only [oS, A7]
 by_cases k0 : Cg p = 0
 ·have hp : B9 p := by
   rcases G8 p with h | h
   ·exact h.2
   ·omega
  have hnv := hp.nv
  have hnt := hp.nt
  rw [k0]
  simp only [bne_self_eq_false, As, ne_eq, not_true_eq_false, if_false]
  by_cases k1 : m.fBase.length = p.fVersions.length
  ·by_cases k2 : m.fNext.length = p.fVersions.length
   ·by_cases k3 : m.fHeld.length = p.fTables.length
    ·rw [k1, k2, k3]
     simp only [bne_self_eq_false, As, not_true_eq_false, or_self, if_false]
     rw [NQ N p m hN (by omega) k1 k2]
     cases hs : DY (JL m) 0 p.fVersions with
     | some r => rfl
     | none =>
      simp only [BH]
      rw [PU N p m hN (by omega) hp (N6 k1 k2 k3 hs) hw]
      cases DY (HB p m) 0 p.fTables <;> rfl
    ·have : ((m.fHeld.length : Int) != (p.fTables.length : Int)) = true := bne_iff_ne.2 (by omega)
     rw [this, k1, k2]; simp [k3]
   ·have : ((m.fNext.length : Int) != (p.fVersions.length : Int)) = true := bne_iff_ne.2 (by omega)
    rw [this, k1]; simp [k2]
  ·have : ((m.fBase.length : Int) != (p.fVersions.length : Int)) = true := bne_iff_ne.2 (by omega)
   rw [this]; simp [k1]
 ·rw [bne_iff_ne.2 k0]; simp [k0]
theorem NF (N : Nat) (p : Ag) (m : Ae) (hN : N ≤ 1000000) (h : 20 ≤ N) : DM N p m = some (GU p m) := by
 unfold DM GU
 rw [Mc N p hN h]
 simp only [oS, A7]
 by_cases k0 : Cg p = 0
 ·have hp : B9 p := by
   rcases G8 p with h | h
   ·exact h.2
   ·omega
  have hnv := hp.nv
  have hnt := hp.nt
  rw [k0]
  simp only [bne_self_eq_false, As, ne_eq, not_true_eq_false, if_false]
  by_cases k1 : m.fBase.length = p.fVersions.length
  ·by_cases k2 : m.fNext.length = p.fVersions.length
   ·by_cases k3 : m.fHeld.length = p.fTables.length
    ·rw [k1, k2, k3]
     simp only [bne_self_eq_false, As, not_true_eq_false, or_self, if_false]
     rw [Om N p m hN (by omega) k1 k2]
     cases hs : DY (JL m) 0 p.fVersions with
     | some r => rfl
     | none =>
      simp only [BH]
      rw [PK N p m hN (by omega) hp (N6 k1 k2 k3 hs)]
      cases DY (HB p m) 0 p.fTables <;> rfl
    ·have : ((m.fHeld.length : Int) != (p.fTables.length : Int)) = true := bne_iff_ne.2 (by omega)
     rw [this, k1, k2]; simp [k3]
   ·have : ((m.fNext.length : Int) != (p.fVersions.length : Int)) = true := bne_iff_ne.2 (by omega)
    rw [this, k1]; simp [k2]
  ·have : ((m.fBase.length : Int) != (p.fVersions.length : Int)) = true := bne_iff_ne.2 (by omega)
   rw [this]; simp [k1]
 ·rw [bne_iff_ne.2 k0]; simp [k0]
@[simp] theorem Bj {α β : Type} (k : α) (f : α → β) : A7 k f = f k := rfl
@[simp] theorem RQ {p : Prop} [Decidable p] (h : p) : DB p = some () := by unfold DB; rw [if_pos h]
theorem AI {β : Type} {p : Prop} [Decidable p] (h : p) (f : Unit → Option β) : (DB p).bind f = f () := by rw [RQ h]; rfl
theorem S1 {α : Type} (b : Bool) (x y : Option α) : AT b x y = if b = true then x else y := by cases b <;> rfl
def E0 {α β : Type} (g : Nat → α → List β) : Nat → List α → List β
 | _, [] => []
 | i, x :: xs => g i x ++ E0 g (i + 1) xs
def HT {α A : Type} (f : Nat → α → A → A) : Nat → List α → A → A
 | _, [], a => a
 | i, x :: xs, a => HT f (i + 1) xs (f i x a)
theorem J7 {α β : Type} (g : Nat → α → List β) : ∀ (i : Nat) (xs ys : List α), E0 g i (xs ++ ys) = E0 g i xs ++ E0 g (i + xs.length) ys
 | i, [], ys => by simp [E0]
 | i, x :: xs, ys => by
  rw [List.cons_append, E0, E0, J7 g (i + 1) xs ys, List.append_assoc, List.length_cons, Nat.add_assoc, Nat.add_comm 1]
theorem M1 {α β : Type} {g : Nat → α → List β} {y : β} : ∀ {i : Nat} {xs : List α}, y ∈ E0 g i xs ↔ ∃ j x, xs[j]? = some x ∧ y ∈ g (i + j) x
 | _, [] => by simp [E0]
 | i, x :: xs => by
  rw [E0, List.mem_append, M1]
  constructor
  ·rintro (h | ⟨j, z, hz, h⟩)
   ·exact ⟨0, x, rfl, h⟩
   ·exact ⟨j + 1, z, by simpa using hz, by rwa [show i + (j + 1) = i + 1 + j from by omega]⟩
  ·rintro ⟨j, z, hz, h⟩
   cases j with
   | zero => simp at hz; subst hz; exact .inl h
   | succ j => exact .inr ⟨j, z, by simpa using hz, by rwa [show i + 1 + j = i + (j + 1) from by omega]⟩
theorem Jg {α β : Type} {g : Nat → α → List β} {c : Nat} : ∀ {i : Nat} {xs : List α}, (∀ j x, xs[j]? = some x → (g (i + j) x).length ≤ c) → (E0 g i xs).length ≤ c * xs.length
 | _, [], _ => by simp [E0]
 | i, x :: xs, h => by
  have h1 := h 0 x rfl
  have h2 := Jg (g := g) (c := c) (i := i + 1) (xs := xs) fun j y hy => by
   have := h (j + 1) y (by simpa using hy)
   rwa [show i + (j + 1) = i + 1 + j from by omega] at this
  rw [E0, List.length_append, List.length_cons, Nat.mul_add]
  simp only [Nat.add_zero] at h1
  omega
theorem Jf {α A S R : Type} (L : Nat → S → Option R) (mk : A → Int → S) (xs : List α) (j : A → Option R) (f : Nat → α → A → A) (I : Nat → A → Prop)
  (hs : ∀ (n i : Nat) (x : α) (a : A), xs[i]? = some x → I i a → L (n + 1) (mk a (i : Int)) = L n (mk (f i x a) ((i + 1 : Nat) : Int)) ∧ I (i + 1) (f i x a))
  (he : ∀ (n : Nat) (a : A), I xs.length a → L (n + 1) (mk a (xs.length : Int)) = j a) :
  ∀ (n i : Nat) (a : A), i ≤ xs.length → xs.length - i < n → I i a → L n (mk a (i : Int)) = j (HT f i (xs.drop i) a) ∧ I xs.length (HT f i (xs.drop i) a)
 | 0, i, _, _, h, _ => by omega
 | n + 1, i, a, hi, h, ha => by
  by_cases h1 : i < xs.length
  ·have hx : xs[i]? = some xs[i] := by simp [h1]
   obtain ⟨e1, e2⟩ := hs n i _ a hx ha
   rw [e1, C8 hx, HT]
   exact Jf L mk xs j f I hs he n (i + 1) _ (by omega) (by omega) e2
  ·have : i = xs.length := by omega
   subst this
   rw [List.drop_eq_nil_of_le (Nat.le_refl _), HT]
   exact ⟨he n a ha, ha⟩
theorem LJ {α β : Type} (g : Nat → α → List β) : ∀ (i : Nat) (xs : List α) (acc : List β), HT (fun i x a => a ++ g i x) i xs acc = acc ++ E0 g i xs
 | _, [], acc => by simp [HT, E0]
 | i, x :: xs, acc => by rw [HT, LJ g (i + 1) xs, E0, List.append_assoc]
theorem Ns {α β S R : Type} (L : Nat → S → Option R) (mk : List β → Int → S) (xs : List α) (j : List β → Option R) (g : Nat → α → List β) (c B : Nat)
  (hg : ∀ i x, xs[i]? = some x → (g i x).length ≤ c)
  (hs : ∀ (n i : Nat) (x : α) (a : List β), xs[i]? = some x → a.length + (g i x).length ≤ B → L (n + 1) (mk a (i : Int)) = L n (mk (a ++ g i x) ((i + 1 : Nat) : Int)))
  (he : ∀ (n : Nat) (a : List β), L (n + 1) (mk a (xs.length : Int)) = j a) (n : Nat) (a : List β) (hn : xs.length < n) (ha : a.length + c * xs.length ≤ B) :
  L n (mk a 0) = j (a ++ E0 g 0 xs) := by
 have := Jf L mk xs j (fun i x a => a ++ g i x) (fun i b => i ≤ xs.length ∧ b.length ≤ a.length + c * i)
  (fun n i x b hx hb => by
   have h1 := hg i x hx
   have hi := (lI.1 hx).1
   have h2 : c * (i + 1) ≤ c * xs.length := Nat.mul_le_mul_left c hi
   have h3 : c * (i + 1) = c * i + c := Nat.mul_succ c i
   refine ⟨hs n i x b hx (by have := hb.2; omega), hi, ?_⟩
   rw [List.length_append]
   have := hb.2
   omega)
  (fun n b _ => he n b) n 0 a (Nat.zero_le _) (by omega) ⟨Nat.zero_le _, by omega⟩
 have h2 := this.1
 rw [List.drop_zero, LJ] at h2
 exact h2
def DA (s : Int) (v : Nat) : Bool := s.toNat.testBit v
def II (m : Ae) (s v : Nat) : Bool := decide (m.fBase.getD s 0 = (v : Int)) || decide (m.fNext.getD s 0 = (v : Int))
theorem Tz : ∀ (s : Fin 256) (v : Fin 8), EC .u8 (Dx .u8 (s.val : Int) (v.val : Int)) 1 = if DA (s.val : Int) v.val then 1 else 0 := by decide +kernel
theorem TO {s : Int} {v : Nat} (h0 : 0 ≤ s) (h1 : s ≤ 255) (hv : v < 8) : EC .u8 (Dx .u8 s (v : Int)) 1 = if DA s v then 1 else 0 := by
 obtain ⟨k, rfl⟩ := Int.eq_ofNat_of_zero_le h0
 exact Tz ⟨k, by omega⟩ ⟨v, hv⟩
theorem It {s : Int} {v : Nat} (h1 : s ≤ 255) (hv : 8 ≤ v) : DA s v = false := by
 unfold DA
 apply Nat.testBit_lt_two_pow
 have : (2 : Nat) ^ 8 ≤ 2 ^ v := Nat.pow_le_pow_right (by omega) hv
 omega
theorem Il : ∀ (b : Fin 8) (v : Fin 8), DA (B3 .u8 1 (b.val : Int)) v.val = decide (b.val = v.val) ∧ 0 ≤ B3 .u8 1 (b.val : Int) ∧ B3 .u8 1 (b.val : Int) ≤ 255 := by decide +kernel
theorem Ti : ∀ (b n : Fin 8) (v : Fin 8), DA (Ls .u8 (B3 .u8 1 (b.val : Int)) (B3 .u8 1 (n.val : Int))) v.val = (decide (b.val = v.val) || decide (n.val = v.val))
  ∧ 0 ≤ Ls .u8 (B3 .u8 1 (b.val : Int)) (B3 .u8 1 (n.val : Int)) ∧ Ls .u8 (B3 .u8 1 (b.val : Int)) (B3 .u8 1 (n.val : Int)) ≤ 255 := by decide +kernel
theorem Rv {m : Ae} {s : Nat} (hb0 : 0 ≤ m.fBase.getD s 0) (hb1 : m.fBase.getD s 0 < 8) (hn1 : m.fNext.getD s 0 < 8) :
  (∀ v, DA (Fy m s) v = II m s v) ∧ 0 ≤ Fy m s ∧ Fy m s ≤ 255 := by
 unfold Fy II
 obtain ⟨b, hb⟩ := Int.eq_ofNat_of_zero_le hb0
 rw [hb] at hb1 ⊢
 by_cases h : 0 ≤ m.fNext.getD s 0
 ·obtain ⟨n, hn⟩ := Int.eq_ofNat_of_zero_le h
  rw [hn] at hn1 ⊢
  rw [if_pos (by omega)]
  have h1 := Ti ⟨b, by omega⟩ ⟨n, by omega⟩
  refine ⟨fun v => ?_, (h1 0).2⟩
  by_cases hv : v < 8
  ·rw [(h1 ⟨v, hv⟩).1]
   simp only [Int.ofNat_inj]
  ·rw [It (h1 0).2.2 (by omega)]
   simp; omega
 ·rw [if_neg h]
  have h1 := Il ⟨b, by omega⟩
  refine ⟨fun v => ?_, (h1 0).2⟩
  have h3 : decide (m.fNext.getD s 0 = (v : Int)) = false := decide_eq_false (by omega)
  rw [h3, Bool.or_false]
  by_cases hv : v < 8
  ·rw [(h1 ⟨v, hv⟩).1]
   simp only [Int.ofNat_inj]
  ·rw [It (h1 0).2.2 (by omega)]
   simp; omega
theorem SD {a : Nat} (h : a < 256) : (BitVec.ofInt 8 (a : Int)).toNat = a := by
 simp; omega
theorem Mk {a b : Int} (ha : 0 ≤ a ∧ a ≤ 255) (hb : 0 ≤ b ∧ b ≤ 255) : CJ .u8 a b = 0 ↔ ∀ v, DA a v = true → DA b v = true := by
 obtain ⟨a, rfl⟩ := Int.eq_ofNat_of_zero_le ha.1
 obtain ⟨b, rfl⟩ := Int.eq_ofNat_of_zero_le hb.1
 have hA := SD (a := a) (by omega)
 have hB := SD (a := b) (by omega)
 unfold CJ DA
 simp only [IntKind.bits, Int.toNat_natCast]
 have hx : ∀ x : BitVec 8, wI .u8 (x.toNat : Int) = (x.toNat : Int) := by
  intro x
  have := x.isLt
  simp [wI, IntKind.signed, IntKind.bits]
  omega
 rw [hx]
 constructor
 ·intro h v hv
  have h0 : (BitVec.ofInt 8 (a : Int) &&& ~~~BitVec.ofInt 8 (b : Int)) = (BitVec.ofNat 8 0) := by
   apply BitVec.eq_of_toNat_eq
   simp only [BitVec.toNat_ofNat, Nat.zero_mod]
   exact Int.ofNat_inj.1 h
  by_cases hv8 : v < 8
  ·have h1 : (BitVec.ofInt 8 (a : Int) &&& ~~~BitVec.ofInt 8 (b : Int)).getLsbD v = false := by rw [h0]; simp
   rw [BitVec.getLsbD_and, BitVec.getLsbD_not] at h1
   have e1 : (BitVec.ofInt 8 (a : Int)).getLsbD v = a.testBit v := by unfold BitVec.getLsbD; rw [hA]
   have e2 : (BitVec.ofInt 8 (b : Int)).getLsbD v = b.testBit v := by unfold BitVec.getLsbD; rw [hB]
   rw [e1, e2, hv] at h1
   simpa [hv8] using h1
  ·have := It (s := (a : Int)) (v := v) (by omega) (by omega)
   unfold DA at this
   rw [Int.toNat_natCast, hv] at this
   cases this
 ·intro h
  have h0 : (BitVec.ofInt 8 (a : Int) &&& ~~~BitVec.ofInt 8 (b : Int)) = (BitVec.ofNat 8 0) := by
   apply BitVec.eq_of_getLsbD_eq
   intro i hi
   rw [BitVec.getLsbD_and, BitVec.getLsbD_not]
   have e1 : (BitVec.ofInt 8 (a : Int)).getLsbD i = a.testBit i := by unfold BitVec.getLsbD; rw [hA]
   have e2 : (BitVec.ofInt 8 (b : Int)).getLsbD i = b.testBit i := by unfold BitVec.getLsbD; rw [hB]
   rw [e1, e2]
   have := h i
   cases h3 : a.testBit i
   ·simp
   ·rw [this h3]; simp
  have h2 : ∀ x : BitVec 8, x = (BitVec.ofNat 8 0) → (x.toNat : Int) = 0 := fun x hx => by rw [hx]; rfl
  exact h2 _ h0
theorem TH : ∀ n : Fin 9, (∀ v : Fin 8, DA (wI .u8 (B3 .u8 1 (n.val : Int) - 1)) v.val = decide (v.val < n.val)) ∧ 0 ≤ wI .u8 (B3 .u8 1 (n.val : Int) - 1) ∧ wI .u8 (B3 .u8 1 (n.val : Int) - 1) ≤ 255 := by decide +kernel
theorem SW {n : Int} (h0 : 0 ≤ n) (h1 : n ≤ 8) : (∀ v, DA (wI .u8 (B3 .u8 1 n - 1)) v = decide ((v : Int) < n)) ∧ 0 ≤ wI .u8 (B3 .u8 1 n - 1) ∧ wI .u8 (B3 .u8 1 n - 1) ≤ 255 := by
 obtain ⟨n, rfl⟩ := Int.eq_ofNat_of_zero_le h0
 have h := TH ⟨n, by omega⟩
 refine ⟨fun v => ?_, h.2⟩
 by_cases hv : v < 8
 ·rw [h.1 ⟨v, hv⟩]; simp
 ·rw [It h.2.2 (by omega)]
  symm; apply decide_eq_false; omega
structure Cx (p : Ag) (m : Ae) : Prop extends MixServ p m where
 range : ∀ i, i < p.fTables.length → 0 ≤ m.fHeld.getD i 0 ∧ m.fHeld.getD i 0 ≤ 255
 low : ∀ i t, p.fTables[i]? = some t → Ca t = true → ∀ v, II m t.fFrom.toNat v = true → DA (m.fHeld.getD i 0) v = true
 high : ∀ i t, p.fTables[i]? = some t → Ca t = true → ∀ v, DA (m.fHeld.getD i 0) v = true → (v : Int) < p.fVersions.getD t.fFrom.toNat 0
 none : ∀ i t, p.fTables[i]? = some t → Ca t = false → m.fHeld.getD i 0 = 0
theorem Hj {p : Ag} (hp : B9 p) {i : Nat} (hi : i < p.fVersions.length) : 1 ≤ p.fVersions.getD i 0 ∧ p.fVersions.getD i 0 ≤ 6 := by
 have := KD (i := (i : Int)) hp.ver (by omega) (by omega)
 simpa using this
theorem Kn {p : Ag} {m : Ae} (hp : B9 p) (hm : MixServ p m) {s : Nat} (hs : s < p.fVersions.length) :
  (∀ v, DA (Fy m s) v = II m s v) ∧ 0 ≤ Fy m s ∧ Fy m s ≤ 255 := by
 have h1 := hm.b0 s hs
 have h2 := hm.n0 s hs
 have h3 := Hj hp hs
 exact Rv h1.1 (by omega) (by omega)
theorem Pg {p : Ag} {m : Ae} (hp : B9 p) (hm : MixServ p m) {i : Nat} {t : AO} (ht : p.fTables[i]? = some t) (hr : 0 ≤ m.fHeld.getD i 0 ∧ m.fHeld.getD i 0 ≤ 255) :
  HB p m i t = none ↔ ((Ca t = true → (∀ v, II m t.fFrom.toNat v = true → DA (m.fHeld.getD i 0) v = true) ∧ (∀ v, DA (m.fHeld.getD i 0) v = true → (v : Int) < p.fVersions.getD t.fFrom.toNat 0)) ∧ (Ca t = false → m.fHeld.getD i 0 = 0)) := by
 have hin := Hn (hp.tab t (lM ht))
 have hrun := Kn hp hm (s := t.fFrom.toNat) (by omega)
 have hver := Hj hp (i := t.fFrom.toNat) (by omega)
 have hall := SW (n := p.fVersions.getD t.fFrom.toNat 0) (by omega) (by omega)
 unfold HB TF
 have e1 := Mk hrun.2 hr
 have e2 := Mk hr hall.2
 cases hst : Ca t
 ·simp
 ·simp only [if_true, true_implies, Bool.true_eq_false, false_implies, and_true, ite_eq_right_iff, reduceCtorEq, imp_false, not_or, Decidable.not_not]
  rw [e1, e2]
  simp only [hrun.1, hall.1, decide_eq_true_eq]
theorem O0 {p : Ag} {m : Ae} (hw : Mq Jp m.fHeld) (h : GU p m = 0) : B9 p ∧ Cx p m := by
 unfold GU at h
 split at h
 ·rename_i k; exact (k h).elim
 ·rename_i k0
  have hp : B9 p := by
   rcases G8 p with h | h
   ·exact h.2
   ·omega
  split at h
  ·cases h
  ·rename_i k1
   have b1 : m.fBase.length = p.fVersions.length := Decidable.not_not.1 fun h => k1 (.inl h)
   have b2 : m.fNext.length = p.fVersions.length := Decidable.not_not.1 fun h => k1 (.inr (.inl h))
   have b3 : m.fHeld.length = p.fTables.length := Decidable.not_not.1 fun h => k1 (.inr (.inr h))
   cases hs : DY (JL m) 0 p.fVersions with
   | some r =>
    obtain ⟨j, x, _, he⟩ := Fm hs
    rw [hs] at h
    unfold JL at he
    simp only [BH, Option.getD_some] at h
    split at he
    ·cases he; cases h
    ·split at he
     ·cases he; cases h
     ·cases he
   | none =>
    have hm := N6 b1 b2 b3 hs
    rw [hs] at h
    simp only [BH] at h
    cases ht : DY (HB p m) 0 p.fTables with
    | some r =>
     obtain ⟨j, x, _, he⟩ := Fm ht
     rw [ht] at h
     simp only [Option.getD_some] at h
     subst h
     unfold HB at he
     split at he
     ·split at he <;> cases he
     ·split at he <;> cases he
    | none =>
     have hr : ∀ i, i < p.fTables.length → 0 ≤ m.fHeld.getD i 0 ∧ m.fHeld.getD i 0 ≤ 255 := fun i hi => Hh (OC hw (by omega))
     have key : ∀ i t, p.fTables[i]? = some t → _ := fun i t hi => (Pg hp hm hi (hr i (lI.1 hi).1)).1 (by have := Gx ht i t hi; rwa [Nat.zero_add] at this)
     exact ⟨hp, hm, hr, fun i t hi hst => ((key i t hi).1 hst).1, fun i t hi hst => ((key i t hi).1 hst).2, fun i t hi hst => (key i t hi).2 hst⟩
theorem EH {α R : Type} {f : Nat → α → Option R} : ∀ {i : Nat} {xs : List α}, (∀ j x, xs[j]? = some x → f (i + j) x = none) → DY f i xs = none
 | _, [], _ => rfl
 | i, y :: ys, h => by
  rw [HS, show f i y = none from h 0 y rfl]
  exact EH fun j x hx => by
   have := h (j + 1) x (by simpa using hx)
   rwa [show i + (j + 1) = i + 1 + j from by omega] at this
theorem NO {p : Ag} (hp : B9 p) (hr : ∀ i, i < p.fVersions.length → 0 ≤ p.fNow.getD i 0 ∧ p.fNow.getD i 0 < p.fVersions.getD i 0 ∧ 0 ≤ p.fTarget.getD i 0 ∧ p.fTarget.getD i 0 < p.fVersions.getD i 0) : Cg p = 0 := by
 have := hp.nv
 have := hp.nt
 have := hp.now
 have := hp.tgt
 unfold Cg
 rw [if_neg (by omega), if_neg (by omega)]
 have h1 : DY (EY p) 0 p.fVersions = none := EH fun j x hx => by
  have hj := (lI.1 hx).1
  have h1 := hr j hj
  have h2 := Hj hp hj
  have e : p.fVersions.getD j 0 = x := by rw [lD, hx]; rfl
  rw [e] at h1 h2
  unfold EY
  rw [Nat.zero_add, if_neg (by omega)]
 have h2 : DY (Kb p) 0 p.fTables = none := EH fun j x hx => by
  unfold Kb
  rw [if_pos (hp.tab x (lM hx))]
 rw [h1, h2]; rfl
theorem C6 {p : Ag} (h : Cg p = 0) : B9 p ∧ ∀ i, i < p.fVersions.length → 0 ≤ p.fNow.getD i 0 ∧ p.fNow.getD i 0 < p.fVersions.getD i 0 ∧ 0 ≤ p.fTarget.getD i 0 ∧ p.fTarget.getD i 0 < p.fVersions.getD i 0 := by
 have hp : B9 p := by
  rcases G8 p with h | h
  ·exact h.2
  ·omega
 refine ⟨hp, fun i hi => ?_⟩
 have h1 := hp.nv
 have h2 := hp.nt
 have h3 := hp.now
 have h4 := hp.tgt
 unfold Cg at h
 rw [if_neg (by omega), if_neg (by omega)] at h
 cases hs : DY (EY p) 0 p.fVersions with
 | some r =>
  obtain ⟨j, x, _, he⟩ := Fm hs
  rw [hs] at h
  unfold EY at he
  split at he
  ·cases he; cases h
  ·cases he
 | none =>
  have hx : p.fVersions[i]? = some (p.fVersions.getD i 0) := by rw [lD]; simp [hi]
  have := Gx hs i _ hx
  rw [Nat.zero_add] at this
  unfold EY at this
  split at this
  ·cases this
  ·rename_i hn; omega
theorem Kf {p : Ag} {m : Ae} (hv : Cg p = 0) (hm : Cx p m) : GU p m = 0 := by
 obtain ⟨hp, _⟩ := C6 hv
 unfold GU
 rw [hv, if_neg (by simp), if_neg (by have := hm.base; have := hm.next; have := hm.held; omega)]
 have h1 : DY (JL m) 0 p.fVersions = none := EH fun j x hx => by
  have hj := (lI.1 hx).1
  have e : p.fVersions.getD j 0 = x := by rw [lD, hx]; rfl
  have h1 := hm.b0 j hj
  have h2 := hm.n0 j hj
  have h3 := hm.ne j hj
  rw [e] at h1 h2
  unfold JL
  rw [Nat.zero_add, if_neg (by omega), if_neg h3]
 have h2 : DY (HB p m) 0 p.fTables = none := EH fun j x hx => by
  have hj := (lI.1 hx).1
  rw [Nat.zero_add]
  exact (Pg hp hm.toMixServ hx (hm.range j hj)).2 ⟨fun hst => ⟨hm.low j x hx hst, hm.high j x hx hst⟩, fun hst => hm.none j x hx hst⟩
 rw [h1, h2]; rfl
def hC (m : Ae) (t : AO) (v : Nat) (ok : Bool) : Bool := II m t.fTo.toNat v && ok
structure Ug (p : Ag) (t : AO) : Prop where
 kind : 1 ≤ t.fKind ∧ t.fKind ≤ 4
 aware : t.fAware = true → Ca t = false
 from0 : 0 ≤ t.fFrom ∧ t.fFrom < (p.fVersions.length : Int)
 to0 : 0 ≤ t.fTo ∧ t.fTo < (p.fVersions.length : Int)
 okL : (t.fOK.length : Int) = p.fVersions.getD t.fFrom.toNat 0
 okR : ∀ row, row ∈ t.fOK → (row.length : Int) = p.fVersions.getD t.fTo.toNat 0
 reL : t.fKind = 4 → (t.fRewrite.length : Int) = p.fVersions.getD t.fFrom.toNat 0
 reR : ∀ row, row ∈ t.fRewrite → (row.length : Int) = p.fVersions.getD t.fFrom.toNat 0
 reD : t.fKind = 4 → Hr t.fRewrite = none
 reN : t.fKind ≠ 4 → t.fRewrite = []
theorem Rg {p : Ag} {t : AO} (h : Dq p t = 0) : Ug p t := by
 unfold Dq at h
 split at h
 ·cases h
 rename_i h1
 split at h
 ·cases h
 rename_i h2
 simp only at h
 split at h
 ·cases h
 rename_i h3
 have h3 : sq t.fOK (p.fVersions.getD t.fFrom.toNat 0) (p.fVersions.getD t.fTo.toNat 0) = true := by simpa using h3
 have h3 := Lq h3
 have ha : t.fAware = true → Ca t = false := by
  intro ha
  unfold Ca
  rw [Bool.or_eq_false_iff, beq_eq_false_iff_ne, beq_eq_false_iff_ne]
  exact ⟨fun hk => h1 (.inr (.inr ⟨ha, .inl hk⟩)), fun hk => h1 (.inr (.inr ⟨ha, .inr hk⟩))⟩
 split at h
 ·rename_i h4
  split at h
  ·cases h
  rename_i h5
  have h5 : sq t.fRewrite (p.fVersions.getD t.fFrom.toNat 0) (p.fVersions.getD t.fFrom.toNat 0) = true := by simpa using h5
  have h5 := Lq h5
  refine ⟨by omega, ha, by omega, by omega, h3.1, h3.2, fun _ => h5.1, h5.2, fun _ => ?_, fun h => (h h4).elim⟩
  cases hd : Hr t.fRewrite with
  | none => rfl
  | some r =>
   obtain ⟨j, x, _, hx⟩ := Fm hd
   rw [hd] at h
   split at hx
   ·cases hx
   ·cases hx; cases h
 ·rename_i h4
  split at h
  ·rename_i h5
   have h5 := List.eq_nil_of_length_eq_zero h5
   refine ⟨by omega, ha, by omega, by omega, h3.1, h3.2, fun h => (h4 h).elim, fun row hr => ?_, fun h => (h4 h).elim, fun _ => h5⟩
   rw [h5] at hr; cases hr
  ·cases h
theorem Gi {A S R : Type} (L : Nat → S → Option R) (mk : A → Int → S) (len : Nat) (j : A → Option R) (I : Nat → A → Prop)
  (hs : ∀ (n i : Nat) (a : A), i < len → I i a → ∃ a', L (n + 1) (mk a (i : Int)) = L n (mk a' ((i + 1 : Nat) : Int)) ∧ I (i + 1) a')
  (he : ∀ (n : Nat) (a : A), I len a → L (n + 1) (mk a (len : Int)) = j a) :
  ∀ (n i : Nat) (a : A), i ≤ len → len - i < n → I i a → ∃ a', L n (mk a (i : Int)) = j a' ∧ I len a'
 | 0, i, _, _, h, _ => by omega
 | n + 1, i, a, hi, h, ha => by
  by_cases h1 : i < len
  ·obtain ⟨a', e1, e2⟩ := hs n i a h1 ha
   rw [e1]
   exact Gi L mk len j I hs he n (i + 1) _ (by omega) (by omega) e2
  ·have : i = len := by omega
   subst this
   exact ⟨a, he n a ha, ha⟩
theorem HG {α : Type} {xs ys : List α} {i : Nat} {d : α} (h : i < xs.length) : (xs ++ ys).getD i d = xs.getD i d := by
 rw [lD, lD, List.getElem?_append_left h]
theorem Hz {α : Type} {xs : List α} {y : α} {i : Nat} {d : α} (h : i = xs.length) : (xs ++ [y]).getD i d = y := by
 subst h; rw [lD, List.getElem?_append_right (Nat.le_refl _)]; simp
theorem MB {α : Type} {P : Nat → α → Prop} {xs : List α} {y : α} {d : α} {n : Nat} (hn : xs.length = n) (h : ∀ k, k < n → P k (xs.getD k d)) (hy : P n y) : ∀ k, k < n + 1 → P k ((xs ++ [y]).getD k d) := by
 intro k hk
 by_cases h1 : k < n
 ·rw [HG (by omega)]; exact h k h1
 ·have : k = n := by omega
  subst this
  rw [Hz hn.symm]; exact hy
theorem Qc {l : List Int} (hw : Mq Jp l) (i : Nat) : 0 ≤ l.getD i 0 ∧ l.getD i 0 ≤ 255 := by
 by_cases h : i < l.length
 ·have : l.getD i 0 ∈ l := by rw [lD, List.getElem?_eq_getElem h]; exact List.getElem_mem _
  exact Hh (hw _ this)
 ·rw [lD, List.getElem?_eq_none (by omega)]
  exact ⟨by decide, by decide⟩
theorem Na (N : Nat) {l : List Int} (hw : Mq Jp l) (i : Nat) : Dl N l (i : Int) = some (l.getD i 0) := by
 unfold Dl
 have h2 := Qc hw i
 by_cases h : i < l.length
 ·rw [AF (by omega), Di (d := 0) h]
  simp only [oS]
  rw [Ch (by omega) (by omega)]
 ·rw [AD (by omega), lD, List.getElem?_eq_none (by omega)]; rfl
theorem Gy {a n : Int} (ha : 0 ≤ a) (hn : 0 < n) : 0 ≤ Int.tmod a n ∧ Int.tmod a n < n := ⟨Int.tmod_nonneg n ha, Int.tmod_lt_of_pos a hn⟩
theorem Ur {l : List (List Bool)} {n m : Int} (h1 : (l.length : Int) = n) (h2 : ∀ row, row ∈ l → (row.length : Int) = m) : sq l n m = true := by
 unfold sq
 simp only [Bool.and_eq_true, decide_eq_true_eq, List.all_eq_true]
 exact ⟨h1, h2⟩
theorem UQ {p : Ag} {t : AO} (h : Ug p t) : Dq p t = 0 := by
 have hk := h.kind
 have hf := h.from0
 have ht := h.to0
 unfold Dq
 rw [if_neg, if_neg (by omega)]
 ·simp only [Ur h.okL h.okR]
  rw [if_neg (by simp)]
  by_cases h4 : t.fKind = 4
  ·rw [if_pos h4, Ur (h.reL h4) h.reR, if_neg (by simp), h.reD h4]; rfl
  ·rw [if_neg h4, h.reN h4]; rfl
 ·rintro (h1 | h1 | ⟨h1, h2⟩)
  ·omega
  ·omega
  ·have := h.aware h1
   unfold Ca at this
   rw [Bool.or_eq_false_iff, beq_eq_false_iff_ne, beq_eq_false_iff_ne] at this
   omega
theorem RX (N : Nat) (m bad : Int) (diag : Bool) (i : Nat) (acc : List (List Bool)) {R : Type} (j : List Bool → Option (List (List Bool))) (hN : N ≤ 1000000) (h20 : 20 ≤ N) (hm : 0 ≤ m ∧ m ≤ 6) (hi : i < 6) :
  ∃ row, B5 N m bad diag (acc, (i : Int)) j N ([], 0) = j row ∧ (row.length : Int) = m ∧ (diag = true → (i : Int) < m → row.getD i false = true) := by
 obtain ⟨M, rfl⟩ := Int.eq_ofNat_of_zero_le hm.1
 obtain ⟨row, e, h1, h2⟩ := Gi (A := List Bool) (B5 N (M : Int) bad diag (acc, (i : Int)) j) (fun a k => (a, k)) M j
  (fun k a => a.length = k ∧ ∀ q, q < k → diag = true → q = i → a.getD q false = true)
  (fun n k a hk ha => by
   refine ⟨a ++ [(diag && decide (i = k)) || (Int.tmod (Dx .u16 bad ((3 * i + k : Nat) : Int)) 2 == 0)], ?_, by simp [ha.1], MB (P := fun q y => diag = true → q = i → y = true) ha.1 ha.2 (fun h1 h2 => by simp [h1, h2])⟩
   rw [B5]
   simp only [Bj]
   rw [AF (by omega), A2 (by omega), Ch (n := 3 * (i : Int)) (by omega) (by omega), Ch (n := 3 * (i : Int) + (k : Int)) (by omega) (by omega)]
   have l1 : ∀ y : Bool, a.length + ([y] : List Bool).length ≤ D2 := by intro y; rw [ha.1]; unfold D2; simp; omega
   simp only [AI (l1 _), AI (show (0 : Int) ≤ 3 * (i : Int) + (k : Int) by omega)]
   have e1 : ((3 * i + k : Nat) : Int) = 3 * (i : Int) + (k : Int) := by omega
   rw [e1]
   have e2 : (((i : Nat) : Int) == ((k : Nat) : Int)) = decide (i = k) := by
    by_cases h : i = k
    ·simp [h]
    ·rw [decide_eq_false h]; exact beq_eq_false_iff_ne.2 (by omega)
   rw [e2]
   cases diag <;> cases decide (i = k) <;> rfl)
  (fun n a _ => by
   rw [B5]
   simp only [Bj]
   rw [AD (by omega)]) N 0 [] (Nat.zero_le _) (by omega) ⟨rfl, fun q hq => by omega⟩
 exact ⟨row, e, by omega, fun hd hlt => h2 i (by omega) hd rfl⟩
theorem Qb (N : Nat) (n m bad : Int) (diag : Bool) (hN : N ≤ 1000000) (h20 : 20 ≤ N) (hn : 0 ≤ n ∧ n ≤ 6) (hm : 0 ≤ m ∧ m ≤ 6) :
  ∃ l, Dm N n m bad diag = some l ∧ (l.length : Int) = n ∧ (∀ row, row ∈ l → (row.length : Int) = m) ∧ (diag = true → n = m → Hr l = none) := by
 obtain ⟨M, rfl⟩ := Int.eq_ofNat_of_zero_le hn.1
 unfold Dm
 obtain ⟨l, e, h1, h2⟩ := Gi (A := List (List Bool)) (B2 N (M : Int) m bad diag (fun v => some v)) (fun a k => (a, k)) M some
  (fun k a => a.length = k ∧ ∀ q, q < k → (((a.getD q []).length : Nat) : Int) = m ∧ (diag = true → (q : Int) < m → (a.getD q []).getD q false = true))
  (fun n k a hk ha => by
   obtain ⟨row, e, h1, h2⟩ := RX (R := Unit) N m bad diag k a (fun (v5 : List Bool) =>
    (DB (a.length + (([v5] : List (List Bool))).length ≤ D2)).bind fun _ =>
    B2 N (M : Int) m bad diag (fun v => some v) n (a ++ (([v5] : List (List Bool))), (wI .i64 ((k : Int) + 1)))) hN h20 hm (by omega)
   refine ⟨a ++ [row], ?_, by simp [ha.1], MB (P := fun q y => ((y.length : Nat) : Int) = m ∧ (diag = true → (q : Int) < m → y.getD q false = true)) ha.1 ha.2 ⟨h1, h2⟩⟩
   rw [B2]
   simp only [Bj]
   rw [AF (by omega), e, AI (by rw [ha.1]; unfold D2; simp; omega), A2 (by omega)])
  (fun n a _ => by
   rw [B2]
   simp only [Bj]
   rw [AD (by omega)]) N 0 [] (Nat.zero_le _) (by omega) ⟨rfl, fun q hq => by omega⟩
 have key : ∀ q row, l[q]? = some row → l.getD q [] = row := fun q row hq => by rw [lD, hq]; rfl
 refine ⟨l, e, by omega, fun row hr => ?_, fun hd hnm => ?_⟩
 ·obtain ⟨q, hq⟩ := List.mem_iff_getElem?.1 hr
  have := (h2 q (by have := (lI.1 hq).1; omega)).1
  rwa [key q row hq] at this
 ·unfold Hr
  refine EH fun q row hq => ?_
  have hlt := (lI.1 hq).1
  have := (h2 q (by omega)).2 hd (by omega)
  rw [key q row hq] at this
  rw [Nat.zero_add, this]; rfl
structure Uq (p : Ag) : Prop where
 valid : Cg p = 0
 nv : p.fVersions.length ≤ 3
 nt : p.fTables.length ≤ 4
 v3 : ∀ v, v ∈ p.fVersions → v ≤ 3
theorem QM {p q : Ag} (h : p.fVersions = q.fVersions) (t : AO) : Dq p t = Dq q t := by
 unfold Dq; rw [h]
theorem WP (N : Nat) (d : Cd) (hN : N ≤ 1000000) (h20 : 20 ≤ N) (hw : E2 d) : ∃ p ok, Em N d = some (p, ok) ∧ (ok = true → Uq p) := by
 obtain ⟨w1, w2, w3, w4, _⟩ := hw
 unfold Em
 simp only [Bj]
 by_cases k1 : 3 < d.fVersions.length
 ·rw [AF (by omega)]; exact ⟨_, false, rfl, fun h => by cases h⟩
 by_cases k2 : 4 < d.fLinks.length
 ·rw [AD (by omega), decide_eq_true (by omega : (4 : Int) < (d.fLinks.length : Int))]; exact ⟨_, false, rfl, fun h => by cases h⟩
 rw [AD (by omega), decide_eq_false (by omega : ¬ (4 : Int) < (d.fLinks.length : Int)), As]
 obtain ⟨⟨vs, ns, ts⟩, e, h1, h2, h3, h4⟩ := Gi (A := List Int × List Int × List Int) (Cj N d fun v5 => Bq N d v5 (fun v16 => some (Ag.mk v5.1 v5.2.1 v5.2.2 v16, true)) N ([], 0)) (fun a k => (a.1, a.2.1, a.2.2, k)) d.fVersions.length
  (fun v5 => Bq N d v5 (fun v16 => some (Ag.mk v5.1 v5.2.1 v5.2.2 v16, true)) N ([], 0))
  (fun i a => a.1.length = i ∧ a.2.1.length = i ∧ a.2.2.length = i ∧ (∀ k, k < i → (1 ≤ a.1.getD k 0 ∧ a.1.getD k 0 ≤ 3) ∧ (0 ≤ a.2.1.getD k 0 ∧ a.2.1.getD k 0 < a.1.getD k 0) ∧ (0 ≤ a.2.2.getD k 0 ∧ a.2.2.getD k 0 < a.1.getD k 0)))
  (fun n i a hi ha => by
   obtain ⟨vs, ns, ts⟩ := a
   obtain ⟨h1, h2, h3, h4⟩ := ha
   simp only at h1 h2 h3 h4
   have hv := Qc w1 i
   have hb := Qc w2 i
   have hk := Qc w3 i
   have hm := Gy (n := 3) hv.1 (by omega)
   obtain ⟨v, hvd⟩ : ∃ v, v = 1 + Int.tmod (d.fVersions.getD i 0) 3 := ⟨_, rfl⟩
   have m1 := Gy (n := v) hb.1 (by omega)
   have m2 := Gy (n := v) hk.1 (by omega)
   refine ⟨(vs ++ [v], ns ++ [Int.tmod (d.fNow.getD i 0) v], ts ++ [Int.tmod (d.fTarget.getD i 0) v]), ?_, by simp [h1], by simp [h2], by simp [h3], ?_⟩
   ·rw [Cj]
    simp only [Bj]
    rw [AF (by omega), Di (d := 0) hi, Na N w2, Na N w3]
    simp only [oS]
    rw [Ch (n := Int.tmod _ _) (by omega) (by omega), Ch (n := 1 + _) (by omega) (by omega), ← hvd, A2 (by omega)]
    have l1 : ∀ y : Int, vs.length + ([y] : List Int).length ≤ D2 := by intro y; rw [h1]; unfold D2; simp; omega
    have l2 : ∀ y : Int, ns.length + ([y] : List Int).length ≤ D2 := by intro y; rw [h2]; unfold D2; simp; omega
    have l3 : ∀ y : Int, ts.length + ([y] : List Int).length ≤ D2 := by intro y; rw [h3]; unfold D2; simp; omega
    simp only [AI (l1 _), AI (l2 _), AI (l3 _), AI (show v ≠ 0 by omega)]
   ·intro k hk
    simp only
    by_cases hki : k < i
    ·rw [HG (by omega), HG (by omega), HG (by omega)]; exact h4 k hki
    ·have : k = i := by omega
     subst this
     rw [Hz h1.symm, Hz h2.symm, Hz h3.symm]
     omega)
  (fun n a _ => by
   rw [Cj]
   simp only [Bj]
   rw [AD (by omega)]) N 0 ([], [], []) (Nat.zero_le _) (by omega) ⟨rfl, rfl, rfl, fun k hk => by omega⟩
 simp only at h1 h2 h3 h4
 have e' : Cj N d (fun v5 => Bq N d v5 (fun v16 => some (Ag.mk v5.1 v5.2.1 v5.2.2 v16, true)) N ([], 0)) N ([], [], [], 0) = _ := e
 rw [e']
 have hvs : ∀ v, v ∈ vs → 1 ≤ v ∧ v ≤ 3 := by
  intro v hv
  obtain ⟨q, hq⟩ := List.mem_iff_getElem?.1 hv
  have := (h4 q (by have := (lI.1 hq).1; omega)).1
  rwa [lD, hq] at this
 have fin : ∀ tabs : List AO, tabs.length ≤ 4 → (∀ t, t ∈ tabs → Dq ⟨vs, ns, ts, []⟩ t = 0) → Uq ⟨vs, ns, ts, tabs⟩ := by
  intro tabs ht h
  have hp : B9 ⟨vs, ns, ts, tabs⟩ := ⟨show vs.length ≤ 6 by omega, show tabs.length ≤ 12 by omega, show ns.length = vs.length by omega, show ts.length = vs.length by omega, fun v hv => by have := hvs v hv; omega, fun t ht => by rw [← h t ht]; exact QM rfl t⟩
  exact ⟨NO hp fun i hi => by have := h4 i (by have : i < vs.length := hi; omega); simp only; omega, show vs.length ≤ 3 by omega, ht, fun v hv => (hvs v hv).2⟩
 by_cases k3 : vs.length = 0
 ·refine ⟨_, true, ?_, fun _ => fin [] (by simp) (fun t ht => by cases ht)⟩
  obtain ⟨M, rfl⟩ : ∃ M, N = M + 1 := ⟨N - 1, by omega⟩
  rw [Bq]
  simp only [Bj]
  rw [k3]
  by_cases k4 : (0 : Int) < (d.fLinks.length : Int)
  ·rw [AF k4]; rfl
  ·rw [AD k4]; rfl
 obtain ⟨tabs, e2, g1, g2⟩ := Gi (A := List AO) (Bq N d (vs, ns, ts) (fun v16 => some (Ag.mk vs ns ts v16, true))) (fun a k => (a, k)) d.fLinks.length (fun v16 => some (Ag.mk vs ns ts v16, true))
  (fun i a => a.length = i ∧ ∀ t, t ∈ a → Dq ⟨vs, ns, ts, []⟩ t = 0)
  (fun n i a hi ha => by
   have hx : d.fLinks[i]? = some d.fLinks[i] := by simp [hi]
   generalize d.fLinks[i] = l at hx
   obtain ⟨u1, u2, u3, _, u5, u6, _⟩ := w4 l (lM hx)
   have u1 := Hh u1
   have u2 := Hh u2
   have u3 := Hh u3
   have mk := Gy (n := 4) u1.1 (by omega)
   have hL : (0 : Int) < (vs.length : Int) := by omega
   have mf := Gy (n := (vs.length : Int)) u2.1 hL
   have mt := Gy (n := (vs.length : Int)) u3.1 hL
   rw [Bq]
   simp only [Bj]
   rw [AF (by omega), decide_eq_true hL, AK, Bi, hx]
   simp only [oS]
   rw [AI (by omega), AI (by omega), Ch (n := l.fFrom) (by omega) (by omega), Ch (n := l.fTo) (by omega) (by omega), Ch (n := Int.tmod l.fKind 4) (by omega) (by omega), Ch (n := 1 + _) (by omega) (by omega), A2 (by omega)]
   simp only [KM, oS]
   rw [Ev (d := 0) mf.1 mf.2, Ev (d := 0) mt.1 mt.2]
   simp only [oS]
   have hA : ∀ q : Int, 0 ≤ q → q < (vs.length : Int) → 1 ≤ vs.getD q.toNat 0 ∧ vs.getD q.toNat 0 ≤ 3 := fun q h0 h1 => (h4 q.toNat (by omega)).1
   have hf := hA _ mf.1 mf.2
   have ht := hA _ mt.1 mt.2
   obtain ⟨A, eA, a1, a2, _⟩ := Qb N (vs.getD (Int.tmod l.fFrom (vs.length : Int)).toNat 0) (vs.getD (Int.tmod l.fTo (vs.length : Int)).toNat 0) l.fBad false hN h20 (by omega) (by omega)
   obtain ⟨B, eB, b1, b2, b3⟩ := Qb N (vs.getD (Int.tmod l.fFrom (vs.length : Int)).toNat 0) (vs.getD (Int.tmod l.fFrom (vs.length : Int)).toNat 0) l.fLost true hN h20 (by omega) (by omega)
   rw [eA, eB]
   simp only [oS]
   have l1 : ∀ y : AO, a.length + ([y] : List AO).length ≤ D2 := by intro y; rw [ha.1]; unfold D2; simp; omega
   simp only [AI (l1 _)]
   obtain ⟨kd, hkd⟩ : ∃ kd, kd = 1 + Int.tmod l.fKind 4 := ⟨_, rfl⟩
   rw [← hkd]
   have fin2 : ∀ (aw : Bool) (re : List (List Bool)), (aw = true → (kd == 3 || kd == 4) = false) → ((kd = 4 → re = B) ∧ (kd ≠ 4 → re = [])) →
     Dq ⟨vs, ns, ts, []⟩ (AO.mk kd (Int.tmod l.fFrom (vs.length : Int)) (Int.tmod l.fTo (vs.length : Int)) aw A re) = 0 := by
    intro aw re haw hre
    refine UQ ⟨show 1 ≤ kd ∧ kd ≤ 4 by omega, haw, mf, mt, a1, a2, fun h => by rw [hre.1 h]; exact b1, fun row hr => ?_, fun h => by rw [hre.1 h]; exact b3 rfl rfl, fun h => hre.2 h⟩
    by_cases h4 : kd = 4
    ·simp only at hr; rw [hre.1 h4] at hr; exact b2 row hr
    ·simp only at hr; rw [hre.2 h4] at hr; cases hr
   have app : ∀ t, Dq ⟨vs, ns, ts, []⟩ t = 0 → (a ++ [t]).length = i + 1 ∧ ∀ t', t' ∈ a ++ [t] → Dq ⟨vs, ns, ts, []⟩ t' = 0 := by
    intro t ht
    refine ⟨by simp [ha.1], fun t' ht' => ?_⟩
    rcases List.mem_append.1 ht' with h | h
    ·exact ha.2 t' h
    ·rw [List.mem_singleton.1 h]; exact ht
   by_cases h4 : kd = 4
   ·have e4 : (kd == 4) = true := beq_iff_eq.2 h4
    have hre : (kd = 4 → B = B) ∧ (kd ≠ 4 → B = []) := ⟨fun _ => rfl, fun h => (h h4).elim⟩
    rw [e4]
    simp only [AK, Bool.or_true, Bool.not_true]
    cases l.fAware
    ·exact ⟨_, rfl, app _ (fin2 false B (fun h => by cases h) hre)⟩
    ·exact ⟨_, rfl, app _ (fin2 false B (fun h => by cases h) hre)⟩
   ·have e4 : (kd == 4) = false := beq_eq_false_iff_ne.2 h4
    have hre : (kd = 4 → ([] : List (List Bool)) = B) ∧ (kd ≠ 4 → ([] : List (List Bool)) = []) := ⟨fun h => (h4 h).elim, fun _ => rfl⟩
    rw [e4]
    simp only [As, Bool.or_false]
    cases l.fAware
    ·exact ⟨_, rfl, app _ (fin2 false [] (fun h => by cases h) hre)⟩
    ·cases e3 : kd == 3
     ·exact ⟨_, rfl, app _ (fin2 true [] (fun _ => by rw [e3, e4]; rfl) hre)⟩
     ·exact ⟨_, rfl, app _ (fin2 false [] (fun h => by cases h) hre)⟩)
  (fun n a _ => by
   rw [Bq]
   simp only [Bj]
   rw [AD (by omega), As]) N 0 [] (Nat.zero_le _) (by omega) ⟨rfl, fun t ht => by cases ht⟩
 exact ⟨_, true, e2, fun _ => fin tabs (by omega) g2⟩
def HZ : List Int → Nat → Nat
 | [], _ => 0
 | _, 0 => 0
 | n :: ns, q + 1 => (if 0 ≤ n then 1 else 0) + HZ ns q
theorem IX (l : List Int) : HZ l 0 = 0 := by cases l <;> rfl
theorem Hs : ∀ (l : List Int) (q : Nat), q < l.length → HZ l (q + 1) = HZ l q + if 0 ≤ l.getD q 0 then 1 else 0
 | [], q, h => by simp at h
 | n :: ns, 0, _ => by simp [HZ, IX]
 | n :: ns, q + 1, h => by
  rw [HZ, Hs ns q (by simpa using h), HZ, List.getD_cons_succ, Nat.add_assoc]
theorem Ms (l : List Int) {a b : Nat} (h : a ≤ b) (hb : b ≤ l.length) : HZ l a ≤ HZ l b := by
 induction b with
 | zero => rw [Nat.le_zero.1 h]; exact Nat.le_refl _
 | succ b ih =>
  by_cases h1 : a = b + 1
  ·rw [h1]; exact Nat.le_refl _
  ·have := ih (by omega) (by omega)
   rw [Hs l b (by omega)]; omega
theorem Mm (l : List Int) : ∀ q, q ≤ l.length → HZ l q ≤ q
 | 0, _ => by rw [IX]; exact Nat.le_refl _
 | q + 1, h => by
  have := Mm l q (by omega)
  rw [Hs l q h]
  split <;> omega
def NU (l : List Int) (k q : Nat) : Int := if 0 ≤ l.getD q 0 ∧ k.testBit (HZ l q) = true then -1 else l.getD q 0
def ST (l : List Int) (k : Nat) : List Int := (List.range l.length).map (NU l k)
def WA (m : Ae) (k : Nat) : Ae := ⟨m.fBase, ST m.fNext k, m.fHeld⟩
def GE (m : Ae) : List Ae := (List.range (2 ^ HZ m.fNext m.fNext.length)).map (WA m)
theorem Lt (l : List Int) (k : Nat) : (ST l k).length = l.length := by simp [ST]
theorem Pv (l : List Int) (k q : Nat) (h : q < l.length) : (ST l k).getD q 0 = NU l k q := by
 unfold ST; rw [lD, List.getElem?_map, List.getElem?_range h]; rfl
theorem Jy {l1 l2 : List Int} (h1 : l1.length = l2.length) (h : ∀ q, q < l1.length → l1.getD q 0 = l2.getD q 0) : l1 = l2 := by
 apply List.ext_getElem h1
 intro q h2 h3
 have := h q h2
 rw [lD, lD, List.getElem?_eq_getElem h2, List.getElem?_eq_getElem h3] at this
 exact this
theorem SX : ∀ (k : Fin 64) (b : Fin 7), EC .i64 (Dx .i64 (k.val : Int) (b.val : Int)) 1 = (if k.val.testBit b.val then 1 else 0) ∧ Int.tmod (Dx .i64 (k.val : Int) (b.val : Int)) 2 = (if k.val.testBit b.val then 1 else 0) := by decide +kernel
theorem T1 : ∀ n : Fin 7, B3 .i64 1 (n.val : Int) = ((2 ^ n.val : Nat) : Int) := by decide +kernel
structure Ia (m x : Ae) : Prop where
 base : x.fBase = m.fBase
 held : x.fHeld = m.fHeld
 len : x.fNext.length = m.fNext.length
 next : ∀ q, q < m.fNext.length → x.fNext.getD q 0 = m.fNext.getD q 0 ∨ (0 ≤ m.fNext.getD q 0 ∧ x.fNext.getD q 0 = -1)
theorem Ia.refl (m : Ae) : Ia m m := ⟨rfl, rfl, rfl, fun _ _ => .inl rfl⟩
theorem Ia.trans {a b c : Ae} (h1 : Ia a b) (h2 : Ia b c) : Ia a c :=
 ⟨h2.base.trans h1.base, h2.held.trans h1.held, h2.len.trans h1.len, fun q hq => by
  have e1 := h1.next q hq
  have e2 := h2.next q (by rw [h1.len]; exact hq)
  omega⟩
theorem RC (m : Ae) (k : Nat) : Ia m (WA m k) :=
 ⟨rfl, rfl, Lt _ _, fun q hq => by
  show (ST m.fNext k).getD q 0 = _ ∨ _ ∧ (ST m.fNext k).getD q 0 = _
  rw [Pv _ _ _ hq]; unfold NU
  split
  ·rename_i h; exact .inr ⟨h.1, rfl⟩
  ·exact .inl rfl⟩
theorem P6 : ∀ (l x : List Int), x.length = l.length → (∀ q, q < l.length → x.getD q 0 = l.getD q 0 ∨ (0 ≤ l.getD q 0 ∧ x.getD q 0 = -1)) → ∃ k, k < 2 ^ HZ l l.length ∧ ∀ q, q < l.length → x.getD q 0 = NU l k q
 | [], x, h, _ => ⟨0, by simp [HZ], fun q hq => by simp at hq⟩
 | n :: ns, [], h, _ => by simp at h
 | n :: ns, y :: ys, h, hq => by
  obtain ⟨k, hk, hk2⟩ := P6 ns ys (by simpa using h) (fun q hq' => by have := hq (q + 1) (by simpa using hq'); simpa using this)
  have h0 := hq 0 (by simp)
  simp only [List.getD_cons_zero] at h0
  by_cases hn : 0 ≤ n
  ·refine ⟨2 * k + if y = n then 0 else 1, ?_, ?_⟩
   ·rw [List.length_cons, HZ, if_pos hn, Nat.pow_add]
    split <;> omega
   ·intro q hq'
    cases q with
    | zero =>
     simp only [List.getD_cons_zero, NU, IX]
     by_cases hy : y = n
     ·simp [hy]
     ·rw [if_neg hy, if_pos ⟨hn, by simp⟩]; omega
    | succ q =>
     have := hk2 q (by simpa using hq')
     simp only [List.getD_cons_succ, NU, HZ, if_pos hn] at this ⊢
     rw [this, Nat.add_comm 1, Nat.testBit_succ]
     have : (2 * k + if y = n then 0 else 1) / 2 = k := by split <;> omega
     rw [this]
  ·refine ⟨k, ?_, ?_⟩
   ·rw [List.length_cons, HZ, if_neg hn, Nat.zero_add]; exact hk
   ·intro q hq'
    cases q with
    | zero =>
     simp only [List.getD_cons_zero, NU, IX]
     rw [if_neg (fun h => hn h.1)]
     omega
    | succ q =>
     have := hk2 q (by simpa using hq')
     simp only [List.getD_cons_succ, NU, HZ, if_neg hn, Nat.zero_add] at this ⊢
     exact this
theorem Ir {m x : Ae} : x ∈ GE m ↔ Ia m x := by
 unfold GE
 rw [List.mem_map]
 constructor
 ·rintro ⟨k, _, rfl⟩; exact RC m k
 ·intro h
  obtain ⟨k, hk, hq⟩ := P6 m.fNext x.fNext h.len h.next
  refine ⟨k, List.mem_range.2 hk, ?_⟩
  have : ST m.fNext k = x.fNext := Jy (by rw [Lt, h.len]) fun q hq' => by
   rw [Lt] at hq'
   rw [Pv _ _ _ hq', hq q hq']
  unfold WA
  rw [this, ← h.base, ← h.held]
theorem UL {m x : Ae} (h : Ia m x) {s : Nat} (hs : s < m.fNext.length) {v : Nat} (hv : II x s v = true) : II m s v = true := by
 unfold II at hv ⊢
 rw [h.base] at hv
 have := h.next s hs
 simp only [Bool.or_eq_true, decide_eq_true_eq] at hv ⊢
 omega
theorem Uf {p : Ag} {m x : Ae} (hp : B9 p) (hm : Cx p m) (h : Ia m x) : Cx p x := by
 refine ⟨⟨by rw [h.base]; exact hm.base, by rw [h.len]; exact hm.next, by rw [h.held]; exact hm.held, fun i hi => by rw [h.base]; exact hm.b0 i hi, fun i hi => ?_, fun i hi => ?_⟩, fun i hi => by rw [h.held]; exact hm.range i hi, fun i t ht hs v hv => ?_, fun i t ht hs v hv => ?_, fun i t ht hs => by rw [h.held]; exact hm.none i t ht hs⟩
 ·have h1 := hm.n0 i hi
  have h2 := h.next i (by rw [hm.next]; exact hi)
  have h3 := Hj hp hi
  omega
 ·have h1 := hm.ne i hi
  have h2 := h.next i (by rw [hm.next]; exact hi)
  have h3 := hm.b0 i hi
  rw [h.base]
  omega
 ·have hin := (Rg (hp.tab t (lM ht))).from0
  rw [h.held]
  exact hm.low i t ht hs v (UL h (by rw [hm.next]; omega) hv)
 ·rw [h.held] at hv
  exact hm.high i t ht hs v hv
theorem HV (N : Nat) (l : List Int) (h : l.length ≤ D2) : BA N l = some l := by
 unfold BA
 rw [AI (by simpa using h)]; rfl
theorem Nf (N : Nat) (l : List Int) (h : l.length ≤ D2) : BF N l = some l := by
 unfold BF
 rw [AI (by simpa using h)]; rfl
theorem H1 {l : List Int} {i q : Nat} {y : Int} (hi : i < l.length) : (l.set i y).getD q 0 = if q = i then y else l.getD q 0 := by
 rw [lD, lD, List.getElem?_set]
 by_cases h : i = q
 ·subst h; simp [hi]
 ·rw [if_neg h, if_neg (fun e => h e.symm)]
theorem TM {l : List Int} {a b : Nat} (ha : a < l.length) (hb : b < l.length) (h1 : 0 ≤ l.getD a 0) (h2 : 0 ≤ l.getD b 0) (h : HZ l a = HZ l b) : a = b := by
 rcases Nat.lt_trichotomy a b with h3 | h3 | h3
 ·have := Ms l (a := a + 1) (b := b) h3 (by omega)
  rw [Hs l a ha, if_pos h1] at this; omega
 ·exact h3
 ·have := Ms l (a := b + 1) (b := a) h3 (by omega)
  rw [Hs l b hb, if_pos h2] at this; omega
structure Rs (l : List Int) (o : List Int) : Prop where
 len : o.length = HZ l l.length
 at_ : ∀ b, b < o.length → ∃ i : Nat, o.getD b 0 = (i : Int) ∧ i < l.length ∧ 0 ≤ l.getD i 0 ∧ HZ l i = b
theorem OP (N : Nat) (l o : List Int) (k : Nat) (acc : List Ae) (hN : N ≤ 1000000) (h20 : 20 ≤ N) (hl : l.length ≤ 6) (ho : Rs l o) (hk : k < 64) (j : List Int → Option (List Ae × Int)) :
  Cy N o (acc, (k : Int)) j N (l, 0) = j (ST l k) := by
 have hol := Mm l l.length (Nat.le_refl _)
 have hoL := ho.len
 obtain ⟨x, e, h1, h2⟩ := Gi (A := List Int) (Cy N o (acc, (k : Int)) j) (fun a k => (a, k)) o.length j
  (fun b a => a.length = l.length ∧ ∀ q, q < l.length → a.getD q 0 = if 0 ≤ l.getD q 0 ∧ HZ l q < b ∧ k.testBit (HZ l q) = true then -1 else l.getD q 0)
  (fun n b a hb ha => by
   obtain ⟨i, hi1, hi2, hi3, hi4⟩ := ho.at_ b hb
   have hbit := SX ⟨k, hk⟩ ⟨b, by omega⟩
   rw [Cy]
   simp only [Bj]
   rw [AF (by omega), Di (d := 0) hb]
   simp only [oS]
   rw [AI (by omega), hi1, hbit.1, Di (d := 0) (show i < a.length by rw [ha.1]; exact hi2), A2 (by omega)]
   simp only [oS, Int.toNat_natCast]
   cases hkb : k.testBit b
   ·refine ⟨a, rfl, ha.1, fun q hq => ?_⟩
    rw [ha.2 q hq]
    by_cases hqb : HZ l q = b
    ·rw [hqb, hkb]; simp
    ·by_cases h3 : HZ l q < b
     ·have : HZ l q < b + 1 := by omega
      simp [h3, this]
     ·have : ¬ HZ l q < b + 1 := by omega
      simp [h3, this]
   ·refine ⟨a.set i (-1), rfl, by simp [ha.1], fun q hq => ?_⟩
    rw [H1 (by rw [ha.1]; exact hi2), ha.2 q hq]
    by_cases hqi : q = i
    ·subst hqi
     rw [if_pos rfl, if_pos ⟨hi3, by omega, by rw [hi4]; exact hkb⟩]
    ·rw [if_neg hqi]
     by_cases h0 : 0 ≤ l.getD q 0
     ·have hne : HZ l q ≠ b := fun h => hqi (TM hq hi2 h0 hi3 (by omega))
      by_cases h3 : HZ l q < b
      ·have : HZ l q < b + 1 := by omega
       simp [h3, this]
      ·have : ¬ HZ l q < b + 1 := by omega
       simp [h3, this]
     ·rw [if_neg (fun h => h0 h.1), if_neg (fun h => h0 h.1)])
  (fun n a _ => by
   rw [Cy]
   simp only [Bj]
   rw [AD (by omega)]) N 0 l (Nat.zero_le _) (by omega) ⟨rfl, fun q hq => by simp⟩
 have e' : Cy N o (acc, (k : Int)) j N (l, 0) = j x := e
 rw [e']
 congr 1
 refine Jy (by rw [Lt, h1]) fun q hq => ?_
 rw [h1] at hq
 rw [h2 q hq, Pv _ _ _ hq, NU]
 by_cases h0 : 0 ≤ l.getD q 0
 ·have h3 := Ms l (a := q + 1) (b := l.length) hq (Nat.le_refl _)
  rw [Hs l q hq, if_pos h0] at h3
  have : HZ l q < o.length := by omega
  simp [this]
 ·rw [if_neg (fun h => h0 h.1), if_neg (fun h => h0 h.1)]
theorem Sq (N : Nat) (m : Ae) (hN : N ≤ 1000000) (h20 : 20 ≤ N) (hl : m.fNext.length ≤ 6) (j : List Int → Option (List Ae × Int)) :
  ∃ o, Da N m j N ([], 0) = j o ∧ Rs m.fNext o := by
 obtain ⟨o, e, h1, h2⟩ := Gi (A := List Int) (Da N m j) (fun a k => (a, k)) m.fNext.length j
  (fun i o => o.length = HZ m.fNext i ∧ ∀ b, b < o.length → ∃ q : Nat, o.getD b 0 = (q : Int) ∧ q < m.fNext.length ∧ 0 ≤ m.fNext.getD q 0 ∧ HZ m.fNext q = b)
  (fun n i o hi ho => by
   have hple := Mm m.fNext i (by omega)
   have hs := Hs m.fNext i hi
   rw [Da]
   simp only [Bj]
   rw [AF (by omega), Di (d := 0) hi]
   simp only [oS]
   rw [A2 (by omega)]
   by_cases h0 : 0 ≤ m.fNext.getD i 0
   ·rw [AF h0, AI (by rw [ho.1]; unfold D2; simp; omega)]
    refine ⟨o ++ [(i : Int)], rfl, by rw [hs, if_pos h0, ← ho.1]; simp, ?_⟩
    rw [List.length_append]
    exact MB (P := fun b y => ∃ q : Nat, y = (q : Int) ∧ q < m.fNext.length ∧ 0 ≤ m.fNext.getD q 0 ∧ HZ m.fNext q = b) rfl ho.2 ⟨i, rfl, hi, h0, ho.1.symm⟩
   ·rw [AD h0]
    exact ⟨o, rfl, by rw [hs, if_neg h0, ho.1]; rfl, ho.2⟩)
  (fun n a _ => by
   rw [Da]
   simp only [Bj]
   rw [AD (by omega)]) N 0 [] (Nat.zero_le _) (by omega) ⟨(IX _).symm, fun b hb => by simp at hb⟩
 exact ⟨o, e, h1, h2⟩
theorem LS {n : Nat} (h : n ≤ 6) : 2 ^ n ≤ 64 := Nat.pow_le_pow_right (n := 2) (by omega) h
theorem Qp {n : Nat} (h : n ≤ 6) : B3 .i64 1 (n : Int) = ((2 ^ n : Nat) : Int) := T1 ⟨n, by omega⟩
theorem Mi {β : Type} (f : Nat → β) (n : Nat) : (List.range (n + 1)).map f = (List.range n).map f ++ [f n] := by
 rw [List.range_succ, List.map_append]; rfl
theorem MQ (N : Nat) (p : Ag) (m : Ae) (hN : N ≤ 1000000) (h20 : 100 ≤ N) (hw : Mq Jp m.fHeld) (hv : GU p m = 0) : ET N p m = some (GE m, 0) := by
 obtain ⟨hp, hm⟩ := O0 hw hv
 have hnv := hp.nv
 have hnt := hp.nt
 have hl : m.fNext.length ≤ 6 := by rw [hm.next]; omega
 unfold ET
 rw [Io N p m hN (by omega) hw, hv]
 simp only [oS, bne_self_eq_false, As]
 obtain ⟨o, e, ho⟩ := Sq N m hN (by omega) hl (fun (v4 : (List Int)) =>
   (DB (0 ≤ (v4.length : Int))).bind fun _ =>
   Cw N m v4 (fun (v12 : (List Ae)) =>
    some (v12, 0)) N (([] : List Ae), 0))
 rw [e, AI (by omega)]
 have hoL := ho.len
 have hol := Mm m.fNext m.fNext.length (Nat.le_refl _)
 have hpow := LS (show HZ m.fNext m.fNext.length ≤ 6 by omega)
 obtain ⟨a, e2, h1⟩ := Gi (A := List Ae) (Cw N m o fun v12 => some (v12, 0)) (fun a k => (a, k)) (2 ^ HZ m.fNext m.fNext.length) (fun v12 => some (v12, 0))
  (fun i a => a = (List.range i).map (WA m))
  (fun n i a hi ha => by
   refine ⟨a ++ [WA m i], ?_, by rw [Mi, ha]⟩
   have hal : a.length = i := by rw [ha]; simp
   rw [Cw]
   rw [hoL, Qp (n := HZ m.fNext m.fNext.length) (by omega), AF (by omega), HV N m.fBase (by have := hm.base; unfold D2; omega), HV N m.fNext (by unfold D2; omega), Nf N m.fHeld (by have := hm.held; unfold D2; omega)]
   simp only [oS]
   rw [OP N m.fNext o i a hN (by omega) hl ho (by omega), AI (by rw [hal]; unfold D2; simp; omega), A2 (by omega)]
   rfl)
  (fun n a _ => by
   rw [Cw]
   rw [hoL, Qp (n := HZ m.fNext m.fNext.length) (by omega), AD (by simp)]) N 0 [] (Nat.zero_le _) (by omega) rfl
 have e2' : Cw N m o (fun v12 => some (v12, 0)) N ([], 0) = some (a, 0) := e2
 rw [e2', h1]; rfl
theorem MY {p : Ag} {m : Ae} (hm : Cx p m) : Mq Jp m.fHeld := by
 intro x hx
 obtain ⟨q, hq⟩ := List.mem_iff_getElem?.1 hx
 have h1 := (lI.1 hq).1
 have := hm.range q (by rw [← hm.held]; exact h1)
 rw [lD, hq] at this
 unfold Jp
 simp only [Option.getD_some] at this
 simp [Lit.wf, IntKind.min, IntKind.max, IntKind.signed, IntKind.bits]
 omega
def G7 : Ae := ⟨[], [], []⟩
theorem LT {m : Ae} (hl : m.fNext.length ≤ 6) : (GE m).length ≤ 64 := by
 unfold GE
 have hol := Mm m.fNext m.fNext.length (Nat.le_refl _)
 have hpow := LS (show HZ m.fNext m.fNext.length ≤ 6 by omega)
 simpa using hpow
theorem Pf {N : Nat} {a b : Ae} (hN : N ≤ 1000000) (h1 : a.fBase.length < N) (h2 : a.fNext.length < N) (h3 : a.fHeld.length < N) (h4 : b.fHeld.length < N) (wa : Mq Jp a.fHeld) (wb : Mq Jp b.fHeld) : Dh N a b = some (JY a b) := by
 unfold Dh
 rw [Mh h1 hN, Mh h2 hN, Lb h3 hN wa, Lb h4 hN wb]
 simp only [oS]
 rw [Mh h3 hN]
 unfold JY PE
 by_cases h1 : DI a.fBase b.fBase = 0
 ·simp only [h1, PE]
  by_cases h2 : DI a.fNext b.fNext = 0
  ·simp only [h2]
   by_cases h3 : DI a.fHeld b.fHeld = 0 <;> simp [h3]
  ·have : (DI a.fNext b.fNext != 0) = true := by simpa using h2
   simp [h2, this]
 ·have : (DI a.fBase b.fBase != 0) = true := by simpa using h1
  simp [h1, this]
open Go
def EE (p : Ag) (t : AO) : Int := if Ca t = true then B3 .u8 1 (p.fNow.getD t.fFrom.toNat 0) else 0
def BP (p : Ag) : Ae := ⟨p.fNow, List.replicate p.fNow.length (-1), p.fTables.map (EE p)⟩
theorem QX (N : Nat) (h : 100 ≤ N) (n : Nat) (hn : n ≤ 6) : DD N [(-1)] (n : Int) = some (List.replicate n (-1)) := by
 obtain ⟨k, rfl⟩ : ∃ k, N = k + 100 := ⟨N - 100, by omega⟩
 have : n = 0 ∨ n = 1 ∨ n = 2 ∨ n = 3 ∨ n = 4 ∨ n = 5 ∨ n = 6 := by omega
 rcases this with rfl | rfl | rfl | rfl | rfl | rfl | rfl
 all_goals (show _ = _; kernel_rfl)
theorem Pk (T : List Int) (i : Nat) (hi : i < T.length) : (T.take i ++ List.replicate (T.length - i) 0).set i (T.getD i 0) = T.take (i + 1) ++ List.replicate (T.length - (i + 1)) 0 := by
 have hl : (T.take i).length = i := by simp; omega
 rw [List.set_append_right _ _ (by omega), hl, Nat.sub_self, show T.length - i = (T.length - (i + 1)) + 1 from by omega, List.replicate_succ, List.set_cons_zero, List.take_add_one, List.append_assoc]
 have : T[i]? = some (T.getD i 0) := by rw [lD]; simp [hi]
 rw [this]; rfl
theorem QS (T : List Int) (i : Nat) (hi : i < T.length) (h0 : T.getD i 0 = 0) : T.take i ++ List.replicate (T.length - i) 0 = T.take (i + 1) ++ List.replicate (T.length - (i + 1)) 0 := by
 rw [← Pk T i hi, h0, List.set_append_right _ _ (by rw [List.length_take]; omega)]
 congr 1
 have hl : (T.take i).length = i := by simp; omega
 rw [hl, Nat.sub_self, show T.length - i = (T.length - (i + 1)) + 1 from by omega, List.replicate_succ, List.set_cons_zero]
theorem PM {p : Ag} (hv : Cg p = 0) {t : AO} (ht : t ∈ p.fTables) : 0 ≤ t.fFrom ∧ t.fFrom.toNat < p.fNow.length ∧ 0 ≤ p.fNow.getD t.fFrom.toNat 0 ∧ p.fNow.getD t.fFrom.toNat 0 < 6 ∧ p.fNow.getD t.fFrom.toNat 0 < p.fVersions.getD t.fFrom.toNat 0 ∧ t.fFrom.toNat < p.fVersions.length := by
 obtain ⟨hp, hr⟩ := C6 hv
 have h1 := Hn (hp.tab t ht)
 have h2 := hr t.fFrom.toNat (by omega)
 have h3 := Hj hp (i := t.fFrom.toNat) (by omega)
 have := hp.now
 refine ⟨h1.1, by omega, h2.1, by omega, h2.2.1, by omega⟩
theorem H7 {p : Ag} {i : Nat} {t : AO} (ht : p.fTables[i]? = some t) : (p.fTables.map (EE p)).getD i 0 = EE p t := by
 rw [lD, List.getElem?_map, ht]; rfl
theorem Kh (N : Nat) (p : Ag) (hN : N ≤ 1000000) (h20 : 100 ≤ N) : Fi N p = some (if Cg p = 0 then BP p else ⟨[], [], []⟩, Cg p) := by
 unfold Fi
 rw [JV N p hN (by omega)]
 simp only [oS]
 by_cases hv : Cg p = 0
 ·rw [if_pos hv, hv]
  obtain ⟨hp, _⟩ := C6 hv
  have hnv := hp.nv
  have hnt := hp.nt
  have hnow := hp.now
  rw [bne_self_eq_false, As, HV N _ (by simp only [D2]; omega)]
  simp only [oS]
  rw [QX N h20 _ (by omega)]
  simp only [oS]
  rw [AI (by simp only [D2]; omega)]
  obtain ⟨a', e, ha⟩ := Gi (Dn N p fun v7 => some (Ae.mk p.fNow (List.replicate p.fNow.length (-1)) v7, 0)) (fun a i => (a, i)) p.fTables.length (fun v7 => some (Ae.mk p.fNow (List.replicate p.fNow.length (-1)) v7, 0))
   (fun i a => a = (p.fTables.map (EE p)).take i ++ List.replicate ((p.fTables.map (EE p)).length - i) 0)
   (fun n i a hi ha => by
    have hx : p.fTables[i]? = some p.fTables[i] := by simp [hi]
    have hm : p.fTables[i] ∈ p.fTables := List.getElem_mem hi
    obtain ⟨n1, n2, n3, n4, _⟩ := PM hv hm
    rw [Dn, AF (by simp only; omega)]
    simp only [Bj, Bi, hx, oS, JF, A2 (show i < 1000000 by omega)]
    have hal : i < (p.fTables.map (EE p)).length := by simpa using hi
    cases hs : Ca p.fTables[i]
    ·rw [As]
     refine ⟨a, rfl, ?_⟩
     rw [ha]
     exact QS _ _ hal (by rw [H7 hx]; unfold EE; rw [hs]; rfl)
    ·rw [AK]
     have e1 : A4 p.fNow p.fTables[i].fFrom = some (p.fNow.getD p.fTables[i].fFrom.toNat 0) := by
      obtain ⟨q, hq⟩ := Int.eq_ofNat_of_zero_le n1
      rw [hq]; exact Di (by rw [hq] at n2; simpa using n2)
     rw [e1]
     simp only [oS]
     rw [AI n3]
     have hl : i < a.length := by rw [ha]; simp; omega
     have e2 : a[i]? = some a[i] := by simp [hl]
     rw [e2]
     simp only [oS]
     refine ⟨_, rfl, ?_⟩
     rw [← Pk _ _ hal, H7 hx, ha]
     unfold EE; rw [hs]; rfl)
   (fun n a ha => by rw [Dn, AD (by simp)]) N 0 (List.replicate p.fTables.length 0) (Nat.zero_le _) (by omega) (by simp)
  have e' : Dn N p (fun v7 => some (Ae.mk p.fNow (List.replicate p.fNow.length (-1)) v7, 0)) N (List.replicate ((p.fTables.length : Int)).toNat (0 : Int), 0) = _ := e
  rw [e', ha]
  have e5 : (p.fTables.map (EE p)).take p.fTables.length = p.fTables.map (EE p) := List.take_of_length_le (by simp)
  simp [BP, e5]
 ·rw [if_neg hv, bne_iff_ne.2 hv, AK]
theorem N0 (N : Nat) (p : Ag) (hN : N ≤ 1000000) (h20 : 100 ≤ N) : DJ N p = some (if Cg p = 0 then BP p else ⟨[], [], []⟩, Cg p) := by
 unfold DJ
 rw [Mc N p hN (by omega)]
 simp only [oS]
 by_cases hv : Cg p = 0
 ·rw [if_pos hv, hv]
  obtain ⟨hp, _⟩ := C6 hv
  have hnv := hp.nv
  have hnt := hp.nt
  have hnow := hp.now
  rw [bne_self_eq_false, As]
  obtain ⟨a', e, ha⟩ := Gi (BS N p fun v4 => Bh N p (fun v10 => some (Ae.mk v4.1 v4.2 v10, 0)) N (([] : List Int), 0)) (fun a i => (a.1, a.2, i)) p.fVersions.length (fun v4 => Bh N p (fun v10 => some (Ae.mk v4.1 v4.2 v10, 0)) N (([] : List Int), 0))
   (fun i a => a = (p.fNow.take i, List.replicate i (-1)))
   (fun n i a hi ha => by
    subst ha
    rw [BS, AF (by simp only; omega)]
    have hx : p.fNow[i]? = some p.fNow[i] := by simp [show i < p.fNow.length from by omega]
    simp only [Bi, hx, oS, A2 (show i < 1000000 by omega)]
    rw [AI (by simp [D2]; omega), AI (by simp [D2]; omega)]
    refine ⟨(p.fNow.take i ++ [p.fNow[i]], List.replicate i (-1) ++ [-1]), rfl, ?_⟩
    rw [List.take_add_one, hx, List.replicate_succ']; rfl)
   (fun n a ha => by rw [BS, AD (by simp)]) N 0 ([], []) (Nat.zero_le _) (by omega) rfl
  have e' : BS N p (fun v4 => Bh N p (fun v10 => some (Ae.mk v4.1 v4.2 v10, 0)) N (([] : List Int), 0)) N (([] : List Int), ([] : List Int), 0) = _ := e
  rw [e', ha]
  simp only
  obtain ⟨b', e2, hb⟩ := Gi (Bh N p fun v10 => some (Ae.mk (p.fNow.take p.fVersions.length) (List.replicate p.fVersions.length (-1)) v10, 0)) (fun a i => (a, i)) p.fTables.length (fun v10 => some (Ae.mk (p.fNow.take p.fVersions.length) (List.replicate p.fVersions.length (-1)) v10, 0))
   (fun i a => a = (p.fTables.map (EE p)).take i)
   (fun n i a hi ha => by
    subst ha
    have hx : p.fTables[i]? = some p.fTables[i] := by simp [hi]
    have hm : p.fTables[i] ∈ p.fTables := List.getElem_mem hi
    obtain ⟨n1, n2, n3, n4, _⟩ := PM hv hm
    rw [Bh, AF (by simp only; omega)]
    simp only [Bj, Bi, hx, oS, GC, A2 (show i < 1000000 by omega)]
    have hT : (p.fTables.map (EE p))[i]? = some (EE p p.fTables[i]) := by rw [List.getElem?_map, hx]; rfl
    have hlen : ((p.fTables.map (EE p)).take i).length + 1 ≤ D2 := by simp [D2]; omega
    cases hs : Ca p.fTables[i]
    ·rw [As, AI (by simpa using hlen)]
     refine ⟨_, rfl, ?_⟩
     rw [List.take_add_one, hT]
     unfold EE; rw [hs]; rfl
    ·rw [AK]
     have e1 : A4 p.fNow p.fTables[i].fFrom = some (p.fNow.getD p.fTables[i].fFrom.toNat 0) := by
      obtain ⟨q, hq⟩ := Int.eq_ofNat_of_zero_le n1
      rw [hq]; exact Di (by rw [hq] at n2; simpa using n2)
     rw [e1]
     simp only [oS]
     rw [AI n3, AI (by simpa using hlen)]
     refine ⟨_, rfl, ?_⟩
     rw [List.take_add_one, hT]
     unfold EE; rw [hs]; rfl)
   (fun n a ha => by rw [Bh, AD (by simp)]) N 0 [] (Nat.zero_le _) (by omega) rfl
  have e3 : Bh N p (fun v10 => some (Ae.mk (p.fNow.take p.fVersions.length) (List.replicate p.fVersions.length (-1)) v10, 0)) N (([] : List Int), 0) = _ := e2
  rw [e3, hb]
  simp only [BP, ← hnow, List.take_length]
  rw [show p.fTables.length = (p.fTables.map (EE p)).length from by simp, List.take_length]
 ·rw [if_neg hv, bne_iff_ne.2 hv, AK]
theorem Kv {p : Ag} (hv : Cg p = 0) : Cx p (BP p) := by
 obtain ⟨hp, hr⟩ := C6 hv
 have hnow := hp.now
 have hnx : ∀ i, i < p.fVersions.length → (List.replicate p.fNow.length (-1 : Int)).getD i 0 = -1 := fun i hi => by
  rw [lD, List.getElem?_replicate, if_pos (by omega)]; rfl
 have hone : ∀ (i : Nat) (t : AO), p.fTables[i]? = some t → ∃ b : Nat, b < 6 ∧ p.fNow.getD t.fFrom.toNat 0 = (b : Int) ∧ (b : Int) < p.fVersions.getD t.fFrom.toNat 0 ∧ t.fFrom.toNat < p.fVersions.length := fun i t ht => by
  obtain ⟨n1, n2, n3, n4, n5, n6⟩ := PM hv (lM ht)
  obtain ⟨b, hb⟩ := Int.eq_ofNat_of_zero_le n3
  exact ⟨b, by omega, hb, by omega, n6⟩
 have hbit : ∀ b : Nat, b < 8 → ∀ v, DA (B3 .u8 1 (b : Int)) v = decide (b = v) := fun b hb v => by
  by_cases h : v < 8
  ·exact (Il ⟨b, hb⟩ ⟨v, h⟩).1
  ·rw [It (Il ⟨b, hb⟩ ⟨0, by omega⟩).2.2 (by omega)]
   symm; apply decide_eq_false; omega
 refine { base := hnow, next := by simp [BP, hnow], held := by simp [BP], b0 := fun i hi => ⟨(hr i hi).1, (hr i hi).2.1⟩, n0 := fun i hi => ?_, ne := fun i hi => ?_, range := fun i hi => ?_, low := fun i t ht hs v hv' => ?_, high := fun i t ht hs v hb => ?_, none := fun i t ht hs => ?_ }
 ·show -1 ≤ (List.replicate p.fNow.length (-1 : Int)).getD i 0 ∧ (List.replicate p.fNow.length (-1 : Int)).getD i 0 < _
  rw [hnx i hi]
  have := Hj hp hi
  omega
 ·show p.fNow.getD i 0 ≠ (List.replicate p.fNow.length (-1 : Int)).getD i 0
  rw [hnx i hi]
  have := hr i hi
  omega
 ·have hx : p.fTables[i]? = some p.fTables[i] := by simp [hi]
  show 0 ≤ (p.fTables.map (EE p)).getD i 0 ∧ (p.fTables.map (EE p)).getD i 0 ≤ 255
  rw [H7 hx]
  unfold EE
  split
  ·obtain ⟨b, h1, h2, _⟩ := hone i _ hx
   rw [h2]
   exact (Il ⟨b, by omega⟩ ⟨0, by omega⟩).2
  ·omega
 ·show DA ((p.fTables.map (EE p)).getD i 0) v = true
  obtain ⟨b, h1, h2, h3, h4⟩ := hone i t ht
  rw [H7 ht]
  unfold EE
  rw [if_pos hs, h2, hbit b (by omega)]
  unfold II at hv'
  have h5 : (BP p).fBase.getD t.fFrom.toNat 0 = (b : Int) := h2
  have h6 : (BP p).fNext.getD t.fFrom.toNat 0 = -1 := hnx _ h4
  rw [h5, h6, Bool.or_eq_true, decide_eq_true_iff, decide_eq_true_iff] at hv'
  apply decide_eq_true; omega
 ·have hb : DA ((p.fTables.map (EE p)).getD i 0) v = true := hb
  obtain ⟨b, h1, h2, h3, h4⟩ := hone i t ht
  rw [H7 ht] at hb
  unfold EE at hb
  rw [if_pos hs, h2, hbit b (by omega), decide_eq_true_iff] at hb
  omega
 ·show (p.fTables.map (EE p)).getD i 0 = 0
  rw [H7 ht]; unfold EE; rw [hs]; rfl
theorem K8 (x : BitVec 8) : wI .u8 (x.toNat : Int) = (x.toNat : Int) := by
 have := x.isLt
 simp [wI, IntKind.signed, IntKind.bits]
 omega
theorem Pb (x : BitVec 8) : 0 ≤ (x.toNat : Int) ∧ (x.toNat : Int) ≤ 255 := by
 have := x.isLt
 omega
theorem RK (x : BitVec 8) (v : Nat) : DA (x.toNat : Int) v = x.getLsbD v := by
 unfold DA; rw [Int.toNat_natCast]; rfl
theorem Of {a : Int} (ha : 0 ≤ a ∧ a ≤ 255) (v : Nat) : (BitVec.ofInt 8 a).getLsbD v = DA a v := by
 obtain ⟨a, rfl⟩ := Int.eq_ofNat_of_zero_le ha.1
 unfold BitVec.getLsbD DA
 rw [SD (by omega), Int.toNat_natCast]
theorem PZ {a b : Int} (ha : 0 ≤ a ∧ a ≤ 255) (hb : 0 ≤ b ∧ b ≤ 255) : (∀ v, DA (CJ .u8 a b) v = (DA a v && !DA b v)) ∧ 0 ≤ CJ .u8 a b ∧ CJ .u8 a b ≤ 255 := by
 have e : CJ .u8 a b = ((BitVec.ofInt 8 a &&& ~~~BitVec.ofInt 8 b).toNat : Int) := K8 (BitVec.ofInt 8 a &&& ~~~BitVec.ofInt 8 b)
 rw [e]
 refine ⟨fun v => ?_, Pb _⟩
 rw [RK, BitVec.getLsbD_and, BitVec.getLsbD_not, Of ha, Of hb]
 by_cases h : v < 8
 ·simp [h]
 ·rw [It ha.2 (by omega)]; simp
theorem P0 {a b : Int} (ha : 0 ≤ a ∧ a ≤ 255) (hb : 0 ≤ b ∧ b ≤ 255) : (∀ v, DA (Ls .u8 a b) v = (DA a v || DA b v)) ∧ 0 ≤ Ls .u8 a b ∧ Ls .u8 a b ≤ 255 := by
 have e : Ls .u8 a b = ((BitVec.ofInt 8 a ||| BitVec.ofInt 8 b).toNat : Int) := K8 (BitVec.ofInt 8 a ||| BitVec.ofInt 8 b)
 rw [e]
 refine ⟨fun v => ?_, Pb _⟩
 rw [RK, BitVec.getLsbD_or, Of ha, Of hb]
theorem Ty {b : Nat} (hb : b < 8) : (∀ v, DA (B3 .u8 1 (b : Int)) v = decide (b = v)) ∧ 0 ≤ B3 .u8 1 (b : Int) ∧ B3 .u8 1 (b : Int) ≤ 255 := by
 refine ⟨fun v => ?_, (Il ⟨b, hb⟩ ⟨0, by omega⟩).2⟩
 by_cases h : v < 8
 ·exact (Il ⟨b, hb⟩ ⟨v, h⟩).1
 ·rw [It (Il ⟨b, hb⟩ ⟨0, by omega⟩).2.2 (by omega)]
  symm; apply decide_eq_false; omega
theorem Sf (N : Nat) {s : Int} {v : Nat} (hs : 0 ≤ s ∧ s ≤ 255) (hv : v < 8) : Dv N s (v : Int) = some (DA s v) := by
 unfold Dv
 rw [AI (by omega), TO hs.1 hs.2 hv]
 cases DA s v <;> rfl
def Uo (v : Nat) : Nat := ((List.range 8).find? fun u => v.testBit u).getD 8
def Vw (v : Nat) : Nat := ((List.range 8).filter fun u => v.testBit u).length
theorem UE : ∀ v : Fin 256, Cu 0 (v.val : Int) = some (Uo v.val : Int) := by decide +kernel
theorem Wk (N : Nat) {v : Nat} (h : v < 256) : Cu N (v : Int) = some (Uo v : Int) := UE ⟨v, h⟩
theorem Tj : ∀ v : Fin 256, v.val ≠ 0 → Uo v.val < 8 ∧ DA (v.val : Int) (Uo v.val) = true ∧ 0 ≤ EC .u8 (v.val : Int) (wI .u8 ((v.val : Int) - 1)) ∧ EC .u8 (v.val : Int) (wI .u8 ((v.val : Int) - 1)) ≤ 255 ∧
  Vw (EC .u8 (v.val : Int) (wI .u8 ((v.val : Int) - 1))).toNat + 1 = Vw v.val ∧
  ∀ u : Fin 8, DA (EC .u8 (v.val : Int) (wI .u8 ((v.val : Int) - 1))) u.val = (DA (v.val : Int) u.val && decide (u.val ≠ Uo v.val)) := by decide +kernel
theorem Wu (v : Nat) : Vw v ≤ 8 := by
 have := List.length_filter_le (fun u => v.testBit u) (List.range 8)
 simpa [Vw] using this
theorem OB (N : Nat) (t : AO) (b : Int) (rw_ : Nat → Bool) : ∀ (k n v : Nat), Vw v ≤ k → k < n → v < 256 →
  (∀ u, u < 8 → DA (v : Int) u = true → ∃ row, A4 t.fRewrite (u : Int) = some row ∧ A4 row b = some (rw_ u)) →
  CX N t b (fun _ => some true) n (v : Int) = some ((List.range 8).all fun u => !DA (v : Int) u || rw_ u)
 | k, 0, v, _, h, _, _ => by omega
 | k, n + 1, v, hk, hn, hv, hr => by
  rw [CX]
  by_cases h0 : v = 0
  ·subst h0
   have : (((0 : Nat) : Int) != 0) = false := rfl
   rw [this, As]
   congr 1
  ·have h1 : ((v : Int) != 0) = true := bne_iff_ne.2 (by omega)
   obtain ⟨l1, l2, l3, l4, l5, l6⟩ := Tj ⟨v, hv⟩ h0
   simp only at l1 l2 l3 l4 l5 l6
   obtain ⟨row, e1, e2⟩ := hr _ l1 l2
   rw [h1, AK, Wk N hv]
   simp only [oS, e1, e2]
   obtain ⟨w, hw⟩ := Int.eq_ofNat_of_zero_le l3
   rw [hw] at l4 l5 l6 ⊢
   rw [Int.toNat_natCast] at l5
   cases hq : rw_ (Uo v)
   ·rw [Bool.not_false, AK]
    congr 1
    symm
    rw [List.all_eq_false]
    exact ⟨Uo v, by simpa using l1, by rw [l2, hq]; simp⟩
   ·rw [Bool.not_true, As]
    match k, hk with
    | 0, hk => exfalso; omega
    | k + 1, hk =>
    rw [OB N t b rw_ k n w (by omega) (by omega) (by omega) (fun u hu hb => hr u hu (by have := l6 ⟨u, hu⟩; simp only at this; rw [hb] at this; simpa using (Bool.and_eq_true_iff.1 this.symm).1))]
    congr 1
    rw [Bool.eq_iff_iff, List.all_eq_true, List.all_eq_true]
    refine ⟨fun h u hu => ?_, fun h u hu => ?_⟩
    ·have hu8 : u < 8 := by simpa using hu
     have h3 := h u hu
     have h4 := l6 ⟨u, hu8⟩
     simp only at h4
     rw [h4] at h3
     by_cases e : u = Uo v
     ·rw [e, hq]; simp
     ·simpa [e] using h3
    ·have hu8 : u < 8 := by simpa using hu
     have h3 := h u hu
     have h4 := l6 ⟨u, hu8⟩
     simp only at h4
     rw [h4]
     cases hb : DA (v : Int) u
     ·simp
     ·rw [hb] at h3; simp at h3; simp [h3]
theorem OA (N : Nat) (m : Ae) (s : Int) (h0 : 0 ≤ s) (h1 : s < (m.fBase.length : Int)) (h2 : s < (m.fNext.length : Int)) (hb : 0 ≤ m.fBase.getD s.toNat 0) : EM N m s = some (Fy m s.toNat) := by
 unfold EM Fy
 rw [Ev (d := 0) h0 h1, Ev (d := 0) h0 h2]
 simp only [oS, A7]
 rw [show DB (0 ≤ m.fBase.getD s.toNat 0) = some () from by unfold DB; rw [if_pos hb]]
 simp only [oS]
 by_cases h : 0 ≤ m.fNext.getD s.toNat 0
 ·rw [AF h, if_pos h, show DB (0 ≤ m.fNext.getD s.toNat 0) = some () from by unfold DB; rw [if_pos h]]; rfl
 ·rw [AD h, if_neg h]
theorem I4 (N : Nat) (t : AO) : Ew N t = some (Ca t) := by
 unfold Ew Ca
 simp only [A7]
 cases h : t.fKind == 3 <;> simp
def Fw (s : Aj) : Bool := decide (1 ≤ s.fKind ∧ s.fKind ≤ 4 ∧ 0 ≤ s.fIndex ∧ 0 ≤ s.fVersion) && (s.fKind == 1 || s.fVersion == 0)
def ED (p : Ag) (s : Aj) : Bool :=
 if s.fKind = 3 then decide (s.fIndex < (p.fTables.length : Int)) else decide (s.fIndex < (p.fVersions.length : Int)) && (s.fKind != 1 || decide (s.fVersion < p.fVersions.getD s.fIndex.toNat 0))
theorem MK (N : Nat) (s : Aj) : Ft N s = some (Fw s) := by
 unfold Ft Fw RG
 simp only [A7]
 by_cases h1 : (if s.fVersion < s.fIndex then s.fVersion else s.fIndex) < 0
 ·rw [AF h1, AK, decide_eq_false (by split at h1 <;> omega)]; rfl
 ·rw [AD h1]
  by_cases h2 : s.fKind < 1
  ·rw [AF h2, AK, decide_eq_false (by omega)]; rfl
  ·rw [AD h2]
   by_cases h3 : 4 < s.fKind
   ·rw [decide_eq_true h3, AK, decide_eq_false (by omega)]; rfl
   ·rw [decide_eq_false h3, As, decide_eq_true (by split at h1 <;> omega), Bool.true_and]
    cases h4 : s.fKind == 1 <;> simp
theorem Od (N : Nat) (s : Aj) : DG N s = some (Fw s) := by
 unfold DG Fw
 simp only [A7]
 by_cases h1 : 1 ≤ s.fKind
 ·rw [AF h1]
  by_cases h2 : s.fKind ≤ 4
  ·rw [AF h2]
   by_cases h3 : 0 ≤ s.fIndex
   ·rw [AF h3]
    by_cases h4 : 0 ≤ s.fVersion
    ·rw [AF h4, decide_eq_true (by omega), Bool.true_and]
     cases h5 : s.fKind == 1 <;> simp
    ·rw [AD h4, decide_eq_false (by omega)]; rfl
   ·rw [AD h3, decide_eq_false (by omega)]; rfl
  ·rw [AD h2, decide_eq_false (by omega)]; rfl
 ·rw [AD h1, decide_eq_false (by omega)]; rfl
theorem Mg (N : Nat) (p : Ag) (s : Aj) (hv : Fw s = true) : Fd N p s = some (ED p s) := by
 have h0 : 0 ≤ s.fIndex := by
  unfold Fw at hv
  rw [Bool.and_eq_true, decide_eq_true_iff] at hv
  exact hv.1.2.2.1
 unfold Fd ED
 simp only [A7]
 by_cases h1 : s.fKind = 3
 ·rw [if_pos h1, beq_iff_eq.2 h1, AK]
 ·rw [if_neg h1, beq_eq_false_iff_ne.2 h1, As]
  by_cases h2 : s.fIndex < (p.fVersions.length : Int)
  ·rw [AF h2, decide_eq_true h2, Bool.true_and]
   cases h3 : s.fKind != 1
   ·rw [As, Ev (d := 0) h0 h2, Bool.false_or]; rfl
   ·rw [AK]; rfl
  ·rw [AD h2, decide_eq_false h2]; rfl
def Pq (s : Aj) (t : AO) : Bool := t.fFrom == s.fIndex && Ca t
def Q9 (s : Aj) (i : Nat) (t : AO) (a : List Int) : List Int := if Pq s t = true then a.set i (Ls .u8 (a.getD i 0) (B3 .u8 1 s.fVersion)) else a
def F4 (p : Ag) (s : Aj) (held : List Int) : List Int := HT (Q9 s) 0 p.fTables held
theorem Lm {R : Type} (N : Nat) (p : Ag) (s : Aj) (held : List Int) (hv : 0 ≤ s.fVersion) (hl : held.length = p.fTables.length) (h12 : p.fTables.length < N) (hN : N ≤ 1000000) (j : List Int → Option (Bool × List Int × List Int)) :
  C7 N p s j N (held, 0) = j (F4 p s held) ∧ (F4 p s held).length = p.fTables.length := by
 have := Jf (C7 N p s j) (fun a i => (a, i)) p.fTables j (Q9 s) (fun i a => a.length = p.fTables.length)
  (fun n i x a hx ha => by
   have hi := (lI.1 hx).1
   rw [C7, AF (by simp only; omega)]
   simp only [Bj, Bi, hx, oS, I4, A2 (show i < 1000000 by omega)]
   have e2 : a[i]? = some (a.getD i 0) := by rw [lD]; simp [show i < a.length from by omega]
   unfold Q9 Pq
   cases h1 : x.fFrom == s.fIndex
   ·rw [As, As, Bool.false_and, if_neg (by simp)]; exact ⟨rfl, ha⟩
   ·rw [AK, Bool.true_and]
    cases h2 : Ca x
    ·rw [As, if_neg (by simp)]; exact ⟨rfl, ha⟩
    ·rw [AK, e2, if_pos rfl]
     simp only [oS]
     rw [AI hv]
     exact ⟨rfl, by simpa using ha⟩)
  (fun n a ha => by rw [C7, AD (by simp)]) N 0 held (Nat.zero_le _) (by omega) hl
 rw [List.drop_zero] at this
 exact this
theorem L2 (N : Nat) (p : Ag) (s : Aj) (held : List Int) (hv : 0 ≤ s.fVersion) (hl : held.length = p.fTables.length) (h12 : p.fTables.length < N) (hN : N ≤ 1000000) (j : List Int → Option (Ae × Bool)) :
  BJ N p s j N (held, 0) = j (F4 p s held) := by
 have := Jf (BJ N p s j) (fun a i => (a, i)) p.fTables j (Q9 s) (fun i a => a.length = p.fTables.length)
  (fun n i x a hx ha => by
   have hi := (lI.1 hx).1
   rw [BJ, AF (by simp only; omega)]
   simp only [Bj, Bi, hx, oS, GC, A2 (show i < 1000000 by omega)]
   have e2 : a[i]? = some (a.getD i 0) := by rw [lD]; simp [show i < a.length from by omega]
   unfold Q9 Pq
   cases h1 : x.fFrom == s.fIndex
   ·rw [As, As, Bool.false_and, if_neg (by simp)]; exact ⟨rfl, ha⟩
   ·rw [AK, Bool.true_and]
    cases h2 : Ca x
    ·rw [As, if_neg (by simp)]; exact ⟨rfl, ha⟩
    ·rw [AK, e2, if_pos rfl]
     simp only [oS]
     rw [AI hv]
     exact ⟨rfl, by simpa using ha⟩)
  (fun n a ha => by rw [BJ, AD (by simp)]) N 0 held (Nat.zero_le _) (by omega) hl
 rw [List.drop_zero] at this
 exact this.1
def JG (m : Ae) (t : AO) (u : Nat) : Bool := (t.fRewrite.getD u []).getD (m.fBase.getD t.fFrom.toNat 0).toNat false
def LZ (m : Ae) (i : Nat) (t : AO) (u : Nat) : Bool := DA (m.fHeld.getD i 0) u && !II m t.fFrom.toNat u
def GX (p : Ag) (m : Ae) (i : Nat) (t : AO) : Bool := t.fKind == 4 && (List.range 8).any fun u => LZ m i t u && !JG m t u
def E7 (p : Ag) (m : Ae) (s : Aj) : Option Ae :=
 let i := s.fIndex.toNat
 if s.fKind = 1 then (if 0 ≤ m.fNext.getD i 0 ∨ m.fBase.getD i 0 = s.fVersion then none else some ⟨m.fBase, m.fNext.set i s.fVersion, F4 p s m.fHeld⟩)
 else if s.fKind = 3 then match p.fTables[i]? with
  | none => none
  | some t => if Ca t = false ∨ m.fHeld.getD i 0 = Fy m t.fFrom.toNat ∨ GX p m i t = true then none else some ⟨m.fBase, m.fNext, m.fHeld.set i (Fy m t.fFrom.toNat)⟩
 else if m.fNext.getD i 0 < 0 then none
 else some ⟨if s.fKind = 2 then m.fBase.set i (m.fNext.getD i 0) else m.fBase, m.fNext.set i (-1), m.fHeld⟩
def Ce (p : Ag) (m : Ae) (s : Aj) : Ae × Int :=
 if Fw s = false then (G7, 1) else if ED p s = false then (G7, 4) else match E7 p m s with
  | none => (G7, 11)
  | some x => (x, 0)
end Go.Lift
namespace Go.Lift
open Option renaming bind_some → oS
open List renaming mem_of_getElem? → lM
open List renaming getElem?_eq_some_iff → lI
open List renaming getD_eq_getElem?_getD → lD
open Go
section clear
variable {p : Ag} {m : Ae} {i : Nat} {t : AO}
theorem RH (hp : B9 p) (hm : Cx p m) (ht : p.fTables[i]? = some t) (hs : Ca t = true) {u : Nat} (h : DA (m.fHeld.getD i 0) u = true) : (u : Int) < p.fVersions.getD t.fFrom.toNat 0 ∧ u < 6 ∧ t.fFrom.toNat < p.fVersions.length := by
 have h1 := hm.high i t ht hs u h
 have hin := Hn (hp.tab t (lM ht))
 have h2 := Hj hp (i := t.fFrom.toNat) (by omega)
 exact ⟨h1, by omega, by omega⟩
theorem Sj (hp : B9 p) (hm : Cx p m) (ht : p.fTables[i]? = some t) (hs : Ca t = true) (h4 : t.fKind = 4) {u : Nat} (h : DA (m.fHeld.getD i 0) u = true) :
  A4 t.fRewrite (u : Int) = some (t.fRewrite.getD u []) ∧ A4 (t.fRewrite.getD u []) (m.fBase.getD t.fFrom.toNat 0) = some (JG m t u) := by
 have hT := Rg (hp.tab t (lM ht))
 obtain ⟨h1, h2, h3⟩ := RH hp hm ht hs h
 have hl := hT.reL h4
 have e : t.fRewrite[u]? = some (t.fRewrite.getD u []) := by rw [lD]; simp [show u < t.fRewrite.length from by omega]
 have hr := hT.reR _ (lM e)
 have hb := hm.b0 t.fFrom.toNat h3
 refine ⟨by rw [Bi, e], ?_⟩
 unfold JG
 obtain ⟨b, hb'⟩ := Int.eq_ofNat_of_zero_le hb.1
 rw [hb'] at hb ⊢
 rw [Int.toNat_natCast]
 exact Di (by omega)
theorem MF (N : Nat) (hN : N ≤ 1000000) (h20 : 100 ≤ N) (hp : B9 p) (hm : Cx p m) (ht : p.fTables[i]? = some t) :
  Fv N p m (i : Int) = some (if Ca t = false ∨ m.fHeld.getD i 0 = Fy m t.fFrom.toNat ∨ GX p m i t = true then (false, m.fHeld) else (true, m.fHeld.set i (Fy m t.fFrom.toNat))) := by
 have hi := (lI.1 ht).1
 have hin := Hn (hp.tab t (lM ht))
 have hb := hm.base
 have hnx := hm.next
 have hh := hm.held
 have hr := Kn hp hm.toMixServ (s := t.fFrom.toNat) (by omega)
 have hrg := hm.range i hi
 have eh : A4 m.fHeld (i : Int) = some (m.fHeld.getD i 0) := Di (by omega)
 unfold Fv
 simp only [Bj, Bi, ht, oS, I4]
 have eh' : m.fHeld[i]? = some (m.fHeld.getD i 0) := by rw [← Bi, eh]
 cases hs : Ca t
 ·rw [Bool.not_false, AK, if_pos (.inl rfl)]
 ·rw [Bool.not_true, As, OA N m _ hin.1 (by omega) (by omega) (hm.b0 _ (by omega)).1]
  simp only [oS, eh']
  by_cases h1 : m.fHeld.getD i 0 = Fy m t.fFrom.toNat
  ·rw [beq_iff_eq.2 h1, AK, AK, if_pos (.inr (.inl h1))]
  ·rw [beq_eq_false_iff_ne.2 h1, As]
   by_cases h4 : t.fKind = 4
   ·rw [beq_iff_eq.2 h4, AK, Ev (d := 0) hin.1 (by omega)]
    simp only [oS]
    obtain ⟨a1, a2, a3⟩ := PZ hrg hr.2
    obtain ⟨w, hw⟩ := Int.eq_ofNat_of_zero_le a2
    unfold EG
    rw [hw] at a1 a3 ⊢
    rw [OB N t _ (JG m t) 8 N w (Wu _) (by omega) (by omega) (fun u hu hbu => by
     have := a1 u; rw [hbu] at this
     exact ⟨_, Sj hp hm ht hs h4 (Bool.and_eq_true_iff.1 this.symm).1⟩)]
    simp only [oS]
    have e : (!(List.range 8).all fun u => !DA (w : Int) u || JG m t u) = GX p m i t := by
     unfold GX
     rw [beq_iff_eq.2 h4, Bool.true_and, List.not_all_eq_any_not]
     congr 1
     funext u
     rw [a1 u, hr.1 u]
     unfold LZ
     cases DA (m.fHeld.getD i 0) u <;> cases II m t.fFrom.toNat u <;> cases JG m t u <;> rfl
    rw [e]
    cases hst : GX p m i t
    ·rw [As, if_neg (by rintro (h | h | h); cases h; exact h1 h; cases h)]; rfl
    ·rw [AK, if_pos (.inr (.inr rfl))]
   ·have e : GX p m i t = false := by unfold GX; rw [beq_eq_false_iff_ne.2 h4]; rfl
    rw [beq_eq_false_iff_ne.2 h4, As, As, e, if_neg (by rintro (h | h | h); cases h; exact h1 h; cases h)]; rfl
theorem L0 (N : Nat) (hN : N ≤ 1000000) (h20 : 100 ≤ N) (hp : B9 p) (hm : Cx p m) (ht : p.fTables[i]? = some t) (hs : Ca t = true) (s : Aj) (hsi : s.fIndex = (i : Int)) (j : Option (Ae × Bool)) :
  Bw N p m s t (Fy m t.fFrom.toNat) (fun _ => j) N 0 = if GX p m i t = true then some (G7, false) else j := by
 have hi := (lI.1 ht).1
 have hin := Hn (hp.tab t (lM ht))
 have hb := hm.base
 have hh := hm.held
 have hr := Kn hp hm.toMixServ (s := t.fFrom.toNat) (by omega)
 have hrg := hm.range i hi
 have hver := Hj hp (i := t.fFrom.toNat) (by omega)
 obtain ⟨nv, hnv⟩ := Int.eq_ofNat_of_zero_le (show 0 ≤ p.fVersions.getD t.fFrom.toNat 0 by omega)
 have eh' : m.fHeld[i]? = some (m.fHeld.getD i 0) := by rw [lD]; simp [show i < m.fHeld.length from by omega]
 have := DR (Bw N p m s t (Fy m t.fFrom.toNat) fun _ => j) (List.range nv) j (fun u _ => if (LZ m i t u && (t.fKind == 4 && !JG m t u)) = true then some (G7, false) else none)
  (fun n u x hx => by
   have hu : u < nv := by
    have := (lI.1 hx).1
    simpa using this
   rw [Bw, Ev (d := 0) hin.1 (by omega), hnv]
   simp only [oS]
   rw [AF (by omega)]
   simp only [Bj, hsi, Bi, eh', oS]
   rw [Sf N hrg (by omega), A2 (by omega)]
   simp only [oS]
   cases h1 : DA (m.fHeld.getD i 0) u
   ·have e : LZ m i t u = false := by unfold LZ; rw [h1]; rfl
    rw [As, As, As, e]; rfl
   ·rw [AK, Sf N hr.2 (by omega), hr.1 u]
    simp only [oS]
    have e : LZ m i t u = !II m t.fFrom.toNat u := by unfold LZ; rw [h1]; rfl
    rw [← e]
    cases h2 : LZ m i t u
    ·rw [As, As]; rfl
    ·rw [AK]
     by_cases h4 : t.fKind = 4
     ·obtain ⟨e1, e2⟩ := Sj hp hm ht hs h4 h1
      rw [Bi] at e1
      rw [beq_iff_eq.2 h4, AK, e1, Ev (d := 0) hin.1 (by omega)]
      simp only [oS]
      rw [e2]
      simp only [oS]
      cases JG m t u <;> rfl
     ·rw [beq_eq_false_iff_ne.2 h4, As, As]; rfl)
  (fun n => by
   rw [Bw, Ev (d := 0) hin.1 (by omega), hnv]
   simp only [oS, List.length_range]
   rw [AD (by omega)]) N 0 (Nat.zero_le _) (by simp; omega)
 have e0 : Bw N p m s t (Fy m t.fFrom.toNat) (fun _ => j) N 0 = _ := this
 rw [e0, List.drop_zero]
 by_cases hst : GX p m i t = true
 ·rw [if_pos hst]
  unfold GX at hst
  rw [Bool.and_eq_true, List.any_eq_true] at hst
  obtain ⟨h4, u, hu, h5⟩ := hst
  rw [Bool.and_eq_true] at h5
  have h6 : DA (m.fHeld.getD i 0) u = true := by have := h5.1; unfold LZ at this; exact (Bool.and_eq_true_iff.1 this).1
  have h7 := RH hp hm ht hs h6
  cases hsc : DY (fun u (_ : Nat) => if (LZ m i t u && (t.fKind == 4 && !JG m t u)) = true then some (G7, false) else none) 0 (List.range nv) with
  | some r =>
   obtain ⟨q, x, hx, hf⟩ := Fm hsc
   split at hf
   ·cases hf; rfl
   ·cases hf
  | none =>
   exfalso
   have hx : (List.range nv)[u]? = some u := List.getElem?_range (by omega)
   have := Gx hsc u u hx
   rw [Nat.zero_add, h5.1, h4, h5.2] at this
   cases this
 ·rw [if_neg hst]
  have : DY (fun u (_ : Nat) => if (LZ m i t u && (t.fKind == 4 && !JG m t u)) = true then some (G7, false) else none) 0 (List.range nv) = none := EH fun q x hx => by
   rw [Nat.zero_add]
   split
   ·rename_i h5
    exfalso; apply hst
    rw [Bool.and_eq_true, Bool.and_eq_true] at h5
    unfold GX
    rw [h5.2.1, Bool.true_and, List.any_eq_true]
    have hq : q < nv := by
     have := (lI.1 hx).1
     simpa using this
    exact ⟨q, List.mem_range.2 (by omega), by rw [h5.1, h5.2.2]; rfl⟩
   ·rfl
  rw [this]; rfl
end clear
end Go.Lift
namespace Go.Lift
open Option renaming bind_some → oS
open List renaming mem_of_getElem? → lM
open Go
theorem HW {s : Aj} (h : Fw s = true) : 1 ≤ s.fKind ∧ s.fKind ≤ 4 ∧ 0 ≤ s.fIndex ∧ 0 ≤ s.fVersion ∧ (s.fKind ≠ 1 → s.fVersion = 0) := by
 unfold Fw at h
 rw [Bool.and_eq_true, decide_eq_true_iff, Bool.or_eq_true, beq_iff_eq, beq_iff_eq] at h
 exact ⟨h.1.1, h.1.2.1, h.1.2.2.1, h.1.2.2.2, fun hk => h.2.elim (fun e => (hk e).elim) id⟩
theorem Jk {p : Ag} {s : Aj} (h : ED p s = true) : (s.fKind = 3 → s.fIndex < (p.fTables.length : Int)) ∧ (s.fKind ≠ 3 → s.fIndex < (p.fVersions.length : Int)) ∧ (s.fKind = 1 → s.fVersion < p.fVersions.getD s.fIndex.toNat 0) := by
 unfold ED at h
 split at h
 ·rename_i hk
  rw [decide_eq_true_iff] at h
  exact ⟨fun _ => h, fun hn => (hn hk).elim, fun h1 => by omega⟩
 ·rename_i hk
  rw [Bool.and_eq_true, decide_eq_true_iff, Bool.or_eq_true, decide_eq_true_iff, bne_iff_ne] at h
  exact ⟨fun h3 => (hk h3).elim, fun _ => h.1, fun h1 => h.2.elim (fun hn => (hn h1).elim) id⟩
theorem KQ (N : Nat) {p : Ag} {m : Ae} (hp : B9 p) (hm : Cx p m) : Et N m = some m := by
 have hnv := hp.nv
 have hnt := hp.nt
 have h1 := hm.base
 have h2 := hm.next
 have h3 := hm.held
 unfold Et
 rw [HV N _ (by simp only [D2]; omega), HV N _ (by simp only [D2]; omega), Nf N _ (by simp only [D2]; omega)]
 rfl
theorem MR (N : Nat) (hN : N ≤ 1000000) (h20 : 100 ≤ N) {p : Ag} {m : Ae} (hp : B9 p) (hm : Cx p m) {s : Aj} (hv : Fw s = true) (hx : ED p s = true) :
  ∃ o, ES N p m s = some (o, (E7 p m s).isSome) ∧ ∀ x, E7 p m s = some x → o = x := by
 obtain ⟨k1, k4, i0, v0, vk⟩ := HW hv
 obtain ⟨x3, xn, x1⟩ := Jk hx
 have hnv := hp.nv
 have hnt := hp.nt
 have hb := hm.base
 have hn := hm.next
 have hh := hm.held
 obtain ⟨i, hi⟩ := Int.eq_ofNat_of_zero_le i0
 unfold ES E7
 rw [KQ N hp hm]
 simp only [oS, Bj]
 by_cases hk1 : s.fKind = 1
 ·have hi1 : (i : Int) < p.fVersions.length := by have := xn (by omega); omega
  rw [beq_iff_eq.2 hk1, AK, if_pos hk1]
  unfold GF
  simp only [Bj, hi, Int.toNat_natCast]
  rw [Di (d := 0) (show i < m.fNext.length by omega)]
  simp only [oS]
  by_cases c1 : 0 ≤ m.fNext.getD i 0
  ·rw [AF c1, AK, if_pos (.inl c1)]
   exact ⟨_, rfl, fun x hx => by cases hx⟩
  ·rw [AD c1, Di (d := 0) (show i < m.fBase.length by omega)]
   simp only [oS]
   by_cases c2 : m.fBase.getD i 0 = s.fVersion
   ·rw [beq_iff_eq.2 c2, AK, if_pos (.inr c2)]
    exact ⟨_, rfl, fun x hx => by cases hx⟩
   ·rw [beq_eq_false_iff_ne.2 c2, As, (Lm (R := Unit) N p s m.fHeld v0 hh (by omega) hN _).1, if_neg (by rintro (h | h); exact c1 h; exact c2 h)]
    exact ⟨_, rfl, fun x hx => by cases hx; rfl⟩
 ·rw [beq_eq_false_iff_ne.2 hk1, As, if_neg hk1]
  by_cases hk3 : s.fKind = 3
  ·have hi3 : i < p.fTables.length := by have := x3 hk3; omega
   have ht : p.fTables[i]? = some p.fTables[i] := by simp [hi3]
   rw [beq_iff_eq.2 hk3, AK, if_pos hk3, hi, MF N hN h20 hp hm ht]
   simp only [oS, Int.toNat_natCast, ht]
   split
   ·exact ⟨_, rfl, fun x hx => by cases hx⟩
   ·exact ⟨_, rfl, fun x hx => by cases hx; rfl⟩
  ·have hi1 : (i : Int) < p.fVersions.length := by have := xn hk3; omega
   rw [beq_eq_false_iff_ne.2 hk3, As, if_neg hk3, hi, Di (d := 0) (show i < m.fNext.length by omega)]
   simp only [oS, Int.toNat_natCast]
   by_cases c1 : m.fNext.getD i 0 < 0
   ·rw [AF c1, if_pos c1]
    exact ⟨_, rfl, fun x hx => by cases hx⟩
   ·rw [AD c1, if_neg c1]
    by_cases hk2 : s.fKind = 2
    ·rw [beq_iff_eq.2 hk2, AK, Di (d := 0) (show i < m.fBase.length by omega), if_pos hk2]
     exact ⟨_, rfl, fun x hx => by cases hx; rfl⟩
    ·rw [beq_eq_false_iff_ne.2 hk2, As, if_neg hk2]
     exact ⟨_, rfl, fun x hx => by cases hx; rfl⟩
theorem MI (N : Nat) (hN : N ≤ 1000000) (h20 : 100 ≤ N) {p : Ag} {m : Ae} (hp : B9 p) (hm : Cx p m) (s : Aj) : ER N p m s = some (Ce p m s) := by
 unfold ER Ce
 rw [MK]
 simp only [oS]
 cases hv : Fw s
 ·rw [Bool.not_false, AK, if_pos rfl]; rfl
 ·rw [Bool.not_true, As, if_neg (by simp), Mg N p s hv]
  simp only [oS]
  cases hx : ED p s
  ·rw [Bool.not_false, AK, if_pos rfl]; rfl
  ·rw [Bool.not_true, As, if_neg (by simp)]
   obtain ⟨o, e, ho⟩ := MR N hN h20 hp hm hv hx
   rw [e]
   simp only [oS]
   cases ha : E7 p m s with
   | none => rfl
   | some x => rw [ho x ha]; rfl
theorem Kd (N : Nat) (hN : N ≤ 1000000) (h20 : 100 ≤ N) {p : Ag} {m : Ae} (hp : B9 p) (hm : Cx p m) {s : Aj} (hv : Fw s = true) (hx : ED p s = true) :
  B4 N p m s = some (match E7 p m s with | none => (G7, false) | some x => (x, true)) := by
 obtain ⟨k1, k4, i0, v0, vk⟩ := HW hv
 obtain ⟨x3, xn, x1⟩ := Jk hx
 have hnv := hp.nv
 have hnt := hp.nt
 have hb := hm.base
 have hn := hm.next
 have hh := hm.held
 obtain ⟨i, hi⟩ := Int.eq_ofNat_of_zero_le i0
 unfold B4 E7
 rw [AI (by simp [D2]; omega), AI (by simp [D2]; omega), AI (by simp [D2]; omega)]
 simp only [oS, Bj, List.nil_append]
 by_cases hk1 : s.fKind = 1
 ·have hi1 : (i : Int) < p.fVersions.length := by have := xn (by omega); omega
  rw [beq_iff_eq.2 hk1, AK, if_pos hk1]
  simp only [hi, Int.toNat_natCast]
  rw [Di (d := 0) (show i < m.fNext.length by omega)]
  simp only [oS]
  by_cases c1 : 0 ≤ m.fNext.getD i 0
  ·rw [AF c1, AK, if_pos (.inl c1)]; rfl
  ·rw [AD c1, Di (d := 0) (show i < m.fBase.length by omega)]
   simp only [oS]
   by_cases c2 : m.fBase.getD i 0 = s.fVersion
   ·rw [beq_iff_eq.2 c2.symm, AK, if_pos (.inr c2)]; rfl
   ·rw [beq_eq_false_iff_ne.2 (fun h => c2 h.symm), As, L2 N p s m.fHeld v0 hh (by omega) hN _, if_neg (by rintro (h | h); exact c1 h; exact c2 h)]
 ·rw [beq_eq_false_iff_ne.2 hk1, As, if_neg hk1]
  by_cases hk3 : s.fKind = 3
  ·have hi3 : i < p.fTables.length := by have := x3 hk3; omega
   have ht : p.fTables[i]? = some p.fTables[i] := by simp [hi3]
   have hin := Hn (hp.tab _ (lM ht))
   have eh' : A4 m.fHeld (i : Int) = some (m.fHeld.getD i 0) := Di (by omega)
   rw [beq_eq_false_iff_ne.2 (show s.fKind ≠ 2 by omega), As, beq_iff_eq.2 hk3, AK, if_pos hk3, hi, Bi, ht]
   simp only [oS, GC, Int.toNat_natCast, ht]
   cases hs : Ca p.fTables[i]
   ·rw [Bool.not_false, AK, if_pos (.inl rfl)]; rfl
   ·rw [Bool.not_true, As, LG N m _ hin.1 (by omega) (by omega) (hm.b0 _ (by omega)).1, eh']
    simp only [oS]
    by_cases h1 : m.fHeld.getD i 0 = Fy m (p.fTables[i]).fFrom.toNat
    ·rw [beq_iff_eq.2 h1, AK, if_pos (.inr (.inl h1))]; rfl
    ·rw [beq_eq_false_iff_ne.2 h1, As]
     rw [L0 N hN h20 hp hm ht hs s hi]
     cases hst : GX p m i p.fTables[i]
     ·rw [if_neg (by simp), if_neg (by rintro (h | h | h); cases h; exact h1 h; cases h)]
     ·rw [if_pos rfl, if_pos (.inr (.inr rfl))]
  ·have hi1 : (i : Int) < p.fVersions.length := by have := xn hk3; omega
   rw [if_neg hk3, hi, Di (d := 0) (show i < m.fNext.length by omega)]
   simp only [oS, Int.toNat_natCast]
   by_cases hk2 : s.fKind = 2
   ·rw [beq_iff_eq.2 hk2, AK, if_pos hk2]
    by_cases c1 : m.fNext.getD i 0 < 0
    ·rw [AF c1, if_pos c1]; rfl
    ·rw [AD c1, if_neg c1, Di (d := 0) (show i < m.fBase.length by omega)]; rfl
   ·rw [beq_eq_false_iff_ne.2 hk2, As, beq_eq_false_iff_ne.2 hk3, As, if_neg hk2]
    by_cases c1 : m.fNext.getD i 0 < 0
    ·rw [AF c1, if_pos c1]; rfl
    ·rw [AD c1, if_neg c1]
end Go.Lift
namespace Go.Lift
open Option renaming bind_some → oS
open List renaming mem_of_getElem? → lM
open List renaming getElem?_eq_some_iff → lI
open Go
theorem Pe (s : Aj) : ∀ (xs : List AO) (i : Nat) (a : List Int), i + xs.length ≤ a.length → (HT (Q9 s) i xs a).length = a.length ∧ ∀ q, (HT (Q9 s) i xs a).getD q 0 = match (if i ≤ q then xs[q - i]? else none) with
  | some t => if Pq s t = true then Ls .u8 (a.getD q 0) (B3 .u8 1 s.fVersion) else a.getD q 0
  | none => a.getD q 0
 | [], i, a, _ => by
  refine ⟨rfl, fun q => ?_⟩
  split
  ·rename_i h; split at h
   ·simp at h
   ·cases h
  ·rfl
 | x :: xs, i, a, hl => by
  have hl' : i + (xs.length + 1) ≤ a.length := by simpa using hl
  have ha : (Q9 s i x a).length = a.length := by unfold Q9; split <;> simp
  obtain ⟨ih1, ih2⟩ := Pe s xs (i + 1) (Q9 s i x a) (by omega)
  refine ⟨by rw [HT, ih1, ha], fun q => ?_⟩
  rw [HT, ih2 q]
  have hu : (Q9 s i x a).getD q 0 = if q = i ∧ Pq s x = true then Ls .u8 (a.getD q 0) (B3 .u8 1 s.fVersion) else a.getD q 0 := by
   unfold Q9
   by_cases hc : Pq s x = true
   ·rw [if_pos hc, H1 (by omega)]
    by_cases hq : q = i
    ·subst hq; rw [if_pos rfl, if_pos ⟨rfl, hc⟩]
    ·rw [if_neg hq, if_neg (fun h => hq h.1)]
   ·rw [if_neg hc, if_neg (fun h => hc h.2)]
  by_cases h1 : i + 1 ≤ q
  ·rw [if_pos h1, if_pos (show i ≤ q by omega), hu, if_neg (by omega)]
   rw [show (x :: xs)[q - i]? = xs[q - (i + 1)]? from by rw [show q - i = (q - (i + 1)) + 1 from by omega, List.getElem?_cons_succ]]
  ·rw [if_neg h1]
   by_cases h2 : q = i
   ·subst h2
    rw [if_pos (Nat.le_refl _), Nat.sub_self, hu]
    simp
   ·rw [if_neg (show ¬ i ≤ q by omega), hu, if_neg (by omega)]
theorem Nl {p : Ag} {s : Aj} {held : List Int} (hl : held.length = p.fTables.length) : (F4 p s held).length = p.fTables.length ∧ ∀ q t, p.fTables[q]? = some t → (F4 p s held).getD q 0 = if Pq s t = true then Ls .u8 (held.getD q 0) (B3 .u8 1 s.fVersion) else held.getD q 0 := by
 obtain ⟨h1, h2⟩ := Pe s p.fTables 0 held (by omega)
 refine ⟨h1.trans hl, fun q t ht => ?_⟩
 have := h2 q
 rw [if_pos (Nat.zero_le _), Nat.sub_zero, ht] at this
 exact this
theorem Kw {m : Ae} {s v : Nat} : II m s v = true ↔ m.fBase.getD s 0 = (v : Int) ∨ m.fNext.getD s 0 = (v : Int) := by
 unfold II; rw [Bool.or_eq_true, decide_eq_true_iff, decide_eq_true_iff]
theorem RM {p : Ag} {m x : Ae} (hp : B9 p) (hm : Cx p m) {s : Aj} (hv : Fw s = true) (hx : ED p s = true) (h : E7 p m s = some x) : Cx p x := by
 obtain ⟨k1, k4, i0, v0, vk⟩ := HW hv
 obtain ⟨x3, xn, x1⟩ := Jk hx
 obtain ⟨i, hi⟩ := Int.eq_ofNat_of_zero_le i0
 have hb := hm.base
 have hn := hm.next
 have hh := hm.held
 unfold E7 at h
 simp only [hi, Int.toNat_natCast] at h
 rw [hi, Int.toNat_natCast] at x1
 split at h
 ·rename_i hk1
  have hi1 : i < p.fVersions.length := by have := xn (by omega); omega
  have hx1 := x1 hk1
  have hvi := Hj hp hi1
  split at h
  ·cases h
  rename_i hc
  cases h
  obtain ⟨u1, u2⟩ := Nl (s := s) hh
  obtain ⟨b, hbv⟩ := Int.eq_ofNat_of_zero_le v0
  have hob := Ty (b := b) (by omega)
  have hN : ∀ q, (m.fNext.set i s.fVersion).getD q 0 = if q = i then s.fVersion else m.fNext.getD q 0 := fun q => H1 (by omega)
  refine { base := hb, next := by simpa using hn, held := u1, b0 := hm.b0, n0 := fun q hq => ?_, ne := fun q hq => ?_, range := fun q hq => ?_, low := fun q t ht hs v hr => ?_, high := fun q t ht hs v hbit => ?_, none := fun q t ht hs => ?_ }
  ·show -1 ≤ (m.fNext.set i s.fVersion).getD q 0 ∧ (m.fNext.set i s.fVersion).getD q 0 < _
   rw [hN q]
   split
   ·rename_i e; subst e; omega
   ·exact hm.n0 q hq
  ·show m.fBase.getD q 0 ≠ (m.fNext.set i s.fVersion).getD q 0
   rw [hN q]
   split
   ·rename_i e; subst e; exact fun h => hc (.inr h)
   ·exact hm.ne q hq
  ·have ht : p.fTables[q]? = some p.fTables[q] := by simp [hq]
   show 0 ≤ (F4 p s m.fHeld).getD q 0 ∧ (F4 p s m.fHeld).getD q 0 ≤ 255
   rw [u2 q _ ht, hbv]
   split
   ·exact (P0 (hm.range q hq) hob.2).2
   ·exact hm.range q hq
  ·have hq := (lI.1 ht).1
   show DA ((F4 p s m.fHeld).getD q 0) v = true
   have hin := Hn (hp.tab t (lM ht))
   rw [Kw] at hr
   have hr : m.fBase.getD t.fFrom.toNat 0 = (v : Int) ∨ (m.fNext.set i s.fVersion).getD t.fFrom.toNat 0 = (v : Int) := hr
   rw [hN] at hr
   rw [u2 q t ht, hbv]
   have hlow := hm.low q t ht hs v
   rw [Kw] at hlow
   by_cases hf : t.fFrom.toNat = i
   ·have hup : Pq s t = true := by unfold Pq; rw [hs, Bool.and_true, beq_iff_eq, hi]; omega
    rw [if_pos hup, (P0 (hm.range q hq) hob.2).1, hob.1 v, Bool.or_eq_true, decide_eq_true_iff]
    rw [if_pos hf] at hr
    rcases hr with h | h
    ·exact .inl (hlow (.inl h))
    ·right; omega
   ·rw [if_neg hf] at hr
    have hup : Pq s t = false := by unfold Pq; rw [hs, Bool.and_true, beq_eq_false_iff_ne, hi]; omega
    rw [hup, if_neg (by simp)]
    exact hlow hr
  ·have hq := (lI.1 ht).1
   have hbit : DA ((F4 p s m.fHeld).getD q 0) v = true := hbit
   have hin := Hn (hp.tab t (lM ht))
   rw [u2 q t ht, hbv] at hbit
   split at hbit
   ·rename_i hup
    rw [(P0 (hm.range q hq) hob.2).1, hob.1 v, Bool.or_eq_true, decide_eq_true_iff] at hbit
    rcases hbit with h | h
    ·exact hm.high q t ht hs v h
    ·unfold Pq at hup
     rw [hs, Bool.and_true, beq_iff_eq, hi] at hup
     rw [hup, Int.toNat_natCast]; omega
   ·exact hm.high q t ht hs v hbit
  ·show (F4 p s m.fHeld).getD q 0 = 0
   have hup : Pq s t = false := by unfold Pq; rw [hs, Bool.and_false]
   rw [u2 q t ht, hup, if_neg (by simp)]
   exact hm.none q t ht hs
 ·rename_i hk1
  split at h
  ·rename_i hk3
   have hi3 : i < p.fTables.length := by have := x3 hk3; omega
   have ht0 : p.fTables[i]? = some p.fTables[i] := by simp [hi3]
   rw [ht0] at h
   simp only at h
   split at h
   ·cases h
   rename_i hc
   cases h
   have hin0 := Hn (hp.tab _ (lM ht0))
   have hr0 := Kn hp hm.toMixServ (s := (p.fTables[i]).fFrom.toNat) (by omega)
   have hs0 : Ca p.fTables[i] = true := by
    cases hs : Ca p.fTables[i]
    ·exact (hc (.inl hs)).elim
    ·rfl
   have hH : ∀ q, (m.fHeld.set i (Fy m (p.fTables[i]).fFrom.toNat)).getD q 0 = if q = i then Fy m (p.fTables[i]).fFrom.toNat else m.fHeld.getD q 0 := fun q => H1 (by omega)
   refine { base := hb, next := hn, held := by simpa using hh, b0 := hm.b0, n0 := hm.n0, ne := hm.ne, range := fun q hq => ?_, low := fun q t ht hs v hr => ?_, high := fun q t ht hs v hbit => ?_, none := fun q t ht hs => ?_ }
   ·show 0 ≤ (m.fHeld.set i (Fy m (p.fTables[i]).fFrom.toNat)).getD q 0 ∧ (m.fHeld.set i (Fy m (p.fTables[i]).fFrom.toNat)).getD q 0 ≤ 255
    rw [hH q]
    split
    ·exact hr0.2
    ·exact hm.range q hq
   ·show DA ((m.fHeld.set i (Fy m (p.fTables[i]).fFrom.toNat)).getD q 0) v = true
    have hr : II m t.fFrom.toNat v = true := hr
    rw [hH q]
    split
    ·rename_i e; subst e
     rw [ht0] at ht; cases ht
     rw [hr0.1]; exact hr
    ·exact hm.low q t ht hs v hr
   ·have hbit : DA ((m.fHeld.set i (Fy m (p.fTables[i]).fFrom.toNat)).getD q 0) v = true := hbit
    rw [hH q] at hbit
    split at hbit
    ·rename_i e; subst e
     rw [ht0] at ht; cases ht
     rw [hr0.1] at hbit
     exact hm.high q _ ht0 hs0 v (hm.low q _ ht0 hs0 v hbit)
    ·exact hm.high q t ht hs v hbit
   ·show (m.fHeld.set i (Fy m (p.fTables[i]).fFrom.toNat)).getD q 0 = 0
    rw [hH q, if_neg (fun e => by subst e; rw [ht0] at ht; cases ht; rw [hs0] at hs; cases hs)]
    exact hm.none q t ht hs
  ·rename_i hk3
   have hi1 : i < p.fVersions.length := by have := xn hk3; omega
   have hvi := Hj hp hi1
   split at h
   ·cases h
   rename_i hc
   cases h
   have hN : ∀ q, (m.fNext.set i (-1)).getD q 0 = if q = i then -1 else m.fNext.getD q 0 := fun q => H1 (by omega)
   have hB : ∀ q, (if s.fKind = 2 then m.fBase.set i (m.fNext.getD i 0) else m.fBase).getD q 0 = if s.fKind = 2 ∧ q = i then m.fNext.getD i 0 else m.fBase.getD q 0 := fun q => by
    by_cases hk2 : s.fKind = 2
    ·rw [if_pos hk2, H1 (by omega)]
     by_cases e : q = i
     ·rw [if_pos e, if_pos ⟨hk2, e⟩]
     ·rw [if_neg e, if_neg (fun h => e h.2)]
    ·rw [if_neg hk2, if_neg (fun h => hk2 h.1)]
   have hrun : ∀ q v, II ⟨if s.fKind = 2 then m.fBase.set i (m.fNext.getD i 0) else m.fBase, m.fNext.set i (-1), m.fHeld⟩ q v = true → II m q v = true := fun q v hr => by
    rw [Kw] at hr ⊢
    simp only [hN q, hB q] at hr
    by_cases e : q = i
    ·subst e
     rw [if_pos rfl] at hr
     by_cases hk2 : s.fKind = 2
     ·rw [if_pos ⟨hk2, rfl⟩] at hr; omega
     ·rw [if_neg (fun h => hk2 h.1)] at hr; omega
    ·rw [if_neg e, if_neg (fun h => e h.2)] at hr; exact hr
   refine { base := by simp only; split <;> simp [hb], next := by simpa using hn, held := hh, b0 := fun q hq => ?_, n0 := fun q hq => ?_, ne := fun q hq => ?_, range := hm.range, low := fun q t ht hs v hr => hm.low q t ht hs v (hrun _ _ hr), high := hm.high, none := hm.none }
   ·simp only [hB q]
    split
    ·rename_i e; obtain ⟨_, e⟩ := e; subst e
     have := hm.n0 q hq
     omega
    ·exact hm.b0 q hq
   ·simp only [hN q]
    split
    ·rename_i e; subst e; omega
    ·exact hm.n0 q hq
   ·simp only [hB q, hN q]
    have h1 := hm.b0 q hq
    by_cases e : q = i
    ·rw [if_pos e]
     split
     ·rename_i e2; obtain ⟨_, e2⟩ := e2; subst e2; omega
     ·omega
    ·rw [if_neg e, if_neg (fun h => e h.2)]; exact hm.ne q hq
theorem NH (N : Nat) (hN : N ≤ 1000000) (h20 : 100 ≤ N) {p : Ag} {m : Ae} (hw : Mq Jp m.fHeld) (s : Aj) : DH N p m s = some (if GU p m = 0 then Ce p m s else (G7, GU p m)) := by
 unfold DH Ce
 rw [NF N p m hN (by omega)]
 simp only [oS, Bj]
 by_cases hval : GU p m = 0
 ·obtain ⟨hp, hm⟩ := O0 hw hval
  rw [if_pos hval, hval, bne_self_eq_false, As, Od]
  simp only [oS]
  cases hv : Fw s
  ·rw [Bool.not_false, AK, if_pos rfl]; rfl
  ·rw [Bool.not_true, As, if_neg (by simp)]
   obtain ⟨k1, k4, i0, v0, vk⟩ := HW hv
   have key : ∀ b : Bool, ED p s = b → (if b = false then (G7, (4 : Int)) else match E7 p m s with | none => (G7, 11) | some x => (x, 0)) = (if b = false then (G7, (4 : Int)) else match E7 p m s with | none => (G7, 11) | some x => (x, 0)) := fun _ _ => rfl
   have tail : ED p s = true → ((B4 N p m s).bind fun v15 => AT (!v15.2) (some (Ae.mk [] [] [], (11 : Int))) (some (v15.1, 0))) = some (match E7 p m s with | none => (G7, 11) | some x => (x, 0)) := fun hx => by
    rw [Kd N hN h20 hp hm hv hx]
    cases E7 p m s <;> rfl
   have zz : (Ae.mk [] [] [], (4 : Int)) = (G7, 4) := rfl
   by_cases hk3 : s.fKind = 3
   ·rw [beq_iff_eq.2 hk3, AK, show (s.fKind != 3) = false from by rw [hk3]; rfl]
    have hX : ED p s = decide (s.fIndex < (p.fTables.length : Int)) := by unfold ED; rw [if_pos hk3]
    by_cases c : (p.fTables.length : Int) ≤ s.fIndex
    ·rw [AF c, AK, hX, decide_eq_false (by omega), if_pos rfl]; rfl
    ·have hx : ED p s = true := by rw [hX, decide_eq_true (by omega)]
     rw [AD c, As, As, beq_eq_false_iff_ne.2 (show s.fKind ≠ 1 by omega), As, As, hx, if_neg (by simp)]
     exact tail hx
   ·rw [beq_eq_false_iff_ne.2 hk3, As, bne_iff_ne.2 hk3, AK]
    have hX : ED p s = (decide (s.fIndex < (p.fVersions.length : Int)) && (s.fKind != 1 || decide (s.fVersion < p.fVersions.getD s.fIndex.toNat 0))) := by unfold ED; rw [if_neg hk3]
    by_cases c : (p.fVersions.length : Int) ≤ s.fIndex
    ·rw [decide_eq_true c, AK, hX, decide_eq_false (show ¬ s.fIndex < (p.fVersions.length : Int) by omega), Bool.false_and, if_pos rfl]; rfl
    ·rw [decide_eq_false c, As]
     by_cases hk1 : s.fKind = 1
     ·rw [beq_iff_eq.2 hk1, AK, Ev (d := 0) i0 (by omega)]
      simp only [oS]
      by_cases c2 : p.fVersions.getD s.fIndex.toNat 0 ≤ s.fVersion
      ·rw [decide_eq_true c2, AK, hX, decide_eq_false (show ¬ s.fVersion < p.fVersions.getD s.fIndex.toNat 0 by omega), show (s.fKind != 1) = false from by rw [hk1]; rfl, Bool.false_or, Bool.and_false, if_pos rfl]; rfl
      ·have hx : ED p s = true := by rw [hX, decide_eq_true (by omega), decide_eq_true (by omega), Bool.or_true]; rfl
       rw [decide_eq_false c2, As, hx, if_neg (by simp)]
       exact tail hx
     ·have hx : ED p s = true := by rw [hX, decide_eq_true (by omega), bne_iff_ne.2 hk1]; rfl
      rw [beq_eq_false_iff_ne.2 hk1, As, As, hx, if_neg (by simp)]
      exact tail hx
 ·rw [if_neg hval, bne_iff_ne.2 hval, AK]; rfl
theorem Jj {p : Ag} {m : Ae} (hp : B9 p) (hm : Cx p m) {s : Aj} (h : (Ce p m s).2 = 0) : Cx p (Ce p m s).1 := by
 unfold Ce at h ⊢
 split at h
 ·cases h
 rename_i h1
 rw [if_neg h1]
 split at h
 ·cases h
 rename_i h2
 rw [if_neg h2]
 cases ha : E7 p m s with
 | none => rw [ha] at h; cases h
 | some x => exact RM hp hm (by simpa using h1) (by simpa using h2) ha
end Go.Lift
namespace Go.Lift
open Go
section
variable {N : Nat} {p : Ag} {l : List Aj}
end
end Go.Lift
namespace Go.Lift
open Go
structure Vi (p : Ag) (m x : Ae) : Prop where
 base : m.fBase = x.fBase
 next : m.fNext = x.fNext
 held : ∀ i, i < p.fTables.length → ∀ v, DA (m.fHeld.getD i 0) v = true → DA (x.fHeld.getD i 0) v = true
theorem Vi.refl (p : Ag) (m : Ae) : Vi p m m := ⟨rfl, rfl, fun _ _ _ h => h⟩
theorem Vi.trans {p : Ag} {a b c : Ae} (h : Vi p a b) (g : Vi p b c) : Vi p a c := ⟨h.base.trans g.base, h.next.trans g.next, fun i hi v hv => g.held i hi v (h.held i hi v hv)⟩
end Go.Lift
namespace Go.Lift
open List renaming mem_of_getElem? → lM
open Go
def PV (i : Nat) (n : Int) : List Aj := (List.range n.toNat).map fun v => ⟨1, (i : Int), ((v : Nat) : Int), ⟩
def Hq (p : Ag) : List Aj := E0 PV 0 p.fVersions ++ ((List.range p.fVersions.length).map fun i => (⟨2, ((i : Nat) : Int), 0⟩ : Aj)) ++ ((List.range p.fTables.length).map fun i => (⟨3, ((i : Nat) : Int), 0⟩ : Aj))
def EZ (p : Ag) (m : Ae) : List Aj := (Hq p).filter fun s => (Ce p m s).2 == 0
theorem SS {p : Ag} (hp : B9 p) : (Hq p).length ≤ 54 := by
 have h1 : (E0 PV 0 p.fVersions).length ≤ 6 * p.fVersions.length := Jg fun j x hx => by
  have := hp.ver x (lM hx)
  simp [PV]; omega
 have := hp.nv
 have := hp.nt
 unfold Hq
 simp only [List.length_append, List.length_map, List.length_range]
 omega
end Go.Lift
namespace Go.Lift
open List renaming mem_of_getElem? → lM
open List renaming getElem?_eq_some_iff → lI
open List renaming getD_eq_getElem?_getD → lD
open Go
theorem QR {p : Ag} (hp : B9 p) {s : Aj} (h : s ∈ Hq p) : Fw s = true ∧ ED p s = true := by
 have hnv := hp.nv
 unfold Hq at h
 rcases List.mem_append.1 h with h | h
 ·rcases List.mem_append.1 h with h | h
  ·obtain ⟨j, x, hx, hk⟩ := M1.1 h
   rw [Nat.zero_add] at hk
   unfold PV at hk
   obtain ⟨v, hv, rfl⟩ := List.mem_map.1 hk
   have hx6 := hp.ver x (lM hx)
   have hv := List.mem_range.1 hv
   have hj := (lI.1 hx).1
   refine ⟨by unfold Fw; simp, ?_⟩
   unfold ED
   have e : p.fVersions.getD j 0 = x := by rw [lD, hx]; rfl
   simp only
   rw [if_neg (by omega), decide_eq_true (by omega), Int.toNat_natCast, e, decide_eq_true (by omega), Bool.or_true]; rfl
  ·obtain ⟨v, hv, rfl⟩ := List.mem_map.1 h
   have hv := List.mem_range.1 hv
   refine ⟨by unfold Fw; simp, ?_⟩
   unfold ED
   simp only
   rw [if_neg (by omega), decide_eq_true (by omega)]; rfl
 ·obtain ⟨v, hv, rfl⟩ := List.mem_map.1 h
  have hv := List.mem_range.1 hv
  refine ⟨by unfold Fw; simp, ?_⟩
  unfold ED
  simp only
  rw [if_pos trivial, decide_eq_true (by omega)]
end Go.Lift
namespace Go.Lift
open Option renaming bind_some → oS
open List renaming mem_of_getElem? → lM
open List renaming getElem?_eq_some_iff → lI
open List renaming getD_eq_getElem?_getD → lD
open Go
theorem GN {β : Type} (g : Nat → List β) : ∀ n : Nat, E0 (fun i (_ : Nat) => g i) 0 (List.range n) = (List.range n).flatMap g
 | 0 => rfl
 | n + 1 => by rw [List.range_succ, J7, GN g n, List.flatMap_append]; simp [E0]
def SM (p : Ag) (m : Ae) (s : Aj) : Bool := (Ce p m s).2 == 0
def gS (p : Ag) (m : Ae) (k : Int) (i v : Nat) : List Aj := if SM p m ⟨k, (i : Int), (v : Int)⟩ = true then [⟨k, (i : Int), (v : Int)⟩] else []
def bS (p : Ag) (m : Ae) (k : Int) (i : Nat) : List Aj := (List.range 6).flatMap (gS p m k i)
def Pr (p : Ag) : Nat := max p.fVersions.length p.fTables.length
def kS (p : Ag) (m : Ae) (k : Int) : List Aj := (List.range (Pr p)).flatMap (bS p m k)
theorem Jc {β : Type} (f : Nat → β) (q : β → Bool) : ∀ n : Nat, ((List.range n).flatMap fun v => if q (f v) = true then [f v] else []) = ((List.range n).map f).filter q
 | 0 => rfl
 | n + 1 => by
  rw [List.range_succ, List.flatMap_append, Jc f q n, List.map_append, List.filter_append]
  cases h : q (f n) <;> simp [h]
theorem I5 {β : Type} (g : Nat → List β) (a : Nat) (h : ∀ v, a ≤ v → g v = []) : ∀ n, a ≤ n → (List.range n).flatMap g = (List.range a).flatMap g
 | 0, hn => by rw [Nat.le_zero.1 hn]
 | n + 1, hn => by
  by_cases h1 : a = n + 1
  ·rw [h1]
  ·rw [List.range_succ, List.flatMap_append, I5 g a h n (by omega)]
   simp [h n (by omega)]
theorem R1 (p : Ag) (m : Ae) (k : Int) (i v : Nat) : (gS p m k i v).length ≤ 1 := by unfold gS; split <;> simp
theorem Rx (p : Ag) (m : Ae) (k : Int) (i : Nat) : (bS p m k i).length ≤ 6 := by
 unfold bS
 rw [← GN]
 have := Jg (g := fun i' (_ : Nat) => gS p m k i i') (c := 1) (i := 0) (xs := List.range 6) fun j x _ => R1 p m k i _
 simpa using this
theorem UF {p : Ag} (hp : B9 p) (m : Ae) (k : Int) : (kS p m k).length ≤ 72 := by
 have h1 := hp.nv
 have h2 := hp.nt
 unfold kS
 rw [← GN]
 have := Jg (g := fun i' (_ : Nat) => bS p m k i') (c := 6) (i := 0) (xs := List.range (Pr p)) fun j x _ => Rx p m k _
 simp only [List.length_range] at this
 have h3 : Pr p ≤ 12 := by unfold Pr; omega
 omega
theorem U2 {p : Ag} {m : Ae} {s : Aj} (h : SM p m s = true) : Fw s = true ∧ ED p s = true := by
 unfold SM Ce at h
 split at h
 ·cases h
 ·rename_i h1
  split at h
  ·cases h
  ·rename_i h2
   exact ⟨by simpa using h1, by simpa using h2⟩
theorem Ko {p : Ag} {m : Ae} {k : Int} {i v : Nat} (h : SM p m ⟨k, (i : Int), (v : Int)⟩ = true) : (k = 3 → i < p.fTables.length) ∧ (k ≠ 3 → i < p.fVersions.length) ∧ (k = 1 → (v : Int) < p.fVersions.getD i 0) ∧ (k ≠ 1 → v = 0) := by
 obtain ⟨h1, h2⟩ := U2 h
 obtain ⟨a1, a2, a3, a4, a5⟩ := HW h1
 obtain ⟨b1, b2, b3⟩ := Jk h2
 simp only [Int.toNat_natCast] at *
 exact ⟨fun e => by have := b1 e; omega, fun e => by have := b2 e; omega, b3, fun e => by have := a5 e; omega⟩
theorem Sy {p : Ag} (hp : B9 p) (m : Ae) : kS p m 1 ++ kS p m 2 ++ kS p m 3 = EZ p m := by
 have hnv := hp.nv
 have hnt := hp.nt
 unfold EZ Hq
 rw [List.filter_append, List.filter_append]
 have e1 : kS p m 1 = (E0 PV 0 p.fVersions).filter fun s => (Ce p m s).2 == 0 := by
  unfold kS
  rw [I5 (bS p m 1) p.fVersions.length (fun i hi => by
   unfold bS
   rw [List.flatMap_eq_nil_iff]
   intro v _
   unfold gS
   rw [if_neg]
   intro h
   have := (Ko h).2.1 (by decide)
   omega) (Pr p) (by unfold Pr; omega)]
  have e : ∀ (xs : List Int) (i : Nat), (∀ j x, xs[j]? = some x → 1 ≤ x ∧ x ≤ 6 ∧ p.fVersions.getD (i + j) 0 = x) → ((List.range xs.length).flatMap fun j => bS p m 1 (i + j)) = (E0 PV i xs).filter fun s => (Ce p m s).2 == 0 := by
   intro xs
   induction xs with
   | nil => intro i _; rfl
   | cons x xs ih =>
    intro i hx
    rw [List.length_cons, List.range_succ_eq_map, List.flatMap_cons, List.flatMap_map, E0, List.filter_append]
    have ih' := ih (i + 1) (fun j y hy => by
     have := hx (j + 1) y (by simpa using hy)
     rw [show i + 1 + j = i + (j + 1) from by omega]; exact this)
    have hx0 := hx 0 x rfl
    rw [Nat.add_zero] at hx0
    congr 1
    ·rw [Nat.add_zero]
     unfold bS PV
     rw [I5 (gS p m 1 i) x.toNat (fun v hv => by
      unfold gS
      rw [if_neg]
      intro h
      have := (Ko h).2.2.1 rfl
      rw [hx0.2.2] at this
      omega) 6 (by omega)]
     exact Jc (fun v => (⟨1, (i : Int), ((v : Nat) : Int)⟩ : Aj)) (SM p m) x.toNat
    ·rw [← ih']
     congr 1
     funext j
     rw [show i + (j + 1) = i + 1 + j from by omega]
  have := e p.fVersions 0 (fun j x hx => by
   have h1 := hp.ver x (lM hx)
   refine ⟨h1.1, h1.2, ?_⟩
   rw [Nat.zero_add, lD, hx]; rfl)
  simp only [Nat.zero_add] at this
  exact this
 have e23 : ∀ (k : Int) (n : Nat), k ≠ 1 → n ≤ Pr p → (∀ i v, SM p m ⟨k, ((i : Nat) : Int), ((v : Nat) : Int)⟩ = true → i < n) → kS p m k = (((List.range n).map fun i => (⟨k, ((i : Nat) : Int), 0⟩ : Aj)).filter fun s => (Ce p m s).2 == 0) := by
  intro k n hk hn hi
  unfold kS
  rw [I5 (bS p m k) n (fun i hi' => by
   unfold bS
   rw [List.flatMap_eq_nil_iff]
   intro v _
   unfold gS
   rw [if_neg]
   intro h
   have := hi i v h
   omega) (Pr p) hn]
  show _ = List.filter (SM p m) _
  rw [← Jc (fun i => (⟨k, ((i : Nat) : Int), 0⟩ : Aj)) (SM p m) n]
  congr 1
  funext i
  unfold bS
  rw [I5 (gS p m k i) 1 (fun v hv => by
   unfold gS
   rw [if_neg]
   intro h
   have := (Ko h).2.2.2 hk
   omega) 6 (by omega)]
  simp [gS]
 rw [e1, e23 2 p.fVersions.length (by decide) (by unfold Pr; omega) (fun i v h => (Ko h).2.1 (by decide)), e23 3 p.fTables.length (by decide) (by unfold Pr; omega) (fun i v h => (Ko h).1 rfl)]
theorem On (a b : Nat) : Q2 (a : Int) (b : Int) = ((max a b : Nat) : Int) := by
 unfold Q2
 omega
theorem N3 (N : Nat) (hN : N ≤ 1000000) (h20 : 100 ≤ N) {p : Ag} {m : Ae} (hv : Cg p = 0) (hm : Cx p m) : DL N p m = some (EZ p m) := by
 obtain ⟨hp, _⟩ := C6 hv
 have hnv := hp.nv
 have hnt := hp.nt
 have hmx : Pr p ≤ 12 := by unfold Pr; omega
 unfold DL
 have hmix := Kf hv hm
 -- one number
 have inn : ∀ (k : Int) (c0 a : List Aj) (i : Nat) (d0 : List Aj) (j : List Aj → Option (List Aj)), a.length ≤ 1000 →
   BV N p m (c0, k) (d0, (i : Int)) j N (a, 0) = j (a ++ bS p m k i) := by
  intro k c0 a i d0 j ha
  have := Ns (BV N p m (c0, k) (d0, (i : Int)) j) (fun a i => (a, i)) (List.range 6) j (fun v _ => gS p m k i v) 1 2000
   (fun v x _ => R1 _ _ _ _ _)
   (fun n v x a hx hl => by
    have hi := (lI.1 hx).1
    simp only [List.length_range] at hi
    rw [BV, AF (by simp only; omega)]
    simp only [Bj]
    rw [NH N hN h20 (MY hm), if_pos hmix]
    simp only [oS, A2 (show v < 1000000 by omega)]
    unfold gS SM
    cases hq : (Ce p m ⟨k, (i : Int), (v : Int)⟩).2 == 0
    ·rw [As, if_neg (by simp), List.append_nil]
    ·rw [AK, if_pos rfl, AI (by simp [D2]; unfold gS SM at hl; rw [hq] at hl; simp at hl; omega)])
   (fun n a => by rw [BV, AD (by simp)]) N a (by simp; omega) (by simp; omega)
  rw [GN] at this
  exact this
 have mid : ∀ (k : Int) (c0 a : List Aj) (j : List Aj → Option (List Aj)), a.length ≤ 500 →
   BW N p m (c0, k) j N (a, 0) = j (a ++ kS p m k) := by
  intro k c0 a j ha
  have := Ns (BW N p m (c0, k) j) (fun a i => (a, i)) (List.range (Pr p)) j (fun i _ => bS p m k i) 6 900
   (fun v x _ => Rx _ _ _ _)
   (fun n i x a hx hl => by
    have hi := (lI.1 hx).1
    simp only [List.length_range] at hi
    rw [BW, AF (by simp only; rw [On]; unfold Pr at hi; omega)]
    rw [inn k c0 a i a _ (by omega)]
    simp only [A2 (show i < 1000000 by omega)])
   (fun n a => by rw [BW, AD (by simp [On, Pr])]) N a (by simp; omega) (by simp; omega)
  rw [GN] at this
  exact this
 have hk := UF hp m
 have go : ∀ (k : Int) (n : Nat) (a : List Aj), k ≤ 3 → 1 ≤ k → a.length ≤ 300 → Bo N p m (fun v2 => some v2) (n + 1) (a, k) = Bo N p m (fun v2 => some v2) n (a ++ kS p m k, k + 1) := by
  intro k n a h1 h2 ha
  rw [Bo, AF h1]
  rw [mid k a a _ (by omega), Ch (by omega) (by omega)]
 obtain ⟨N', hN'⟩ : ∃ q, N = q + 4 := ⟨N - 4, by omega⟩
 have e0 : Bo N p m (fun v2 => some v2) N ([], 1) = Bo N p m (fun v2 => some v2) (N' + 4) ([], 1) := by rw [hN']
 rw [e0, go 1 (N' + 3) [] (by decide) (by decide) (by simp), List.nil_append]
 rw [show (1 : Int) + 1 = 2 from rfl, go 2 (N' + 2) _ (by decide) (by decide) (by have := hk 1; omega)]
 rw [show (2 : Int) + 1 = 3 from rfl, go 3 (N' + 1) _ (by decide) (by decide) (by have h1 := hk 1; have h2 := hk 2; rw [List.length_append]; omega)]
 rw [Bo, AD (by simp), Sy hp]
end Go.Lift
namespace Go.Lift
namespace Bfs
section
variable {α σ : Type}
def code (rk : σ → Nat) (K : Nat) (w : List σ) : Nat := w.foldl (fun c s => c * K + rk s) 0
def W4 (rk : σ → Nat) (K : Nat) (w : List σ) : Prop := ∀ s, s ∈ w → 1 ≤ rk s ∧ rk s ≤ K
theorem W4.snoc {rk : σ → Nat} {K : Nat} {w : List σ} {s : σ} (h : W4 rk K w) (hs : 1 ≤ rk s ∧ rk s ≤ K) : W4 rk K (w ++ [s]) := by
 intro x hx; rcases List.mem_append.1 hx with h1 | h1
 ·exact h x h1
 ·rw [List.mem_singleton.1 h1]; exact hs
abbrev Nd (α σ : Type) := α × Int × σ
def put [DecidableEq α] (i : Nat) (l : List (Nd α σ)) (q : σ × α) : List (Nd α σ) := if (l.any fun n => decide (n.1 = q.2)) = true then l else l ++ [(q.2, (i : Int), q.1)]
def R0 [DecidableEq α] (most i : Nat) : List (σ × α) → List (Nd α σ) → Option (List (Nd α σ))
 | [], l => some l
 | q :: qs, l => if most < (put i l q).length then none else R0 most i qs (put i l q)
def go [DecidableEq α] (nxt : α → List (σ × α)) (most : Nat) : Nat → Nat → List (Nd α σ) → Option (List (Nd α σ))
 | 0, _, _ => none
 | n + 1, i, l => match l[i]? with
  | none => some l
  | some nd => (R0 most i (nxt nd.1) l).bind fun l' => go nxt most n (i + 1) l'
def run (nxt : α → List (σ × α)) (x : α) : List σ → α → Prop
 | [], y => y = x
 | s :: w, y => ∃ z, (s, z) ∈ nxt x ∧ run nxt z w y
theorem Ho {nxt : α → List (σ × α)} : ∀ {u w : List σ} {x y : α}, run nxt x (u ++ w) y ↔ ∃ z, run nxt x u z ∧ run nxt z w y
 | [], w, x, y => by simp [run]
 | s :: u, w, x, y => by
  simp only [List.cons_append, run]
  constructor
  ·rintro ⟨z, h1, h2⟩
   obtain ⟨z', h3, h4⟩ := Ho.1 h2
   exact ⟨z', ⟨z, h1, h3⟩, h4⟩
  ·rintro ⟨z', ⟨z, h1, h3⟩, h4⟩
   exact ⟨z, h1, Ho.2 ⟨z', h3, h4⟩⟩
end
end Bfs
end Go.Lift
namespace Go.Lift
open Option renaming bind_some → oS
open Go
theorem OG : ∀ {l : List Int}, PE l = 0 → ∀ x, x ∈ l → x = 0
 | [], _, x, hx => by cases hx
 | y :: ys, h, x, hx => by
  unfold PE at h
  split at h
  ·rename_i hy
   rcases List.mem_cons.1 hx with rfl | hx
   ·exact hy
   ·exact OG h x hx
  ·rename_i hy; exact absurd h hy
theorem KL {a b : Ae} (h : JY a b = 0) : a = b := by
 have := OG h
 have h1 := Lr _ _ (this (DI a.fBase b.fBase) (by simp))
 have h2 := Lr _ _ (this (DI a.fNext b.fNext) (by simp))
 have h3 := Lr _ _ (this (DI a.fHeld b.fHeld) (by simp))
 cases a; cases b; simp only at h1 h2 h3; subst h1; subst h2; subst h3; rfl
instance WZ : DecidableEq Ae := fun a b => if h : JY a b = 0 then isTrue (KL h) else isFalse (fun e => h (by rw [e]; exact Nk b))
theorem Ox (a b : Ae) : (JY a b == 0) = decide (a = b) := by
 by_cases h : a = b
 ·rw [decide_eq_true h, h, Nk]; rfl
 ·rw [decide_eq_false h]
  exact beq_eq_false_iff_ne.2 fun e => h (KL e)
theorem I0 {p : Ag} {m : Ae} {s : Aj} (h : s ∈ EZ p m) : s ∈ Hq p ∧ (Ce p m s).2 = 0 := by
 unfold EZ at h
 have := List.mem_filter.1 h
 exact ⟨this.1, by simpa using this.2⟩
theorem O9 {N : Nat} {p : Ag} {a b : Ae} (hN : N ≤ 1000000) (h20 : 100 ≤ N) (hp : B9 p) (ha : Cx p a) (hb : Cx p b) : Ci N a b = some (decide (a = b)) := by
 have hnv := hp.nv
 have hnt := hp.nt
 unfold Ci
 rw [Pf hN (by rw [ha.base]; omega) (by rw [ha.next]; omega) (by rw [ha.held]; omega) (by rw [hb.held]; omega) (MY ha) (MY hb)]
 simp only [oS]
 rw [Ox]
theorem Ki (N : Nat) (hN : N ≤ 1000000) (h20 : 100 ≤ N) {p : Ag} {m : Ae} (hp : B9 p) (hm : Cx p m) {s : Aj} (hs : s ∈ EZ p m) : ∃ b, B4 N p m s = some ((Ce p m s).1, b) := by
 obtain ⟨h1, h2⟩ := I0 hs
 obtain ⟨h3, h4⟩ := QR hp h1
 rw [Kd N hN h20 hp hm h3 h4]
 unfold Ce at h2 ⊢
 rw [h3, h4, if_neg (by simp), if_neg (by simp)] at h2 ⊢
 cases h : E7 p m s with
 | none => rw [h] at h2; cases h2
 | some x => exact ⟨true, rfl⟩
end Go.Lift
namespace Go.Lift
open IntKind renaming wrap → wI
open Option renaming bind_some → oS
open List renaming mem_of_getElem? → lM
open Go
open Go.Sort (swp insInner insOuter insertionSort siftDown heapBuild heapPop heapSort)
section
variable {α : Type} [Inhabited α]
theorem wn {e : Int} {n : Nat} (h : e = (n : Int)) (hn : n < 1000000000) : wI .i64 e = (n : Int) := by
 subst h; exact Ch (by omega) (by omega)
theorem gi {d : Array α} {i : Nat} (h : i < d.size) : A4 d.toList (i : Int) = some d[i]! := by
 rw [Bi]
 simp [h, getElem!_pos]
theorem He {β γ : Type} {l : List β} {i : Nat} (h : i < l.length) (X : Option γ) : ((A4 l (i : Int)).bind fun _ => X) = X := by
 rw [Bi, List.getElem?_eq_getElem h]; rfl
theorem DU (d : Array α) (i j : Nat) : (swp d i j).toList = (d.toList.set i d[j]!).set j d[i]! := by
 unfold swp; simp
theorem Bb (d : Array α) (i j : Nat) : (swp d i j).size = d.size := by unfold swp; simp
def CH (P : α → Prop) (d : Array α) : Prop := ∀ x, x ∈ d.toList → P x
theorem CH.get {P : α → Prop} {d : Array α} (h : CH P d) {i : Nat} (hi : i < d.size) : P d[i]! := by
 have := gi hi
 rw [Bi] at this
 exact h _ (lM this)
theorem CH.swp {P : α → Prop} {d : Array α} (h : CH P d) {i j : Nat} (hi : i < d.size) (hj : j < d.size) : CH P (swp d i j) := by
 intro x hx
 rw [DU] at hx
 rcases List.mem_or_eq_of_mem_set hx with hx | hx
 ·rcases List.mem_or_eq_of_mem_set hx with hx | hx
  ·exact h x hx
  ·rw [hx]; exact h.get hj
 ·rw [hx]; exact h.get hi
variable {P : α → Prop} {cmp : α × α → Option Int} {c : α → α → Int}
def BT (c : α → α → Int) (x y : α) : Bool := decide (c x y < 0)
theorem RF (hc : ∀ x y, P x → P y → cmp (x, y) = some (c x y)) (N a : Nat) (J : List α → Option (List α)) : ∀ (n j : Nat) (d : Array α), j < n → j < d.size → d.size ≤ 100000 → CH P d →
  Gs.insertionSort_L4 N (a : Int) cmp J n (d.toList, (j : Int)) = J (insInner (BT c) a j d).toList ∧ (insInner (BT c) a j d).size = d.size ∧ CH P (insInner (BT c) a j d)
 | 0, j, d, h, _, _, _ => by omega
 | n + 1, j, d, h, hj, hs, hA => by
  rw [Gs.insertionSort_L4]
  simp only [Bj]
  rcases j with _ | j
  ·rw [AD (by omega), As]
   exact ⟨rfl, rfl, hA⟩
  ·simp only [wn (e := ((j + 1 : Nat) : Int) - 1) (n := j) (by omega) (by omega), gi hj, gi (show j < d.size by omega), oS, Int.toNat_natCast]
   rw [hc _ _ (hA.get hj) (hA.get (by omega))]
   simp only [oS]
   rw [He (by simp; omega), ← DU]
   rw [insInner]
   by_cases ha : a < j + 1
   ·rw [AF (by omega), S1]
    by_cases hl : c d[j + 1]! d[j]! < 0
    ·rw [if_pos (decide_eq_true hl), if_pos (by simp [ha, BT, hl])]
     have := RF hc N a J n j (swp d (j + 1) j) (by omega) (by rw [Bb]; omega) (by rw [Bb]; exact hs) (hA.swp hj (by omega))
     rw [Bb] at this
     exact this
    ·rw [if_neg (by simpa using hl), if_neg (by simp [BT, hl])]
     exact ⟨rfl, rfl, hA⟩
   ·rw [AD (by omega), As, if_neg (by simp [ha])]
    exact ⟨rfl, rfl, hA⟩
theorem QE (hc : ∀ x y, P x → P y → cmp (x, y) = some (c x y)) (N a b : Nat) (J : List α → Option (List α)) : ∀ (n i : Nat) (d : Array α), b - i < n → b ≤ d.size → d.size < N → d.size ≤ 100000 → i ≤ 200000 → CH P d →
  Gs.insertionSort_L1 N (a : Int) (b : Int) cmp J n (d.toList, (i : Int)) = J (insOuter (BT c) a b i d).toList ∧ (insOuter (BT c) a b i d).size = d.size ∧ CH P (insOuter (BT c) a b i d)
 | 0, i, d, h, _, _, _, _, _ => by omega
 | n + 1, i, d, h, hb, hN, hs, hi2, hA => by
  rw [Gs.insertionSort_L1, insOuter]
  by_cases hi : i < b
  ·rw [AF (by simp only; omega), if_pos hi]
   obtain ⟨e1, e2, e3⟩ := RF hc N a (fun v5 => Gs.insertionSort_L1 N (a : Int) (b : Int) cmp J n (v5, ((i + 1 : Nat) : Int))) N i d (by omega) (by omega) hs hA
   simp only [wn (e := (i : Int) + 1) (n := i + 1) (by omega) (by omega)]
   rw [e1]
   have := QE hc N a b J n (i + 1) (insInner (BT c) a i d) (by omega) (by omega) (by omega) (by omega) (by omega) e3
   rw [e2] at this
   exact this
  ·rw [AD (by simp only; omega), if_neg hi]
   exact ⟨rfl, rfl, hA⟩
theorem UW (hc : ∀ x y, P x → P y → cmp (x, y) = some (c x y)) {N a b : Nat} {d : Array α} (hab : a ≤ b) (hb : b ≤ d.size) (hN : d.size < N) (hs : d.size ≤ 100000) (hA : CH P d) :
  Gs.insertionSort N d.toList (a : Int) (b : Int) cmp = some (insertionSort (BT c) d a b).toList ∧ (insertionSort (BT c) d a b).size = d.size ∧ CH P (insertionSort (BT c) d a b) := by
 unfold Gs.insertionSort
 rw [wn (e := (a : Int) + 1) (n := a + 1) (by omega) (by omega)]
 exact QE hc N a b (fun v2 => some v2) N (a + 1) d (by omega) hb hN hs (by omega) hA
theorem NK (hc : ∀ x y, P x → P y → cmp (x, y) = some (c x y)) {N hi first : Nat} : ∀ (n root : Nat) (d : Array α), hi - root < n → first + hi ≤ d.size → d.size ≤ 100000 → root ≤ 100000 → CH P d → root < hi ∨ hi = 0 ∨ True → (2 * root + 1 < hi → root < hi) →
  Gs.siftDown_L1 N (hi : Int) (first : Int) cmp (fun v2 => some v2) n (d.toList, (root : Int)) = some (siftDown (BT c) hi first root d).toList ∧ (siftDown (BT c) hi first root d).size = d.size ∧ CH P (siftDown (BT c) hi first root d)
 | 0, root, d, h, _, _, _, _, _, _ => by omega
 | n + 1, root, d, h, hf, hs, hr, hA, _, _ => by
  rw [Gs.siftDown_L1, siftDown]
  simp only [Bj]
  have e1 : wI .i64 ((wI .i64 (2 * (root : Int))) + 1) = ((2 * root + 1 : Nat) : Int) := by
   rw [wn (e := 2 * (root : Int)) (n := 2 * root) (by omega) (by omega), wn (n := 2 * root + 1) (by omega) (by omega)]
  have e2 : wI .i64 (((2 * root + 1 : Nat) : Int) + 1) = ((2 * root + 2 : Nat) : Int) := wn (by omega) (by omega)
  have e3 : wI .i64 ((first : Int) + ((2 * root + 1 : Nat) : Int)) = ((first + (2 * root + 1) : Nat) : Int) := by
   by_cases hx : first < 200000
   ·exact wn (by omega) (by omega)
   ·omega
  have e4 : wI .i64 ((first : Int) + (root : Int)) = ((first + root : Nat) : Int) := wn (by omega) (by omega)
  have e5 : wI .i64 (((first + (2 * root + 1) : Nat) : Int) + 1) = ((first + (2 * root + 1) + 1 : Nat) : Int) := wn (by omega) (by omega)
  have e6 : wI .i64 ((first : Int) + ((2 * root + 2 : Nat) : Int)) = ((first + (2 * root + 2) : Nat) : Int) := wn (by omega) (by omega)
  simp only [e1, e2, e3, e4, e5]
  by_cases h1 : 2 * root + 1 ≥ hi
  ·rw [AF (by omega), dif_pos h1]
   exact ⟨rfl, rfl, hA⟩
  ·rw [AD (by omega), dif_neg h1]
   -- what follows when the child is known
   have tail : ∀ ch : Nat, ch < hi → root < ch → wI .i64 ((first : Int) + (ch : Int)) = ((first + ch : Nat) : Int) →
     (((A4 d.toList ((first + root : Nat) : Int)).bind fun v11 => (A4 d.toList (wI .i64 ((first : Int) + (ch : Int)))).bind fun v12 => (cmp (v11, v12)).bind fun v13 => AT (!(decide (v13 < 0))) (some d.toList)
      ((A4 d.toList (wI .i64 ((first : Int) + (ch : Int)))).bind fun v15 => (A4 d.toList ((first + root : Nat) : Int)).bind fun v16 => (A4 d.toList ((first + root : Nat) : Int)).bind fun _ =>
       (A4 (d.toList.set (((first + root : Nat) : Int)).toNat v15) (wI .i64 ((first : Int) + (ch : Int)))).bind fun _ =>
       Gs.siftDown_L1 N (hi : Int) (first : Int) cmp (fun v2 => some v2) n ((d.toList.set (((first + root : Nat) : Int)).toNat v15).set ((wI .i64 ((first : Int) + (ch : Int)))).toNat v16, (ch : Int)))) =
      some (if !BT c d[first + root]! d[first + ch]! then d else siftDown (BT c) hi first ch (swp d (first + root) (first + ch))).toList) ∧
     (if !BT c d[first + root]! d[first + ch]! then d else siftDown (BT c) hi first ch (swp d (first + root) (first + ch))).size = d.size ∧ CH P (if !BT c d[first + root]! d[first + ch]! then d else siftDown (BT c) hi first ch (swp d (first + root) (first + ch))) := by
    intro ch h2 h3 h4
    have a1 : first + root < d.size := by omega
    have a2 : first + ch < d.size := by omega
    simp only [h4, gi a1, gi a2, oS, Int.toNat_natCast]
    rw [hc _ _ (hA.get a1) (hA.get a2)]
    simp only [oS]
    rw [He (by simp; omega), ← DU]
    unfold BT
    cases hl : decide (c d[first + root]! d[first + ch]! < 0)
    ·rw [Bool.not_false, AK, if_pos rfl]
     exact ⟨rfl, rfl, hA⟩
    ·rw [Bool.not_true, As, if_neg (by simp)]
     have := NK hc (N := N) (hi := hi) (first := first) n ch (swp d (first + root) (first + ch)) (by omega) (by rw [Bb]; omega) (by rw [Bb]; exact hs) (by omega) (hA.swp a1 a2) (.inl h2) (fun _ => h2)
     rw [Bb] at this
     exact this
   have t1 := tail (2 * root + 1) (by omega) (by omega) e3
   rw [e3] at t1
   by_cases h2 : 2 * root + 1 + 1 < hi
   ·rw [AF (by omega)]
    simp only [gi (show first + (2 * root + 1) < d.size by omega), gi (show first + (2 * root + 1) + 1 < d.size by omega), oS] at t1 ⊢
    rw [hc _ _ (hA.get (by omega)) (hA.get (by omega))]
    simp only [oS]
    have t2 := tail (2 * root + 2) (by omega) (by omega) e6
    rw [e6] at t2
    cases hl : decide (c d[first + (2 * root + 1)]! d[first + (2 * root + 1) + 1]! < 0)
    ·rw [As, if_neg (by simp [BT, hl])]
     exact t1
    ·rw [AK, if_pos (by simp [BT, h2]; simpa using hl), dif_pos (show 2 * root + 2 < hi by omega)]
     simp only [e6]
     exact t2
   ·rw [AD (by omega), As, if_neg (by simp [h2])]
    exact t1
theorem Lw (hc : ∀ x y, P x → P y → cmp (x, y) = some (c x y)) {N a b : Nat} (hab : a ≤ b) (J : List α → Option (List α)) : ∀ (n k : Nat) (d : Array α), k < n → b ≤ d.size → d.size < N → d.size ≤ 100000 → k ≤ 100000 → CH P d →
  Gs.heapSort_L1 N (a : Int) (b : Int) cmp J n (d.toList, (k : Int) - 1) = J (heapBuild (BT c) (b - a) a k d).toList ∧ (heapBuild (BT c) (b - a) a k d).size = d.size ∧ CH P (heapBuild (BT c) (b - a) a k d)
 | 0, k, d, h, _, _, _, _, _ => by omega
 | n + 1, k, d, h, hb, hN, hs, hk, hA => by
  rw [Gs.heapSort_L1]
  rcases k with _ | k
  ·rw [AD (by simp only; omega)]
   exact ⟨rfl, rfl, hA⟩
  ·have e0 : (((k + 1 : Nat) : Int) - 1) = (k : Int) := by omega
   simp only [e0]
   rw [AF (by omega)]
   unfold Gs.siftDown
   rw [wn (e := (b : Int) - (a : Int)) (n := b - a) (by omega) (by omega)]
   obtain ⟨e1, e2, e3⟩ := NK hc (N := N) (hi := b - a) (first := a) N k d (by omega) (by omega) hs (by omega) hA (.inr (.inr trivial)) (fun _ => by omega)
   rw [e1]
   simp only [oS, heapBuild]
   have ew : wI .i64 ((k : Int) - 1) = (k : Int) - 1 := Ch (by omega) (by omega)
   rw [ew]
   have := Lw hc (N := N) hab J n k (siftDown (BT c) (b - a) a k d) (by omega) (by omega) (by omega) (by omega) (by omega) e3
   rw [e2] at this
   exact this
theorem O1 (hc : ∀ x y, P x → P y → cmp (x, y) = some (c x y)) {N a b : Nat} (hab : a ≤ b) (J : List α → Option (List α)) : ∀ (n k : Nat) (d : Array α), k < n → a + k ≤ d.size → d.size < N → d.size ≤ 100000 → CH P d →
  Gs.heapSort_L5 N (a : Int) cmp J n (d.toList, (k : Int) - 1) = J (heapPop (BT c) a k d).toList ∧ (heapPop (BT c) a k d).size = d.size ∧ CH P (heapPop (BT c) a k d)
 | 0, k, d, h, _, _, _, _ => by omega
 | n + 1, k, d, h, hb, hN, hs, hA => by
  rw [Gs.heapSort_L5]
  rcases k with _ | k
  ·rw [AD (by simp only; omega)]
   exact ⟨rfl, rfl, hA⟩
  ·have e0 : (((k + 1 : Nat) : Int) - 1) = (k : Int) := by omega
   have a1 : a + k < d.size := by omega
   have a2 : a < d.size := by omega
   have e1 : wI .i64 ((a : Int) + (k : Int)) = ((a + k : Nat) : Int) := wn (by omega) (by omega)
   simp only [e0, e1]
   rw [AF (by omega)]
   simp only [gi a1, gi a2, oS, Int.toNat_natCast]
   rw [He (by simp; omega), ← DU]
   unfold Gs.siftDown
   obtain ⟨f1, f2, f3⟩ := NK hc (N := N) (hi := k) (first := a) N 0 (swp d a (a + k)) (by omega) (by rw [Bb]; omega) (by rw [Bb]; exact hs) (by omega) (hA.swp a2 a1) (.inr (.inr trivial)) (fun _ => by omega)
   have f1' : Gs.siftDown_L1 N (k : Int) (a : Int) cmp (fun v2 => some v2) N ((swp d a (a + k)).toList, 0) = _ := f1
   rw [f1']
   rw [Bb] at f2
   simp only [oS, heapPop]
   have ew : wI .i64 ((k : Int) - 1) = (k : Int) - 1 := Ch (by omega) (by omega)
   rw [ew]
   have := O1 hc (N := N) hab J n k (siftDown (BT c) k a 0 (swp d a (a + k))) (by omega) (by omega) (by omega) (by omega) f3
   rw [f2] at this
   exact this
theorem TT (hc : ∀ x y, P x → P y → cmp (x, y) = some (c x y)) {N a b : Nat} {d : Array α} (hab : a < b) (hb : b ≤ d.size) (hN : d.size < N) (hs : d.size ≤ 100000) (hA : CH P d) :
  Gs.heapSort N d.toList (a : Int) (b : Int) cmp = some (heapSort (BT c) d a b).toList ∧ (heapSort (BT c) d a b).size = d.size ∧ CH P (heapSort (BT c) d a b) := by
 unfold Gs.heapSort heapSort
 have e1 : wI .i64 (Int.tdiv (wI .i64 ((wI .i64 ((b : Int) - (a : Int))) - 1)) 2) = (((b - a - 1) / 2 + 1 : Nat) : Int) - 1 := by
  rw [wn (e := (b : Int) - (a : Int)) (n := b - a) (by omega) (by omega), wn (e := ((b - a : Nat) : Int) - 1) (n := b - a - 1) (by omega) (by omega)]
  rw [wn (n := (b - a - 1) / 2) (by rw [Int.tdiv_eq_ediv_of_nonneg (by omega)]; omega) (by omega)]
  omega
 have e2 : wI .i64 ((wI .i64 ((b : Int) - (a : Int))) - 1) = (((b - a : Nat) : Int)) - 1 := by
  rw [wn (e := (b : Int) - (a : Int)) (n := b - a) (by omega) (by omega)]
  exact Ch (by omega) (by omega)
 rw [e1, e2]
 obtain ⟨f1, f2, f3⟩ := Lw hc (N := N) (a := a) (b := b) (by omega) (fun v2 => Gs.heapSort_L5 N (a : Int) cmp (fun v6 => some v6) N (v2, (((b - a : Nat) : Int)) - 1)) N ((b - a - 1) / 2 + 1) d (by omega) hb hN hs (by omega) hA
 rw [f1]
 obtain ⟨g1, g2, g3⟩ := O1 hc (N := N) (a := a) (b := b) (by omega) (fun v6 => some v6) N (b - a) (heapBuild (BT c) (b - a) a ((b - a - 1) / 2 + 1) d) (by omega) (by omega) (by omega) (by omega) f3
 rw [g1]
 exact ⟨rfl, by rw [g2, f2], g3⟩
end
end Go.Lift
namespace Go.Lift
open IntKind renaming wrap → wI
open Option renaming bind_some → oS
open Go
open Go.Sort (swp scanUp scanDown partLoop partition partEqLoop partitionEqual scanSorted shiftDown shiftUp partialIns partialInsertionSort reverseLoop reverseRange)
section
variable {α : Type} [Inhabited α] {P : α → Prop} {cmp : α × α → Option Int} {c : α → α → Int}
theorem MX (N : Nat) (J : List α → Option (List α)) : ∀ (n i j : Nat) (d : Array α), j - i < n → j < d.size → d.size ≤ 100000 → i ≤ 100000 → CH P d →
  Gs.reverseRange_L1 N J n (d.toList, (i : Int), (j : Int)) = J (reverseLoop i j d).toList ∧ (reverseLoop i j d).size = d.size ∧ CH P (reverseLoop i j d)
 | 0, i, j, d, h, _, _, _, _ => by omega
 | n + 1, i, j, d, h, hj, hs, hi, hA => by
  rw [Gs.reverseRange_L1, reverseLoop]
  by_cases hij : i < j
  ·rw [AF (by simp only; omega), if_pos hij]
   simp only [gi hj, gi (show i < d.size by omega), oS, Int.toNat_natCast]
   rw [He (by simp; omega), ← DU, wn (e := (i : Int) + 1) (n := i + 1) (by omega) (by omega), wn (e := (j : Int) - 1) (n := j - 1) (by omega) (by omega)]
   have := MX N J n (i + 1) (j - 1) (swp d i j) (by omega) (by rw [Bb]; omega) (by rw [Bb]; exact hs) (by omega) (hA.swp (by omega) hj)
   rw [Bb] at this
   exact this
  ·rw [AD (by simp only; omega), if_neg hij]
   exact ⟨rfl, rfl, hA⟩
theorem Uu {N a b : Nat} {d : Array α} (hab : a < b) (hb : b ≤ d.size) (hN : d.size < N) (hs : d.size ≤ 100000) (hA : CH P d) :
  Gs.reverseRange N d.toList (a : Int) (b : Int) cmp = some (reverseRange d a b).toList ∧ (reverseRange d a b).size = d.size ∧ CH P (reverseRange d a b) := by
 unfold Gs.reverseRange reverseRange
 rw [wn (e := (b : Int) - 1) (n := b - 1) (by omega) (by omega)]
 exact MX N (fun v2 => some v2) N a (b - 1) d (by omega) (by omega) hs (by omega) hA
theorem Lj (hc : ∀ x y, P x → P y → cmp (x, y) = some (c x y)) (N b : Nat) {d : Array α} (hb : b ≤ d.size) (hs : d.size ≤ 100000) (hA : CH P d) (x y : Int) (J : Int → Option (Bool × List α)) : ∀ (n i : Nat), b - i < n → 1 ≤ i → i ≤ 100001 →
  Gs.partialInsertionSort_L5 N (b : Int) cmp (d.toList, x, y) J n (i : Int) = J (scanSorted (BT c) d b i : Nat)
 | 0, i, h, _, _ => by omega
 | n + 1, i, h, hi, hi2 => by
  rw [Gs.partialInsertionSort_L5, scanSorted]
  simp only [Bj]
  by_cases h1 : i < b
  ·rw [AF (by omega)]
   simp only [wn (e := (i : Int) - 1) (n := i - 1) (by omega) (by omega), gi (show i < d.size by omega), gi (show i - 1 < d.size by omega), oS]
   rw [hc _ _ (hA.get (by omega)) (hA.get (by omega))]
   simp only [oS]
   cases hl : decide (c d[i]! d[i - 1]! < 0)
   ·rw [Bool.not_false, AK, if_pos (by simp [h1, BT, hl]), wn (e := (i : Int) + 1) (n := i + 1) (by omega) (by omega)]
    exact Lj hc N b hb hs hA x y J n (i + 1) (by omega) (by omega) (by omega)
   ·rw [Bool.not_true, As, if_neg (by simp [BT, hl])]
  ·rw [AD (by omega), As, if_neg (by simp [h1])]
theorem Jd (lt : α → α → Bool) (d : Array α) (b : Nat) : ∀ (n i : Nat), b - i < n → i ≤ scanSorted lt d b i ∧ (i ≤ b → scanSorted lt d b i ≤ b)
 | 0, i, h => by omega
 | n + 1, i, h => by
  rw [scanSorted]
  by_cases h1 : (decide (i < b) && !lt d[i]! d[i - 1]!) = true
  ·rw [if_pos h1]
   simp only [Bool.and_eq_true, decide_eq_true_eq] at h1
   have := Jd lt d b n (i + 1) (by omega)
   omega
  ·rw [if_neg h1]; omega
theorem Mu (hc : ∀ x y, P x → P y → cmp (x, y) = some (c x y)) (N : Nat) (J : List α → Option (Bool × List α)) : ∀ (n j : Nat) (d : Array α), j < n → j < d.size → d.size ≤ 100000 → CH P d →
  Gs.partialInsertionSort_L21 N cmp J n (d.toList, (j : Int)) = J (shiftDown (BT c) j d).toList ∧ (shiftDown (BT c) j d).size = d.size ∧ CH P (shiftDown (BT c) j d)
 | 0, j, d, h, _, _, _ => by omega
 | n + 1, j, d, h, hj, hs, hA => by
  rw [Gs.partialInsertionSort_L21]
  rcases j with _ | j
  ·rw [AD (by simp)]
   exact ⟨rfl, rfl, hA⟩
  ·rw [AF (by simp only; omega)]
   simp only [wn (e := ((j + 1 : Nat) : Int) - 1) (n := j) (by omega) (by omega), gi hj, gi (show j < d.size by omega), oS, Int.toNat_natCast]
   rw [hc _ _ (hA.get hj) (hA.get (by omega))]
   simp only [oS]
   rw [He (by simp; omega), ← DU]
   rw [shiftDown]
   cases hl : decide (c d[j + 1]! d[j]! < 0)
   ·rw [Bool.not_false, AK, if_pos (by simp [BT, hl])]
    exact ⟨rfl, rfl, hA⟩
   ·rw [Bool.not_true, As, if_neg (by simp [BT, hl])]
    have := Mu hc N J n j (swp d (j + 1) j) (by omega) (by rw [Bb]; omega) (by rw [Bb]; exact hs) (hA.swp hj (by omega))
    rw [Bb] at this
    exact this
theorem Oz (hc : ∀ x y, P x → P y → cmp (x, y) = some (c x y)) (N b : Nat) (J : List α → Option (Bool × List α)) : ∀ (n j : Nat) (d : Array α), b - j < n → 1 ≤ j → j ≤ 100001 → b ≤ d.size → d.size ≤ 100000 → CH P d →
  Gs.partialInsertionSort_L33 N (b : Int) cmp J n (d.toList, (j : Int)) = J (shiftUp (BT c) b j d).toList ∧ (shiftUp (BT c) b j d).size = d.size ∧ CH P (shiftUp (BT c) b j d)
 | 0, j, d, h, _, _, _, _, _ => by omega
 | n + 1, j, d, h, hj, hj2, hb, hs, hA => by
  rw [Gs.partialInsertionSort_L33, shiftUp]
  by_cases h1 : j < b
  ·rw [AF (by simp only; omega), if_pos h1]
   simp only [wn (e := (j : Int) - 1) (n := j - 1) (by omega) (by omega), gi (show j < d.size by omega), gi (show j - 1 < d.size by omega), oS, Int.toNat_natCast]
   rw [hc _ _ (hA.get (by omega)) (hA.get (by omega))]
   simp only [oS]
   rw [He (by simp; omega), ← DU]
   cases hl : decide (c d[j]! d[j - 1]! < 0)
   ·rw [Bool.not_false, AK, if_pos (by simp [BT, hl])]
    exact ⟨rfl, rfl, hA⟩
   ·rw [Bool.not_true, As, if_neg (by simp [BT, hl]), wn (e := (j : Int) + 1) (n := j + 1) (by omega) (by omega)]
    have := Oz hc N b J n (j + 1) (swp d j (j - 1)) (by omega) (by omega) (by omega) (by rw [Bb]; exact hb) (by rw [Bb]; exact hs) (hA.swp (by omega) (by omega))
    rw [Bb] at this
    exact this
  ·rw [AD (by simp only; omega), if_neg h1]
   exact ⟨rfl, rfl, hA⟩
theorem Iz (hc : ∀ x y, P x → P y → cmp (x, y) = some (c x y)) {N a b : Nat} (J : List α → Option (Bool × List α)) (hJ : ∀ l, J l = some (false, l)) : ∀ (s i : Nat) (n : Nat) (d : Array α), s < n → s ≤ 5 → a < i → i ≤ b → b ≤ d.size → d.size < N → d.size ≤ 100000 → CH P d →
  Gs.partialInsertionSort_L1 N (a : Int) (b : Int) cmp J n (d.toList, (i : Int), ((5 - s : Nat) : Int)) = some ((partialIns (BT c) a b s i d).2, (partialIns (BT c) a b s i d).1.toList) ∧ (partialIns (BT c) a b s i d).1.size = d.size ∧ CH P (partialIns (BT c) a b s i d).1
 | s, i, 0, d, h, _, _, _, _, _, _, _ => by omega
 | 0, i, n + 1, d, h, _, _, _, hb, hN, hs, hA => by
  rw [Gs.partialInsertionSort_L1, AD (by simp), hJ]
  exact ⟨rfl, rfl, hA⟩
 | s + 1, i, n + 1, d, h, h5, hai, hib, hb, hN, hs, hA => by
  rw [Gs.partialInsertionSort_L1, AF (by simp only; omega)]
  simp only [Bj]
  rw [Lj hc N b hb hs hA _ _ _ N i (by omega) (by omega) (by omega)]
  obtain ⟨g1, g2⟩ := Jd (BT c) d b (b + 1) i (by omega)
  have g2 := g2 hib
  unfold partialIns
  simp only
  generalize hk : scanSorted (BT c) d b i = k at g1 g2
  have e5 : wI .i64 (((5 - (s + 1) : Nat) : Int) + 1) = ((5 - s : Nat) : Int) := wn (by omega) (by omega)
  by_cases h1 : k = b
  ·rw [if_pos h1, show (((k : Nat) : Int) == (b : Int)) = true from beq_iff_eq.2 (by omega), AK]
   exact ⟨rfl, rfl, hA⟩
  ·rw [if_neg h1, show (((k : Nat) : Int) == (b : Int)) = false from beq_eq_false_iff_ne.2 (by omega), As, wn (e := (b : Int) - (a : Int)) (n := b - a) (by omega) (by omega)]
   by_cases h2 : b - a < 50
   ·rw [if_pos h2, AF (by omega)]
    exact ⟨rfl, rfl, hA⟩
   ·rw [if_neg h2, AD (by omega)]
    have k1 : k < d.size := by omega
    have k2 : k - 1 < d.size := by omega
    simp only [wn (e := (k : Int) - 1) (n := k - 1) (by omega) (by omega), gi k1, gi k2, oS, Int.toNat_natCast]
    rw [He (by simp; omega)]
    simp only [← DU]
    rw [wn (e := (k : Int) - (a : Int)) (n := k - a) (by omega) (by omega), e5]
    have hA1 := hA.swp (i := k) (j := k - 1) k1 k2
    have hs1 := Bb d k (k - 1)
    -- the second shift and the next step
    have fin : ∀ d2 : Array α, d2.size = d.size → CH P d2 →
      (AT (decide (2 ≤ (wI .i64 ((b : Int) - (k : Int)))))
        (Gs.partialInsertionSort_L33 N (b : Int) cmp (fun v34 => Gs.partialInsertionSort_L1 N (a : Int) (b : Int) cmp J n (v34, (k : Int), ((5 - s : Nat) : Int))) N (d2.toList, (wI .i64 ((k : Int) + 1))))
        (Gs.partialInsertionSort_L1 N (a : Int) (b : Int) cmp J n (d2.toList, (k : Int), ((5 - s : Nat) : Int))) =
       some ((partialIns (BT c) a b s k (if b - k ≥ 2 then shiftUp (BT c) b (k + 1) d2 else d2)).2, (partialIns (BT c) a b s k (if b - k ≥ 2 then shiftUp (BT c) b (k + 1) d2 else d2)).1.toList)) ∧
       (partialIns (BT c) a b s k (if b - k ≥ 2 then shiftUp (BT c) b (k + 1) d2 else d2)).1.size = d.size ∧ CH P (partialIns (BT c) a b s k (if b - k ≥ 2 then shiftUp (BT c) b (k + 1) d2 else d2)).1 := by
     intro d2 z1 z2
     rw [wn (e := (b : Int) - (k : Int)) (n := b - k) (by omega) (by omega), wn (e := (k : Int) + 1) (n := k + 1) (by omega) (by omega)]
     by_cases h3 : b - k ≥ 2
     ·rw [AF (by omega), if_pos h3]
      obtain ⟨f1, f2, f3⟩ := Oz hc N b (fun v34 => Gs.partialInsertionSort_L1 N (a : Int) (b : Int) cmp J n (v34, (k : Int), ((5 - s : Nat) : Int))) N (k + 1) d2 (by omega) (by omega) (by omega) (by omega) (by omega) z2
      rw [f1]
      have := Iz hc (N := N) (a := a) (b := b) J hJ s k n (shiftUp (BT c) b (k + 1) d2) (by omega) (by omega) (by omega) (by omega) (by omega) (by omega) (by omega) f3
      rw [f2, z1] at this
      exact this
     ·rw [AD (by omega), if_neg h3]
      have := Iz hc (N := N) (a := a) (b := b) J hJ s k n d2 (by omega) (by omega) (by omega) (by omega) (by omega) (by omega) (by omega) z2
      rw [z1] at this
      exact this
    by_cases h4 : k - a ≥ 2
    ·rw [AF (by omega), if_pos h4]
     obtain ⟨f1, f2, f3⟩ := Mu hc N (fun v22 => AT (decide (2 ≤ (wI .i64 ((b : Int) - (k : Int)))))
        (Gs.partialInsertionSort_L33 N (b : Int) cmp (fun v34 => Gs.partialInsertionSort_L1 N (a : Int) (b : Int) cmp J n (v34, (k : Int), ((5 - s : Nat) : Int))) N (v22, (wI .i64 ((k : Int) + 1))))
        (Gs.partialInsertionSort_L1 N (a : Int) (b : Int) cmp J n (v22, (k : Int), ((5 - s : Nat) : Int)))) N (k - 1) (swp d k (k - 1)) (by omega) (by omega) (by omega) hA1
     rw [f1]
     exact fin _ (by rw [f2, hs1]) f3
    ·rw [AD (by omega), if_neg h4]
     exact fin _ hs1 hA1
theorem PH (hc : ∀ x y, P x → P y → cmp (x, y) = some (c x y)) {N a b : Nat} {d : Array α} (hab : a < b) (hb : b ≤ d.size) (hN : d.size < N) (h6 : 6 ≤ N) (hs : d.size ≤ 100000) (hA : CH P d) :
  Gs.partialInsertionSort N d.toList (a : Int) (b : Int) cmp = some ((partialInsertionSort (BT c) d a b).2, (partialInsertionSort (BT c) d a b).1.toList) ∧ (partialInsertionSort (BT c) d a b).1.size = d.size ∧ CH P (partialInsertionSort (BT c) d a b).1 := by
 unfold Gs.partialInsertionSort partialInsertionSort
 rw [wn (e := (a : Int) + 1) (n := a + 1) (by omega) (by omega)]
 exact Iz hc (fun v2 => some (false, v2)) (fun _ => rfl) 5 (a + 1) N d (by omega) (Nat.le_refl _) (by omega) (by omega) hb hN hs hA
end
end Go.Lift
namespace Go.Lift
open Option renaming bind_some → oS
open Go
open Go.Sort (swp scanUp scanDown partLoop partition partEqLoop partitionEqual scanUp_ge scanDown_le scanUp_spec scanDown_spec guard_of)
section
variable {α : Type} [Inhabited α] {P : α → Prop} {cmp : α × α → Option Int} {c : α → α → Int}
theorem Ui (hc : ∀ x y, P x → P y → cmp (x, y) = some (c x y)) (N a : Nat) {d : Array α} (ha : a < d.size) (hs : d.size ≤ 100000) (hA : CH P d) (x : Int) {j : Nat} (hj : j < d.size) (J : Int → Option (Int × List α)) : ∀ (n i : Nat), j + 1 - i < n → i ≤ 100001 →
  Gs.partitionEqual_L7 N (a : Int) cmp (d.toList, x, (j : Int)) J n (i : Int) = J (scanUp (fun x => !BT c d[a]! x) d j i : Nat)
 | 0, i, h, _ => by omega
 | n + 1, i, h, hi => by
  rw [Gs.partitionEqual_L7, scanUp]
  simp only [Bj]
  by_cases h1 : i ≤ j
  ·rw [AF (by omega)]
   simp only [gi ha, gi (show i < d.size by omega), oS]
   rw [hc _ _ (hA.get ha) (hA.get (by omega))]
   simp only [oS]
   cases hl : decide (c d[a]! d[i]! < 0)
   ·rw [Bool.not_false, AK, if_pos (by simp [h1, BT, hl]), wn (e := (i : Int) + 1) (n := i + 1) (by omega) (by omega)]
    exact Ui hc N a ha hs hA x hj J n (i + 1) (by omega) (by omega)
   ·rw [Bool.not_true, As, if_neg (by simp [BT, hl])]
  ·rw [AD (by omega), As, if_neg (by simp [h1])]
theorem QI (hc : ∀ x y, P x → P y → cmp (x, y) = some (c x y)) (N a : Nat) {d : Array α} (ha : a < d.size) (hs : d.size ≤ 100000) (hA : CH P d) (x y : Int) {i : Nat} (hi : 1 ≤ i) (J : Int → Option (Int × List α)) : ∀ (n j : Nat), j < n → j < d.size →
  Gs.partitionEqual_L15 N (a : Int) cmp (d.toList, x, y) (i : Int) J n (j : Int) = J (scanDown (fun x => BT c d[a]! x) d i j : Nat)
 | 0, j, h, _ => by omega
 | n + 1, j, h, hj => by
  rw [Gs.partitionEqual_L15]
  simp only [Bj]
  rcases j with _ | j
  ·rw [AD (by omega), As]; rfl
  ·rw [scanDown]
   by_cases h1 : i ≤ j + 1
   ·rw [AF (by omega)]
    simp only [gi ha, gi hj, oS]
    rw [hc _ _ (hA.get ha) (hA.get hj)]
    simp only [oS]
    cases hl : decide (c d[a]! d[j + 1]! < 0)
    ·rw [As, if_neg (by simp [BT, hl])]
    ·rw [AK, if_pos (by simp [h1, BT, hl]), wn (e := ((j + 1 : Nat) : Int) - 1) (n := j) (by omega) (by omega)]
     exact QI hc N a ha hs hA x y hi J n j (by omega) (by omega)
   ·rw [AD (by omega), As, if_neg (by simp [h1])]
theorem Ql (hc : ∀ x y, P x → P y → cmp (x, y) = some (c x y)) (N a : Nat) (J : List α × Int → Option (Int × List α)) : ∀ (n i j : Nat) (d : Array α), j + 1 - i < n → a < d.size → d.size + 1 < N → d.size ≤ 100000 → 1 ≤ i → i ≤ j + 2 → j < d.size → CH P d →
  Gs.partitionEqual_L5 N (a : Int) cmp J n (d.toList, (i : Int), (j : Int)) = J ((partEqLoop (BT c) a i j d).2.toList, ((partEqLoop (BT c) a i j d).1 : Int)) ∧ (partEqLoop (BT c) a i j d).2.size = d.size ∧ CH P (partEqLoop (BT c) a i j d).2 ∧ i ≤ (partEqLoop (BT c) a i j d).1 ∧ ∀ B, i ≤ B → j + 1 ≤ B → (partEqLoop (BT c) a i j d).1 ≤ B
 | 0, i, j, d, h, _, _, _, _, _, _, _ => by omega
 | n + 1, i, j, d, h, ha, hN, hs, hi, hij, hj, hA => by
  rw [Gs.partitionEqual_L5]
  have u1 := scanUp_ge (fun x => !BT c d[a]! x) d j i
  have u2 := (scanUp_spec (fun x => !BT c d[a]! x) d j _ i rfl).2.1
  rw [Ui hc N a ha hs hA _ hj _ N i (by omega) (by omega)]
  rw [partEqLoop]
  simp only
  generalize hi2 : scanUp (fun x => !BT c d[a]! x) d j i = i2 at u1 u2
  have d1 := scanDown_le (fun x => BT c d[a]! x) d i2 j
  have d2 := (scanDown_spec (fun x => BT c d[a]! x) d i2 j).2.1
  rw [QI hc N a ha hs hA _ _ (show 1 ≤ i2 by omega) _ N j (by omega) hj]
  generalize hj2 : scanDown (fun x => BT c d[a]! x) d i2 j = j2 at d1 d2
  by_cases h1 : i2 > j2
  ·rw [if_pos h1, AF (by omega)]
   refine ⟨rfl, rfl, hA, u1, fun B h2 h3 => ?_⟩
   by_cases h4 : i ≤ j + 1
   ·exact Nat.le_trans (u2 h4) h3
   ·rw [Go.Sort.scanUp, if_neg (by simp; omega)] at hi2
    simp only; omega
  ·rw [if_neg h1, AD (by omega), dif_pos (guard_of u1 d1 h1)]
   have k1 : i2 < d.size := by omega
   have k2 : j2 < d.size := by omega
   simp only [gi k1, gi k2, oS, Int.toNat_natCast]
   rw [He (by simp; omega)]
   simp only [← DU]
   rw [wn (e := (i2 : Int) + 1) (n := i2 + 1) (by omega) (by omega), wn (e := (j2 : Int) - 1) (n := j2 - 1) (by omega) (by omega)]
   obtain ⟨g1, g2, g3, g4, g5⟩ := Ql hc N a J n (i2 + 1) (j2 - 1) (swp d i2 j2) (by omega) (by rw [Bb]; omega) (by rw [Bb]; omega) (by rw [Bb]; omega) (by omega) (by omega) (by rw [Bb]; omega) (hA.swp k1 k2)
   rw [Bb] at g2
   exact ⟨g1, g2, g3, by omega, fun B h2 h3 => g5 B (by omega) (by omega)⟩
theorem VO (hc : ∀ x y, P x → P y → cmp (x, y) = some (c x y)) {N a b pv : Nat} {d : Array α} (hab : a < b) (hap : a ≤ pv) (hpb : pv < b) (hb : b ≤ d.size) (hN : d.size + 1 < N) (hs : d.size ≤ 100000) (hA : CH P d) :
  Gs.partitionEqual N d.toList (a : Int) (b : Int) (pv : Int) cmp = some (((partitionEqual (BT c) d a b pv).1 : Int), (partitionEqual (BT c) d a b pv).2.toList) ∧ (partitionEqual (BT c) d a b pv).2.size = d.size ∧ CH P (partitionEqual (BT c) d a b pv).2 ∧ a < (partitionEqual (BT c) d a b pv).1 ∧ (partitionEqual (BT c) d a b pv).1 ≤ b := by
 unfold Gs.partitionEqual partitionEqual
 have k1 : a < d.size := by omega
 have k2 : pv < d.size := by omega
 simp only [gi k1, gi k2, oS, Int.toNat_natCast]
 rw [He (by simp; omega)]
 simp only [← DU]
 rw [wn (e := (a : Int) + 1) (n := a + 1) (by omega) (by omega), wn (e := (b : Int) - 1) (n := b - 1) (by omega) (by omega)]
 obtain ⟨g1, g2, g3, g4, g5⟩ := Ql hc N a (fun v6 => some (v6.2, v6.1)) N (a + 1) (b - 1) (swp d a pv) (by omega) (by rw [Bb]; omega) (by rw [Bb]; omega) (by rw [Bb]; omega) (by omega) (by omega) (by rw [Bb]; omega) (hA.swp k1 k2)
 rw [Bb] at g2
 exact ⟨g1, g2, g3, by omega, g5 b (by omega) (by omega)⟩
theorem Ue (hc : ∀ x y, P x → P y → cmp (x, y) = some (c x y)) (N a : Nat) {d : Array α} (ha : a < d.size) (hs : d.size ≤ 100000) (hA : CH P d) (x : Int) {j : Nat} (hj : j < d.size) (J : Int → Option (Int × Bool × List α)) : ∀ (n i : Nat), j + 1 - i < n → i ≤ 100001 →
  Gs.partition_L32 N (a : Int) cmp (d.toList, x, (j : Int)) J n (i : Int) = J (scanUp (fun x => BT c x d[a]!) d j i : Nat)
 | 0, i, h, _ => by omega
 | n + 1, i, h, hi => by
  rw [Gs.partition_L32, scanUp]
  simp only [Bj]
  by_cases h1 : i ≤ j
  ·rw [AF (by omega)]
   simp only [gi ha, gi (show i < d.size by omega), oS]
   rw [hc _ _ (hA.get (by omega)) (hA.get ha)]
   simp only [oS]
   cases hl : decide (c d[i]! d[a]! < 0)
   ·rw [As, if_neg (by simp [BT, hl])]
   ·rw [AK, if_pos (by simp [h1, BT, hl]), wn (e := (i : Int) + 1) (n := i + 1) (by omega) (by omega)]
    exact Ue hc N a ha hs hA x hj J n (i + 1) (by omega) (by omega)
  ·rw [AD (by omega), As, if_neg (by simp [h1])]
theorem QG (hc : ∀ x y, P x → P y → cmp (x, y) = some (c x y)) (N a : Nat) {d : Array α} (ha : a < d.size) (hs : d.size ≤ 100000) (hA : CH P d) (x y : Int) {i : Nat} (hi : 1 ≤ i) (J : Int → Option (Int × Bool × List α)) : ∀ (n j : Nat), j < n → j < d.size →
  Gs.partition_L40 N (a : Int) cmp (d.toList, x, y) (i : Int) J n (j : Int) = J (scanDown (fun x => !BT c x d[a]!) d i j : Nat)
 | 0, j, h, _ => by omega
 | n + 1, j, h, hj => by
  rw [Gs.partition_L40]
  simp only [Bj]
  rcases j with _ | j
  ·rw [AD (by omega), As]; rfl
  ·rw [scanDown]
   by_cases h1 : i ≤ j + 1
   ·rw [AF (by omega)]
    simp only [gi ha, gi hj, oS]
    rw [hc _ _ (hA.get hj) (hA.get ha)]
    simp only [oS]
    cases hl : decide (c d[j + 1]! d[a]! < 0)
    ·rw [Bool.not_false, AK, if_pos (by simp [h1, BT, hl]), wn (e := ((j + 1 : Nat) : Int) - 1) (n := j) (by omega) (by omega)]
     exact QG hc N a ha hs hA x y hi J n j (by omega) (by omega)
    ·rw [Bool.not_true, As, if_neg (by simp [BT, hl])]
   ·rw [AD (by omega), As, if_neg (by simp [h1])]
theorem Qx (hc : ∀ x y, P x → P y → cmp (x, y) = some (c x y)) (N a : Nat) (J : List α × Int → Option (Int × Bool × List α)) : ∀ (n i j : Nat) (d : Array α), j + 1 - i < n → a < d.size → d.size + 1 < N → d.size ≤ 100000 → 1 ≤ i → i ≤ j + 2 → j < d.size → CH P d →
  Gs.partition_L30 N (a : Int) cmp J n (d.toList, (i : Int), (j : Int)) = J ((partLoop (BT c) a i j d).2.toList, ((partLoop (BT c) a i j d).1 : Int)) ∧ (partLoop (BT c) a i j d).2.size = d.size ∧ CH P (partLoop (BT c) a i j d).2 ∧ (partLoop (BT c) a i j d).1 ≤ j ∧ ∀ A, A + 1 ≤ i → A ≤ j → A ≤ (partLoop (BT c) a i j d).1
 | 0, i, j, d, h, _, _, _, _, _, _, _ => by omega
 | n + 1, i, j, d, h, ha, hN, hs, hi, hij, hj, hA => by
  rw [Gs.partition_L30]
  have u1 := scanUp_ge (fun x => BT c x d[a]!) d j i
  have u2 := (scanUp_spec (fun x => BT c x d[a]!) d j _ i rfl).2.1
  rw [Ue hc N a ha hs hA _ hj _ N i (by omega) (by omega)]
  rw [partLoop]
  simp only
  generalize hi2 : scanUp (fun x => BT c x d[a]!) d j i = i2 at u1 u2
  have d1 := scanDown_le (fun x => !BT c x d[a]!) d i2 j
  rw [QG hc N a ha hs hA _ _ (show 1 ≤ i2 by omega) _ N j (by omega) hj]
  generalize hj2 : scanDown (fun x => !BT c x d[a]!) d i2 j = j2 at d1
  by_cases h1 : i2 > j2
  ·rw [if_pos h1, AF (by omega)]
   refine ⟨rfl, rfl, hA, d1, fun A h2 h3 => ?_⟩
   by_cases h4 : i ≤ j + 1
   ·have := (scanDown_spec (fun x => !BT c x d[a]!) d i2 j).2.1 (u2 h4)
    rw [hj2] at this
    simp only; omega
   ·have : j2 = j := by
     rw [← hj2]
     rcases j with _ | j
     ·rfl
     ·rw [scanDown, if_neg (by simp; omega)]
    simp only; omega
  ·rw [if_neg h1, AD (by omega), dif_pos (guard_of u1 d1 h1)]
   have k1 : i2 < d.size := by omega
   have k2 : j2 < d.size := by omega
   simp only [gi k1, gi k2, oS, Int.toNat_natCast]
   rw [He (by simp; omega)]
   simp only [← DU]
   rw [wn (e := (i2 : Int) + 1) (n := i2 + 1) (by omega) (by omega), wn (e := (j2 : Int) - 1) (n := j2 - 1) (by omega) (by omega)]
   obtain ⟨g1, g2, g3, g4, g5⟩ := Qx hc N a J n (i2 + 1) (j2 - 1) (swp d i2 j2) (by omega) (by rw [Bb]; omega) (by rw [Bb]; omega) (by rw [Bb]; omega) (by omega) (by omega) (by rw [Bb]; omega) (hA.swp k1 k2)
   rw [Bb] at g2
   exact ⟨g1, g2, g3, by omega, fun A h2 h3 => g5 A (by omega) (by omega)⟩
theorem SC (hc : ∀ x y, P x → P y → cmp (x, y) = some (c x y)) (N a pv b : Nat) {p0 : List α} {v1 v2 : α} {d : Array α} (hd : (p0.set ((a : Int)).toNat v1).set ((pv : Int)).toNat v2 = d.toList) (ha : a < d.size) (hs : d.size ≤ 100000) (hA : CH P d) (hb : b ≤ d.size) (hb1 : 1 ≤ b) (J : Int → Option (Int × Bool × List α)) : ∀ (n i : Nat), b - i < n → i ≤ 100001 →
  Gs.partition_L5 N p0 (a : Int) (b : Int) (pv : Int) cmp v1 v2 J n (i : Int) = J (scanUp (fun x => BT c x d[a]!) d (b - 1) i : Nat)
 | 0, i, h, _ => by omega
 | n + 1, i, h, hi => by
  rw [Gs.partition_L5, scanUp]
  simp only [Bj, hd]
  rw [wn (e := (b : Int) - 1) (n := b - 1) (by omega) (by omega)]
  by_cases h1 : i ≤ b - 1
  ·rw [AF (by omega)]
   simp only [gi ha, gi (show i < d.size by omega), oS]
   rw [hc _ _ (hA.get (by omega)) (hA.get ha)]
   simp only [oS]
   cases hl : decide (c d[i]! d[a]! < 0)
   ·rw [As, if_neg (by simp [BT, hl])]
   ·rw [AK, if_pos (by simp [h1, BT, hl]), wn (e := (i : Int) + 1) (n := i + 1) (by omega) (by omega)]
    exact SC hc N a pv b hd ha hs hA hb hb1 J n (i + 1) (by omega) (by omega)
  ·rw [AD (by omega), As, if_neg (by simp [h1])]
theorem OT (hc : ∀ x y, P x → P y → cmp (x, y) = some (c x y)) (N a pv : Nat) {p0 : List α} {v1 v2 : α} {d : Array α} (hd : (p0.set ((a : Int)).toNat v1).set ((pv : Int)).toNat v2 = d.toList) (ha : a < d.size) (hs : d.size ≤ 100000) (hA : CH P d) {i : Nat} (hi : 1 ≤ i) (J : Int → Option (Int × Bool × List α)) : ∀ (n j : Nat), j < n → j < d.size →
  Gs.partition_L13 N p0 (a : Int) (pv : Int) cmp v1 v2 (i : Int) J n (j : Int) = J (scanDown (fun x => !BT c x d[a]!) d i j : Nat)
 | 0, j, h, _ => by omega
 | n + 1, j, h, hj => by
  rw [Gs.partition_L13]
  simp only [Bj, hd]
  rcases j with _ | j
  ·rw [AD (by omega), As]; rfl
  ·rw [scanDown]
   by_cases h1 : i ≤ j + 1
   ·rw [AF (by omega)]
    simp only [gi ha, gi hj, oS]
    rw [hc _ _ (hA.get hj) (hA.get ha)]
    simp only [oS]
    cases hl : decide (c d[j + 1]! d[a]! < 0)
    ·rw [Bool.not_false, AK, if_pos (by simp [h1, BT, hl]), wn (e := ((j + 1 : Nat) : Int) - 1) (n := j) (by omega) (by omega)]
     exact OT hc N a pv hd ha hs hA hi J n j (by omega) (by omega)
    ·rw [Bool.not_true, As, if_neg (by simp [BT, hl])]
   ·rw [AD (by omega), As, if_neg (by simp [h1])]
theorem Wo (hc : ∀ x y, P x → P y → cmp (x, y) = some (c x y)) {N a b pv : Nat} {d0 : Array α} (hab : a < b) (hap : a ≤ pv) (hpb : pv < b) (hb : b ≤ d0.size) (hN : d0.size + 1 < N) (hs : d0.size ≤ 100000) (hA0 : CH P d0) :
  Gs.partition N d0.toList (a : Int) (b : Int) (pv : Int) cmp = some (((partition (BT c) d0 a b pv).1 : Int), (partition (BT c) d0 a b pv).2.1, (partition (BT c) d0 a b pv).2.2.toList) ∧ (partition (BT c) d0 a b pv).2.2.size = d0.size ∧ CH P (partition (BT c) d0 a b pv).2.2 ∧ a ≤ (partition (BT c) d0 a b pv).1 ∧ (partition (BT c) d0 a b pv).1 < b := by
 unfold Gs.partition partition
 have k1 : a < d0.size := by omega
 have k2 : pv < d0.size := by omega
 simp only [gi k1, gi k2, oS]
 have hd : (d0.toList.set ((a : Int)).toNat d0[pv]!).set ((pv : Int)).toNat d0[a]! = (swp d0 a pv).toList := by rw [DU]; rfl
 have hsz := Bb d0 a pv
 have hA := hA0.swp k1 k2
 generalize swp d0 a pv = d at hd hsz hA
 rw [He (by simp; omega)]
 simp only [Int.toNat_natCast] at hd ⊢
 rw [wn (e := (a : Int) + 1) (n := a + 1) (by omega) (by omega), wn (e := (b : Int) - 1) (n := b - 1) (by omega) (by omega)]
 have u1 := scanUp_ge (fun x => BT c x d[a]!) d (b - 1) (a + 1)
 have u2 := (scanUp_spec (fun x => BT c x d[a]!) d (b - 1) _ (a + 1) rfl).2.1
 rw [SC hc N a pv b (p0 := d0.toList) (by simpa using hd) (by omega) (by omega) hA (by omega) (by omega) _ N (a + 1) (by omega) (by omega)]
 generalize hi2 : scanUp (fun x => BT c x d[a]!) d (b - 1) (a + 1) = i at u1 u2
 have d1 := scanDown_le (fun x => !BT c x d[a]!) d i (b - 1)
 rw [OT hc N a pv (p0 := d0.toList) (by simpa using hd) (by omega) (by omega) hA (show 1 ≤ i by omega) _ N (b - 1) (by omega) (by omega)]
 generalize hj2 : scanDown (fun x => !BT c x d[a]!) d i (b - 1) = j at d1
 have a1 : a < d.size := by omega
 have a2 : j < d.size := by omega
 by_cases h1 : i > j
 ·rw [if_pos h1, AF (by omega)]
  simp only [hd, gi a1, gi a2, oS, Int.toNat_natCast]
  rw [He (by simp; omega)]
  simp only [← DU]
  refine ⟨trivial, by rw [Bb]; omega, hA.swp a2 a1, ?_, by omega⟩
  have := (scanDown_spec (fun x => !BT c x d[a]!) d i (b - 1)).2.1 (u2 (by omega))
  rw [hj2] at this
  omega
 ·rw [if_neg h1, AD (by omega)]
  have a3 : i < d.size := by omega
  simp only [hd, gi a3, gi a2, oS, Int.toNat_natCast]
  rw [He (by simp; omega)]
  simp only [← DU]
  rw [wn (e := (i : Int) + 1) (n := i + 1) (by omega) (by omega), wn (e := (j : Int) - 1) (n := j - 1) (by omega) (by omega)]
  obtain ⟨g1, g2, g3, g4, g5⟩ := Qx hc N a (fun v31 => (A4 v31.1 (a : Int)).bind fun v53 => (A4 v31.1 v31.2).bind fun v54 => (A4 v31.1 v31.2).bind fun _ => (A4 (v31.1.set ((v31.2).toNat) v53) (a : Int)).bind fun _ =>
     some (v31.2, false, (v31.1.set ((v31.2).toNat) v53).set a v54)) N (i + 1) (j - 1) (swp d i j) (by omega) (by rw [Bb]; omega) (by rw [Bb]; omega) (by rw [Bb]; omega) (by omega) (by omega) (by rw [Bb]; omega) (hA.swp a3 a2)
  rw [Bb] at g2
  rw [g1]
  generalize hr : partLoop (BT c) a (i + 1) (j - 1) (swp d i j) = r at g2 g3 g4 g5
  have b1 : a < r.2.size := by omega
  have b2 : r.1 < r.2.size := by omega
  simp only [gi b1, gi b2, oS, Int.toNat_natCast]
  rw [He (by simp; omega)]
  simp only [← DU]
  exact ⟨trivial, by rw [Bb]; omega, g3.swp b2 b1, g5 a (by omega) (by omega), by omega⟩
end
end Go.Lift
namespace Go.Lift
open IntKind renaming wrap → wI
open Option renaming bind_some → oS
open Go
open Go.Sort (swp order2 median medianAdjacent choosePivot Hint xorNext bitsLen breakStep breakPatterns pdq insertionSort heapSort reverseRange partialInsertionSort partitionEqual partition)
theorem Ii {n : Nat} (h : n < 18446744073709551616) : wI .u64 (n : Int) = (n : Int) := by
 show ((n : Int) % (18446744073709551616 : Int)) = n
 exact Int.emod_eq_of_lt (by omega) (by omega)
theorem TW (n : Nat) : wI .u64 (n : Int) = ((n % 18446744073709551616 : Nat) : Int) := by
 show ((n : Int) % (18446744073709551616 : Int)) = _
 omega
theorem RN (r : UInt64) : r.toNat < 18446744073709551616 := UInt64.toNat_lt r
theorem U6 (r : UInt64) : BitVec.ofInt 64 (r.toNat : Int) = r.toBitVec := by
 rw [BitVec.ofInt_natCast]
 apply BitVec.eq_of_toNat_eq
 rw [BitVec.toNat_ofNat]
 exact Nat.mod_eq_of_lt (RN r)
theorem TN (r s : UInt64) : FD .u64 (r.toNat : Int) (s.toNat : Int) = ((r ^^^ s).toNat : Int) := by
 show wI .u64 (((BitVec.ofInt 64 (r.toNat : Int) ^^^ BitVec.ofInt 64 (s.toNat : Int)).toNat : Nat) : Int) = _
 rw [U6, U6]
 exact Ii (BitVec.isLt _)
theorem Qd (r k : UInt64) (q : Nat) (hq : k.toNat = q) (h64 : q < 64) (hs : B3 .u64 (r.toNat : Int) (q : Int) = wI .u64 ((r.toNat : Int) * 2 ^ q)) : B3 .u64 (r.toNat : Int) (q : Int) = ((r <<< k).toNat : Int) := by
 rw [hs, UInt64.toNat_shiftLeft, hq, Nat.mod_eq_of_lt h64, Nat.shiftLeft_eq]
 rw [show ((r.toNat : Int) * 2 ^ q) = ((r.toNat * 2 ^ q : Nat) : Int) from by simp, TW]
theorem VE (r : UInt64) : B3 .u64 (r.toNat : Int) 13 = ((r <<< 13).toNat : Int) := Qd r 13 13 rfl (by decide) rfl
theorem V3 (r : UInt64) : B3 .u64 (r.toNat : Int) 17 = ((r <<< 17).toNat : Int) := Qd r 17 17 rfl (by decide) rfl
theorem WX (r : UInt64) : Dx .u64 (r.toNat : Int) 7 = ((r >>> 7).toNat : Int) := by
 show (r.toNat : Int).fdiv (128 : Int) = _
 rw [UInt64.toNat_shiftRight, show (7 : UInt64).toNat % 64 = 7 from rfl, Nat.shiftRight_eq_div_pow]
 rw [Int.fdiv_eq_ediv_of_nonneg _ (by omega)]
 omega
theorem Sa (N : Nat) (r : UInt64) : C9 N (r.toNat : Int) = some (((xorNext r).toNat : Int), ((xorNext r).toNat : Int)) := by
 unfold C9 xorNext
 simp only [VE, TN, WX, V3]
theorem TB (r : UInt64) {m : Nat} (h : m < 18446744073709551616) : EC .u64 (r.toNat : Int) (m : Int) = ((r.toNat &&& m : Nat) : Int) := by
 show wI .u64 (((BitVec.ofInt 64 (r.toNat : Int) &&& BitVec.ofInt 64 (m : Int)).toNat : Nat) : Int) = _
 rw [U6, BitVec.ofInt_natCast, BitVec.toNat_and, BitVec.toNat_ofNat, Nat.mod_eq_of_lt h]
 exact Ii (Nat.lt_of_le_of_lt Nat.and_le_left (RN r))
theorem TU : ((List.range 1001).all fun n => decide (Db 0 (n : Int) = some ((bitsLen n : Nat) : Int))) = true := by kernel_rfl
theorem VW (N : Nat) : Db N = Db 0 := rfl
theorem RD (N : Nat) {n : Nat} (h : n ≤ 1000) : Db N (n : Int) = some ((bitsLen n : Nat) : Int) := by
 rw [VW]
 exact of_decide_eq_true (List.all_eq_true.1 TU n (List.mem_range.2 (by omega)))
theorem Qk {n : Nat} (h : n ≤ 1000) : bitsLen n ≤ 10 := by
 have : ((List.range 1001).all fun n => decide (bitsLen n ≤ 10)) = true := by kernel_rfl
 exact of_decide_eq_true (List.all_eq_true.1 this n (List.mem_range.2 (by omega)))
theorem Qy {n : Nat} (h : n ≤ 1000) (h1 : 1 ≤ n) : n < 1 <<< bitsLen n ∧ 1 <<< bitsLen n ≤ 2 * n ∧ 2 ≤ 1 <<< bitsLen n := by
 have : ((List.range 1001).all fun n => decide (1 ≤ n → n < 1 <<< bitsLen n ∧ 1 <<< bitsLen n ≤ 2 * n ∧ 2 ≤ 1 <<< bitsLen n)) = true := by kernel_rfl
 exact of_decide_eq_true (List.all_eq_true.1 this n (List.mem_range.2 (by omega))) h1
theorem Rh (N : Nat) {n : Nat} (h : n ≤ 1000) (h1 : 1 ≤ n) : C1 N (n : Int) = some ((1 <<< bitsLen n : Nat) : Int) := by
 unfold C1
 rw [Ii (by omega), RD N h]
 simp only [oS]
 rw [AI (by omega)]
 have hb := Qk h
 have := Qy h h1
 have e : B3 .u64 1 ((bitsLen n : Nat) : Int) = wI .u64 (((1 <<< bitsLen n : Nat)) : Int) := by
  unfold B3
  rw [show min (((bitsLen n : Nat) : Int)).toNat (IntKind.bits .u64) = bitsLen n from by
   rw [Int.toNat_natCast]; show min _ 64 = _; omega]
  rw [Nat.shiftLeft_eq]
  simp
 rw [e, Ii (by omega)]
section
variable {α : Type} [Inhabited α] {P : α → Prop} {cmp : α × α → Option Int} {c : α → α → Int}
theorem JN (N a b m : Nat) (hm : m < 1000000) {d : Array α} {r : UInt64} {idx0 : Nat} (hab : a + 8 ≤ b) (hb : b ≤ d.size) (hs : d.size ≤ 1000) (hml : b - a < m ∧ m ≤ 2 * (b - a)) (h0 : idx0 < d.size) (h1 : idx0 ≤ a + (b - a) / 4 * 2 + 1) (h2 : a ≤ idx0) (J : List α → Option (List α)) (n : Nat) (hA : CH P d) :
  Gs.breakPatterns_L3 N (a : Int) (b : Int) (m : Int) J (n + 1) (d.toList, (r.toNat : Int), (idx0 : Int)) = Gs.breakPatterns_L3 N (a : Int) (b : Int) (m : Int) J n ((breakStep a (b - a) m (r, d) idx0).2.toList, ((breakStep a (b - a) m (r, d) idx0).1.toNat : Int), ((idx0 + 1 : Nat) : Int)) ∧ (breakStep a (b - a) m (r, d) idx0).2.size = d.size ∧ CH P (breakStep a (b - a) m (r, d) idx0).2 := by
 rw [Gs.breakPatterns_L3]
 have el : wI .i64 ((b : Int) - (a : Int)) = ((b - a : Nat) : Int) := wn (by omega) (by omega)
 have e4 : wI .i64 (Int.tdiv ((b - a : Nat) : Int) 4) = (((b - a) / 4 : Nat) : Int) := wn (by rw [Int.tdiv_eq_ediv_of_nonneg (by omega)]; omega) (by omega)
 have f2x : wI .i64 ((((b - a) / 4 : Nat) : Int) * 2) = (((b - a) / 4 * 2 : Nat) : Int) := wn (by omega) (by omega)
 have g2x : wI .i64 ((a : Int) + (((b - a) / 4 * 2 : Nat) : Int)) = ((a + (b - a) / 4 * 2 : Nat) : Int) := wn (by omega) (by omega)
 have e1 : wI .i64 (((a + (b - a) / 4 * 2 : Nat) : Int) + 1) = ((a + (b - a) / 4 * 2 + 1 : Nat) : Int) := wn (by omega) (by omega)
 simp only [el, e4, f2x, g2x, e1]
 rw [AF (by omega), Sa]
 simp only [oS, Bj]
 rw [show wI .u64 ((m : Int) - 1) = ((m - 1 : Nat) : Int) from by rw [show ((m : Int) - 1) = ((m - 1 : Nat) : Int) from by omega]; exact Ii (by omega)]
 rw [TB _ (by omega)]
 have hle : (xorNext r).toNat &&& (m - 1) ≤ m - 1 := Nat.and_le_right
 unfold breakStep
 simp only
 generalize ho : (xorNext r).toNat &&& (m - 1) = o at hle
 rw [wn (e := ((o : Nat) : Int)) (n := o) rfl (by omega)]
 have fin : ∀ q : Nat, q < b - a → ((A4 d.toList (wI .i64 ((a : Int) + (q : Int)))).bind fun v9 => (A4 d.toList (idx0 : Int)).bind fun v10 => (A4 d.toList (idx0 : Int)).bind fun _ =>
   (A4 (d.toList.set ((idx0 : Int)).toNat v9) (wI .i64 ((a : Int) + (q : Int)))).bind fun _ =>
    Gs.breakPatterns_L3 N (a : Int) (b : Int) (m : Int) J n ((d.toList.set ((idx0 : Int)).toNat v9).set ((wI .i64 ((a : Int) + (q : Int)))).toNat v10, ((xorNext r).toNat : Int), (wI .i64 ((idx0 : Int) + 1)))) =
   Gs.breakPatterns_L3 N (a : Int) (b : Int) (m : Int) J n ((swp d idx0 (a + q)).toList, ((xorNext r).toNat : Int), ((idx0 + 1 : Nat) : Int)) ∧ (swp d idx0 (a + q)).size = d.size ∧ CH P (swp d idx0 (a + q)) := by
  intro q hq
  have k1 : a + q < d.size := by omega
  rw [wn (e := (a : Int) + (q : Int)) (n := a + q) (by omega) (by omega), wn (e := (idx0 : Int) + 1) (n := idx0 + 1) (by omega) (by omega)]
  simp only [gi k1, gi h0, oS, Int.toNat_natCast]
  rw [He (by simp; omega), ← DU]
  exact ⟨rfl, Bb _ _ _, hA.swp h0 k1⟩
 by_cases hge : b - a ≤ o
 ·rw [AF (by omega), if_pos hge, wn (e := ((o : Nat) : Int) - ((b - a : Nat) : Int)) (n := o - (b - a)) (by omega) (by omega)]
  exact fin (o - (b - a)) (by omega)
 ·rw [AD (by omega), if_neg hge]
  exact fin o (by omega)
theorem SJ {N a b : Nat} {d : Array α} (hab : a + 8 ≤ b) (hb : b ≤ d.size) (hN : d.size < N) (hs : d.size ≤ 1000) (h6 : 6 ≤ N) (hA : CH P d) :
  Gs.breakPatterns N d.toList (a : Int) (b : Int) cmp = some (breakPatterns d a b).toList ∧ (breakPatterns d a b).size = d.size ∧ CH P (breakPatterns d a b) := by
 unfold Gs.breakPatterns breakPatterns
 simp only
 rw [wn (e := (b : Int) - (a : Int)) (n := b - a) (by omega) (by omega), AF (by omega), if_pos (by omega), Rh N (by omega) (by omega)]
 simp only [oS]
 have hp := Qy (n := b - a) (by omega) (by omega)
 rw [Ii (by omega)]
 have e4 : wI .i64 (Int.tdiv ((b - a : Nat) : Int) 4) = (((b - a) / 4 : Nat) : Int) := wn (by rw [Int.tdiv_eq_ediv_of_nonneg (by omega)]; omega) (by omega)
 have f2x : wI .i64 ((((b - a) / 4 : Nat) : Int) * 2) = (((b - a) / 4 * 2 : Nat) : Int) := wn (by omega) (by omega)
 have g2x : wI .i64 ((a : Int) + (((b - a) / 4 * 2 : Nat) : Int)) = ((a + (b - a) / 4 * 2 : Nat) : Int) := wn (by omega) (by omega)
 have e1y : wI .i64 (((a + (b - a) / 4 * 2 : Nat) : Int) - 1) = ((a + (b - a) / 4 * 2 - 1 : Nat) : Int) := wn (by omega) (by omega)
 simp only [e4, f2x, g2x, e1y]
 generalize hm : 1 <<< bitsLen (b - a) = m at hp
 have hr0 : ((b - a : Nat) : Int) = ((UInt64.ofNat (b - a)).toNat : Int) := by
  rw [UInt64.toNat_ofNat', Nat.mod_eq_of_lt (by omega)]
 rw [hr0]
 generalize hi : a + (b - a) / 4 * 2 - 1 = i0
 generalize UInt64.ofNat (b - a) = r0
 obtain ⟨N', rfl⟩ : ∃ q, N = q + 4 := ⟨N - 4, by omega⟩
 obtain ⟨f1, f2, f3⟩ := JN (N' + 4) a b m (by omega) (r := r0) (idx0 := i0) hab hb hs ⟨hp.1, hp.2.1⟩ (by omega) (by omega) (by omega) (fun v4 => some v4) (N' + 3) hA
 rw [f1]
 generalize hs1 : breakStep a (b - a) m (r0, d) i0 = s1 at f2 f3
 obtain ⟨r1, d1⟩ := s1
 simp only at f2 f3 ⊢
 obtain ⟨g1, g2, g3⟩ := JN (N' + 4) a b m (by omega) (r := r1) (d := d1) (idx0 := i0 + 1) hab (by omega) (by omega) ⟨hp.1, hp.2.1⟩ (by omega) (by omega) (by omega) (fun v4 => some v4) (N' + 2) f3
 rw [g1]
 generalize hs2 : breakStep a (b - a) m (r1, d1) (i0 + 1) = s2 at g2 g3
 obtain ⟨r2, d2⟩ := s2
 simp only at g2 g3 ⊢
 obtain ⟨k1, k2, k3⟩ := JN (N' + 4) a b m (by omega) (r := r2) (d := d2) (idx0 := i0 + 1 + 1) hab (by omega) (by omega) ⟨hp.1, hp.2.1⟩ (by omega) (by omega) (by omega) (fun v4 => some v4) (N' + 1) g3
 rw [k1, Gs.breakPatterns_L3]
 have el : wI .i64 ((b : Int) - (a : Int)) = ((b - a : Nat) : Int) := wn (by omega) (by omega)
 have e4 : wI .i64 (Int.tdiv ((b - a : Nat) : Int) 4) = (((b - a) / 4 : Nat) : Int) := wn (by rw [Int.tdiv_eq_ediv_of_nonneg (by omega)]; omega) (by omega)
 have f2x : wI .i64 ((((b - a) / 4 : Nat) : Int) * 2) = (((b - a) / 4 * 2 : Nat) : Int) := wn (by omega) (by omega)
 have g2x : wI .i64 ((a : Int) + (((b - a) / 4 * 2 : Nat) : Int)) = ((a + (b - a) / 4 * 2 : Nat) : Int) := wn (by omega) (by omega)
 have e1 : wI .i64 (((a + (b - a) / 4 * 2 : Nat) : Int) + 1) = ((a + (b - a) / 4 * 2 + 1 : Nat) : Int) := wn (by omega) (by omega)
 simp only [el, e4, f2x, g2x, e1]
 rw [AD (by omega)]
 exact ⟨rfl, k2.trans (g2.trans f2), k3⟩
theorem PP (hc : ∀ x y, P x → P y → cmp (x, y) = some (c x y)) (N : Nat) {d : Array α} {a b s : Nat} (ha : a < d.size) (hb : b < d.size) (hs : s < 1000) (hA : CH P d) : Gs.order2 N d.toList (a : Int) (b : Int) (s : Int) cmp = some (((order2 (BT c) d a b s).1 : Int), ((order2 (BT c) d a b s).2.1 : Int), ((order2 (BT c) d a b s).2.2 : Int)) ∧
  (order2 (BT c) d a b s).1 < d.size ∧ (order2 (BT c) d a b s).2.1 < d.size ∧ (order2 (BT c) d a b s).2.2 ≤ s + 1 := by
 unfold Gs.order2 order2
 simp only [gi ha, gi hb, oS]
 rw [hc _ _ (hA.get hb) (hA.get ha)]
 simp only [oS]
 rw [wn (e := (s : Int) + 1) (n := s + 1) (by omega) (by omega)]
 cases hl : decide (c d[b]! d[a]! < 0)
 ·rw [As, if_neg (by simp [BT, hl])]
  exact ⟨rfl, ha, hb, by simp⟩
 ·rw [AK, if_pos (by simp [BT, hl])]
  exact ⟨rfl, hb, ha, by simp⟩
theorem Ps (hc : ∀ x y, P x → P y → cmp (x, y) = some (c x y)) (N : Nat) {d : Array α} {a b e s : Nat} (ha : a < d.size) (hb : b < d.size) (he : e < d.size) (hs : s < 900) (hA : CH P d) : Gs.median N d.toList (a : Int) (b : Int) (e : Int) (s : Int) cmp = some (((median (BT c) d a b e s).1 : Int), ((median (BT c) d a b e s).2 : Int)) ∧ (median (BT c) d a b e s).1 < d.size ∧ (median (BT c) d a b e s).2 ≤ s + 3 := by
 unfold Gs.median median
 simp only
 obtain ⟨f1, f2, f3, f4⟩ := PP hc N ha hb (show s < 1000 by omega) hA
 rw [f1]
 simp only [oS]
 obtain ⟨g1, g2, g3, g4⟩ := PP hc N f3 he (show (order2 (BT c) d a b s).2.2 < 1000 by omega) hA
 rw [g1]
 simp only [oS]
 obtain ⟨k1, k2, k3, k4⟩ := PP hc N f2 g2 (show (order2 (BT c) d (order2 (BT c) d a b s).2.1 e (order2 (BT c) d a b s).2.2).2.2 < 1000 by omega) hA
 rw [k1]
 exact ⟨rfl, k3, by omega⟩
theorem PT (hc : ∀ x y, P x → P y → cmp (x, y) = some (c x y)) (N : Nat) {d : Array α} {a s : Nat} (h1 : 1 ≤ a) (ha : a + 1 < d.size) (hs : s < 900) (hz : d.size ≤ 100000) (hA : CH P d) : Gs.medianAdjacent N d.toList (a : Int) (s : Int) cmp = some (((medianAdjacent (BT c) d a s).1 : Int), ((medianAdjacent (BT c) d a s).2 : Int)) ∧ (medianAdjacent (BT c) d a s).1 < d.size ∧ (medianAdjacent (BT c) d a s).2 ≤ s + 3 := by
 unfold Gs.medianAdjacent medianAdjacent
 rw [wn (e := (a : Int) - 1) (n := a - 1) (by omega) (by omega), wn (e := (a : Int) + 1) (n := a + 1) (by omega) (by omega)]
 obtain ⟨f1, f2, f3⟩ := Ps hc N (d := d) (a := a - 1) (b := a) (e := a + 1) (by omega) (by omega) ha hs hA
 rw [f1]
 exact ⟨rfl, f2, f3⟩
def K0 : Hint → Int
 | .unknown => 0
 | .increasing => 1
 | .decreasing => 2
theorem RB (hc : ∀ x y, P x → P y → cmp (x, y) = some (c x y)) (N : Nat) {d : Array α} {a b : Nat} (hab : a + 12 < b) (hb : b ≤ d.size) (hz : d.size ≤ 100000) (hA : CH P d) : Gs.choosePivot N d.toList (a : Int) (b : Int) cmp = some (((choosePivot (BT c) d a b).1 : Int), K0 (choosePivot (BT c) d a b).2) := by
 unfold Gs.choosePivot choosePivot
 simp only [Bj]
 have el : wI .i64 ((b : Int) - (a : Int)) = ((b - a : Nat) : Int) := wn (by omega) (by omega)
 have e4 : wI .i64 (Int.tdiv ((b - a : Nat) : Int) 4) = (((b - a) / 4 : Nat) : Int) := wn (by rw [Int.tdiv_eq_ediv_of_nonneg (by omega)]; omega) (by omega)
 have f1 : wI .i64 ((((b - a) / 4 : Nat) : Int) * 1) = (((b - a) / 4 * 1 : Nat) : Int) := wn (by omega) (by omega)
 have f2 : wI .i64 ((((b - a) / 4 : Nat) : Int) * 2) = (((b - a) / 4 * 2 : Nat) : Int) := wn (by omega) (by omega)
 have f3 : wI .i64 ((((b - a) / 4 : Nat) : Int) * 3) = (((b - a) / 4 * 3 : Nat) : Int) := wn (by omega) (by omega)
 have g1 : wI .i64 ((a : Int) + (((b - a) / 4 * 1 : Nat) : Int)) = ((a + (b - a) / 4 * 1 : Nat) : Int) := wn (by omega) (by omega)
 have g2 : wI .i64 ((a : Int) + (((b - a) / 4 * 2 : Nat) : Int)) = ((a + (b - a) / 4 * 2 : Nat) : Int) := wn (by omega) (by omega)
 have g3 : wI .i64 ((a : Int) + (((b - a) / 4 * 3 : Nat) : Int)) = ((a + (b - a) / 4 * 3 : Nat) : Int) := wn (by omega) (by omega)
 simp only [el, e4, f1, f2, f3, g1, g2, g3]
 generalize hi : a + (b - a) / 4 * 1 = i
 generalize hj : a + (b - a) / 4 * 2 = j
 generalize hk : a + (b - a) / 4 * 3 = k
 have hsw : ∀ (p s : Nat), (AT (((s : Nat) : Int) == 0) (some ((p : Int), (1 : Int))) (AT (((s : Nat) : Int) == 12) (some ((p : Int), (2 : Int))) (some ((p : Int), (0 : Int))))) = some ((p : Int), K0 (if s = 0 then .increasing else if s = 12 then .decreasing else .unknown)) := by
  intro p s
  by_cases h0 : s = 0
  ·subst h0; rfl
  ·rw [if_neg h0, show (((s : Nat) : Int) == 0) = false from beq_eq_false_iff_ne.2 (by omega), As]
   by_cases h12 : s = 12
   ·subst h12; rfl
   ·rw [if_neg h12, show (((s : Nat) : Int) == 12) = false from beq_eq_false_iff_ne.2 (by omega), As]; rfl
 rw [AF (by omega), if_pos (show b - a ≥ 8 by omega)]
 by_cases h50 : b - a ≥ 50
 ·rw [AF (by omega), if_pos h50]
  obtain ⟨a1, a2, a3⟩ := PT hc N (d := d) (a := i) (s := 0) (by omega) (by omega) (by omega) hz hA
  have a1' : Gs.medianAdjacent N d.toList (i : Int) 0 cmp = _ := a1
  rw [a1']
  simp only [oS]
  obtain ⟨b1, b2, b3⟩ := PT hc N (d := d) (a := j) (s := (medianAdjacent (BT c) d i 0).2) (by omega) (by omega) (by omega) hz hA
  rw [b1]
  simp only [oS]
  obtain ⟨c1, c2, c3⟩ := PT hc N (d := d) (a := k) (s := (medianAdjacent (BT c) d j (medianAdjacent (BT c) d i 0).2).2) (by omega) (by omega) (by omega) hz hA
  rw [c1]
  simp only [oS]
  obtain ⟨d1, d2, d3⟩ := Ps hc N a2 b2 c2 (show (medianAdjacent (BT c) d k (medianAdjacent (BT c) d j (medianAdjacent (BT c) d i 0).2).2).2 < 900 by omega) hA
  rw [d1]
  simp only [oS]
  exact hsw _ _
 ·rw [AD (by omega), if_neg h50]
  obtain ⟨d1, d2, d3⟩ := Ps hc N (d := d) (a := i) (b := j) (e := k) (s := 0) (by omega) (by omega) (by omega) (by omega) hA
  have d1' : Gs.median N d.toList (i : Int) (j : Int) (k : Int) 0 cmp = _ := d1
  rw [d1']
  simp only [oS]
  exact hsw _ _
end
end Go.Lift
namespace Go.Lift
open IntKind renaming wrap → wI
open Option renaming bind_some → oS
open Go
open Go.Sort (swp Hint bitsLen pdq insertionSort heapSort reverseRange partialInsertionSort partitionEqual partition choosePivot breakPatterns SWO PermIn SortedIn Below)
section
variable {α : Type} [Inhabited α] {P : α → Prop} {cmp : α × α → Option Int} {c : α → α → Int}
theorem SA (h : Hint) : (K0 h == 1) = decide (h = .increasing) := by cases h <;> rfl
theorem RO (h : Hint) : (K0 h == 2) = decide (h = .decreasing) := by cases h <;> rfl
theorem RL {N a b limit : Nat} {d : Array α} (wb : Bool) (hab : a + 12 < b) (hb : b ≤ d.size) (hN : d.size < N) (hs : d.size ≤ 1000) (h6 : 6 ≤ N) (hl : 1 ≤ limit ∧ limit ≤ 100) (hA : CH P d) (F : List α × Int → Option (List α)) :
  A7 F (fun j7 => AT (!wb) ((Gs.breakPatterns N d.toList (a : Int) (b : Int) cmp).bind fun v9 => j7 (v9, wI .i64 ((limit : Int) - 1))) (j7 (d.toList, (limit : Int)))) = F ((if !wb then breakPatterns d a b else d).toList, ((if !wb then limit - 1 else limit : Nat) : Int)) ∧ (if !wb then breakPatterns d a b else d).size = d.size ∧ CH P (if !wb then breakPatterns d a b else d) := by
 rw [Bj]
 cases wb
 ·obtain ⟨f1, f2, f3⟩ := SJ (cmp := cmp) (N := N) (show a + 8 ≤ b by omega) hb hN hs h6 hA
  rw [f1, wn (e := (limit : Int) - 1) (n := limit - 1) (by omega) (by omega)]
  exact ⟨rfl, f2, f3⟩
 ·exact ⟨rfl, rfl, hA⟩
theorem Sp {N a b p : Nat} {d : Array α} (h : Hint) (hab : a + 12 < b) (hp : a ≤ p) (hpb : p < b) (hb : b ≤ d.size) (hN : d.size < N) (hs : d.size ≤ 1000) (hA : CH P d) (F : List α × Int × Int → Option (List α)) :
  A7 F (fun j11 => AT (K0 h == 2) ((Gs.reverseRange N d.toList (a : Int) (b : Int) cmp).bind fun v13 => j11 (v13, wI .i64 (wI .i64 ((b : Int) - 1) - wI .i64 ((p : Int) - (a : Int))), 1)) (j11 (d.toList, (p : Int), K0 h))) =
   F ((if h = .decreasing then reverseRange d a b else d).toList, ((if h = .decreasing then (b - 1) - (p - a) else p : Nat) : Int), K0 (if h = .decreasing then Hint.increasing else h)) ∧ (if h = .decreasing then reverseRange d a b else d).size = d.size ∧ CH P (if h = .decreasing then reverseRange d a b else d) := by
 rw [Bj, RO]
 by_cases hd : h = .decreasing
 ·obtain ⟨f1, f2, f3⟩ := Uu (cmp := cmp) (N := N) (show a < b by omega) hb hN (by omega) hA
  rw [f1, wn (e := (b : Int) - 1) (n := b - 1) (by omega) (by omega), wn (e := (p : Int) - (a : Int)) (n := p - a) (by omega) (by omega), wn (n := (b - 1) - (p - a)) (by omega) (by omega)]
  simp only [hd, decide_true, AK, if_true, oS]
  exact ⟨rfl, f2, f3⟩
 ·simp only [hd, decide_false, As, if_false]
  exact ⟨trivial, trivial, hA⟩
def Ok (c : α → α → Int) (wb wp : Bool) (h : Hint) (d : Array α) (a b : Nat) : Array α × Bool := if wb && wp && h = .increasing then partialInsertionSort (BT c) d a b else (d, false)
theorem Ry (hc : ∀ x y, P x → P y → cmp (x, y) = some (c x y)) {N a b : Nat} {d : Array α} (wb wp : Bool) (h : Hint) (hab : a + 12 < b) (hb : b ≤ d.size) (hN : d.size < N) (hs : d.size ≤ 1000) (h6 : 6 ≤ N) (hA : CH P d) (F : List α → Option (List α)) :
  A7 F (fun j14 => A7 (fun (v15 : Bool) => AT v15 ((Gs.partialInsertionSort N d.toList (a : Int) (b : Int) cmp).bind fun v19 => AT v19.1 (some v19.2) (j14 v19.2)) (j14 d.toList)) fun j15 => AT wb (AT wp (j15 (K0 h == 1)) (j15 false)) (j15 false)) =
   (if (Ok c wb wp h d a b).2 then some (Ok c wb wp h d a b).1.toList else F (Ok c wb wp h d a b).1.toList) ∧ (Ok c wb wp h d a b).1.size = d.size ∧ CH P (Ok c wb wp h d a b).1 := by
 rw [Bj, Bj, SA]
 unfold Ok
 have hno : ∀ q : Bool, q = false → (F d.toList) = (if (if q = true then partialInsertionSort (BT c) d a b else (d, false)).2 then some (if q = true then partialInsertionSort (BT c) d a b else (d, false)).1.toList else F (if q = true then partialInsertionSort (BT c) d a b else (d, false)).1.toList) ∧ (if q = true then partialInsertionSort (BT c) d a b else (d, false)).1.size = d.size ∧ CH P (if q = true then partialInsertionSort (BT c) d a b else (d, false)).1 := by
  intro q hq; subst hq; exact ⟨rfl, rfl, hA⟩
 cases wb
 ·exact hno _ rfl
 cases wp
 ·exact hno _ rfl
 by_cases hd : h = .increasing
 ·simp only [hd, decide_true, AK, Bool.and_self, if_true]
  obtain ⟨f1, f2, f3⟩ := PH hc (N := N) (show a < b by omega) hb hN h6 (by omega) hA
  rw [f1]
  simp only [oS]
  refine ⟨?_, f2, f3⟩
  cases (partialInsertionSort (BT c) d a b).2 <;> rfl
 ·simp only [hd, decide_false, As, AK]
  exact hno _ rfl
theorem T3 (hc : ∀ x y, P x → P y → cmp (x, y) = some (c x y)) {a p : Nat} {d : Array α} (hb : a ≤ d.size) (hs : d.size ≤ 1000) (hp : p < d.size) (hA : CH P d) (F : Bool → Option (List α)) :
  A7 F (fun j21 => AT (decide (0 < (a : Int))) ((A4 d.toList (wI .i64 ((a : Int) - 1))).bind fun v23 => (A4 d.toList (p : Int)).bind fun v24 => (cmp (v23, v24)).bind fun v25 => j21 (!decide (v25 < 0))) (j21 false)) = F (decide (a > 0) && !BT c d[a - 1]! d[p]!) := by
 rw [Bj]
 by_cases h0 : 0 < a
 ·rw [AF (by omega), wn (e := (a : Int) - 1) (n := a - 1) (by omega) (by omega), gi (show a - 1 < d.size by omega), gi hp]
  simp only [oS]
  rw [hc _ _ (hA.get (by omega)) (hA.get hp)]
  simp only [oS, BT, h0, decide_true, Bool.true_and, gt_iff_lt]
 ·rw [AD (by omega)]
  simp [h0]
theorem RJ (hc : ∀ x y, P x → P y → cmp (x, y) = some (c x y)) {N : Nat} (hN : 1010 ≤ N) : ∀ (w : Nat) (k n : Nat) (d : Array α) (a b limit : Nat) (wb wp : Bool) (J : Unit → Option (List α)), b - a ≤ w → w < n → w ≤ k → a ≤ b → b ≤ d.size → d.size ≤ 1000 → limit ≤ 100 → CH P d →
  Gs.pdqsort_L1 N cmp (Gs.pdqsort_R N k) J n (d.toList, (a : Int), (b : Int), (limit : Int), wb, wp) = some (pdq (BT c) d a b limit wb wp).toList ∧ (pdq (BT c) d a b limit wb wp).size = d.size ∧ CH P (pdq (BT c) d a b limit wb wp) := by
 intro w
 induction w using Nat.strongRecOn with
 | _ w ih =>
 intro k n d a b limit wb wp J hw hn hk hab hb hs hl hA
 obtain ⟨n, rfl⟩ : ∃ q, n = q + 1 := ⟨n - 1, by omega⟩
 rw [Gs.pdqsort_L1, pdq]
 have el : wI .i64 ((b : Int) - (a : Int)) = ((b - a : Nat) : Int) := wn (by omega) (by omega)
 simp only [el]
 by_cases h12 : b - a ≤ 12
 ·rw [AF (by omega), if_pos h12]
  obtain ⟨f1, f2, f3⟩ := UW hc (N := N) hab hb (by omega) (by omega) hA
  rw [f1]
  exact ⟨rfl, f2, f3⟩
 rw [AD (by omega), if_neg h12]
 by_cases h0 : limit = 0
 ·rw [if_pos h0, show ((limit : Int) == 0) = true from beq_iff_eq.2 (by omega), AK]
  obtain ⟨f1, f2, f3⟩ := TT hc (N := N) (show a < b by omega) hb (by omega) (by omega) hA
  rw [f1]
  exact ⟨rfl, f2, f3⟩
 rw [if_neg h0, show ((limit : Int) == 0) = false from beq_eq_false_iff_ne.2 (by omega), As]
 -- the recursion
 have rec_ : ∀ (q : Nat) (d : Array α) (a b limit : Nat), b - a ≤ q → q < w → a ≤ b → b ≤ d.size → d.size ≤ 1000 → limit ≤ 100 → CH P d → Gs.pdqsort_R N k d.toList (a : Int) (b : Int) (limit : Int) cmp = some (pdq (BT c) d a b limit true true).toList ∧ (pdq (BT c) d a b limit true true).size = d.size ∧ CH P (pdq (BT c) d a b limit true true) := by
  intro q d a b limit h1 h2 h3 h4 h5 h6 h7
  obtain ⟨k', rfl⟩ : ∃ q, k = q + 1 := ⟨k - 1, by omega⟩
  rw [Gs.pdqsort_R]
  unfold Gs.pdqsort_B
  exact ih (min q 1000) (by omega) k' N d a b limit true true _ (by omega) (by omega) (by omega) h3 h4 h5 h6 h7
 obtain ⟨e1, e2, e3⟩ := RL (cmp := cmp) (N := N) (a := a) (b := b) (limit := limit) wb (by omega) hb (by omega) hs (by omega) ⟨by omega, hl⟩ hA _
 rw [e1]
 clear e1
 generalize (if !wb then breakPatterns d a b else d) = d1 at e2 e3 ⊢
 generalize hl1 : (if !wb then limit - 1 else limit) = l1
 have hl2 : l1 ≤ 100 := by rw [← hl1]; split <;> omega
 clear hl1
 simp only
 rw [RB hc N (by omega) (by omega) (by omega) e3]
 obtain ⟨p1, p2⟩ := Go.Sort.choosePivot_holds (BT c) d1 a b (by omega)
 generalize choosePivot (BT c) d1 a b = cp at p1 p2 ⊢
 obtain ⟨p, h⟩ := cp
 simp only [oS] at p1 p2 ⊢
 obtain ⟨e4, e5, e6⟩ := Sp (cmp := cmp) (N := N) (a := a) (b := b) h (by omega) p1 p2 (by omega) (by omega) (by omega) e3 _
 rw [e4]
 clear e4
 generalize (if h = .decreasing then reverseRange d1 a b else d1) = d2 at e5 e6 ⊢
 generalize hq : (if h = .decreasing then (b - 1) - (p - a) else p) = q
 have hq1 : a ≤ q ∧ q < b := by rw [← hq]; split <;> omega
 clear hq
 generalize (if h = .decreasing then Hint.increasing else h) = h'
 simp only
 obtain ⟨e7, e8, e9⟩ := Ry hc (N := N) (a := a) (b := b) wb wp h' (by omega) (show b ≤ d2.size by omega) (by omega) (by omega) (by omega) e6 _
 rw [e7]
 clear e7
 have hpr : (if (wb && wp && decide (h' = Hint.increasing)) = true then partialInsertionSort (BT c) d2 a b else (d2, false)) = Ok c wb wp h' d2 a b := rfl
 rw [hpr]
 by_cases hpi : (Ok c wb wp h' d2 a b).2 = true
 ·simp only [hpi, if_true]
  exact ⟨trivial, by omega, e9⟩
 simp only [hpi, if_false]
 generalize (Ok c wb wp h' d2 a b).1 = d3 at e8 e9 ⊢
 rw [T3 hc (by omega) (by omega) (by omega) e9]
 cases (decide (a > 0) && !BT c d3[a - 1]! d3[q]!)
 ·simp only [As, Bool.false_eq_true, if_false]
  obtain ⟨f1, f2, f3, f4, f5⟩ := Wo hc (N := N) (show a < b by omega) hq1.1 hq1.2 (show b ≤ d3.size by omega) (by omega) (by omega) e9
  rw [f1]
  generalize partition (BT c) d3 a b q = r at f2 f3 f4 f5 ⊢
  obtain ⟨mid, al, d4⟩ := r
  simp only [oS] at f2 f3 f4 f5 ⊢
  have m1 : wI .i64 ((mid : Int) - (a : Int)) = ((mid - a : Nat) : Int) := wn (by omega) (by omega)
  have m2 : wI .i64 ((b : Int) - (mid : Int)) = ((b - mid : Nat) : Int) := wn (by omega) (by omega)
  have m3 : wI .i64 ((mid : Int) + 1) = ((mid + 1 : Nat) : Int) := wn (by omega) (by omega)
  have m4 : wI .i64 (Int.tdiv ((b - a : Nat) : Int) 8) = (((b - a) / 8 : Nat) : Int) := wn (by rw [Int.tdiv_eq_ediv_of_nonneg (by omega)]; omega) (by omega)
  have m5 : decide ((((b - a) / 8 : Nat) : Int) ≤ ((mid - a : Nat) : Int)) = decide (mid - a ≥ (b - a) / 8) := by rw [decide_eq_decide]; omega
  have m6 : decide ((((b - a) / 8 : Nat) : Int) ≤ ((b - mid : Nat) : Int)) = decide (b - mid ≥ (b - a) / 8) := by rw [decide_eq_decide]; omega
  simp only [m1, m2, m3, m4, m5, m6, dif_pos (show a ≤ mid ∧ mid < b from ⟨f4, f5⟩)]
  by_cases hsm : mid - a < b - mid
  ·rw [AF (by omega)]
   simp only [hsm, if_true]
   obtain ⟨g1, g2, g3⟩ := rec_ (mid - a) d4 a mid l1 (Nat.le_refl _) (by omega) f4 (by omega) (by omega) hl2 f3
   rw [g1]
   simp only [oS]
   obtain ⟨k1, k2, k3⟩ := ih (b - (mid + 1)) (by omega) k n (pdq (BT c) d4 a mid l1 true true) (mid + 1) b l1 (decide (mid - a ≥ (b - a) / 8)) al J (Nat.le_refl _) (by omega) (by omega) (by omega) (by omega) (by omega) hl2 g3
   exact ⟨k1, by omega, k3⟩
  ·rw [AD (by omega)]
   simp only [hsm, if_false]
   obtain ⟨g1, g2, g3⟩ := rec_ (b - (mid + 1)) d4 (mid + 1) b l1 (Nat.le_refl _) (by omega) (by omega) (by omega) (by omega) hl2 f3
   rw [g1]
   simp only [oS]
   obtain ⟨k1, k2, k3⟩ := ih (mid - a) (by omega) k n (pdq (BT c) d4 (mid + 1) b l1 true true) a mid l1 (decide (b - mid ≥ (b - a) / 8)) al J (Nat.le_refl _) (by omega) (by omega) (by omega) (by omega) (by omega) hl2 g3
   exact ⟨k1, by omega, k3⟩
 ·simp only [AK, if_true]
  obtain ⟨f1, f2, f3, f4, f5⟩ := VO hc (N := N) (show a < b by omega) hq1.1 hq1.2 (show b ≤ d3.size by omega) (by omega) (by omega) e9
  rw [f1]
  generalize partitionEqual (BT c) d3 a b q = r at f2 f3 f4 f5 ⊢
  obtain ⟨mid, d4⟩ := r
  simp only [oS] at f2 f3 f4 f5 ⊢
  simp only [dif_pos (show a < mid ∧ mid ≤ b from ⟨f4, f5⟩)]
  obtain ⟨k1, k2, k3⟩ := ih (b - mid) (by omega) k n d4 mid b l1 wb wp J (Nat.le_refl _) (by omega) (by omega) (by omega) (by omega) (by omega) hl2 f3
  simp only [Bool.false_eq_true, if_false]
  exact ⟨k1, by omega, k3⟩
end
end Go.Lift
namespace Go.Lift
open Go
open Go.Sort (bitsLen pdq SWO PermIn SortedIn)
structure Iu {α : Type} (c : α → α → Int) : Prop where
 anti : ∀ x y, c y x = - c x y
 le : ∀ x y z, c x y ≤ 0 → c y z ≤ 0 → c x z ≤ 0
namespace Iu
variable {α : Type} {c : α → α → Int}
theorem self (O : Iu c) (x : α) : c x x = 0 := by have := O.anti x x; omega
theorem lt1 (O : Iu c) {x y z : α} (h : c x y < 0) (h2 : c y z ≤ 0) : c x z < 0 := by
 have h3 := O.le x y z (by omega) h2
 by_cases h0 : c x z = 0
 ·have h4 := O.anti x z
  have h5 := O.le y z x h2 (by omega)
  have h6 := O.anti x y
  omega
 ·omega
theorem lt2 (O : Iu c) {x y z : α} (h : c x y ≤ 0) (h2 : c y z < 0) : c x z < 0 := by
 have h3 := O.le x y z h (by omega)
 by_cases h0 : c x z = 0
 ·have h4 := O.anti x z
  have h5 := O.le z x y (by omega) h
  have h6 := O.anti y z
  omega
 ·omega
theorem or {d : α → α → Int} (O : Iu c) (Q : Iu d) : Iu (fun x y => if c x y = 0 then d x y else c x y) := by
 refine ⟨fun x y => ?_, fun x y z => ?_⟩
 ·have := O.anti x y
  by_cases h : c x y = 0
  ·simp only [h, show c y x = 0 by omega, if_true]; exact Q.anti x y
  ·simp only [h, show ¬ c y x = 0 by omega, if_false]; exact this
 ·intro h1 h2
  have a1 : c x y ≤ 0 := by revert h1; split <;> omega
  have a2 : c y z ≤ 0 := by revert h2; split <;> omega
  have a3 := O.le x y z a1 a2
  by_cases h0 : c x z = 0
  ·have b1 : c x y = 0 := by
    by_cases q : c x y = 0
    ·exact q
    ·have := O.lt1 (show c x y < 0 by omega) a2; omega
   have b2 : c y z = 0 := by
    by_cases q : c y z = 0
    ·exact q
    ·have := O.lt2 a1 (show c y z < 0 by omega); omega
   simp only [b1, b2, h0, if_true] at h1 h2 ⊢
   exact Q.le x y z h1 h2
  ·simp only [h0, if_false]; exact a3
theorem swo (O : Iu c) : SWO (BT c) := by
 refine ⟨fun x => ?_, fun x y z => ?_, fun x y z => ?_⟩
 ·unfold BT; rw [O.self x]; rfl
 ·unfold BT; intro h1 h2
  exact decide_eq_true (O.lt1 (of_decide_eq_true h1) (by have := of_decide_eq_true h2; omega))
 ·unfold BT; intro h1 h2
  have := of_decide_eq_false h1
  have := of_decide_eq_false h2
  have := O.anti x y
  have := O.anti y z
  have := O.anti x z
  have := O.le z y x (by omega) (by omega)
  exact decide_eq_false (by omega)
end Iu
section
variable {α : Type} [Inhabited α] {P : α → Prop} {cmp : α × α → Option Int} {c : α → α → Int}
theorem QY (O : Iu c) (hc : ∀ x y, P x → P y → cmp (x, y) = some (c x y)) {N : Nat} (hN : 1010 ≤ N) (l : List α) (hl : l.length ≤ 1000) (hP : ∀ x, x ∈ l → P x) :
  ∃ r : List α, Gs.pdqsort N l 0 ((l.length : Nat) : Int) ((bitsLen l.length : Nat) : Int) cmp = some r ∧ r.Perm l ∧ r.Pairwise (fun x y => c x y ≤ 0) := by
 have hb := Qk hl
 have hA : CH P l.toArray := fun x hx => hP x hx
 obtain ⟨k, rfl⟩ : ∃ q, N = q + 1 := ⟨N - 1, by omega⟩
 obtain ⟨f1, f2, f3⟩ := RJ hc hN 1000 k (k + 1) l.toArray 0 l.length (bitsLen l.length) true true (fun _ => none) (by omega) (by omega) (by omega) (by omega) (by simp) (by simpa using hl) (by omega) hA
 obtain ⟨⟨g0, _, g1⟩, g2⟩ := Go.Sort.sort_sorts (BT c) O.swo l.toArray
 unfold Go.Sort.sort at g0 g1 g2
 simp only [List.size_toArray] at g0 g1 g2
 refine ⟨_, f1, ?_, ?_⟩
 ·generalize pdq (BT c) l.toArray 0 l.length (bitsLen l.length) true true = d at g0 g1
  have e1 : (d.extract 0 l.length).toList = d.toList := by rw [← g0]; simp
  have e2 : (l.toArray.extract 0 l.length).toList = l := by simp
  rw [e1, e2] at g1
  exact g1
 ·generalize pdq (BT c) l.toArray 0 l.length (bitsLen l.length) true true = d at g0 g2
  rw [List.pairwise_iff_getElem]
  intro i j hi hj hij
  have := of_decide_eq_false (g2 i j (Nat.zero_le _) hij (by rw [← g0]; simpa using hj))
  rw [getElem!_pos d i (by simpa using hi), getElem!_pos d j (by simpa using hj)] at this
  have h2 := O.anti d[i] d[j]
  simp only [Array.getElem_toList]
  omega
end
section
variable {α : Type} {c : α → α → Int}
abbrev PW (c : α → α → Int) (l : List α) : Prop := l.Pairwise (fun x y => c x y < 0)
end
theorem PQ : Iu DI := ⟨fun a b => Nj a b, QC⟩
theorem Iu.pull {α β : Type} {c : α → α → Int} (O : Iu c) (f : β → α) : Iu (fun x y => c (f x) (f y)) := ⟨fun x y => O.anti _ _, fun x y z => O.le _ _ _⟩
theorem PL : Iu JY := by
 have := (PQ.pull Ae.fBase).or ((PQ.pull Ae.fNext).or (PQ.pull Ae.fHeld))
 have e : JY = fun (x y : Ae) => if DI x.fBase y.fBase = 0 then (if DI x.fNext y.fNext = 0 then DI x.fHeld y.fHeld else DI x.fNext y.fNext) else DI x.fBase y.fBase := by
  funext x y
  unfold JY PE PE PE PE
  repeat' split
  all_goals (first | rfl | omega | simp_all)
 rw [e]; exact this
end Go.Lift
namespace Go.Lift
open IntKind renaming wrap → wI
open Go
variable {α : Type}
def Gs.compact_L11 (z : α) (N : Nat) (p0 : List α) (p1 : (α × α) → Option Bool) (v2 : Int) (j11 : ((List α) × Int) → Option (Nat × (List α))) : Nat → ((List α) × Int × Int) → Option (Nat × (List α))
 | 0, _ => none
 | n11 + 1, v11 =>
  AT ((decide (v11.2.2 < ((((p0.length - (v2).toNat)) : Nat) : Int))))
   (A7 (fun (v14 : (List α) × Int) =>
    Gs.compact_L11 z N p0 p1 v2 j11 n11 (v14.1, v14.2, (wI .i64 (v11.2.2 + 1))))
   fun j14 =>
   (DB (((v2).toNat) + ((p0.length - (v2).toNat)) ≤ v11.1.length)).bind fun _ =>
   (A4 (((v11.1.drop ((v2).toNat)).take ((p0.length - (v2).toNat)))) v11.2.2).bind fun v15 =>
   (A4 (((v11.1.drop ((v2).toNat)).take ((p0.length - (v2).toNat)))) ((wI .i64 (v11.2.2 - 1)))).bind fun v17 =>
   (p1 ((v15, v17))).bind fun v18 =>
   AT ((!v18))
    ((A4 (((v11.1.drop ((v2).toNat)).take ((p0.length - (v2).toNat)))) v11.2.2).bind fun v20 =>
    (A4 v11.1 v11.2.1).bind fun _ =>
    j14 (v11.1.set ((v11.2.1).toNat) v20, (wI .i64 (v11.2.1 + 1))))
    (j14 (v11.1, v11.2.1)))
   (j11 (v11.1, v11.2.1))
def Gs.compact_L2 (z : α) (N : Nat) (p0 : List α) (p1 : (α × α) → Option Bool) (j2 : Unit → Option (Nat × (List α))) : Nat → Int → Option (Nat × (List α))
 | 0, _ => none
 | n2 + 1, v2 =>
  AT ((decide (v2 < (p0.length : Int))))
   ((A4 p0 v2).bind fun v5 =>
   (A4 p0 ((wI .i64 (v2 - 1)))).bind fun v6 =>
   (p1 ((v5, v6))).bind fun v7 =>
   AT v7
    ((DB ((0 : Int) ≤ v2 ∧ (v2).toNat ≤ p0.length ∧ p0.length ≤ p0.length)).bind fun _ =>
    Gs.compact_L11 z N p0 p1 v2 (fun (v12 : (List α) × Int) =>
     (DB ((0 : Int) ≤ v12.2 ∧ (v12.2).toNat ≤ v12.1.length ∧ v12.1.length ≤ v12.1.length)).bind fun _ =>
     (DB ((0 : Int) ≤ v12.2 ∧ 0 ≤ (v12.2).toNat ∧ (v12.2).toNat ≤ (Hb v12.1 ((v12.2).toNat) (List.replicate ((v12.1.length - (v12.2).toNat)) (z))).length)).bind fun _ =>
     some ((v12.2).toNat, Hb v12.1 ((v12.2).toNat) (List.replicate ((v12.1.length - (v12.2).toNat)) (z)))) N (p0, v2, 1))
    (Gs.compact_L2 z N p0 p1 j2 n2 (wI .i64 (v2 + 1))))
   (j2 ())
def Gs.compact (z : α) (N : Nat) (p0 : List α) (p1 : (α × α) → Option Bool) : Option (Nat × (List α)) :=
 AT ((decide ((p0.length : Int) < 2)))
  (some (p0.length, p0))
  (Gs.compact_L2 z N p0 p1 (fun (_ : Unit) =>
   some (p0.length, p0)) N 1)
end Go.Lift
namespace Go.Lift
open Option renaming bind_some → oS
open List renaming mem_of_getElem? → lM
open Go
section
variable {α : Type} {c : α → α → Int}
def Gd (c : α → α → Int) (l : List α) (r : List α) (j : Nat) : Prop := PW c r ∧ ∀ x, x ∈ r ↔ x ∈ l.take (j + 1)
theorem Qn {l r : List α} {j : Nat} (h : Gd c l r j) (hj : j + 1 < l.length) (e : l[j + 1] = l[j]) : Gd c l r (j + 1) := by
 refine ⟨h.1, fun x => ?_⟩
 rw [List.take_succ_eq_append_getElem hj, List.mem_append, ← h.2 x, List.mem_singleton, e]
 constructor
 ·exact .inl
 ·rintro (h1 | rfl)
  ·exact h1
  ·exact (h.2 _).2 (List.mem_take_iff_getElem.2 ⟨j, by omega, rfl⟩)
theorem QD (O : Iu c) (h0 : ∀ x y, c x y = 0 → x = y) {l r : List α} {j : Nat} (hs : l.Pairwise (fun x y => c x y ≤ 0)) (h : Gd c l r j) (hj : j + 1 < l.length) (e : l[j + 1] ≠ l[j]) : Gd c l (r ++ [l[j + 1]]) (j + 1) := by
 rw [List.pairwise_iff_getElem] at hs
 refine ⟨List.pairwise_append.2 ⟨h.1, List.pairwise_singleton _ _, fun x hx y hy => ?_⟩, fun x => ?_⟩
 ·rw [List.mem_singleton.1 hy]
  obtain ⟨i, hi, rfl⟩ := List.mem_take_iff_getElem.1 ((h.2 x).1 hx)
  have h1 : c l[j] l[j + 1] < 0 := by
   have := hs j (j + 1) (by omega) hj (by omega)
   by_cases q : c l[j] l[j + 1] = 0
   ·exact absurd (h0 _ _ q).symm e
   ·omega
  by_cases q : i = j
  ·subst q; exact h1
  ·exact O.lt2 (hs i j (by omega) (by omega) (by omega)) h1
 ·rw [List.take_succ_eq_append_getElem hj, List.mem_append, List.mem_append, h.2 x]
variable {P : α → Prop} {eq : α × α → Option Bool} {b : α → α → Bool}
theorem N4 (O : Iu c) (h0 : ∀ x y, c x y = 0 → x = y) (z : α) (hc : ∀ x y, P x → P y → eq (x, y) = some (b x y)) (hb : ∀ x y, b x y = true ↔ x = y) (N : Nat) (l : List α) (hl : l.length ≤ 1000) (hP : ∀ x, x ∈ l → P x) (hs : l.Pairwise (fun x y => c x y ≤ 0)) (i0 : Nat) (h1 : 1 ≤ i0) (h2 : i0 < l.length) (J : List α × Int → Option (Nat × List α)) :
  ∀ (n q k : Nat) (a : List α), l.length - q < n → i0 < q → q ≤ l.length → k + 1 ≤ q → a.length = l.length → Gd c l (a.take k) (q - 1) → a.drop (q - 1) = l.drop (q - 1) →
  ∃ (a' : List α) (k' : Nat), Gs.compact_L11 z N l eq (i0 : Int) J n (a, (k : Int), ((q - i0 : Nat) : Int)) = J (a', (k' : Int)) ∧ a'.length = l.length ∧ k' ≤ l.length ∧ Gd c l (a'.take k') (l.length - 1)
 | 0, q, k, a, h, _, _, _, _, _, _ => by omega
 | n + 1, q, k, a, h, hq, hql, hk, ha, hg, hd => by
  rw [Gs.compact_L11]
  simp only [Bj, Int.toNat_natCast]
  have at_ : ∀ p, q - 1 ≤ p → p < l.length → a[p]? = l[p]? := by
   intro p hp hpl
   have : (a.drop (q - 1))[p - (q - 1)]? = (l.drop (q - 1))[p - (q - 1)]? := by rw [hd]
   rw [List.getElem?_drop, List.getElem?_drop, show q - 1 + (p - (q - 1)) = p by omega] at this
   exact this
  by_cases h3 : q < l.length
  ·rw [AF (by omega), AI (by omega)]
   have hx : l[q]? = some l[q] := by simp [h3]
   have hy : l[q - 1]? = some l[q - 1] := by simp <;> omega
   have ix : ∀ p, i0 ≤ p → q - 1 ≤ p → p < l.length → A4 ((a.drop i0).take (l.length - i0)) ((p - i0 : Nat) : Int) = l[p]? := by
    intro p g1 g2 g3
    rw [Bi, List.getElem?_take_of_lt (by omega), List.getElem?_drop, show i0 + (p - i0) = p by omega]
    exact at_ p g2 g3
   rw [Ch (n := ((q - i0 : Nat) : Int) - 1) (by omega) (by omega), show (((q - i0 : Nat) : Int) - 1) = ((q - 1 - i0 : Nat) : Int) by omega, ix q (by omega) (by omega) h3, ix (q - 1) (by omega) (by omega) (by omega), hx, hy]
   simp only [oS]
   rw [hc _ _ (hP _ (lM hx)) (hP _ (lM hy))]
   simp only [oS]
   rw [Ch (n := ((q - i0 : Nat) : Int) + 1) (by omega) (by omega), show (((q - i0 : Nat) : Int) + 1) = ((q + 1 - i0 : Nat) : Int) by omega]
   have eq1 : q - 1 + 1 = q := by omega
   by_cases e : l[q] = l[q - 1]
   ·rw [(hb _ _).2 e, Bool.not_true, As]
    refine N4 O h0 z hc hb N l hl hP hs i0 h1 h2 J n (q + 1) k a (by omega) (by omega) (by omega) (by omega) ha ?_ ?_
    ·have := Qn (j := q - 1) hg (by omega) (by simp only [eq1]; exact e)
     rw [eq1] at this; exact this
    ·show a.drop q = l.drop q
     rw [← eq1, ← List.drop_drop, ← List.drop_drop, hd]
   ·have hbf : b l[q] l[q - 1] = false := by
     cases hh : b l[q] l[q - 1] with
     | false => rfl
     | true => exact absurd ((hb _ _).1 hh) e
    rw [hbf, Bool.not_false, AK]
    rw [Bi, show a[k]? = some a[k] from by simp <;> omega]
    simp only [oS]
    rw [A2 (by omega)]
    refine N4 O h0 z hc hb N l hl hP hs i0 h1 h2 J n (q + 1) (k + 1) (a.set k l[q]) (by omega) (by omega) (by omega) (by omega) (by simp [ha]) ?_ ?_
    ·have := QD O h0 hs (j := q - 1) hg (by omega) (by simp only [eq1]; exact e)
     simp only [eq1] at this
     rw [List.take_succ_eq_append_getElem (by simp; omega), List.take_set_of_le (by omega), List.getElem_set_self]
     exact this
    ·show (a.set k l[q]).drop q = l.drop q
     rw [List.drop_set_of_lt (by omega), ← eq1, ← List.drop_drop, ← List.drop_drop, hd]
  ·rw [AD (by omega)]
   have : q = l.length := by omega
   subst this
   exact ⟨a, k, rfl, ha, by omega, hg⟩
theorem OD (O : Iu c) (h0 : ∀ x y, c x y = 0 → x = y) (z : α) (hc : ∀ x y, P x → P y → eq (x, y) = some (b x y)) (hb : ∀ x y, b x y = true ↔ x = y) (N : Nat) (hN : 1010 ≤ N) (l : List α) (hl : l.length ≤ 1000) (hP : ∀ x, x ∈ l → P x) (hs : l.Pairwise (fun x y => c x y ≤ 0)) :
  ∀ (n i : Nat), l.length - i < n → 1 ≤ i → i ≤ l.length → Gd c l (l.take i) (i - 1) →
  ∃ (k : Nat) (r : List α), Gs.compact_L2 z N l eq (fun _ => some (l.length, l)) n (i : Int) = some (k, r) ∧ k ≤ r.length ∧ Gd c l (r.take k) (l.length - 1)
 | 0, i, h, _, _, _ => by omega
 | n + 1, i, h, h1, h2, hg => by
  rw [Gs.compact_L2]
  by_cases h3 : i < l.length
  ·have hx : l[i]? = some l[i] := by simp [h3]
   have hy : l[i - 1]? = some l[i - 1] := by simp <;> omega
   have eq1 : i - 1 + 1 = i := by omega
   rw [AF (by omega), Ch (n := (i : Int) - 1) (by omega) (by omega), show ((i : Int) - 1) = ((i - 1 : Nat) : Int) by omega]
   simp only [Bi, hx, hy, oS]
   rw [hc _ _ (hP _ (lM hx)) (hP _ (lM hy))]
   simp only [oS, Int.toNat_natCast]
   by_cases e : l[i] = l[i - 1]
   ·rw [(hb _ _).2 e, AK, AI (by omega)]
    have hg2 : Gd c l (l.take i) i := by
     have := Qn (j := i - 1) hg (by omega) (by simp only [eq1]; exact e)
     rw [eq1] at this; exact this
    obtain ⟨a', k', e1, e2, e3, e4⟩ := N4 O h0 z hc hb N l hl hP hs i h1 h3 (fun (v12 : (List α) × Int) =>
     (DB ((0 : Int) ≤ v12.2 ∧ (v12.2).toNat ≤ v12.1.length ∧ v12.1.length ≤ v12.1.length)).bind fun _ =>
     (DB ((0 : Int) ≤ v12.2 ∧ 0 ≤ (v12.2).toNat ∧ (v12.2).toNat ≤ (Hb v12.1 ((v12.2).toNat) (List.replicate ((v12.1.length - (v12.2).toNat)) (z))).length)).bind fun _ =>
     some ((v12.2).toNat, Hb v12.1 ((v12.2).toNat) (List.replicate ((v12.1.length - (v12.2).toNat)) (z)))) N (i + 1) i l (by omega) (by omega) (by omega) (by omega) rfl hg2 rfl
    rw [show ((i + 1 - i : Nat) : Int) = 1 by omega] at e1
    rw [e1]
    simp only [Int.toNat_natCast]
    have hsp : (Hb a' k' (List.replicate (a'.length - k') z)).take k' = a'.take k' ∧ k' ≤ (Hb a' k' (List.replicate (a'.length - k') z)).length := by
     unfold Hb
     constructor
     ·simp only [List.append_assoc]
      rw [List.take_append_of_le_length (by simp; omega), List.take_take, Nat.min_self]
     ·simp; omega
    rw [AI (by omega), AI (by omega)]
    exact ⟨k', _, rfl, hsp.2, by rw [hsp.1]; exact e4⟩
   ·have hbf : b l[i] l[i - 1] = false := by
     cases hh : b l[i] l[i - 1] with
     | false => rfl
     | true => exact absurd ((hb _ _).1 hh) e
    rw [hbf, As, A2 (by omega)]
    refine OD O h0 z hc hb N hN l hl hP hs n (i + 1) (by omega) (by omega) (by omega) ?_
    have := QD O h0 hs (j := i - 1) hg (by omega) (by simp only [eq1]; exact e)
    simp only [eq1] at this
    rw [List.take_succ_eq_append_getElem h3]
    exact this
  ·rw [AD (by omega)]
   have : i = l.length := by omega
   subst this
   exact ⟨_, _, rfl, Nat.le_refl _, hg⟩
theorem Q5 (O : Iu c) (h0 : ∀ x y, c x y = 0 → x = y) (z : α) (hc : ∀ x y, P x → P y → eq (x, y) = some (b x y)) (hb : ∀ x y, b x y = true ↔ x = y) {N : Nat} (hN : 1010 ≤ N) (l : List α) (hl : l.length ≤ 1000) (hP : ∀ x, x ∈ l → P x) (hs : l.Pairwise (fun x y => c x y ≤ 0)) :
  ∃ (k : Nat) (r : List α), Gs.compact z N l eq = some (k, r) ∧ k ≤ r.length ∧ PW c (r.take k) ∧ ∀ x, x ∈ r.take k ↔ x ∈ l := by
 unfold Gs.compact
 match l, hl, hP, hs with
 | [], _, _, _ => exact ⟨0, [], rfl, Nat.le_refl _, by simp, by simp⟩
 | [x], _, _, _ => exact ⟨1, [x], rfl, Nat.le_refl _, by simp, by simp⟩
 | x :: y :: l, hl, hP, hs =>
  rw [AD (by simp; omega)]
  obtain ⟨k, r, e1, e2, e3, e4⟩ := OD O h0 z hc hb N hN (x :: y :: l) hl hP hs N 1 (by omega) (by omega) (by simp) ⟨by simp, by simp⟩
  refine ⟨k, r, e1, e2, e3, fun w => ?_⟩
  rw [e4 w, List.take_of_length_le (by simp)]
end
end Go.Lift
namespace Go.Lift
open Go
instance : Inhabited AW := ⟨⟨0, 0, 0⟩⟩
def WS (a b : AW) : Bool := (a.fTable == b.fTable) && ((a.fWriter == b.fWriter) && ((a.fReader == b.fReader) && true))
theorem Qo (a b : AW) : WS a b = true ↔ a = b := by
 cases a; cases b
 simp [WS]
instance WH : DecidableEq AW := fun a b => if h : WS a b = true then isTrue ((Qo a b).1 h) else isFalse fun e => h ((Qo a b).2 e)
end Go.Lift
namespace Go.Lift
open IntKind renaming wrap → wI
open Option renaming bind_some → oS
open Go
def Gq (p : Ag) : Nat → Ae → List Ae → List Aj → List Ae × Int × Int
 | i, _, acc, [] => (acc, (i : Int), 0)
 | i, m, acc, s :: ss => if (Ce p m s).2 ≠ 0 then ([], (i : Int), (Ce p m s).2) else Gq p (i + 1) (Ce p m s).1 (acc ++ [(Ce p m s).1]) ss
theorem Me (N : Nat) (hN : N ≤ 1000000) (h20 : 100 ≤ N) {p : Ag} (hv : Cg p = 0) (l : List Aj) (hl : l.length ≤ 1000) : ∀ (n i : Nat) (m : Ae) (acc : List Ae), i ≤ l.length → l.length - i < n → Cx p m → acc.length = i + 1 → acc[i]? = some m →
  D7 N p l (fun v5 => some (v5, (l.length : Int), 0)) n (acc, (i : Int)) = some (Gq p i m acc (l.drop i))
 | 0, i, _, _, _, h, _, _, _ => by omega
 | n + 1, i, m, acc, hi, h, hm, ha, hg => by
  obtain ⟨hp, _⟩ := C6 hv
  rw [D7]
  by_cases h1 : i < l.length
  ·have hx : l[i]? = some l[i] := by simp [h1]
   rw [AF (by first | omega | (simp only; omega)), C8 hx, Gq]
   simp only [Bi, hx, hg, oS]
   rw [MI N hN h20 hp hm]
   simp only [oS]
   by_cases h2 : (Ce p m l[i]).2 = 0
   ·rw [h2, if_neg (by simp), bne_self_eq_false, As, AI (by simp [D2]; omega), A2 (by omega)]
    exact Me N hN h20 hv l hl n (i + 1) (Ce p m l[i]).1 (acc ++ [(Ce p m l[i]).1]) (by omega) (by omega) (Jj hp hm h2) (by simp [ha]) (by rw [← ha]; simp)
   ·rw [if_pos h2, bne_iff_ne.2 h2, AK]
  ·rw [AD (by first | omega | (simp only; omega)), List.drop_eq_nil_of_le (by omega), Gq, show i = l.length by omega]
theorem Oi (N : Nat) (hN : N ≤ 1000000) (h20 : 100 ≤ N) {p : Ag} {m : Ae} (hv : Cg p = 0) (hm : Cx p m) (l : List Aj) (hl : l.length ≤ 60) :
  FW N p m l = some (Gq p 0 m [m] l) := by
 obtain ⟨hp, _⟩ := C6 hv
 unfold FW
 rw [Io N p m hN (by omega) (MY hm), Kf hv hm]
 simp only [oS, bne_self_eq_false, As]
 rw [KQ N hp hm]
 exact Me N hN h20 hv l (by omega) N 0 m [m] (Nat.zero_le _) (by omega) hm rfl rfl
theorem Og {p : Ag} (hp : B9 p) : ∀ (ss : List Aj) (i : Nat) (m : Ae) (acc : List Ae), Cx p m → (∀ x, x ∈ acc → Cx p x) → acc.length = i + 1 →
  (Gq p i m acc ss).2.2 ≠ 0 ∨ ((Gq p i m acc ss).2.2 = 0 ∧ (Gq p i m acc ss).2.1 = ((i + ss.length : Nat) : Int) ∧ (Gq p i m acc ss).1.length = i + ss.length + 1 ∧ ∀ x, x ∈ (Gq p i m acc ss).1 → Cx p x)
 | [], i, m, acc, hm, ha, hl => .inr ⟨rfl, rfl, by simpa [Gq] using hl, ha⟩
 | s :: ss, i, m, acc, hm, ha, hl => by
  rw [Gq]
  by_cases h : (Ce p m s).2 = 0
  ·rw [if_neg (by simp [h])]
   have hk := Jj hp hm h
   have := Og hp ss (i + 1) _ (acc ++ [(Ce p m s).1]) hk (fun x hx => by
    rcases List.mem_append.1 hx with hx | hx
    ·exact ha x hx
    ·rw [List.mem_singleton.1 hx]; exact hk) (by simp [hl])
   rw [show i + (s :: ss).length = i + 1 + ss.length from by simp; omega]
   exact this
  ·rw [if_pos h]; exact .inl h
theorem NE (N : Nat) (hN : N ≤ 1000000) (h20 : 100 ≤ N) {p : Ag} (hv : Cg p = 0) (l : List Aj) (hl : l.length ≤ 60) : DX N p l = some (Gq p 0 (BP p) [BP p] l) := by
 unfold DX
 rw [Kh N p hN h20, if_pos hv, hv]
 simp only [oS, bne_self_eq_false, As]
 rw [Oi N hN h20 hv (Kv hv) l hl]; rfl
theorem Rl {c : Int} {k : Nat} (h0 : 0 ≤ c) (h1 : c ≤ 255) (hk : k ≤ 54) : Int.tmod (wI .i64 c) (k : Int) = ((c.toNat % k : Nat) : Int) := by
 obtain ⟨q, rfl⟩ : ∃ q : Nat, c = (q : Int) := ⟨c.toNat, by omega⟩
 rw [Ch (by omega) (by omega)]
 rfl
end Go.Lift
namespace Go.Lift
open Option renaming bind_some → oS
open List renaming mem_of_getElem? → lM
open Go
instance Vy : Inhabited Ae := ⟨G7⟩
theorem TP : Gs.pdqsort = @Gs.pdqsort Ae := by kernel_rfl
theorem OJ : BB = @Gs.compact Ae (Ae.mk [] [] []) := by kernel_rfl
theorem KX {N : Nat} (hN : N ≤ 1000000) {a b : Ae} (h1 : a.fBase.length < N) (h2 : a.fNext.length < N) (h3 : a.fHeld.length < N) (h4 : 3 < N) : Cf N a b = some (JY a b) := by
 unfold Cf
 rw [Mx h1 hN, Mx h2 hN, Pi h3 hN]
 simp only [oS]
 rw [U8 (by simp; omega) hN]
 rfl
theorem Ru {N : Nat} (hN : N ≤ 1000000) (h20 : 1010 ≤ N) {p : Ag} (hp : B9 p) (l : List Ae) (hl : l.length ≤ 1000) (hm : ∀ x, x ∈ l → Cx p x) :
  ∃ r : List Ae, Bd N l (fun (x : Ae × Ae) => Cf N x.1 x.2) = some r ∧ r.Perm l ∧ r.Pairwise (fun x y => JY x y ≤ 0) := by
 have hcmp : ∀ x y : Ae, Cx p x → Cx p y → (fun (x : Ae × Ae) => Cf N x.1 x.2) (x, y) = some (JY x y) := fun x y hx _ => by
  have := hp.nv
  have := hp.nt
  exact KX hN (by rw [hx.base]; omega) (by rw [hx.next]; omega) (by rw [hx.held]; omega) (by omega)
 obtain ⟨r1, s1, s2, s3⟩ := QY (cmp := fun (x : Ae × Ae) => Cf N x.1 x.2) PL hcmp (N := N) h20 l hl hm
 unfold Bd
 rw [Ii (by omega), RD N hl, TP]
 simp only [oS]
 rw [s1]
 exact ⟨r1, rfl, s2, s3⟩
theorem LY (N : Nat) (hN : N ≤ 1000000) (h20 : 100 ≤ N) {p : Ag} (hv : Cg p = 0) (l : List Ae) (hl : l.length ≤ 100) (hm : ∀ x, x ∈ l → Cx p x) (e : Int × Int) (J : List Ae → Option (List Ae × Int)) : ∀ (n i : Nat) (a : List Ae), i ≤ l.length → l.length - i < n → a.length ≤ 64 * i →
  DQ N p (l, e) J n (a, (i : Int)) = J (a ++ (l.drop i).flatMap GE)
 | 0, i, _, _, h, _ => by omega
 | n + 1, i, a, hi, h, ha => by
  obtain ⟨hp, _⟩ := C6 hv
  rw [DQ]
  by_cases h1 : i < l.length
  ·have hx : l[i]? = some l[i] := by simp [h1]
   have hk := hm _ (lM hx)
   have hal := LT (m := l[i]) (by rw [hk.next]; exact hp.nv)
   rw [AF (by first | omega | (simp only; omega)), C8 hx]
   simp only [Bi, hx, oS]
   rw [MQ N p _ hN h20 (MY hk) (Kf hv hk)]
   simp only [oS, bne_self_eq_false, As]
   rw [AI (by simp only [D2]; omega), A2 (by omega), LY N hN h20 hv l hl hm e J n (i + 1) _ (by omega) (by omega) (by simp; omega)]
   rw [List.flatMap_cons, List.append_assoc]
  ·rw [AD (by first | omega | (simp only; omega)), List.drop_eq_nil_of_le (by omega)]
   simp
theorem LP {p : Ag} (hp : B9 p) : ∀ (l : List Ae), (∀ x, x ∈ l → Cx p x) → (l.flatMap GE).length ≤ 64 * l.length
 | [], _ => by simp
 | m :: l, h => by
  have h1 := LT (m := m) (by rw [(h m (by simp)).next]; exact hp.nv)
  have h2 := LP hp l fun x hx => h x (by simp [hx])
  rw [List.flatMap_cons, List.length_append, List.length_cons]
  omega
theorem RU (N : Nat) (hN : N ≤ 1000000) (h20 : 1010 ≤ N) {p : Ag} (hv : Cg p = 0) (l : List Aj) (hl : l.length ≤ 14) (h0 : (Gq p 0 (BP p) [BP p] l).2.2 = 0) :
  ∃ A : List Ae, Ex N p l = some (A, 0) ∧ PW JY A ∧ ∀ x, x ∈ A ↔ ∃ m, m ∈ (Gq p 0 (BP p) [BP p] l).1 ∧ Ia m x := by
 obtain ⟨hp, _⟩ := C6 hv
 unfold Ex
 rw [NE N hN (by omega) hv l (by omega)]
 have hs := Kv hv
 have hR := Og hp l 0 (BP p) [BP p] hs (fun x hx => by rw [List.mem_singleton.1 hx]; exact hs) rfl
 obtain ⟨_, _, h2, h3⟩ := hR.resolve_left (by simp [h0])
 simp only [oS]
 rw [h0, bne_self_eq_false, As]
 generalize Gq p 0 (BP p) [BP p] l = r at h2 h3
 have e := LY N hN (by omega) hv r.1 (by omega) h3 r.2 (fun (v4 : (List Ae)) =>
   (Bd N v4 ((fun (x : Ae × Ae) => Cf N x.1 x.2))).bind fun v10 =>
   (BB N v10 ((fun (x : Ae × Ae) => CM N x.1 x.2))).bind fun v11 =>
   (DB (v11.1 ≤ v11.2.length)).bind fun _ =>
   some (v11.2.take v11.1, 0)) N 0 [] (Nat.zero_le _) (by omega) (Nat.zero_le _)
 have hfl := LP hp r.1 h3
 have hok : ∀ x, x ∈ r.1.flatMap GE → Cx p x := fun x hx => by
  obtain ⟨m, hm, hx⟩ := List.mem_flatMap.1 hx
  exact Uf hp (h3 m hm) (Ir.1 hx)
 obtain ⟨r1, s1, s2, s3⟩ := Ru hN h20 hp (r.1.flatMap GE) (by omega) hok
 have heq : ∀ x y : Ae, Cx p x → Cx p y → (fun (x : Ae × Ae) => CM N x.1 x.2) (x, y) = some (decide (x = y)) := fun x y hx _ => by
  have := hp.nv
  have := hp.nt
  show CM N x y = _
  unfold CM
  rw [KX hN (by rw [hx.base]; omega) (by rw [hx.next]; omega) (by rw [hx.held]; omega) (by omega)]
  simp only [oS]
  rw [Ox]
 obtain ⟨k, t, t1, t2, t3, t4⟩ := Q5 (eq := fun (x : Ae × Ae) => CM N x.1 x.2) PL (fun _ _ h => KL h) (Ae.mk [] [] []) heq (fun x y => by simp) (N := N) h20 r1 (by rw [s2.length_eq]; omega) (fun x hx => hok x (s2.mem_iff.1 hx)) s3
 refine ⟨t.take k, ?_, t3, fun x => ?_⟩
 ·refine Eq.trans e ?_
  rw [List.drop_zero, List.nil_append, s1]
  simp only [oS]
  rw [OJ, t1]
  simp only [oS]
  rw [AI t2]
 ·rw [t4 x, s2.mem_iff, List.mem_flatMap]
  constructor
  ·rintro ⟨m, hm, hx⟩; exact ⟨m, hm, Ir.1 hx⟩
  ·rintro ⟨m, hm, hx⟩; exact ⟨m, hm, Ir.2 hx⟩
def IE (p : Ag) : Ae → List Int → List Aj
 | _, [] => []
 | m, c :: cs => match (EZ p m)[c.toNat % (EZ p m).length]? with
  | none => []
  | some s => s :: IE p (Ce p m s).1 cs
def O8 (p : Ag) : Ae → List Int → Ae
 | m, [] => m
 | m, c :: cs => match (EZ p m)[c.toNat % (EZ p m).length]? with
  | none => m
  | some s => O8 p (Ce p m s).1 cs
theorem M8 {p : Ag} : ∀ (cs : List Int) (m : Ae), (IE p m cs).length ≤ cs.length
 | [], _ => Nat.le_refl _
 | c :: cs, m => by
  rw [IE]
  split
  ·simp
  ·simpa using M8 cs _
theorem Nc {p : Ag} : ∀ (cs : List Int) (i : Nat) (m : Ae) (acc : List Ae), (Gq p i m acc (IE p m cs)).2.2 = 0
 | [], _, _, _ => rfl
 | c :: cs, i, m, acc => by
  rw [IE]
  split
  ·rfl
  ·rename_i s hs
   rw [Gq, if_neg (by simp [(I0 (lM hs)).2])]
   exact Nc cs _ _ _
theorem JB (N : Nat) (hN : N ≤ 1000000) (h20 : 100 ≤ N) {p : Ag} (hv : Cg p = 0) (l : List Int) (hl : l.length ≤ 50) (hb : ∀ c, c ∈ l → 0 ≤ c ∧ c ≤ 255) : ∀ (n i : Nat) (m : Ae) (a : List Aj), i ≤ l.length → l.length - i < n → a.length ≤ i → Cx p m →
  CI N p l false (fun (v2 : Ae × (List Aj)) => some (v2.2, v2.1)) n (m.fBase, m.fNext, m.fHeld, a, (i : Int)) = some (a ++ IE p m (l.drop i), O8 p m (l.drop i))
 | 0, i, _, _, _, h, _, _ => by omega
 | n + 1, i, m, a, hi, h, ha, hm => by
  obtain ⟨hp, _⟩ := C6 hv
  rw [CI]
  by_cases h1 : i < l.length
  ·have hx : l[i]? = some l[i] := by simp [h1]
   rw [AF (by first | omega | (simp only; omega)), C8 hx, IE, O8]
   have e1 : (Ae.mk m.fBase m.fNext m.fHeld) = m := rfl
   simp only [e1]
   rw [N3 N hN h20 hv hm]
   simp only [oS]
   have hnl : (EZ p m).length ≤ 54 := Nat.le_trans (List.length_filter_le _ _) (SS hp)
   have hs : ∀ s, s ∈ EZ p m → s ∈ EZ p m := fun _ h => h
   have h5 : ∀ (v : (List Int) × (List Int) × (List Int) × (List Aj) × Int) (J : List Aj → Option (List Aj × Ae)), CO N p false v J N (EZ p m, 0) = J (EZ p m) := by
    intro v J
    obtain ⟨q, rfl⟩ : ∃ q, N = q + 1 := ⟨N - 1, by omega⟩
    rw [CO]
    simp only [Bj, As]
    generalize decide ((0 : Int) < _) = bb
    cases bb <;> rfl
   rw [h5]
   simp only [Bi, hx, oS]
   generalize hg : EZ p m = ns at hnl
   by_cases h0 : ns.length = 0
   ·have : ns = [] := List.eq_nil_of_length_eq_zero h0
    subst this
    simp [AT]
   ·rw [show ((ns.length : Int) == 0) = false from beq_eq_false_iff_ne.2 (by omega), As]
    obtain ⟨b0, b1⟩ := hb l[i] (List.getElem_mem h1)
    rw [AI (by omega), Rl b0 b1 hnl]
    have hj : l[i].toNat % ns.length < ns.length := Nat.mod_lt _ (by omega)
    generalize l[i].toNat % ns.length = j at hj
    have hy : ns[j]? = some ns[j] := by simp [hj]
    have hys : ns[j] ∈ EZ p m := by rw [hg]; exact lM hy
    simp only [Bi, hy, oS]
    obtain ⟨b, e⟩ := Ki N hN h20 hp hm hys
    rw [e]
    simp only [oS]
    rw [AI (by simp [D2]; omega), A2 (by omega)]
    have := JB N hN h20 hv l hl hb n (i + 1) (Ce p m ns[j]).1 (a ++ [ns[j]]) (by omega) (by omega) (by simp; omega) (Jj hp hm (I0 hys).2)
    rw [List.append_assoc] at this
    exact this
  ·rw [AD (by first | omega | (simp only; omega)), List.drop_eq_nil_of_le (by omega)]
   simp [IE, O8]
theorem ON (N : Nat) (hN : N ≤ 1000000) (h20 : 100 ≤ N) {p : Ag} (hv : Cg p = 0) {m : Ae} (hm : Cx p m) (l : List Int) (hl : l.length ≤ 50) (hb : ∀ c, c ∈ l → 0 ≤ c ∧ c ≤ 255) : DV N p m l false = some (IE p m l, O8 p m l) := by
 unfold DV
 have := JB N hN h20 hv l hl hb N 0 m [] (Nat.zero_le _) (by omega) (Nat.le_refl _) hm
 simpa using this
end Go.Lift
namespace Go.Lift
open List renaming getD_eq_getElem?_getD → lD
open Go
theorem Tp {a : Int} {v : Nat} (ha : 0 ≤ a ∧ a ≤ 255) (hv : v < 8) (hb : DA a v = true) : Ls .u8 a (B3 .u8 1 (v : Int)) = a := by
 have k : ∀ a : Fin 256, ∀ v : Fin 8, DA (a.val : Int) v.val = true → Ls .u8 (a.val : Int) (B3 .u8 1 (v.val : Int)) = (a.val : Int) := by decide +kernel
 have := k ⟨a.toNat, by omega⟩ ⟨v, hv⟩
 simp only at this
 rw [show ((a.toNat : Nat) : Int) = a by omega] at this
 exact this hb
def IJ (m : Ae) (T : Nat → Bool) : Ae := ⟨m.fBase, m.fNext.mapIdx fun q v => if T q = true then -1 else v, m.fHeld⟩
theorem NI (m : Ae) (T : Nat → Bool) {q : Nat} (hq : q < m.fNext.length) : (IJ m T).fNext.getD q 0 = if T q = true then -1 else m.fNext.getD q 0 := by
 have h1 : m.fNext[q]? = some m.fNext[q] := by simp [hq]
 rw [lD, lD]
 show ((m.fNext.mapIdx fun q v => if T q = true then -1 else v)[q]?).getD 0 = _
 rw [List.getElem?_mapIdx, h1]; rfl
theorem Sg (m : Ae) : IJ m (fun _ => false) = m := by
 unfold IJ
 have : (m.fNext.mapIdx fun q v => if (fun _ : Nat => false) q = true then (-1 : Int) else v) = m.fNext := by
  apply List.ext_getElem?
  intro q
  rw [List.getElem?_mapIdx]
  cases m.fNext[q]? <;> rfl
 rw [this]
theorem Oh {m : Ae} {T : Nat → Bool} (h : ∀ q, T q = true → 0 ≤ m.fNext.getD q 0) : Ia m (IJ m T) := by
 refine ⟨rfl, rfl, by simp [IJ], fun q hq => ?_⟩
 rw [NI m T hq]
 by_cases hT : T q = true
 ·rw [if_pos hT]; exact .inr ⟨h q hT, rfl⟩
 ·rw [if_neg hT]; exact .inl rfl
theorem QJ (m : Ae) (T : Nat → Bool) {s : Nat} {v : Int} (T' : Nat → Bool) (h1 : ∀ q, q ≠ s → T' q = T q) (h2 : ∀ (h : s < m.fNext.length), (if T' s = true then -1 else m.fNext[s]) = v) : (IJ m T).fNext.set s v = (IJ m T').fNext := by
 apply List.ext_getElem?
 intro q
 unfold IJ
 simp only
 by_cases hq : q = s
 ·subst hq
  by_cases hl : q < m.fNext.length
  ·rw [List.getElem?_set_self (by simpa using hl), List.getElem?_mapIdx, show m.fNext[q]? = some m.fNext[q] from by simp [hl]]
   rw [← h2 hl]; rfl
  ·rw [List.getElem?_eq_none (by simp; omega), List.getElem?_eq_none (by simp; omega)]
 ·rw [List.getElem?_set_ne (fun e => hq e.symm), List.getElem?_mapIdx, List.getElem?_mapIdx, h1 q hq]
theorem PF {p : Ag} (hp : B9 p) {m : Ae} (hm : Cx p m) (T : Nat → Bool) {s : Nat} (hs : s < p.fVersions.length) (h0 : 0 ≤ m.fNext.getD s 0) (hT : T s = false) :
  Ce p (IJ m T) ⟨4, (s : Int), 0⟩ = (IJ m (fun q => T q || decide (q = s)), 0) := by
 have hnl := hm.next
 unfold Ce
 rw [if_neg (by simp [Fw]), if_neg (by simp [ED]; omega)]
 unfold E7
 simp only [Int.toNat_natCast]
 rw [if_neg (by decide), if_neg (by decide), if_neg (by rw [NI m T (by omega), hT, if_neg (by simp)]; omega), if_neg (by decide)]
 simp only
 rw [QJ m T (fun q => T q || decide (q = s)) (fun q hq => by simp [hq]) (fun _ => by simp)]
 rfl
theorem PN {p : Ag} (hp : B9 p) {m : Ae} (hm : Cx p m) (T : Nat → Bool) {s : Nat} (hs : s < p.fVersions.length) (h0 : 0 ≤ m.fNext.getD s 0) (hT : T s = true) :
  Ce p (IJ m T) ⟨1, (s : Int), m.fNext.getD s 0⟩ = (IJ m (fun q => T q && !decide (q = s)), 0) := by
 have hnl := hm.next
 have hn := hm.n0 s hs
 have hv := Hj hp hs
 have hne := hm.ne s hs
 have hcs := NI m T (q := s) (by omega)
 generalize hvd : m.fNext.getD s 0 = v at *
 have hup : F4 p ⟨1, (s : Int), v⟩ m.fHeld = m.fHeld := by
  obtain ⟨u1, u2⟩ := Nl (p := p) (s := ⟨1, (s : Int), v⟩) (held := m.fHeld) hm.held
  apply List.ext_getElem?
  intro q
  by_cases hq : q < p.fTables.length
  ·have ht : p.fTables[q]? = some p.fTables[q] := by simp [hq]
   have h1 := u2 q _ ht
   have h2 : (F4 p ⟨1, (s : Int), v⟩ m.fHeld).getD q 0 = m.fHeld.getD q 0 := by
    rw [h1]
    by_cases hc : Pq ⟨1, (s : Int), v⟩ p.fTables[q] = true
    ·rw [if_pos hc]
     unfold Pq at hc
     obtain ⟨c1, c2⟩ := Bool.and_eq_true_iff.1 hc
     have c3 : p.fTables[q].fFrom = (s : Int) := eq_of_beq c1
     have hlow := hm.low q _ ht c2 (v).toNat (by
      rw [Kw, c3, Int.toNat_natCast]; right; rw [hvd]; omega)
     have := Tp (hm.range q hq) (by omega) hlow
     rw [show (((v).toNat : Nat) : Int) = v by omega] at this
     exact this
    ·rw [if_neg hc]
   have g : ∀ l : List Int, l.getD q 0 = (l[q]?).getD 0 := fun l => lD ..
   rw [g, g] at h2
   have hl1 : q < (F4 p ⟨1, (s : Int), v⟩ m.fHeld).length := by omega
   have hl2 : q < m.fHeld.length := by have := hm.held; omega
   rw [List.getElem?_eq_getElem hl1, List.getElem?_eq_getElem hl2] at h2 ⊢
   simpa using h2
  ·rw [List.getElem?_eq_none (by omega), List.getElem?_eq_none (by have := hm.held; omega)]
 unfold Ce
 have hX : ED p ⟨1, (s : Int), v⟩ = true := by
  unfold ED
  rw [if_neg (by simp)]
  simp only [Int.toNat_natCast]
  rw [decide_eq_true (by omega), decide_eq_true hn.2]; rfl
 rw [if_neg (by simp [Fw]; omega), if_neg (by rw [hX]; simp)]
 unfold E7
 simp only [Int.toNat_natCast]
 rw [if_pos trivial, hcs, if_pos hT]
 have hb : (IJ m T).fBase.getD s 0 = m.fBase.getD s 0 := rfl
 rw [hb, if_neg (by omega)]
 simp only
 have hh : (IJ m T).fHeld = m.fHeld := rfl
 rw [hh, hup]
 rw [QJ m T (fun q => T q && !decide (q = s)) (fun q hq => by simp [hq]) (fun hl => by
  rw [lD, List.getElem?_eq_getElem hl] at hvd; simpa using hvd)]
 rfl
def H2 (Q : Ae → Prop) (p : Ag) : Ae → List Aj → Ae → Prop
 | x, [], y => Q x ∧ x = y
 | x, s :: ss, y => Q x ∧ (Ce p x s).2 = 0 ∧ H2 Q p (Ce p x s).1 ss y
theorem KH {Q : Ae → Prop} {p : Ag} : ∀ {a : List Aj} {x y z : Ae} {b : List Aj}, H2 Q p x a y → H2 Q p y b z → H2 Q p x (a ++ b) z
 | [], x, y, z, b, h1, h2 => by obtain ⟨_, rfl⟩ := h1; exact h2
 | s :: a, x, y, z, b, h1, h2 => ⟨h1.1, h1.2.1, KH h1.2.2 h2⟩
theorem JQ {Q R : Ae → Prop} {p : Ag} (h : ∀ x, Q x → R x) : ∀ {a : List Aj} {x y : Ae}, H2 Q p x a y → H2 R p x a y
 | [], x, y, h1 => ⟨h _ h1.1, h1.2⟩
 | s :: a, x, y, h1 => ⟨h _ h1.1, h1.2.1, JQ h h1.2.2⟩
theorem KF {Q : Ae → Prop} {p : Ag} : ∀ {ss : List Aj} {x y : Ae}, H2 Q p x ss y → ∀ (n i : Nat) (acc : List Ae), n ≤ ss.length → acc.length = i + 1 → acc[i]? = some x →
  ∃ z : Ae, (Gq p i x acc (ss.take n)).2 = (((i + n : Nat) : Int), 0) ∧ (Gq p i x acc (ss.take n)).1[i + n]? = some z ∧ Q z ∧ (n = ss.length → z = y)
 | [], x, y, h, n, i, acc, hn, ha, hg => by
  have : n = 0 := by simpa using hn
  subst this
  exact ⟨x, rfl, hg, h.1, fun _ => h.2⟩
 | s :: ss, x, y, h, 0, i, acc, hn, ha, hg => ⟨x, rfl, hg, h.1, fun e => by simp at e⟩
 | s :: ss, x, y, h, n + 1, i, acc, hn, ha, hg => by
  rw [List.take_succ_cons, Gq, if_neg (by simp [h.2.1])]
  obtain ⟨z, z1, z2, z3, z4⟩ := KF h.2.2 n (i + 1) (acc ++ [(Ce p x s).1]) (by simpa using hn) (by simp [ha]) (by rw [← ha]; simp)
  rw [show i + 1 + n = i + (n + 1) by omega] at z1 z2
  exact ⟨z, z1, z2, z3, fun e => z4 (by simpa using e)⟩
def SK (s : Nat) : Aj := ⟨4, (s : Int), 0⟩
def SQ (m : Ae) (s : Nat) : Aj := ⟨1, (s : Int), m.fNext.getD s 0⟩
theorem Lf {p : Ag} (hp : B9 p) {m : Ae} (hm : Cx p m) : ∀ (S : List Nat) (T : Nat → Bool), S.Nodup → (∀ s, s ∈ S → s < p.fVersions.length ∧ 0 ≤ m.fNext.getD s 0 ∧ T s = false) → (∀ q, T q = true → 0 ≤ m.fNext.getD q 0) →
  H2 (Ia m) p (IJ m T) (S.map SK) (IJ m fun q => T q || S.contains q) ∧ ∀ q, (T q || S.contains q) = true → 0 ≤ m.fNext.getD q 0
 | [], T, _, _, hT => by
  have e : (fun q => T q || ([] : List Nat).contains q) = T := by funext q; simp
  exact ⟨⟨Oh hT, by rw [e]⟩, fun q h => hT q (by simpa using h)⟩
 | s :: S, T, hn, hS, hT => by
  obtain ⟨n1, n2⟩ := List.nodup_cons.1 hn
  obtain ⟨h1, h2, h3⟩ := hS s (by simp)
  have st := PF hp hm T h1 h2 h3
  have hT' : ∀ q, (T q || decide (q = s)) = true → 0 ≤ m.fNext.getD q 0 := fun q h => by
   rcases Bool.or_eq_true_iff.1 h with h | h
   ·exact hT q h
   ·rw [of_decide_eq_true h]; exact h2
  obtain ⟨r1, r2⟩ := Lf hp hm S (fun q => T q || decide (q = s)) n2 (fun q hq => by
   obtain ⟨a, b, c⟩ := hS q (by simp [hq])
   refine ⟨a, b, ?_⟩
   rw [c, Bool.false_or, decide_eq_false (fun e => n1 (by rw [← e]; exact hq))]) hT'
  have e : (fun q => (T q || decide (q = s)) || S.contains q) = fun q => T q || (s :: S).contains q := by
   funext q
   rw [Bool.or_assoc, List.contains_cons]
   congr 2
  rw [e] at r1
  refine ⟨⟨Oh hT, by rw [SK, st], by rw [SK, st]; exact r1⟩, fun q h => r2 q ?_⟩
  exact (congrFun e q).trans h
theorem K2 {p : Ag} (hp : B9 p) {m : Ae} (hm : Cx p m) : ∀ (S : List Nat) (T : Nat → Bool), S.Nodup → (∀ s, s ∈ S → s < p.fVersions.length ∧ 0 ≤ m.fNext.getD s 0 ∧ T s = true) → (∀ q, T q = true → 0 ≤ m.fNext.getD q 0) →
  H2 (Ia m) p (IJ m T) (S.map (SQ m)) (IJ m fun q => T q && !S.contains q)
 | [], T, _, _, hT => by
  have e : (fun q => T q && !([] : List Nat).contains q) = T := by funext q; simp
  exact ⟨Oh hT, by rw [e]⟩
 | s :: S, T, hn, hS, hT => by
  obtain ⟨n1, n2⟩ := List.nodup_cons.1 hn
  obtain ⟨h1, h2, h3⟩ := hS s (by simp)
  have st := PN hp hm T h1 h2 h3
  have r1 := K2 hp hm S (fun q => T q && !decide (q = s)) n2 (fun q hq => by
   obtain ⟨a, b, c⟩ := hS q (by simp [hq])
   refine ⟨a, b, ?_⟩
   rw [c, Bool.true_and, decide_eq_false (fun e => n1 (by rw [← e]; exact hq))]; rfl) (fun q h => hT q (Bool.and_eq_true_iff.1 h).1)
  have e : (fun q => (T q && !decide (q = s)) && !S.contains q) = fun q => T q && !(s :: S).contains q := by
   funext q
   rw [Bool.and_assoc, List.contains_cons, Bool.not_or]
   congr 2
  rw [e] at r1
  exact ⟨Oh hT, by rw [SQ, st], by rw [SQ, st]; exact r1⟩
theorem Pu {p : Ag} (hp : B9 p) {m : Ae} (hm : Cx p m) (S : List Nat) (hn : S.Nodup) (hS : ∀ s, s ∈ S → s < p.fVersions.length ∧ 0 ≤ m.fNext.getD s 0) : H2 (Ia m) p m (S.map SK ++ S.map (SQ m)) m := by
 obtain ⟨h1, h2⟩ := Lf hp hm S (fun _ => false) hn (fun s hs => ⟨(hS s hs).1, (hS s hs).2, rfl⟩) (fun q h => by cases h)
 have h3 := K2 hp hm S (fun q => false || S.contains q) hn (fun s hs => ⟨(hS s hs).1, (hS s hs).2, by simpa using hs⟩) h2
 have e : (fun q => (false || S.contains q) && !S.contains q) = fun _ => false := by funext q; cases S.contains q <;> rfl
 rw [e] at h3
 have := KH h1 h3
 rw [Sg] at this
 exact this
end Go.Lift
namespace Go.Lift
open IntKind renaming wrap → wI
open Option renaming bind_some → oS
open List renaming mem_of_getElem? → lM
open Go
def IM (p2 : List Int) (i : Nat) (m : Ae) (s : Nat) : Bool := decide (0 ≤ m.fNext.getD s 0) && (match p2[i]? with | some v => EC .u8 (Dx .u8 v (s : Int)) 1 == 1 | none => false)
theorem LE (N : Nat) (p2 : List Int) (m : Ae) (pl : List Aj) (i : Nat) (hm : m.fNext.length ≤ 6) (J : List Aj × List Aj → Option Bool) : ∀ (k n s : Nat) (a g : List Aj), k < n → s + k = m.fNext.length → a.length + k ≤ 10000 → g.length + k ≤ 10000 →
  A3 N p2 (m, pl, (i : Int)) J n (a, g, (s : Int)) = J (a ++ ((List.range' s k).filter (IM p2 i m)).map SK, g ++ ((List.range' s k).filter (IM p2 i m)).map (SQ m))
 | k, 0, s, a, g, h, _, _, _ => by omega
 | 0, n + 1, s, a, g, h, hs, _, _ => by
  rw [A3, AD (by first | omega | (simp only; omega))]
  simp
 | k + 1, n + 1, s, a, g, h, hs, ha, hg => by
  rw [A3, AF (by first | omega | (simp only; omega))]
  simp only [Bj]
  rw [Di (d := 0) (by omega)]
  simp only [oS]
  have hno : IM p2 i m s = false → A3 N p2 (m, pl, (i : Int)) J n (a, g, wI .i64 ((s : Int) + 1)) = J (a ++ ((List.range' s (k + 1)).filter (IM p2 i m)).map SK, g ++ ((List.range' s (k + 1)).filter (IM p2 i m)).map (SQ m)) := fun hf => by
   rw [A2 (by omega), LE N p2 m pl i hm J k n (s + 1) a g (by omega) (by omega) (by omega) (by omega), List.range'_succ, List.filter_cons, hf]; rfl
  have hyes : IM p2 i m s = true → A3 N p2 (m, pl, (i : Int)) J n (a ++ [SK s], g ++ [SQ m s], wI .i64 ((s : Int) + 1)) = J (a ++ ((List.range' s (k + 1)).filter (IM p2 i m)).map SK, g ++ ((List.range' s (k + 1)).filter (IM p2 i m)).map (SQ m)) := fun hf => by
   rw [A2 (by omega), LE N p2 m pl i hm J k n (s + 1) _ _ (by omega) (by omega) (by simp; omega) (by simp; omega), List.range'_succ, List.filter_cons, hf]; simp
  by_cases h0 : 0 ≤ m.fNext.getD s 0
  ·rw [AF h0]
   by_cases h1 : i < p2.length
   ·have hx : p2[i]? = some p2[i] := by simp [h1]
    rw [AF (by omega)]
    simp only [Bi, hx, oS]
    rw [AI (by omega)]
    have hsel : IM p2 i m s = (EC .u8 (Dx .u8 p2[i] (s : Int)) 1 == 1) := by unfold IM; rw [hx, decide_eq_true h0]; rfl
    cases hb : (EC .u8 (Dx .u8 p2[i] (s : Int)) 1 == 1)
    ·rw [As]; exact hno (hsel.trans hb)
    ·rw [AK, AI (by simp [D2]; omega), AI (by simp [D2]; omega)]; exact hyes (hsel.trans hb)
   ·rw [AD (by omega), As]
    exact hno (by unfold IM; rw [List.getElem?_eq_none (by omega)]; simp)
  ·rw [AD h0, As]
   exact hno (by unfold IM; rw [decide_eq_false h0]; rfl)
def WB (p : Ag) : Ae → List Aj → Ae → Prop
 | m, [], y => m = y
 | m, s :: ss, y => s ∈ EZ p m ∧ WB p (Ce p m s).1 ss y
def Kr (p : Ag) : Ae → List Aj → List Ae
 | m, [] => [m]
 | m, s :: ss => m :: Kr p (Ce p m s).1 ss
theorem MW {p : Ag} : ∀ (cs : List Int) (m : Ae), WB p m (IE p m cs) (O8 p m cs)
 | [], _ => rfl
 | c :: cs, m => by
  rw [IE, O8]
  split
  ·rfl
  ·rename_i s hs
   exact ⟨lM hs, MW cs _⟩
theorem NC {p : Ag} : ∀ (ss : List Aj) (m y : Ae) (i : Nat) (acc : List Ae), WB p m ss y → (Gq p i m (acc ++ [m]) ss).1 = acc ++ Kr p m ss
 | [], m, y, i, acc, h => rfl
 | s :: ss, m, y, i, acc, h => by
  rw [Gq, if_neg (by simp [(I0 h.1).2]), Kr]
  have := NC ss (Ce p m s).1 y (i + 1) (acc ++ [m]) h.2
  rw [this]; simp
end Go.Lift
