/- Lemmas for WavesBadCardSaid, which YtncnphcfgojgmaaGreatDoorFinV4 proves. -/
import Derived.Test.YtncnphcfgojgmaaGreatDoorDec
import Derived.KernelRfl
import Derived.Lib.ItoaLen
namespace Go.Lift
open IntKind renaming wrap → wI
open Option renaming bind_some → oS
open List renaming getElem?_eq_some_iff → lI
theorem AZ {α : Type} (xs : List α) (i : Nat) : BD xs (i : Int) = xs[i]? := by
 unfold BD; simp
theorem DI {n : Int} (h0 : -9223372036854775808 ≤ n) (h1 : n ≤ 9223372036854775807) : wI .i64 n = n := by
 simp [wI, IntKind.signed, IntKind.bits]; omega
theorem AJ {i : Nat} (h : i < 1000000) : wI .i64 ((i : Int) + 1) = ((i + 1 : Nat) : Int) := by
 rw [DI (by omega) (by omega)]; simp
@[simp] theorem AD {α : Type} {a b : Option α} : AL true a b = a := rfl
@[simp] theorem Ao {α : Type} {a b : Option α} : AL false a b = b := rfl
theorem AE {α : Type} {p : Prop} [Decidable p] {a b : Option α} (h : p) : AL (decide p) a b = a := by simp [h]
theorem AC {α : Type} {p : Prop} [Decidable p] {a b : Option α} (h : ¬ p) : AL (decide p) a b = b := by simp [h]
def Vu (a b : Int) : Int := if a < b then -1 else if b < a then 1 else 0
def Ff : List Int → List Int → Int
 | [], [] => 0
 | [], _ :: _ => -1
 | _ :: _, [] => 1
 | a :: as1, b :: bs => if a < b then -1 else if b < a then 1 else Ff as1 bs
theorem S4 (N : Nat) (a b : Int) : Ea N a b = some (Vu a b) := by
 unfold Ea EE Vu
 by_cases h1 : a < b <;> by_cases h2 : b < a <;> simp [h1, h2]
theorem Tu (N : Nat) (a b : Int) : Df N a b = some (Vu a b) := by
 unfold Df DN Vu
 by_cases h1 : a < b <;> by_cases h2 : b < a <;> simp [h1, h2]
theorem CQ {α : Type} {xs : List α} {i : Nat} {x : α} (h : xs[i]? = some x) : xs.drop i = x :: xs.drop (i + 1) := by
 obtain ⟨hi, rfl⟩ := lI.1 h
 exact List.drop_eq_getElem_cons hi
theorem Pw (N : Nat) (a b : List Int) (hb : a.length < 1000000) : ∀ (n i : Nat), i ≤ a.length → i ≤ b.length → a.length - i < n →
  BN N a b (fun _ => AL (decide ((a.length : Int) < (b.length : Int))) (some (-1)) (some 0)) n (i : Int) = some (Ff (a.drop i) (b.drop i))
 | 0, i, _, _, h => by omega
 | n + 1, i, hi, hj, h => by
  unfold BN
  by_cases h1 : i < a.length
  ·rw [AE (by omega), AZ]
   have ha : a[i]? = some a[i] := by simp [h1]
   rw [ha, CQ ha]
   simp only [oS]
   by_cases h2 : i < b.length
   ·rw [AC (by omega), AZ]
    have hbb : b[i]? = some b[i] := by simp [h2]
    rw [hbb, CQ hbb]
    simp only [oS, S4, Ff, Vu]
    rw [AJ (by omega), Pw N a b hb n (i + 1) (by omega) (by omega) (by omega)]
    by_cases h3 : a[i] < b[i]
    ·simp [h3]
    ·by_cases h4 : b[i] < a[i]
     ·simp [h3, h4]
     ·simp [h3, h4]
   ·rw [AE (by omega), List.drop_eq_nil_of_le (by omega : b.length ≤ i)]
    simp [Ff]
  ·rw [AC (by omega), List.drop_eq_nil_of_le (by omega : a.length ≤ i)]
   by_cases h2 : a.length < b.length
   ·rw [AE (by omega)]
    have hbb : b[i]? = some b[i] := by simp [show i < b.length from by omega]
    rw [CQ hbb]; simp [Ff]
   ·rw [AC (by omega), List.drop_eq_nil_of_le (by omega : b.length ≤ i)]
    simp [Ff]
theorem Nl (N : Nat) (a b : List Int) (hb : a.length < 1000000) : ∀ (n i : Nat), i ≤ a.length → i ≤ b.length → a.length - i < n →
  Bc N a b (fun _ => AL (decide ((a.length : Int) < (b.length : Int))) (some (-1)) (some 0)) n (i : Int) = some (Ff (a.drop i) (b.drop i))
 | 0, i, _, _, h => by omega
 | n + 1, i, hi, hj, h => by
  unfold Bc
  by_cases h1 : i < a.length
  ·rw [AE (by omega), AZ]
   have ha : a[i]? = some a[i] := by simp [h1]
   rw [ha, CQ ha]
   simp only [oS]
   by_cases h2 : i < b.length
   ·rw [AC (by omega), AZ]
    have hbb : b[i]? = some b[i] := by simp [h2]
    rw [hbb, CQ hbb]
    simp only [oS, Tu, Ff, Vu]
    rw [AJ (by omega), Nl N a b hb n (i + 1) (by omega) (by omega) (by omega)]
    by_cases h3 : a[i] < b[i]
    ·simp [h3]
    ·by_cases h4 : b[i] < a[i]
     ·simp [h3, h4]
     ·simp [h3, h4]
   ·rw [AE (by omega), List.drop_eq_nil_of_le (by omega : b.length ≤ i)]
    simp [Ff]
  ·rw [AC (by omega), List.drop_eq_nil_of_le (by omega : a.length ≤ i)]
   by_cases h2 : a.length < b.length
   ·rw [AE (by omega)]
    have hbb : b[i]? = some b[i] := by simp [show i < b.length from by omega]
    rw [CQ hbb]; simp [Ff]
   ·rw [AC (by omega), List.drop_eq_nil_of_le (by omega : b.length ≤ i)]
    simp [Ff]
theorem Qs (N : Nat) (a b : List Int) (hb : a.length < 1000000) : ∀ (n i : Nat), i ≤ a.length → i ≤ b.length → a.length - i < n →
  CD N a b (fun _ => AL (decide ((a.length : Int) < (b.length : Int))) (some (-1)) (AL (decide ((b.length : Int) < (a.length : Int))) (some 1) (some 0))) n (i : Int) = some (Ff (a.drop i) (b.drop i))
 | 0, i, _, _, h => by omega
 | n + 1, i, hi, hj, h => by
  unfold CD
  simp only [Ba]
  by_cases h1 : i < a.length
  ·rw [AE (p := (i : Int) < (a.length : Int)) (by omega)]
   have ha : a[i]? = some a[i] := by simp [h1]
   rw [CQ ha]
   by_cases h2 : i < b.length
   ·have hbb : b[i]? = some b[i] := by simp [h2]
    rw [show decide ((i : Int) < (b.length : Int)) = true from decide_eq_true (by omega), AD, AZ, AZ, ha, hbb, CQ hbb]
    simp only [oS, Ff]
    rw [AJ (by omega), Qs N a b hb n (i + 1) (by omega) (by omega) (by omega)]
    by_cases h3 : a[i] < b[i]
    ·simp [h3]
    ·by_cases h4 : b[i] < a[i]
     ·simp [h3, h4]
     ·simp [h3, h4]
   ·rw [show decide ((i : Int) < (b.length : Int)) = false from decide_eq_false (by omega), Ao, AC (by omega), AE (by omega), List.drop_eq_nil_of_le (by omega : b.length ≤ i)]
    simp [Ff]
  ·rw [AC (p := (i : Int) < (a.length : Int)) (by omega), Ao, List.drop_eq_nil_of_le (by omega : a.length ≤ i)]
   by_cases h2 : a.length < b.length
   ·rw [AE (by omega)]
    have hbb : b[i]? = some b[i] := by simp [show i < b.length from by omega]
    rw [CQ hbb]; simp [Ff]
   ·rw [AC (by omega), AC (by omega), List.drop_eq_nil_of_le (by omega : b.length ≤ i)]
    simp [Ff]
theorem MK {N : Nat} {a b : List Int} (h : a.length < N) (hN : N ≤ 1000000) : B9 N a b = some (Ff a b) := by
 have := Pw N a b (by omega) N 0 (by omega) (by omega) (by omega)
 simpa [B9] using this
theorem Ph {N : Nat} {a b : List Int} (h : a.length < N) (hN : N ≤ 1000000) : BK N a b = some (Ff a b) := by
 have := Nl N a b (by omega) N 0 (by omega) (by omega) (by omega)
 simpa [BK] using this
theorem Mu {N : Nat} {a b : List Int} (h : a.length < N) (hN : N ≤ 1000000) : CM N a b = some (Ff a b) := by
 have := Qs N a b (by omega) N 0 (by omega) (by omega) (by omega)
 simpa [CM] using this
theorem NC : ∀ a : List Int, Ff a a = 0
 | [] => rfl
 | a :: as1 => by simp [Ff, NC as1]
theorem LQ : ∀ a b : List Int, Ff a b = 0 → a = b
 | [], [], _ => rfl
 | [], _ :: _, h => by simp [Ff] at h
 | _ :: _, [], h => by simp [Ff] at h
 | a :: as1, b :: bs, h => by
  unfold Ff at h
  split at h
  ·omega
  ·split at h
   ·omega
   ·rw [LQ as1 bs h, show a = b from by omega]
def Se : List Int → Int
 | [] => 0
 | x :: xs => if x = 0 then Se xs else x
theorem XN (N : Nat) (a : List Int) (hb : a.length < 1000000) : ∀ (n i : Nat), i ≤ a.length → a.length - i < n →
  D9 N a (fun _ => some 0) n (i : Int) = some (Se (a.drop i))
 | 0, i, _, h => by omega
 | n + 1, i, hi, h => by
  unfold D9
  by_cases h1 : i < a.length
  ·have ha : a[i]? = some a[i] := by simp [h1]
   rw [AE (by omega), AZ, ha, CQ ha]
   simp only [oS, Se]
   rw [AJ (by omega), XN N a hb n (i + 1) (by omega) (by omega)]
   by_cases h3 : a[i] = 0
   ·simp [h3]
   ·have : (a[i] != 0) = true := by simpa using h3
    simp [h3, this]
  ·rw [AC (by omega), List.drop_eq_nil_of_le (by omega : a.length ≤ i)]
   simp [Se]
theorem US {N : Nat} {a : List Int} (h : a.length < N) (hN : N ≤ 1000000) : FU N a = some (Se a) := by
 have := XN N a (by omega) N 0 (by omega) (by omega)
 simpa [FU] using this
theorem WC (N : Nat) (a : List Int) (hb : a.length < 1000000) (hw : Jf IB a) : ∀ (n i : Nat), i ≤ a.length → a.length - i < n →
  B7 N a (fun v => some v) n (a.take i, (i : Int)) = some a
 | 0, i, _, h => by omega
 | n + 1, i, hi, h => by
  unfold B7
  by_cases h1 : i < a.length
  ·have ha : a[i]? = some a[i] := by simp [h1]
   rw [AE (by simpa using h1)]
   simp only
   rw [AZ, ha]
   have hr : wI .i64 a[i] = a[i] := by
    have := hw a[i] (List.getElem_mem h1)
    unfold IB at this
    have h2 : 0 ≤ a[i] ∧ a[i] ≤ 255 := by simpa [Lit.wf, IntKind.min, IntKind.max, IntKind.signed, IntKind.bits] using this
    exact DI (by omega) (by omega)
   simp only [oS, hr]
   have hlen : (a.take i).length + ([a[i]] : List Int).length ≤ Do := by
    simp [Do]; omega
   rw [show Dj ((a.take i).length + ([a[i]] : List Int).length ≤ Do) = some () from by unfold Dj; rw [if_pos hlen]]
   simp only [oS]
   rw [AJ (by omega), show a.take i ++ [a[i]] = a.take (i + 1) from by rw [List.take_add_one, ha]; rfl]
   exact WC N a hb hw n (i + 1) (by omega) (by omega)
  ·rw [AC (by simpa using h1)]
   simp only
   rw [List.take_of_length_le (by omega)]
theorem LA {N : Nat} {a : List Int} (h : a.length < N) (hN : N ≤ 1000000) (hw : Jf IB a) : CB N a = some a := by
 have := WC N a (by omega) hw N 0 (by omega) (by omega)
 simpa [CB] using this
def XT (a : Ac) : Prop := a.fd.length ≤ 8 ∧ a.fa.length ≤ 8 ∧ a.fc.length ≤ 14
def Ov (a b : Ac) : Int := Se [Ff a.fd b.fd, Ff a.fa b.fa, Ff a.fc b.fc]
theorem NL (a : Ac) : Ov a a = 0 := by unfold Ov; simp [NC, Se]
def C9 {α R : Type} (f : Nat → α → Option R) : Nat → List α → Option R
 | _, [] => none
 | i, x :: xs => match f i x with
  | some r => some r
  | none => C9 f (i + 1) xs
theorem Gj {α R : Type} (f : Nat → α → Option R) (i : Nat) (x : α) (xs : List α) : C9 f i (x :: xs) = match f i x with
  | some r => some r
  | none => C9 f (i + 1) xs := rfl
def Bw {R : Type} (a : Option R) (b : Option R) : Option R := match a with
 | some r => some r
 | none => b
theorem Cr {α R : Type} (L : Nat → Int → Option R) (xs : List α) (j : Option R) (f : Nat → α → Option R)
  (hs : ∀ (n i : Nat) (x : α), xs[i]? = some x → L (n + 1) (i : Int) = Bw (f i x) (L n ((i + 1 : Nat) : Int))) (he : ∀ n : Nat, L (n + 1) (xs.length : Int) = j) :
  ∀ n i : Nat, i ≤ xs.length → xs.length - i < n → L n (i : Int) = Bw (C9 f i (xs.drop i)) j
 | 0, i, _, h => by omega
 | n + 1, i, hi, h => by
  by_cases h1 : i < xs.length
  ·have hx : xs[i]? = some xs[i] := by simp [h1]
   rw [hs n i _ hx, CQ hx, Cr L xs j f hs he n (i + 1) (by omega) (by omega)]
   rw [Gj]
   cases f i xs[i] <;> rfl
  ·have : i = xs.length := by omega
   subst this
   rw [he n, List.drop_eq_nil_of_le (Nat.le_refl _)]
   rfl
theorem NR (N : Nat) (k n : Int) : Dp N k n = some (decide (0 ≤ k) && decide (k < n)) := by
 unfold Dp
 simp only [Ba]
 by_cases h : 0 ≤ k
 ·rw [AE h]; simp [h]
 ·rw [AC h]; simp [h]
theorem K9 (N : Nat) (t : Av) : AR N t = some (t.ff == 3 || t.ff == 4) := by
 unfold AR
 simp only [Ba]
 cases h : t.ff == 3 <;> simp
def sq (l : List (List Bool)) (n m : Int) : Bool := decide ((l.length : Int) = n) && l.all fun r => decide ((r.length : Int) = m)
theorem LY {α : Type} (p : α → Bool) {R : Type} (r : Nat → R) : ∀ (i : Nat) (xs : List α), (C9 (fun i x => if p x then none else some (r i)) i xs).isNone = xs.all p
 | i, [] => rfl
 | i, x :: xs => by
  unfold C9
  cases h : p x <;> simp [h, LY p r (i + 1) xs]
theorem NG (N : Nat) (l : List (List Bool)) (n m : Int) (h : n < (N : Int)) (hN : N ≤ 1000000) : CS N l n m = some (sq l n m) := by
 unfold CS sq
 by_cases h1 : (l.length : Int) = n
 ·subst h1
  simp only [bne_self_eq_false, Ao, decide_true, Bool.true_and]
  have := Cr (BV N l (l.length : Int) m (fun _ => some true)) l (some true) (fun _ r => if decide ((r.length : Int) = m) then none else some false)
   (fun n i x hx => by
    have hi := (lI.1 hx).1
    rw [BV, AE (by omega), AZ, hx]
    simp only [oS]
    rw [AJ (by omega)]
    by_cases h2 : (x.length : Int) = m
    ·simp [h2, Bw]
    ·have : ((x.length : Int) != m) = true := by simpa using h2
     simp [h2, this, Bw])
   (fun n => by rw [BV, AC (by omega)]) N 0 (by omega) (by omega)
  simp only [Int.ofNat_zero, List.drop_zero] at this
  rw [this]
  have h3 := LY (fun r : List Bool => decide ((r.length : Int) = m)) (fun _ => false) 0 l
  cases hsc : C9 (fun (_ : Nat) (r : List Bool) => if decide ((r.length : Int) = m) = true then none else some false) 0 l with
  | none => rw [hsc] at h3; rw [← h3]; rfl
  | some b =>
   rw [hsc] at h3
   rw [← h3]
   have : ∀ (i : Nat) (xs : List (List Bool)) b, C9 (fun (_ : Nat) (r : List Bool) => if decide ((r.length : Int) = m) = true then none else some false) i xs = some b → b = false := by
    intro i xs
    induction xs generalizing i with
    | nil => intro b hb; cases hb
    | cons x xs ih =>
     intro b hb
     unfold C9 at hb
     split at hb
     ·rename_i r hr; cases hb; split at hr <;> simp at hr; exact hr
     ·exact ih _ b hb
   rw [this 0 l b hsc]; rfl
 ·have : ((l.length : Int) != n) = true := by simpa using h1
  simp [this, h1]
theorem Nn (N : Nat) (l : List (List Bool)) (n m : Int) (h : n < (N : Int)) (hN : N ≤ 1000000) : Ef N l n m = some (sq l n m) := by
 unfold Ef sq
 simp only [Ba]
 by_cases h1 : (l.length : Int) = n
 ·subst h1
  simp only [beq_self_eq_true, AD, decide_true, Bool.true_and]
  have := Cr (Bb N l (fun x => Db N x m) (fun _ => some (-1))) l (some (-1)) (fun i r => if decide ((r.length : Int) = m) then none else some (i : Int))
   (fun n i x hx => by
    have hi := (lI.1 hx).1
    rw [Bb, AE (by omega), AZ, hx]
    simp only [oS, Db]
    rw [AJ (by omega)]
    by_cases h2 : (x.length : Int) = m
    ·simp [h2, Bw]
    ·have : ((x.length : Int) != m) = true := by simpa using h2
     simp [h2, this, Bw])
   (fun n => by rw [Bb, AC (by omega)]) N 0 (by omega) (by omega)
  simp only [Int.ofNat_zero, List.drop_zero] at this
  unfold Ck CO
  rw [this]
  have h3 := LY (fun r : List Bool => decide ((r.length : Int) = m)) (fun i : Nat => (i : Int)) 0 l
  cases hsc : C9 (fun (i : Nat) (r : List Bool) => if decide ((r.length : Int) = m) = true then none else some (i : Int)) 0 l with
  | none => rw [hsc] at h3; rw [← h3]; rfl
  | some b =>
   rw [hsc] at h3
   rw [← h3]
   have : ∀ (i : Nat) (xs : List (List Bool)) b, C9 (fun (i : Nat) (r : List Bool) => if decide ((r.length : Int) = m) = true then none else some (i : Int)) i xs = some b → 0 ≤ b := by
    intro i xs
    induction xs generalizing i with
    | nil => intro b hb; cases hb
    | cons x xs ih =>
     intro b hb
     rw [Gj] at hb
     split at hb
     ·rename_i r hr
      cases hb
      split at hr
      ·cases hr
      ·cases hr; omega
     ·exact ih _ b hb
   have := this 0 l b hsc
   simp [Bw, this]
 ·have : ((l.length : Int) == n) = false := by simpa using h1
  simp [this, h1]
open List renaming mem_of_getElem? → lM
open List renaming getD_eq_getElem?_getD → lD
def HG (l : List (List Bool)) : Option Int := C9 (fun i row => if row.getD i false then none else some 1) 0 l
theorem Py {row : List Bool} {i : Nat} (h : i < row.length) : BD row (i : Int) = some (row.getD i false) := by
 rw [AZ, lD]; simp [h]
theorem T6 (N : Nat) (t : Av) (h : t.fk.length < N) (hN : N ≤ 1000000) (hsq : ∀ row, row ∈ t.fk → row.length = t.fk.length) (j : Option Int) :
  BB N t (fun _ => j) N 0 = Bw (HG t.fk) j := by
 have := Cr (BB N t (fun _ => j)) t.fk j (fun i row => if row.getD i false then none else some 1)
  (fun n i x hx => by
   have hi := (lI.1 hx).1
   have hl := hsq x (lM hx)
   rw [BB, AE (by omega), AZ, hx]
   simp only [oS]
   rw [Py (by omega), AJ (by omega)]
   simp only [oS]
   cases x.getD i false <;> rfl)
  (fun n => by rw [BB, AC (by omega)]) N 0 (by omega) (by omega)
 simpa [HG] using this
theorem NJ (N : Nat) (t : Av) (h : t.fk.length < N) (hN : N ≤ 1000000) (hsq : ∀ row, row ∈ t.fk → row.length = t.fk.length) (j : Option Int) :
  Cx N t (fun _ => j) N 0 = Bw (HG t.fk) j := by
 have := Cr (Cx N t (fun _ => j)) t.fk j (fun i row => if row.getD i false then none else some 1)
  (fun n i x hx => by
   have hi := (lI.1 hx).1
   have hl := hsq x (lM hx)
   rw [Cx, AE (by omega), AZ, hx]
   simp only [oS]
   rw [Py (by omega), AJ (by omega)]
   simp only [oS]
   cases x.getD i false <;> rfl)
  (fun n => by rw [Cx, AC (by omega)]) N 0 (by omega) (by omega)
 simpa [HG] using this
theorem LU {l : List (List Bool)} {n m : Int} (h : sq l n m = true) : (l.length : Int) = n ∧ ∀ row, row ∈ l → (row.length : Int) = m := by
 unfold sq at h
 simp only [Bool.and_eq_true, decide_eq_true_eq, List.all_eq_true] at h
 exact h
def Dw (p : Ab) (t : Av) : Int :=
 if t.ff < 1 ∨ 4 < t.ff ∨ (t.fp = true ∧ (t.ff = 3 ∨ t.ff = 4)) then 1
 else if t.fg < 0 ∨ (p.fb.length : Int) ≤ t.fg ∨ t.fj < 0 ∨ (p.fb.length : Int) ≤ t.fj then 4
 else
  let f := p.fb.getD t.fg.toNat 0
  let g := p.fb.getD t.fj.toNat 0
  if sq t.fq f g = false then 6
  else if t.ff = 4 then (if sq t.fk f f = false then 6 else (HG t.fk).getD 0)
  else if t.fk.length = 0 then 0 else 6
theorem D2 {α : Type} {xs : List α} {i : Int} {d : α} (h0 : 0 ≤ i) (h1 : i < (xs.length : Int)) : BD xs i = some (xs.getD i.toNat d) := by
 obtain ⟨k, rfl⟩ := Int.eq_ofNat_of_zero_le h0
 rw [AZ, lD, Int.toNat_natCast]
 simp [show k < xs.length from by omega]
theorem RX {t : Av} (A B : Option Int) (hk : ¬ (t.fp = true ∧ (t.ff = 3 ∨ t.ff = 4))) : AL t.fp (AL (t.ff == 3 || t.ff == 4) A B) B = B := by
 cases ha : t.fp
 ·rfl
 ·have : (t.ff == 3 || t.ff == 4) = false := by
   rw [Bool.or_eq_false_iff]
   constructor
   ·simp only [beq_eq_false_iff_ne]; intro h; exact hk ⟨ha, .inl h⟩
   ·simp only [beq_eq_false_iff_ne]; intro h; exact hk ⟨ha, .inr h⟩
  rw [this]; rfl
theorem Jk {p : Ab} {i : Int} (hv : ∀ v, v ∈ p.fb → 1 ≤ v ∧ v ≤ 6) (h0 : 0 ≤ i) (h1 : i < (p.fb.length : Int)) : 1 ≤ p.fb.getD i.toNat 0 ∧ p.fb.getD i.toNat 0 ≤ 6 := by
 refine hv _ ?_
 rw [lD, List.getElem?_eq_getElem (by omega)]
 exact List.getElem_mem _
theorem Rg (N : Nat) (p : Ab) (t : Av) (hN : N ≤ 1000000) (h6 : 7 ≤ N) (hv : ∀ v, v ∈ p.fb → 1 ≤ v ∧ v ≤ 6) : DP N p t = some (Dw p t) := by
 unfold DP Dw
 simp only [Ba, K9, oS]
 by_cases k1 : t.ff < 1
 ·simp [k1]
 by_cases k2 : 4 < t.ff
 ·simp [k1, k2]
 rw [AC k1, AC k2]
 by_cases hk : t.fp = true ∧ (t.ff = 3 ∨ t.ff = 4)
 ·obtain ⟨ha, k | k⟩ := hk <;> simp [ha, k]
 rw [Ao, RX _ _ hk, if_neg (fun h => h.elim k1 fun h => h.elim k2 hk)]
 by_cases f1 : t.fg < 0
 ·simp [f1]
 by_cases f2 : (p.fb.length : Int) ≤ t.fg
 ·simp [f1, f2]
 by_cases f3 : t.fj < 0
 ·simp [f1, f2, f3]
 by_cases f4 : (p.fb.length : Int) ≤ t.fj
 ·simp [f1, f2, f3, f4]
 rw [AC f1, AC f2, AC f3, if_neg (fun h => h.elim f1 fun h => h.elim f2 fun h => h.elim f3 f4)]
 have hf := Jk hv (i := t.fg) (by omega) (by omega)
 rw [decide_eq_false f4, Ao, D2 (d := 0) (by omega : 0 ≤ t.fg) (by omega), D2 (d := 0) (by omega : 0 ≤ t.fj) (by omega)]
 simp only [oS]
 generalize p.fb.getD t.fg.toNat 0 = f at *
 generalize p.fb.getD t.fj.toNat 0 = g at *
 rw [NG N t.fq f g (by omega) hN, NG N t.fk f f (by omega) hN]
 simp only [oS]
 cases hq : sq t.fq f g
 ·rfl
 simp only [Bool.not_true, Ao]
 by_cases k4 : t.ff = 4
 ·have : (t.ff != 4) = false := by simp [k4]
  rw [this, Ao]
  simp only [k4, if_true]
  cases hr : sq t.fk f f
  ·rfl
  ·have h7 := LU hr
   simp only [Bool.not_true, Ao]
   rw [T6 N t (by omega) hN (fun row hm => by have := h7.2 row hm; omega)]
   cases HG t.fk <;> simp [Bw]
 ·have : (t.ff != 4) = true := by simpa using k4
  rw [this, AD]
  simp only [k4, if_false]
  by_cases hr : t.fk.length = 0
  ·simp [hr]
  ·have : ((t.fk.length : Int) != 0) = true := bne_iff_ne.2 (by omega)
   rw [this]; simp [hr]
theorem TB (N : Nat) (k : Int) (a : Bool) : FM N k a = some (k == 1 || (k == 2 || ((k == 3 || k == 4) && !a))) := by
 unfold FM
 simp only [Ba]
 cases h1 : k == 1 <;> cases h2 : k == 2 <;> cases h3 : k == 3 <;> cases h4 : k == 4 <;> cases a <;> rfl
theorem Mw (N : Nat) (p : Ab) (t : Av) (hN : N ≤ 1000000) (h6 : 7 ≤ N) (hv : ∀ v, v ∈ p.fb → 1 ≤ v ∧ v ≤ 6) : Fq N p t = some (Dw p t) := by
 unfold Fq Dw
 simp only [Ba, TB, NR, oS]
 by_cases hb : t.ff < 1 ∨ 4 < t.ff ∨ (t.fp = true ∧ (t.ff = 3 ∨ t.ff = 4))
 ·have : (t.ff == 1 || (t.ff == 2 || ((t.ff == 3 || t.ff == 4) && !t.fp))) = false := by
   rcases hb with h | h | ⟨ha, h | h⟩
   ·rw [beq_eq_false_iff_ne.2 (by omega : t.ff ≠ 1), beq_eq_false_iff_ne.2 (by omega : t.ff ≠ 2), beq_eq_false_iff_ne.2 (by omega : t.ff ≠ 3), beq_eq_false_iff_ne.2 (by omega : t.ff ≠ 4)]; rfl
   ·rw [beq_eq_false_iff_ne.2 (by omega : t.ff ≠ 1), beq_eq_false_iff_ne.2 (by omega : t.ff ≠ 2), beq_eq_false_iff_ne.2 (by omega : t.ff ≠ 3), beq_eq_false_iff_ne.2 (by omega : t.ff ≠ 4)]; rfl
   ·simp [ha, h]
   ·simp [ha, h]
  rw [this, if_pos hb]; rfl
 ·have : (t.ff == 1 || (t.ff == 2 || ((t.ff == 3 || t.ff == 4) && !t.fp))) = true := by
   have hk : t.ff = 1 ∨ t.ff = 2 ∨ t.ff = 3 ∨ t.ff = 4 := by
    have h1 : ¬ t.ff < 1 := fun h => hb (.inl h)
    have h2 : ¬ 4 < t.ff := fun h => hb (.inr (.inl h))
    omega
   rcases hk with h | h | h | h
   ·simp [h]
   ·simp [h]
   ·cases ha : t.fp
    ·simp [h]
    ·exact (hb (.inr (.inr ⟨ha, .inl h⟩))).elim
   ·cases ha : t.fp
    ·simp [h]
    ·exact (hb (.inr (.inr ⟨ha, .inr h⟩))).elim
  rw [this, if_neg hb]
  simp only [Bool.not_true, Ao]
  by_cases f1 : t.fg < 0
  ·simp [f1, show ¬ (0 ≤ t.fg) from by omega]
  by_cases f2 : (p.fb.length : Int) ≤ t.fg
  ·simp [f2, show ¬ (t.fg < (p.fb.length : Int)) from by omega]
  by_cases f3 : t.fj < 0
  ·simp [f3, show 0 ≤ t.fg from by omega, show t.fg < (p.fb.length : Int) from by omega, show ¬ (0 ≤ t.fj) from by omega]
  by_cases f4 : (p.fb.length : Int) ≤ t.fj
  ·simp [f4, show 0 ≤ t.fg from by omega, show t.fg < (p.fb.length : Int) from by omega, show ¬ (t.fj < (p.fb.length : Int)) from by omega]
  rw [if_neg (fun h => h.elim f1 fun h => h.elim f2 fun h => h.elim f3 f4)]
  have hf := Jk hv (i := t.fg) (by omega) (by omega)
  have hg := Jk hv (i := t.fj) (by omega) (by omega)
  rw [decide_eq_true (by omega : 0 ≤ t.fg), decide_eq_true (by omega : t.fg < (p.fb.length : Int)), decide_eq_true (by omega : 0 ≤ t.fj), decide_eq_true (by omega : t.fj < (p.fb.length : Int)), D2 (d := 0) (by omega : 0 ≤ t.fg) (by omega), D2 (d := 0) (by omega : 0 ≤ t.fj) (by omega)]
  simp only [Bool.and_self, Bool.not_true, Ao, oS]
  generalize p.fb.getD t.fg.toNat 0 = f at *
  generalize p.fb.getD t.fj.toNat 0 = g at *
  rw [Nn N t.fq f g (by omega) hN, Nn N t.fk f f (by omega) hN]
  simp only [oS]
  cases hq : sq t.fq f g
  ·rfl
  simp only [Bool.not_true, Ao]
  by_cases k4 : t.ff = 4
  ·simp only [k4, beq_self_eq_true, AD, if_true]
   cases hr : sq t.fk f f
   ·rfl
   ·have h7 := LU hr
    simp only [Bool.not_true, Ao]
    rw [NJ N t (by omega) hN (fun row hm => by have := h7.2 row hm; omega)]
    cases HG t.fk <;> simp [Bw]
  ·have : (t.ff == 4) = false := beq_eq_false_iff_ne.2 k4
   rw [this, Ao]
   simp only [k4, if_false, Bool.not_false, AD]
   by_cases hr : t.fk.length = 0
   ·rw [NJ N t (by omega) hN (fun row hm => by rw [List.eq_nil_of_length_eq_zero hr] at hm; cases hm), List.eq_nil_of_length_eq_zero hr]
    simp [HG, C9, Bw]
   ·rw [decide_eq_true (by omega : 0 < (t.fk.length : Int))]
    simp [hr]
def E7 (p : Ab) (i : Nat) (v : Int) : Option Int :=
 if v < 1 ∨ 6 < v ∨ p.fm.getD i 0 < 0 ∨ v ≤ p.fm.getD i 0 ∨ p.fo.getD i 0 < 0 ∨ v ≤ p.fo.getD i 0 then some 7 else none
def KT (p : Ab) (_ : Nat) (t : Av) : Option Int := if Dw p t = 0 then none else some (Dw p t)
def CW (p : Ab) : Int :=
 if 6 < p.fb.length ∨ 12 < p.fe.length then 3
 else if p.fm.length ≠ p.fb.length ∨ p.fo.length ≠ p.fb.length then 6
 else ((Bw (C9 (E7 p) 0 p.fb) (C9 (KT p) 0 p.fe)).getD 0)
theorem GY {α R : Type} {f : Nat → α → Option R} : ∀ {i : Nat} {xs : List α}, C9 f i xs = none → ∀ j x, xs[j]? = some x → f (i + j) x = none
 | _, [], _, j, x, hx => by simp at hx
 | i, y :: ys, h, j, x, hx => by
  rw [Gj] at h
  split at h
  ·cases h
  ·rename_i h0
   cases j with
   | zero => simp at hx; subst hx; exact h0
   | succ j =>
    have := GY h j x (by simpa using hx)
    rwa [show i + 1 + j = i + (j + 1) from by omega] at this
theorem L4 {p : Ab} (h : C9 (E7 p) 0 p.fb = none) : ∀ v, v ∈ p.fb → 1 ≤ v ∧ v ≤ 6 := by
 intro v hv
 obtain ⟨i, hi⟩ := List.mem_iff_getElem?.1 hv
 have := GY h i v hi
 unfold E7 at this
 split at this
 ·cases this
 ·rename_i hn
  constructor
  ·exact Int.not_lt.1 fun h => hn (.inl h)
  ·exact Int.not_lt.1 fun h => hn (.inr (.inl h))
theorem CK {α : Type} {xs : List α} {i : Nat} {d : α} (h : i < xs.length) : BD xs (i : Int) = some (xs.getD i d) := by
 rw [AZ, lD]; simp [h]
theorem PM (N : Nat) (p : Ab) (hN : N ≤ 1000000) (h1 : p.fb.length < N) (h2 : p.fm.length = p.fb.length) (h3 : p.fo.length = p.fb.length) (j : Option Int) :
  A2 N p (fun _ => j) N 0 = Bw (C9 (E7 p) 0 p.fb) j := by
 have := Cr (A2 N p (fun _ => j)) p.fb j (E7 p)
  (fun n i x hx => by
   have hi := (lI.1 hx).1
   rw [A2, AE (by omega), AZ, hx]
   simp only [oS, Ba]
   rw [CK (d := 0) (by omega), CK (d := 0) (by omega), AJ (by omega)]
   simp only [oS]
   unfold E7
   generalize p.fm.getD i 0 = a
   generalize p.fo.getD i 0 = b
   by_cases k1 : x < 1 <;> by_cases k2 : 6 < x <;> by_cases k3 : a < 0 <;> by_cases k4 : x ≤ a <;> by_cases k5 : b < 0 <;> by_cases k6 : x ≤ b <;> simp [k1, k2, k3, k4, k5, k6, Bw])
  (fun n => by rw [A2, AC (by omega)]) N 0 (by omega) (by omega)
 simpa using this
theorem Ok (N : Nat) (p : Ab) (hN : N ≤ 1000000) (h1 : p.fb.length < N) (h2 : p.fm.length = p.fb.length) (h3 : p.fo.length = p.fb.length) (j : Option Int) :
  By N p (fun _ => j) N 0 = Bw (C9 (E7 p) 0 p.fb) j := by
 have := Cr (By N p (fun _ => j)) p.fb j (E7 p)
  (fun n i x hx => by
   have hi := (lI.1 hx).1
   rw [By, AE (by omega), AZ, hx]
   simp only [oS, Ba, NR]
   rw [CK (d := 0) (by omega), CK (d := 0) (by omega), AJ (by omega)]
   simp only [oS]
   unfold E7
   generalize p.fm.getD i 0 = a
   generalize p.fo.getD i 0 = b
   have e1 : decide (0 ≤ a) = !decide (a < 0) := by rw [← decide_not]; congr 1; simp
   have e2 : decide (a < x) = !decide (x ≤ a) := by rw [← decide_not]; congr 1; simp
   have e3 : decide (0 ≤ b) = !decide (b < 0) := by rw [← decide_not]; congr 1; simp
   have e4 : decide (b < x) = !decide (x ≤ b) := by rw [← decide_not]; congr 1; simp
   rw [e1, e2, e3, e4]
   by_cases k1 : x < 1 <;> by_cases k2 : 6 < x <;> by_cases k3 : a < 0 <;> by_cases k4 : x ≤ a <;> by_cases k5 : b < 0 <;> by_cases k6 : x ≤ b <;> simp [k1, k2, k3, k4, k5, k6, Bw])
  (fun n => by rw [By, AC (by omega)]) N 0 (by omega) (by omega)
 simpa using this
theorem Sf (N : Nat) (p : Ab) (hN : N ≤ 1000000) (h6 : 7 ≤ N) (h1 : p.fe.length < N) (hv : ∀ v, v ∈ p.fb → 1 ≤ v ∧ v ≤ 6) (j : Option Int) :
  A0 N p (fun _ => j) N 0 = Bw (C9 (KT p) 0 p.fe) j := by
 have := Cr (A0 N p (fun _ => j)) p.fe j (KT p)
  (fun n i x hx => by
   have hi := (lI.1 hx).1
   rw [A0, AE (by omega), AZ, hx]
   simp only [oS]
   rw [Rg N p x hN h6 hv, AJ (by omega)]
   simp only [oS]
   unfold KT
   by_cases k : Dw p x = 0
   ·simp [k, Bw]
   ·rw [bne_iff_ne.2 k, if_neg k]; rfl)
  (fun n => by rw [A0, AC (by omega)]) N 0 (by omega) (by omega)
 simpa using this
theorem Qi (N : Nat) (p : Ab) (hN : N ≤ 1000000) (h6 : 7 ≤ N) (h1 : p.fe.length < N) (hv : ∀ v, v ∈ p.fb → 1 ≤ v ∧ v ≤ 6) (j : Option Int) :
  Br N p (fun _ => j) N 0 = Bw (C9 (KT p) 0 p.fe) j := by
 have := Cr (Br N p (fun _ => j)) p.fe j (KT p)
  (fun n i x hx => by
   have hi := (lI.1 hx).1
   rw [Br, AE (by omega), AZ, hx]
   simp only [oS]
   rw [Mw N p x hN h6 hv, AJ (by omega)]
   simp only [oS]
   unfold KT
   by_cases k : Dw p x = 0
   ·simp [k, Bw]
   ·rw [bne_iff_ne.2 k, if_neg k]; rfl)
  (fun n => by rw [Br, AC (by omega)]) N 0 (by omega) (by omega)
 simpa using this
theorem P7 (N : Nat) (p : Ab) (hN : N ≤ 1000000) (h : 20 ≤ N) : BW N p = some (CW p) := by
 unfold BW CW
 simp only [Ba]
 by_cases k1 : 6 < p.fb.length
 ·rw [AE (by omega)]; simp [k1]
 rw [AC (by omega)]
 by_cases k2 : 12 < p.fe.length
 ·rw [decide_eq_true (by omega : (12 : Int) < (p.fe.length : Int))]; simp [k2]
 rw [decide_eq_false (by omega : ¬ (12 : Int) < (p.fe.length : Int)), Ao, if_neg (by omega)]
 by_cases k3 : p.fm.length = p.fb.length
 ·by_cases k4 : p.fo.length = p.fb.length
  ·rw [k3, k4]
   simp only [bne_self_eq_false, Ao, ne_eq, not_true_eq_false, or_self, if_false]
   rw [PM N p hN (by omega) k3 k4]
   cases hs : C9 (E7 p) 0 p.fb with
   | some r => rfl
   | none =>
    simp only [Bw]
    rw [Sf N p hN (by omega) (by omega) (L4 hs)]
    cases C9 (KT p) 0 p.fe <;> rfl
  ·have : ((p.fo.length : Int) != (p.fb.length : Int)) = true := bne_iff_ne.2 (by omega)
   rw [this, k3]; simp [k4]
 ·have : ((p.fm.length : Int) != (p.fb.length : Int)) = true := bne_iff_ne.2 (by omega)
  rw [this]; simp [k3]
theorem Of (N : Nat) (p : Ab) (hN : N ≤ 1000000) (h : 20 ≤ N) : Cg N p = some (CW p) := by
 unfold Cg CW
 simp only [Ba]
 by_cases k1 : 6 < p.fb.length
 ·rw [AE (by omega)]; simp [k1]
 rw [AC (by omega)]
 by_cases k2 : 12 < p.fe.length
 ·rw [decide_eq_true (by omega : (12 : Int) < (p.fe.length : Int))]; simp [k2]
 rw [decide_eq_false (by omega : ¬ (12 : Int) < (p.fe.length : Int)), Ao, if_neg (by omega)]
 by_cases k3 : p.fm.length = p.fb.length
 ·by_cases k4 : p.fo.length = p.fb.length
  ·rw [k3, k4]
   simp only [bne_self_eq_false, Ao, ne_eq, not_true_eq_false, or_self, if_false]
   rw [Ok N p hN (by omega) k3 k4]
   cases hs : C9 (E7 p) 0 p.fb with
   | some r => rfl
   | none =>
    simp only [Bw]
    rw [Qi N p hN (by omega) (by omega) (L4 hs)]
    cases C9 (KT p) 0 p.fe <;> rfl
  ·have : ((p.fo.length : Int) != (p.fb.length : Int)) = true := bne_iff_ne.2 (by omega)
   rw [this, k3]; simp [k4]
 ·have : ((p.fm.length : Int) != (p.fb.length : Int)) = true := bne_iff_ne.2 (by omega)
  rw [this]; simp [k3]
theorem HH {n : Int} (h : IB n) : 0 ≤ n ∧ n ≤ 255 := by
 unfold IB at h
 simpa [Lit.wf, IntKind.min, IntKind.max, IntKind.signed, IntKind.bits] using h
theorem M1 : ∀ k : Fin 256, CC .u8 0 (k.val : Int) = 0 := by decide +kernel
theorem M7 : ∀ k : Fin 256, CC .u8 (k.val : Int) 0 = (k.val : Int) := by decide +kernel
theorem RS {n : Int} (h : IB n) : CC .u8 0 n = 0 := by
 have := HH h
 obtain ⟨k, rfl⟩ := Int.eq_ofNat_of_zero_le this.1
 exact M1 ⟨k, by omega⟩
theorem R6 {n : Int} (h : IB n) : CC .u8 n 0 = n := by
 have := HH h
 obtain ⟨k, rfl⟩ := Int.eq_ofNat_of_zero_le this.1
 exact M7 ⟨k, by omega⟩
theorem Fz {α R : Type} {f : Nat → α → Option R} : ∀ {i : Nat} {xs : List α} {r : R}, C9 f i xs = some r → ∃ j x, xs[j]? = some x ∧ f (i + j) x = some r
 | _, [], _, h => by cases h
 | i, y :: ys, r, h => by
  rw [Gj] at h
  split at h
  ·rename_i r' h0
   cases h
   exact ⟨0, y, rfl, h0⟩
  ·obtain ⟨j, x, h1, h2⟩ := Fz h
   exact ⟨j + 1, x, by simpa using h1, by rwa [show i + (j + 1) = i + 1 + j from by omega]⟩
structure B1 (p : Ab) : Prop where
 nv : p.fb.length ≤ 6
 nt : p.fe.length ≤ 12
 now : p.fm.length = p.fb.length
 tgt : p.fo.length = p.fb.length
 ver : ∀ v, v ∈ p.fb → 1 ≤ v ∧ v ≤ 6
 tab : ∀ t, t ∈ p.fe → Dw p t = 0
theorem PR (l : List (List Bool)) : (HG l).getD 0 = 0 ∨ (HG l).getD 0 = 1 := by
 cases h : HG l with
 | none => exact .inl rfl
 | some r =>
  obtain ⟨j, x, _, h⟩ := Fz h
  split at h
  ·cases h
  ·cases h; exact .inr rfl
theorem Oj (p : Ab) (t : Av) : Dw p t = 0 ∨ Dw p t = 1 ∨ Dw p t = 4 ∨ Dw p t = 6 := by
 unfold Dw
 split
 ·exact .inr (.inl rfl)
 split
 ·exact .inr (.inr (.inl rfl))
 simp only
 split
 ·exact .inr (.inr (.inr rfl))
 split
 ·split
  ·exact .inr (.inr (.inr rfl))
  ·rcases PR t.fk with h | h
   ·exact .inl h
   ·exact .inr (.inl h)
 ·split
  ·exact .inl rfl
  ·exact .inr (.inr (.inr rfl))
theorem Hy (p : Ab) : (CW p = 0 ∧ B1 p) ∨ (CW p = 1 ∨ CW p = 3 ∨ CW p = 4 ∨ CW p = 6 ∨ CW p = 7) := by
 unfold CW
 split
 ·simp
 rename_i k1
 split
 ·simp
 rename_i k2
 cases hs : C9 (E7 p) 0 p.fb with
 | some r =>
  obtain ⟨j, x, _, h⟩ := Fz hs
  unfold E7 at h
  split at h
  ·cases h; simp [Bw]
  ·cases h
 | none =>
  cases ht : C9 (KT p) 0 p.fe with
  | some r =>
   obtain ⟨j, t, _, h⟩ := Fz ht
   unfold KT at h
   split at h
   ·cases h
   ·rename_i hne
    cases h
    simp only [Bw, Option.getD_some]
    right
    rcases Oj p t with h | h | h | h
    ·exact (hne h).elim
    ·exact .inl h
    ·exact .inr (.inr (.inl h))
    ·exact .inr (.inr (.inr (.inl h)))
  | none =>
   left
   refine ⟨rfl, by omega, by omega, by omega, by omega, L4 hs, fun t hm => ?_⟩
   obtain ⟨j, hj⟩ := List.mem_iff_getElem?.1 hm
   have := GY ht j t hj
   unfold KT at this
   split at this
   ·assumption
   ·cases this
def FB (m : Ac) (s : Nat) : Int :=
 if 0 ≤ m.fa.getD s 0 then KW .u8 (C8 .u8 1 (m.fd.getD s 0)) (C8 .u8 1 (m.fa.getD s 0)) else C8 .u8 1 (m.fd.getD s 0)
def Ke (m : Ac) (i : Nat) (v : Int) : Option Int :=
 if m.fd.getD i 0 < 0 ∨ v ≤ m.fd.getD i 0 ∨ m.fa.getD i 0 < -1 ∨ v ≤ m.fa.getD i 0 then some 7
 else if m.fd.getD i 0 = m.fa.getD i 0 then some 1 else none
def Bp (t : Av) : Bool := t.ff == 3 || t.ff == 4
def TX (p : Ab) (t : Av) : Int := wI .u8 (C8 .u8 1 (p.fb.getD t.fg.toNat 0) - 1)
def Ig (p : Ab) (m : Ac) (i : Nat) (t : Av) : Option Int :=
 if Bp t = true then (if CC .u8 (FB m t.fg.toNat) (m.fc.getD i 0) ≠ 0 ∨ CC .u8 (m.fc.getD i 0) (TX p t) ≠ 0 then some 1 else none)
 else if m.fc.getD i 0 ≠ 0 then some 1 else none
def Ey (p : Ab) (m : Ac) : Int :=
 if CW p ≠ 0 then CW p
 else if m.fd.length ≠ p.fb.length ∨ m.fa.length ≠ p.fb.length ∨ m.fc.length ≠ p.fe.length then 6
 else (Bw (C9 (Ke m) 0 p.fb) (C9 (Ig p m) 0 p.fe)).getD 0
theorem Ik {p : Ab} {t : Av} (h : Dw p t = 0) : 0 ≤ t.fg ∧ t.fg < (p.fb.length : Int) ∧ 0 ≤ t.fj ∧ t.fj < (p.fb.length : Int) := by
 unfold Dw at h
 split at h
 ·cases h
 ·split at h
  ·cases h
  ·omega
theorem Kc (N : Nat) (m : Ac) (s : Int) (h0 : 0 ≤ s) (h1 : s < (m.fd.length : Int)) (h2 : s < (m.fa.length : Int)) (hb : 0 ≤ m.fd.getD s.toNat 0) : Ed N m s = some (FB m s.toNat) := by
 unfold Ed FB
 rw [D2 (d := 0) h0 h1, D2 (d := 0) h0 h2]
 simp only [oS, Ba]
 rw [show Dj (0 ≤ m.fd.getD s.toNat 0) = some () from by unfold Dj; rw [if_pos hb]]
 simp only [oS]
 by_cases h : 0 ≤ m.fa.getD s.toNat 0
 ·rw [AE h, if_pos h, show Dj (0 ≤ m.fa.getD s.toNat 0) = some () from by unfold Dj; rw [if_pos h]]; rfl
 ·rw [AC h, if_neg h]
theorem HP (N : Nat) (m : Ac) (s : Int) (h0 : 0 ≤ s) (h1 : s < (m.fd.length : Int)) (h2 : s < (m.fa.length : Int)) (hb : 0 ≤ m.fd.getD s.toNat 0) : Bl N m s = some (FB m s.toNat) := by
 unfold Bl FB
 rw [D2 (d := 0) h0 h1, D2 (d := 0) h0 h2]
 simp only [oS, Ba]
 rw [show Dj (0 ≤ m.fd.getD s.toNat 0) = some () from by unfold Dj; rw [if_pos hb]]
 simp only [oS]
 by_cases h : 0 ≤ m.fa.getD s.toNat 0
 ·rw [AE h, if_pos h, show Dj (0 ≤ m.fa.getD s.toNat 0) = some () from by unfold Dj; rw [if_pos h]]; rfl
 ·rw [AC h, if_neg h]
theorem Ol (N : Nat) (p : Ab) (m : Ac) (hN : N ≤ 1000000) (h1 : p.fb.length < N) (h2 : m.fd.length = p.fb.length) (h3 : m.fa.length = p.fb.length) (j : Option Int) :
  Dq N p m (fun _ => j) N 0 = Bw (C9 (Ke m) 0 p.fb) j := by
 have := Cr (Dq N p m (fun _ => j)) p.fb j (Ke m)
  (fun n i x hx => by
   have hi := (lI.1 hx).1
   rw [Dq, AE (by omega), AZ, hx]
   simp only [oS, Ba]
   rw [CK (d := 0) (by omega), CK (d := 0) (by omega), AJ (by omega)]
   simp only [oS]
   unfold Ke
   generalize m.fd.getD i 0 = a
   generalize m.fa.getD i 0 = b
   by_cases k7 : a = b
   ·subst k7
    by_cases k3 : a < 0 <;> by_cases k4 : x ≤ a <;> by_cases k5 : a < -1 <;> simp [k3, k4, k5, Bw]
   ·have k8 : (a == b) = false := beq_eq_false_iff_ne.2 k7
    by_cases k3 : a < 0 <;> by_cases k4 : x ≤ a <;> by_cases k5 : b < -1 <;> by_cases k6 : x ≤ b <;> simp [k3, k4, k5, k6, k7, k8, Bw])
  (fun n => by rw [Dq, AC (by omega)]) N 0 (by omega) (by omega)
 simpa using this
theorem OD (N : Nat) (p : Ab) (m : Ac) (hN : N ≤ 1000000) (h1 : p.fb.length < N) (h2 : m.fd.length = p.fb.length) (h3 : m.fa.length = p.fb.length) (j : Option Int) :
  BJ N p m (fun _ => j) N 0 = Bw (C9 (Ke m) 0 p.fb) j := by
 have := Cr (BJ N p m (fun _ => j)) p.fb j (Ke m)
  (fun n i x hx => by
   have hi := (lI.1 hx).1
   rw [BJ, AE (by omega), show BD p.fb (i : Int) = some x from by rw [AZ, hx]]
   simp only [oS, Ba]
   rw [CK (d := 0) (by omega), CK (d := 0) (by omega), AJ (by omega)]
   simp only [oS]
   unfold Ke
   generalize m.fd.getD i 0 = a
   generalize m.fa.getD i 0 = b
   by_cases k7 : a = b
   ·subst k7
    by_cases k3 : a < 0 <;> by_cases k4 : x ≤ a <;> by_cases k5 : a < -1 <;> simp [k3, k4, k5, Bw]
   ·have k8 : (a == b) = false := beq_eq_false_iff_ne.2 k7
    by_cases k3 : a < 0 <;> by_cases k4 : x ≤ a <;> by_cases k5 : b < -1 <;> by_cases k6 : x ≤ b <;> simp [k3, k4, k5, k6, k7, k8, Bw])
  (fun n => by rw [BJ, AC (by omega)]) N 0 (by omega) (by omega)
 simpa using this
structure MixServ (p : Ab) (m : Ac) : Prop where
 base : m.fd.length = p.fb.length
 next : m.fa.length = p.fb.length
 held : m.fc.length = p.fe.length
 b0 : ∀ i, i < p.fb.length → 0 ≤ m.fd.getD i 0 ∧ m.fd.getD i 0 < p.fb.getD i 0
 n0 : ∀ i, i < p.fb.length → -1 ≤ m.fa.getD i 0 ∧ m.fa.getD i 0 < p.fb.getD i 0
 ne : ∀ i, i < p.fb.length → m.fd.getD i 0 ≠ m.fa.getD i 0
theorem Oe {p : Ab} {m : Ac} (h2 : m.fd.length = p.fb.length) (h3 : m.fa.length = p.fb.length) (h4 : m.fc.length = p.fe.length) (h : C9 (Ke m) 0 p.fb = none) : MixServ p m := by
 have key : ∀ i, i < p.fb.length → ¬ (m.fd.getD i 0 < 0 ∨ p.fb.getD i 0 ≤ m.fd.getD i 0 ∨ m.fa.getD i 0 < -1 ∨ p.fb.getD i 0 ≤ m.fa.getD i 0) ∧ ¬ m.fd.getD i 0 = m.fa.getD i 0 := by
  intro i hi
  have hx : p.fb[i]? = some (p.fb.getD i 0) := by rw [lD]; simp [hi]
  have := GY h i _ hx
  rw [Nat.zero_add] at this
  unfold Ke at this
  split at this
  ·cases this
  ·split at this
   ·cases this
   ·rename_i k1 k2; exact ⟨k1, k2⟩
 exact ⟨h2, h3, h4, fun i hi => by have := (key i hi).1; omega, fun i hi => by have := (key i hi).1; omega, fun i hi => (key i hi).2⟩
theorem OW {m : Ac} (hw : Jf IB m.fc) {i : Nat} (h : i < m.fc.length) : IB (m.fc.getD i 0) := by
 refine hw _ ?_
 rw [lD, List.getElem?_eq_getElem h]
 exact List.getElem_mem _
theorem JP (N : Nat) (t : Av) : Er N t = some (Bp t) := by
 unfold Er Bp
 simp only [Ba]
 cases h : t.ff == 3 <;> simp
theorem E1 (N : Nat) (t : Av) : AR N t = some (Bp t) := K9 N t
theorem Qc (N : Nat) (p : Ab) (m : Ac) (hN : N ≤ 1000000) (h1 : p.fe.length < N) (hp : B1 p) (hm : MixServ p m) (hw : Jf IB m.fc) (j : Option Int) :
  CX N p m (fun _ => j) N 0 = Bw (C9 (Ig p m) 0 p.fe) j := by
 have := Cr (CX N p m (fun _ => j)) p.fe j (Ig p m)
  (fun n i x hx => by
   have hi := (lI.1 hx).1
   have hin := Ik (hp.tab x (lM hx))
   have hheld := OW hw (show i < m.fc.length from by rw [hm.held]; exact hi)
   have hv := Jk hp.ver hin.1 hin.2.1
   rw [CX, AE (by omega), AZ, hx]
   simp only [oS, Ba, JP]
   rw [Kc N m x.fg hin.1 (by rw [hm.base]; exact hin.2.1) (by rw [hm.next]; exact hin.2.1) (hm.b0 _ (by omega)).1, D2 (d := 0) hin.1 hin.2.1, CK (d := 0) (show i < m.fc.length from by rw [hm.held]; exact hi), AJ (by omega)]
   simp only [oS]
   rw [show Dj (0 ≤ p.fb.getD x.fg.toNat 0) = some () from by unfold Dj; rw [if_pos (by omega)]]
   simp only [oS]
   unfold Ig TX
   rw [RS hheld, R6 hheld]
   generalize CC .u8 (FB m x.fg.toNat) (m.fc.getD i 0) = A
   generalize CC .u8 (m.fc.getD i 0) (wI .u8 (C8 .u8 1 (p.fb.getD x.fg.toNat 0) - 1)) = B
   generalize m.fc.getD i 0 = H
   cases Bp x
   ·simp only [Ao, bne_self_eq_false]
    by_cases k : H = 0
    ·simp [k, Bw]
    ·have : (H != 0) = true := bne_iff_ne.2 k
     simp [k, this, Bw]
   ·simp only [AD]
    by_cases k : A = 0
    ·by_cases k2 : B = 0
     ·simp [k, k2, Bw]
     ·have : (B != 0) = true := bne_iff_ne.2 k2
      simp [k, k2, this, Bw]
    ·have : (A != 0) = true := bne_iff_ne.2 k
     simp [k, this, Bw])
  (fun n => by rw [CX, AC (by omega)]) N 0 (by omega) (by omega)
 simpa using this
theorem PV (N : Nat) (p : Ab) (m : Ac) (hN : N ≤ 1000000) (h1 : p.fe.length < N) (hp : B1 p) (hm : MixServ p m) (j : Option Int) :
  BC N p m (fun _ => j) N 0 = Bw (C9 (Ig p m) 0 p.fe) j := by
 have := Cr (BC N p m (fun _ => j)) p.fe j (Ig p m)
  (fun n i x hx => by
   have hi := (lI.1 hx).1
   have hin := Ik (hp.tab x (lM hx))
   have hv := Jk hp.ver hin.1 hin.2.1
   rw [BC, AE (by omega), AZ, hx]
   simp only [oS, Ba, E1]
   rw [HP N m x.fg hin.1 (by rw [hm.base]; exact hin.2.1) (by rw [hm.next]; exact hin.2.1) (hm.b0 _ (by omega)).1, D2 (d := 0) hin.1 hin.2.1, CK (d := 0) (show i < m.fc.length from by rw [hm.held]; exact hi), AJ (by omega)]
   simp only [oS]
   rw [show Dj (0 ≤ p.fb.getD x.fg.toNat 0) = some () from by unfold Dj; rw [if_pos (by omega)]]
   simp only [oS]
   unfold Ig TX
   generalize CC .u8 (FB m x.fg.toNat) (m.fc.getD i 0) = A
   generalize CC .u8 (m.fc.getD i 0) (wI .u8 (C8 .u8 1 (p.fb.getD x.fg.toNat 0) - 1)) = B
   generalize m.fc.getD i 0 = H
   cases Bp x
   ·simp only [Bool.not_false, AD, Ao]
    by_cases k : H = 0
    ·simp [k, Bw]
    ·have : (H != 0) = true := bne_iff_ne.2 k
     simp [k, this, Bw]
   ·simp only [Bool.not_true, Ao, AD]
    by_cases k : A = 0
    ·by_cases k2 : B = 0
     ·simp [k, k2, Bw]
     ·have : (B != 0) = true := bne_iff_ne.2 k2
      simp [k, k2, this, Bw]
    ·have : (A != 0) = true := bne_iff_ne.2 k
     by_cases k2 : B = 0
     ·simp [k, k2, this, Bw]
     ·have h5 : (B != 0) = true := bne_iff_ne.2 k2
      simp [k, h5, Bw])
  (fun n => by rw [BC, AC (by omega)]) N 0 (by omega) (by omega)
 simpa using this
theorem KI (N : Nat) (p : Ab) (m : Ac) (hN : N ≤ 1000000) (h : 20 ≤ N) (hw : Jf IB m.fc) : Ei N p m = some (Ey p m) := by
 unfold Ei Ey
 rw [Of N p hN h]
 simp only [oS, Ba]
 by_cases k0 : CW p = 0
 ·have hp : B1 p := by
   rcases Hy p with h | h
   ·exact h.2
   ·omega
  have hnv := hp.nv
  have hnt := hp.nt
  rw [k0]
  simp only [bne_self_eq_false, Ao, ne_eq, not_true_eq_false, if_false]
  by_cases k1 : m.fd.length = p.fb.length
  ·by_cases k2 : m.fa.length = p.fb.length
   ·by_cases k3 : m.fc.length = p.fe.length
    ·rw [k1, k2, k3]
     simp only [bne_self_eq_false, Ao, not_true_eq_false, or_self, if_false]
     rw [Ol N p m hN (by omega) k1 k2]
     cases hs : C9 (Ke m) 0 p.fb with
     | some r => rfl
     | none =>
      simp only [Bw]
      rw [Qc N p m hN (by omega) hp (Oe k1 k2 k3 hs) hw]
      cases C9 (Ig p m) 0 p.fe <;> rfl
    ·have : ((m.fc.length : Int) != (p.fe.length : Int)) = true := bne_iff_ne.2 (by omega)
     rw [this, k1, k2]; simp [k3]
   ·have : ((m.fa.length : Int) != (p.fb.length : Int)) = true := bne_iff_ne.2 (by omega)
    rw [this, k1]; simp [k2]
  ·have : ((m.fd.length : Int) != (p.fb.length : Int)) = true := bne_iff_ne.2 (by omega)
   rw [this]; simp [k1]
 ·rw [bne_iff_ne.2 k0]; simp [k0]
theorem Kl (N : Nat) (p : Ab) (m : Ac) (hN : N ≤ 1000000) (h : 20 ≤ N) : C2 N p m = some (Ey p m) := by
 unfold C2 Ey
 rw [P7 N p hN h]
 simp only [oS, Ba]
 by_cases k0 : CW p = 0
 ·have hp : B1 p := by
   rcases Hy p with h | h
   ·exact h.2
   ·omega
  have hnv := hp.nv
  have hnt := hp.nt
  rw [k0]
  simp only [bne_self_eq_false, Ao, ne_eq, not_true_eq_false, if_false]
  by_cases k1 : m.fd.length = p.fb.length
  ·by_cases k2 : m.fa.length = p.fb.length
   ·by_cases k3 : m.fc.length = p.fe.length
    ·rw [k1, k2, k3]
     simp only [bne_self_eq_false, Ao, not_true_eq_false, or_self, if_false]
     rw [OD N p m hN (by omega) k1 k2]
     cases hs : C9 (Ke m) 0 p.fb with
     | some r => rfl
     | none =>
      simp only [Bw]
      rw [PV N p m hN (by omega) hp (Oe k1 k2 k3 hs)]
      cases C9 (Ig p m) 0 p.fe <;> rfl
    ·have : ((m.fc.length : Int) != (p.fe.length : Int)) = true := bne_iff_ne.2 (by omega)
     rw [this, k1, k2]; simp [k3]
   ·have : ((m.fa.length : Int) != (p.fb.length : Int)) = true := bne_iff_ne.2 (by omega)
    rw [this, k1]; simp [k2]
  ·have : ((m.fd.length : Int) != (p.fb.length : Int)) = true := bne_iff_ne.2 (by omega)
   rw [this]; simp [k1]
 ·rw [bne_iff_ne.2 k0]; simp [k0]
@[simp] theorem A1 {α β : Type} (k : α) (f : α → β) : Ba k f = f k := rfl
@[simp] theorem SA {p : Prop} [Decidable p] (h : p) : Dj p = some () := by unfold Dj; rw [if_pos h]
theorem As {β : Type} {p : Prop} [Decidable p] (h : p) (f : Unit → Option β) : (Dj p).bind f = f () := by rw [SA h]; rfl
def GQ {α β : Type} (g : Nat → α → List β) : Nat → List α → List β
 | _, [] => []
 | i, x :: xs => g i x ++ GQ g (i + 1) xs
def Hs {α A : Type} (f : Nat → α → A → A) : Nat → List α → A → A
 | _, [], a => a
 | i, x :: xs, a => Hs f (i + 1) xs (f i x a)
theorem Iy {α β : Type} {g : Nat → α → List β} {c : Nat} : ∀ {i : Nat} {xs : List α}, (∀ j x, xs[j]? = some x → (g (i + j) x).length ≤ c) → (GQ g i xs).length ≤ c * xs.length
 | _, [], _ => by simp [GQ]
 | i, x :: xs, h => by
  have h1 := h 0 x rfl
  have h2 := Iy (g := g) (c := c) (i := i + 1) (xs := xs) fun j y hy => by
   have := h (j + 1) y (by simpa using hy)
   rwa [show i + (j + 1) = i + 1 + j from by omega] at this
  rw [GQ, List.length_append, List.length_cons, Nat.mul_add]
  simp only [Nat.add_zero] at h1
  omega
theorem HE {α A S R : Type} (L : Nat → S → Option R) (mk : A → Int → S) (xs : List α) (j : A → Option R) (f : Nat → α → A → A) (I : Nat → A → Prop)
  (hs : ∀ (n i : Nat) (x : α) (a : A), xs[i]? = some x → I i a → L (n + 1) (mk a (i : Int)) = L n (mk (f i x a) ((i + 1 : Nat) : Int)) ∧ I (i + 1) (f i x a))
  (he : ∀ (n : Nat) (a : A), I xs.length a → L (n + 1) (mk a (xs.length : Int)) = j a) :
  ∀ (n i : Nat) (a : A), i ≤ xs.length → xs.length - i < n → I i a → L n (mk a (i : Int)) = j (Hs f i (xs.drop i) a) ∧ I xs.length (Hs f i (xs.drop i) a)
 | 0, i, _, _, h, _ => by omega
 | n + 1, i, a, hi, h, ha => by
  by_cases h1 : i < xs.length
  ·have hx : xs[i]? = some xs[i] := by simp [h1]
   obtain ⟨e1, e2⟩ := hs n i _ a hx ha
   rw [e1, CQ hx, Hs]
   exact HE L mk xs j f I hs he n (i + 1) _ (by omega) (by omega) e2
  ·have : i = xs.length := by omega
   subst this
   rw [List.drop_eq_nil_of_le (Nat.le_refl _), Hs]
   exact ⟨he n a ha, ha⟩
theorem Mv {α β : Type} (g : Nat → α → List β) : ∀ (i : Nat) (xs : List α) (acc : List β), Hs (fun i x a => a ++ g i x) i xs acc = acc ++ GQ g i xs
 | _, [], acc => by simp [Hs, GQ]
 | i, x :: xs, acc => by rw [Hs, Mv g (i + 1) xs, GQ, List.append_assoc]
theorem JE {α β S R : Type} (L : Nat → S → Option R) (mk : List β → Int → S) (xs : List α) (j : List β → Option R) (g : Nat → α → List β) (c B : Nat)
  (hg : ∀ i x, xs[i]? = some x → (g i x).length ≤ c)
  (hs : ∀ (n i : Nat) (x : α) (a : List β), xs[i]? = some x → a.length + (g i x).length ≤ B → L (n + 1) (mk a (i : Int)) = L n (mk (a ++ g i x) ((i + 1 : Nat) : Int)))
  (he : ∀ (n : Nat) (a : List β), L (n + 1) (mk a (xs.length : Int)) = j a) (n : Nat) (a : List β) (hn : xs.length < n) (ha : a.length + c * xs.length ≤ B) :
  L n (mk a 0) = j (a ++ GQ g 0 xs) := by
 have := HE L mk xs j (fun i x a => a ++ g i x) (fun i b => i ≤ xs.length ∧ b.length ≤ a.length + c * i)
  (fun n i x b hx hb => by
   have h1 := hg i x hx
   have hi := (lI.1 hx).1
   have h2 : c * (i + 1) ≤ c * xs.length := Nat.mul_le_mul_left c hi
   have h3 : c * (i + 1) = c * i + c := Nat.mul_succ c i
   refine ⟨hs n i x b hx (by have := hb.2; omega), hi, ?_⟩
   rw [List.length_append]
   have := hb.2
   omega)
  (fun n b _ => he n b) n 0 a (Nat.zero_le _) (by omega) ⟨Nat.zero_le _, by omega⟩
 have h2 := this.1
 rw [List.drop_zero, Mv] at h2
 exact h2
def Ct (s : Int) (v : Nat) : Bool := s.toNat.testBit v
def G4 (m : Ac) (s v : Nat) : Bool := decide (m.fd.getD s 0 = (v : Int)) || decide (m.fa.getD s 0 = (v : Int))
theorem Tn : ∀ (s : Fin 256) (v : Fin 8), EM .u8 (EL .u8 (s.val : Int) (v.val : Int)) 1 = if Ct (s.val : Int) v.val then 1 else 0 := by decide +kernel
theorem N6 {s : Int} {v : Nat} (h0 : 0 ≤ s) (h1 : s ≤ 255) (hv : v < 8) : EM .u8 (EL .u8 s (v : Int)) 1 = if Ct s v then 1 else 0 := by
 obtain ⟨k, rfl⟩ := Int.eq_ofNat_of_zero_le h0
 exact Tn ⟨k, by omega⟩ ⟨v, hv⟩
theorem Pd {s : Int} {v : Nat} (h0 : 0 ≤ s) (h1 : s ≤ 255) (hv : v < 8) : (EM .u8 (EL .u8 s (v : Int)) 1 == 0) = !Ct s v := by
 rw [N6 h0 h1 hv]; cases Ct s v <;> rfl
theorem Pp {s : Int} {v : Nat} (h0 : 0 ≤ s) (h1 : s ≤ 255) (hv : v < 8) : (EM .u8 (EL .u8 s (v : Int)) 1 == 1) = Ct s v := by
 rw [N6 h0 h1 hv]; cases Ct s v <;> rfl
theorem JB {s : Int} {v : Nat} (h1 : s ≤ 255) (hv : 8 ≤ v) : Ct s v = false := by
 unfold Ct
 apply Nat.testBit_lt_two_pow
 have : (2 : Nat) ^ 8 ≤ 2 ^ v := Nat.pow_le_pow_right (by omega) hv
 omega
theorem LT : ∀ (b : Fin 8) (v : Fin 8), Ct (C8 .u8 1 (b.val : Int)) v.val = decide (b.val = v.val) ∧ 0 ≤ C8 .u8 1 (b.val : Int) ∧ C8 .u8 1 (b.val : Int) ≤ 255 := by decide +kernel
theorem S3 : ∀ (b n : Fin 8) (v : Fin 8), Ct (KW .u8 (C8 .u8 1 (b.val : Int)) (C8 .u8 1 (n.val : Int))) v.val = (decide (b.val = v.val) || decide (n.val = v.val))
  ∧ 0 ≤ KW .u8 (C8 .u8 1 (b.val : Int)) (C8 .u8 1 (n.val : Int)) ∧ KW .u8 (C8 .u8 1 (b.val : Int)) (C8 .u8 1 (n.val : Int)) ≤ 255 := by decide +kernel
theorem Pk {m : Ac} {s : Nat} (hb0 : 0 ≤ m.fd.getD s 0) (hb1 : m.fd.getD s 0 < 8) (hn1 : m.fa.getD s 0 < 8) :
  (∀ v, Ct (FB m s) v = G4 m s v) ∧ 0 ≤ FB m s ∧ FB m s ≤ 255 := by
 unfold FB G4
 obtain ⟨b, hb⟩ := Int.eq_ofNat_of_zero_le hb0
 rw [hb] at hb1 ⊢
 by_cases h : 0 ≤ m.fa.getD s 0
 ·obtain ⟨n, hn⟩ := Int.eq_ofNat_of_zero_le h
  rw [hn] at hn1 ⊢
  rw [if_pos (by omega)]
  have h1 := S3 ⟨b, by omega⟩ ⟨n, by omega⟩
  refine ⟨fun v => ?_, (h1 0).2⟩
  by_cases hv : v < 8
  ·rw [(h1 ⟨v, hv⟩).1]
   simp only [Int.ofNat_inj]
  ·rw [JB (h1 0).2.2 (by omega)]
   simp; omega
 ·rw [if_neg h]
  have h1 := LT ⟨b, by omega⟩
  refine ⟨fun v => ?_, (h1 0).2⟩
  have h3 : decide (m.fa.getD s 0 = (v : Int)) = false := decide_eq_false (by omega)
  rw [h3, Bool.or_false]
  by_cases hv : v < 8
  ·rw [(h1 ⟨v, hv⟩).1]
   simp only [Int.ofNat_inj]
  ·rw [JB (h1 0).2.2 (by omega)]
   simp; omega
theorem QN {a : Nat} (h : a < 256) : (BitVec.ofInt 8 (a : Int)).toNat = a := by
 simp; omega
theorem Mj {a b : Int} (ha : 0 ≤ a ∧ a ≤ 255) (hb : 0 ≤ b ∧ b ≤ 255) : CC .u8 a b = 0 ↔ ∀ v, Ct a v = true → Ct b v = true := by
 obtain ⟨a, rfl⟩ := Int.eq_ofNat_of_zero_le ha.1
 obtain ⟨b, rfl⟩ := Int.eq_ofNat_of_zero_le hb.1
 have hA := QN (a := a) (by omega)
 have hB := QN (a := b) (by omega)
 unfold CC Ct
 simp only [IntKind.bits, Int.toNat_natCast]
 have hx : ∀ x : BitVec 8, wI .u8 (x.toNat : Int) = (x.toNat : Int) := by
  intro x
  have := x.isLt
  simp [wI, IntKind.signed, IntKind.bits]
  omega
 rw [hx]
 constructor
 ·intro h v hv
  have h0 : (BitVec.ofInt 8 (a : Int) &&& ~~~BitVec.ofInt 8 (b : Int)) = (BitVec.ofNat 8 0) := by
   apply BitVec.eq_of_toNat_eq
   simp only [BitVec.toNat_ofNat, Nat.zero_mod]
   exact Int.ofNat_inj.1 h
  by_cases hv8 : v < 8
  ·have h1 : (BitVec.ofInt 8 (a : Int) &&& ~~~BitVec.ofInt 8 (b : Int)).getLsbD v = false := by rw [h0]; simp
   rw [BitVec.getLsbD_and, BitVec.getLsbD_not] at h1
   have e1 : (BitVec.ofInt 8 (a : Int)).getLsbD v = a.testBit v := by unfold BitVec.getLsbD; rw [hA]
   have e2 : (BitVec.ofInt 8 (b : Int)).getLsbD v = b.testBit v := by unfold BitVec.getLsbD; rw [hB]
   rw [e1, e2, hv] at h1
   simpa [hv8] using h1
  ·have := JB (s := (a : Int)) (v := v) (by omega) (by omega)
   unfold Ct at this
   rw [Int.toNat_natCast, hv] at this
   cases this
 ·intro h
  have h0 : (BitVec.ofInt 8 (a : Int) &&& ~~~BitVec.ofInt 8 (b : Int)) = (BitVec.ofNat 8 0) := by
   apply BitVec.eq_of_getLsbD_eq
   intro i hi
   rw [BitVec.getLsbD_and, BitVec.getLsbD_not]
   have e1 : (BitVec.ofInt 8 (a : Int)).getLsbD i = a.testBit i := by unfold BitVec.getLsbD; rw [hA]
   have e2 : (BitVec.ofInt 8 (b : Int)).getLsbD i = b.testBit i := by unfold BitVec.getLsbD; rw [hB]
   rw [e1, e2]
   have := h i
   cases h3 : a.testBit i
   ·simp
   ·rw [this h3]; simp
  have h2 : ∀ x : BitVec 8, x = (BitVec.ofNat 8 0) → (x.toNat : Int) = 0 := fun x hx => by rw [hx]; rfl
  exact h2 _ h0
theorem TA : ∀ n : Fin 9, (∀ v : Fin 8, Ct (wI .u8 (C8 .u8 1 (n.val : Int) - 1)) v.val = decide (v.val < n.val)) ∧ 0 ≤ wI .u8 (C8 .u8 1 (n.val : Int) - 1) ∧ wI .u8 (C8 .u8 1 (n.val : Int) - 1) ≤ 255 := by decide +kernel
theorem QU {n : Int} (h0 : 0 ≤ n) (h1 : n ≤ 8) : (∀ v, Ct (wI .u8 (C8 .u8 1 n - 1)) v = decide ((v : Int) < n)) ∧ 0 ≤ wI .u8 (C8 .u8 1 n - 1) ∧ wI .u8 (C8 .u8 1 n - 1) ≤ 255 := by
 obtain ⟨n, rfl⟩ := Int.eq_ofNat_of_zero_le h0
 have h := TA ⟨n, by omega⟩
 refine ⟨fun v => ?_, h.2⟩
 by_cases hv : v < 8
 ·rw [h.1 ⟨v, hv⟩]; simp
 ·rw [JB h.2.2 (by omega)]
  symm; apply decide_eq_false; omega
structure Dg (p : Ab) (m : Ac) : Prop extends MixServ p m where
 range : ∀ i, i < p.fe.length → 0 ≤ m.fc.getD i 0 ∧ m.fc.getD i 0 ≤ 255
 low : ∀ i t, p.fe[i]? = some t → Bp t = true → ∀ v, G4 m t.fg.toNat v = true → Ct (m.fc.getD i 0) v = true
 high : ∀ i t, p.fe[i]? = some t → Bp t = true → ∀ v, Ct (m.fc.getD i 0) v = true → (v : Int) < p.fb.getD t.fg.toNat 0
 none : ∀ i t, p.fe[i]? = some t → Bp t = false → m.fc.getD i 0 = 0
theorem HQ {p : Ab} (hp : B1 p) {i : Nat} (hi : i < p.fb.length) : 1 ≤ p.fb.getD i 0 ∧ p.fb.getD i 0 ≤ 6 := by
 have := Jk (i := (i : Int)) hp.ver (by omega) (by omega)
 simpa using this
theorem Hg {p : Ab} {m : Ac} (hp : B1 p) (hm : MixServ p m) {s : Nat} (hs : s < p.fb.length) :
  (∀ v, Ct (FB m s) v = G4 m s v) ∧ 0 ≤ FB m s ∧ FB m s ≤ 255 := by
 have h1 := hm.b0 s hs
 have h2 := hm.n0 s hs
 have h3 := HQ hp hs
 exact Pk h1.1 (by omega) (by omega)
theorem OV {p : Ab} {m : Ac} (hp : B1 p) (hm : MixServ p m) {i : Nat} {t : Av} (ht : p.fe[i]? = some t) (hr : 0 ≤ m.fc.getD i 0 ∧ m.fc.getD i 0 ≤ 255) :
  Ig p m i t = none ↔ ((Bp t = true → (∀ v, G4 m t.fg.toNat v = true → Ct (m.fc.getD i 0) v = true) ∧ (∀ v, Ct (m.fc.getD i 0) v = true → (v : Int) < p.fb.getD t.fg.toNat 0)) ∧ (Bp t = false → m.fc.getD i 0 = 0)) := by
 have hin := Ik (hp.tab t (lM ht))
 have hrun := Hg hp hm (s := t.fg.toNat) (by omega)
 have hver := HQ hp (i := t.fg.toNat) (by omega)
 have hall := QU (n := p.fb.getD t.fg.toNat 0) (by omega) (by omega)
 unfold Ig TX
 have e1 := Mj hrun.2 hr
 have e2 := Mj hr hall.2
 cases hst : Bp t
 ·simp
 ·simp only [if_true, true_implies, Bool.true_eq_false, false_implies, and_true, ite_eq_right_iff, reduceCtorEq, imp_false, not_or, Decidable.not_not]
  rw [e1, e2]
  simp only [hrun.1, hall.1, decide_eq_true_eq]
theorem Kp {p : Ab} {m : Ac} (hw : Jf IB m.fc) (h : Ey p m = 0) : B1 p ∧ Dg p m := by
 unfold Ey at h
 split at h
 ·rename_i k; exact (k h).elim
 ·rename_i k0
  have hp : B1 p := by
   rcases Hy p with h | h
   ·exact h.2
   ·omega
  split at h
  ·cases h
  ·rename_i k1
   have b1 : m.fd.length = p.fb.length := Decidable.not_not.1 fun h => k1 (.inl h)
   have b2 : m.fa.length = p.fb.length := Decidable.not_not.1 fun h => k1 (.inr (.inl h))
   have b3 : m.fc.length = p.fe.length := Decidable.not_not.1 fun h => k1 (.inr (.inr h))
   cases hs : C9 (Ke m) 0 p.fb with
   | some r =>
    obtain ⟨j, x, _, he⟩ := Fz hs
    rw [hs] at h
    unfold Ke at he
    simp only [Bw, Option.getD_some] at h
    split at he
    ·cases he; cases h
    ·split at he
     ·cases he; cases h
     ·cases he
   | none =>
    have hm := Oe b1 b2 b3 hs
    rw [hs] at h
    simp only [Bw] at h
    cases ht : C9 (Ig p m) 0 p.fe with
    | some r =>
     obtain ⟨j, x, _, he⟩ := Fz ht
     rw [ht] at h
     simp only [Option.getD_some] at h
     subst h
     unfold Ig at he
     split at he
     ·split at he <;> cases he
     ·split at he <;> cases he
    | none =>
     have hr : ∀ i, i < p.fe.length → 0 ≤ m.fc.getD i 0 ∧ m.fc.getD i 0 ≤ 255 := fun i hi => HH (OW hw (by omega))
     have key : ∀ i t, p.fe[i]? = some t → _ := fun i t hi => (OV hp hm hi (hr i (lI.1 hi).1)).1 (by have := GY ht i t hi; rwa [Nat.zero_add] at this)
     exact ⟨hp, hm, hr, fun i t hi hst => ((key i t hi).1 hst).1, fun i t hi hst => ((key i t hi).1 hst).2, fun i t hi hst => (key i t hi).2 hst⟩
theorem Eg {α R : Type} {f : Nat → α → Option R} : ∀ {i : Nat} {xs : List α}, (∀ j x, xs[j]? = some x → f (i + j) x = none) → C9 f i xs = none
 | _, [], _ => rfl
 | i, y :: ys, h => by
  rw [Gj, show f i y = none from h 0 y rfl]
  exact Eg fun j x hx => by
   have := h (j + 1) x (by simpa using hx)
   rwa [show i + (j + 1) = i + 1 + j from by omega] at this
theorem Oy {p : Ab} (hp : B1 p) (hr : ∀ i, i < p.fb.length → 0 ≤ p.fm.getD i 0 ∧ p.fm.getD i 0 < p.fb.getD i 0 ∧ 0 ≤ p.fo.getD i 0 ∧ p.fo.getD i 0 < p.fb.getD i 0) : CW p = 0 := by
 have := hp.nv
 have := hp.nt
 have := hp.now
 have := hp.tgt
 unfold CW
 rw [if_neg (by omega), if_neg (by omega)]
 have h1 : C9 (E7 p) 0 p.fb = none := Eg fun j x hx => by
  have hj := (lI.1 hx).1
  have h1 := hr j hj
  have h2 := HQ hp hj
  have e : p.fb.getD j 0 = x := by rw [lD, hx]; rfl
  rw [e] at h1 h2
  unfold E7
  rw [Nat.zero_add, if_neg (by omega)]
 have h2 : C9 (KT p) 0 p.fe = none := Eg fun j x hx => by
  unfold KT
  rw [if_pos (hp.tab x (lM hx))]
 rw [h1, h2]; rfl
theorem Gb {p : Ab} (h : CW p = 0) : B1 p ∧ ∀ i, i < p.fb.length → 0 ≤ p.fm.getD i 0 ∧ p.fm.getD i 0 < p.fb.getD i 0 ∧ 0 ≤ p.fo.getD i 0 ∧ p.fo.getD i 0 < p.fb.getD i 0 := by
 have hp : B1 p := by
  rcases Hy p with h | h
  ·exact h.2
  ·omega
 refine ⟨hp, fun i hi => ?_⟩
 have h1 := hp.nv
 have h2 := hp.nt
 have h3 := hp.now
 have h4 := hp.tgt
 unfold CW at h
 rw [if_neg (by omega), if_neg (by omega)] at h
 cases hs : C9 (E7 p) 0 p.fb with
 | some r =>
  obtain ⟨j, x, _, he⟩ := Fz hs
  rw [hs] at h
  unfold E7 at he
  split at he
  ·cases he; cases h
  ·cases he
 | none =>
  have hx : p.fb[i]? = some (p.fb.getD i 0) := by rw [lD]; simp [hi]
  have := GY hs i _ hx
  rw [Nat.zero_add] at this
  unfold E7 at this
  split at this
  ·cases this
  ·rename_i hn; omega
theorem Ip {p : Ab} {m : Ac} (hv : CW p = 0) (hm : Dg p m) : Ey p m = 0 := by
 obtain ⟨hp, _⟩ := Gb hv
 unfold Ey
 rw [hv, if_neg (by simp), if_neg (by have := hm.base; have := hm.next; have := hm.held; omega)]
 have h1 : C9 (Ke m) 0 p.fb = none := Eg fun j x hx => by
  have hj := (lI.1 hx).1
  have e : p.fb.getD j 0 = x := by rw [lD, hx]; rfl
  have h1 := hm.b0 j hj
  have h2 := hm.n0 j hj
  have h3 := hm.ne j hj
  rw [e] at h1 h2
  unfold Ke
  rw [Nat.zero_add, if_neg (by omega), if_neg h3]
 have h2 : C9 (Ig p m) 0 p.fe = none := Eg fun j x hx => by
  have hj := (lI.1 hx).1
  rw [Nat.zero_add]
  exact (OV hp hm.toMixServ hx (hm.range j hj)).2 ⟨fun hst => ⟨hm.low j x hx hst, hm.high j x hx hst⟩, fun hst => hm.none j x hx hst⟩
 rw [h1, h2]; rfl
def MH {α : Type} (g : Nat → α → Bool) : Nat → List α → Bool
 | _, [] => false
 | i, x :: xs => g i x || MH g (i + 1) xs
theorem Ka {α β : Type} (g : Nat → α → List β) (h : Nat → α → Bool) : ∀ (i : Nat) (xs : List α) (a : List β) (b : Bool),
  Hs (fun i x (s : List β × Bool) => (s.1 ++ g i x, s.2 || h i x)) i xs (a, b) = (a ++ GQ g i xs, b || MH h i xs)
 | _, [], a, b => by simp [Hs, GQ, MH]
 | i, x :: xs, a, b => by rw [Hs, Ka g h, GQ, MH, List.append_assoc, Bool.or_assoc]
def gC (i u : Nat) (m : Ac) (t : Av) (v : Nat) (ok : Bool) : List Aj :=
 if G4 m t.fj.toNat v && (!ok && !t.fp) then [⟨(i : Int), (u : Int), (v : Int)⟩] else []
def hC (m : Ac) (t : Av) (v : Nat) (ok : Bool) : Bool := G4 m t.fj.toNat v && ok
def IH (i : Nat) (m : Ac) (t : Av) (u : Nat) (row : List Bool) : List Aj :=
 GQ (gC i u m t) 0 row ++ if t.fp && !MH (hC m t) 0 row then [⟨(i : Int), (u : Int), -1⟩] else []
def Rc (m : Ac) (i : Nat) (t : Av) (u : Nat) : Bool := if Bp t then Ct (m.fc.getD i 0) u else G4 m t.fg.toNat u
def IW (m : Ac) (i : Nat) (t : Av) : List Aj := GQ (fun u row => if Rc m i t u then IH i m t u row else []) 0 t.fq
def Gd (p : Ab) (m : Ac) : List Aj := GQ (IW m) 0 p.fe
structure Mz (p : Ab) (t : Av) : Prop where
 kind : 1 ≤ t.ff ∧ t.ff ≤ 4
 aware : t.fp = true → Bp t = false
 from0 : 0 ≤ t.fg ∧ t.fg < (p.fb.length : Int)
 to0 : 0 ≤ t.fj ∧ t.fj < (p.fb.length : Int)
 okL : (t.fq.length : Int) = p.fb.getD t.fg.toNat 0
 okR : ∀ row, row ∈ t.fq → (row.length : Int) = p.fb.getD t.fj.toNat 0
 reL : t.ff = 4 → (t.fk.length : Int) = p.fb.getD t.fg.toNat 0
 reR : ∀ row, row ∈ t.fk → (row.length : Int) = p.fb.getD t.fg.toNat 0
 reD : t.ff = 4 → HG t.fk = none
 reN : t.ff ≠ 4 → t.fk = []
theorem Jx {p : Ab} {t : Av} (h : Dw p t = 0) : Mz p t := by
 unfold Dw at h
 split at h
 ·cases h
 rename_i h1
 split at h
 ·cases h
 rename_i h2
 simp only at h
 split at h
 ·cases h
 rename_i h3
 have h3 : sq t.fq (p.fb.getD t.fg.toNat 0) (p.fb.getD t.fj.toNat 0) = true := by simpa using h3
 have h3 := LU h3
 have ha : t.fp = true → Bp t = false := by
  intro ha
  unfold Bp
  rw [Bool.or_eq_false_iff, beq_eq_false_iff_ne, beq_eq_false_iff_ne]
  exact ⟨fun hk => h1 (.inr (.inr ⟨ha, .inl hk⟩)), fun hk => h1 (.inr (.inr ⟨ha, .inr hk⟩))⟩
 split at h
 ·rename_i h4
  split at h
  ·cases h
  rename_i h5
  have h5 : sq t.fk (p.fb.getD t.fg.toNat 0) (p.fb.getD t.fg.toNat 0) = true := by simpa using h5
  have h5 := LU h5
  refine ⟨by omega, ha, by omega, by omega, h3.1, h3.2, fun _ => h5.1, h5.2, fun _ => ?_, fun h => (h h4).elim⟩
  cases hd : HG t.fk with
  | none => rfl
  | some r =>
   obtain ⟨j, x, _, hx⟩ := Fz hd
   rw [hd] at h
   split at hx
   ·cases hx
   ·cases hx; cases h
 ·rename_i h4
  split at h
  ·rename_i h5
   have h5 := List.eq_nil_of_length_eq_zero h5
   refine ⟨by omega, ha, by omega, by omega, h3.1, h3.2, fun h => (h4 h).elim, fun row hr => ?_, fun h => (h4 h).elim, fun _ => h5⟩
   rw [h5] at hr; cases hr
  ·cases h
theorem JG {R : Type} (b : Bool) (acc : List Aj) (x : Aj) (j : List Aj → Option R) (h : acc.length + 1 ≤ Do) :
  AL b ((Dj (acc.length + ([x] : List Aj).length ≤ Do)).bind fun _ => j (acc ++ [x])) (j acc) = j (acc ++ if b then [x] else []) := by
 cases b
 ·simp
 ·rw [AD, As (by simpa using h)]; rfl
theorem O6 (N : Nat) (m : Ac) (t : Av) (i u : Nat) (row : List Bool) (R : Int) (b1 b2 acc : List Aj) (j : List Aj × Bool → Option (List Aj))
  (hN : N ≤ 1000000) (h8 : 8 ≤ N) (hrow : row.length ≤ 6) (hacc : acc.length + 6 ≤ Do) (hR0 : 0 ≤ R) (hR1 : R ≤ 255) (hRb : ∀ v, Ct R v = G4 m t.fj.toNat v) :
  BA N (b1, (i : Int)) t R (b2, (u : Int)) row j N (acc, false, 0) = j (acc ++ GQ (gC i u m t) 0 row, MH (hC m t) 0 row) := by
 have := HE (A := List Aj × Bool) (BA N (b1, (i : Int)) t R (b2, (u : Int)) row j) (fun a k => (a.1, a.2, k)) row (fun a => j a) (fun v ok s => (s.1 ++ gC i u m t v ok, s.2 || hC m t v ok))
  (fun v a => v ≤ row.length ∧ a.1.length ≤ acc.length + v)
  (fun n v ok a hx ha => by
   have hv := (lI.1 hx).1
   obtain ⟨c, f⟩ := a
   simp only at ha
   refine ⟨?_, by omega, ?_⟩
   ·rw [BA]
    simp only [A1]
    rw [AE (by omega), AZ, hx]
    simp only [oS]
    rw [As (by omega), Pd hR0 hR1 (by omega), hRb, AJ (by omega), JG _ _ _ (fun l => BA N (b1, (i : Int)) t R (b2, (u : Int)) row j n (l, true, ((v + 1 : Nat) : Int))) (by omega)]
    unfold gC hC
    rw [JG _ _ _ (fun l => BA N (b1, (i : Int)) t R (b2, (u : Int)) row j n (l, ok, ((v + 1 : Nat) : Int))) (by omega)]
    cases G4 m t.fj.toNat v
    ·simp
    ·cases ok <;> cases f <;> cases t.fp <;> simp
   ·simp only [gC, List.length_append]
    split <;> simp <;> omega)
  (fun n a _ => by
   rw [BA]
   simp only [A1]
   rw [AC (by omega)]) N 0 (acc, false) (by omega) (by omega) ⟨by omega, by simp⟩
 have h2 := this.1
 rw [List.drop_zero, Ka, Bool.false_or] at h2
 exact h2
theorem LS {p : Ab} {t : Av} (hp : B1 p) (ht : Mz p t) : t.fq.length ≤ 6 ∧ ∀ row, row ∈ t.fq → row.length ≤ 6 := by
 have h1 := Jk hp.ver ht.from0.1 ht.from0.2
 have h2 := Jk hp.ver ht.to0.1 ht.to0.2
 have h3 := ht.okL
 exact ⟨by omega, fun row hr => by have := ht.okR row hr; omega⟩
theorem Qe (i u : Nat) (m : Ac) (t : Av) (v : Nat) (ok : Bool) : (gC i u m t v ok).length ≤ 1 := by
 unfold gC; split <;> simp
theorem PU (i : Nat) (m : Ac) (t : Av) (u : Nat) (row : List Bool) (h : row.length ≤ 6) : (IH i m t u row).length ≤ 7 := by
 unfold IH
 rw [List.length_append]
 have := Iy (g := gC i u m t) (c := 1) (i := 0) (xs := row) (fun j x _ => Qe _ _ _ _ _ _)
 split <;> simp <;> omega
theorem PX (i : Nat) (m : Ac) (t : Av) (u : Nat) (row : List Bool) (h : row.length ≤ 6) : (if Rc m i t u = true then IH i m t u row else []).length ≤ 7 := by
 have := PU i m t u row h
 split <;> simp <;> omega
theorem Lz {p : Ab} {t : Av} (hp : B1 p) (ht : Mz p t) (i : Nat) (m : Ac) : (IW m i t).length ≤ 42 := by
 have h1 := LS hp ht
 have := Iy (g := fun u row => if Rc m i t u = true then IH i m t u row else []) (c := 7) (i := 0) (xs := t.fq) (fun j x hx => PX i m t _ x (h1.2 x (lM hx)))
 unfold IW
 omega
theorem KC (N : Nat) (p : Ab) (m : Ac) (t : Av) (i : Nat) (W R : Int) (b1 acc : List Aj) (j : List Aj → Option (List Aj))
  (hN : N ≤ 1000000) (h8 : 8 ≤ N) (hp : B1 p) (ht : Mz p t) (hacc : acc.length + 42 ≤ 10000) (hR0 : 0 ≤ R) (hR1 : R ≤ 255) (hRb : ∀ v, Ct R v = G4 m t.fj.toNat v) (hW0 : 0 ≤ W) (hW1 : W ≤ 255) (hWb : ∀ v, Ct W v = Rc m i t v) :
  BO N (b1, (i : Int)) t R W j N (acc, 0) = j (acc ++ IW m i t) := by
 have hl := LS hp ht
 exact JE (BO N (b1, (i : Int)) t R W j) (fun a k => (a, k)) t.fq j (fun u row => if Rc m i t u then IH i m t u row else []) 7 10000
  (fun u row hx => PX i m t u row (hl.2 row (lM hx)))
  (fun n u row a hx ha => by
   have hu := (lI.1 hx).1
   have hrow := hl.2 row (lM hx)
   rw [BO]
   simp only [A1]
   rw [AE (by omega), As (by omega), Pd hW0 hW1 (by omega), hWb, AZ, hx]
   simp only [oS]
   rw [O6 N m t i u row R b1 a a _ hN h8 hrow (by unfold Do; omega) hR0 hR1 hRb, AJ (by omega)]
   cases hw : Rc m i t u
   ·simp
   ·simp only [Bool.not_true, Ao, if_true, IH]
    have h1 := Iy (g := gC i u m t) (c := 1) (i := 0) (xs := row) (fun j x _ => Qe _ _ _ _ _ _)
    have := JG (R := List Aj) (t.fp && !MH (hC m t) 0 row) (a ++ GQ (gC i u m t) 0 row) ⟨(i : Int), (u : Int), -1⟩ (fun l => BO N (b1, (i : Int)) t R W j n (l, ((u + 1 : Nat) : Int))) (by rw [List.length_append]; unfold Do; rw [hw, if_pos rfl] at ha; omega)
    rw [← List.append_assoc, ← this]
    cases t.fp <;> cases MH (hC m t) 0 row <;> rfl)
  (fun n a => by
   rw [BO]
   simp only [A1]
   rw [AC (by omega)]) N acc (by omega) (by omega)
theorem Po (N : Nat) (p : Ab) (m : Ac) (t : Av) (i u : Nat) (row : List Bool) (b1 b2 acc : List Aj) (j : List Aj × Bool → Option (List Aj))
  (hN : N ≤ 1000000) (h8 : 8 ≤ N) (hp : B1 p) (hm : MixServ p m) (ht : Mz p t) (hu : t.fq[u]? = some row) (hacc : acc.length + 6 ≤ Do) :
  A9 N p m (b1, (i : Int)) t (b2, (u : Int)) j N (acc, false, 0) = j (acc ++ GQ (gC i u m t) 0 row, MH (hC m t) 0 row) := by
 have hrow := (LS hp ht).2 row (lM hu)
 have hR := Hg hp hm (s := t.fj.toNat) (by have := ht.to0; omega)
 have hlen := ht.okR row (lM hu)
 have hto := ht.to0
 have := HE (A := List Aj × Bool) (A9 N p m (b1, (i : Int)) t (b2, (u : Int)) j) (fun a k => (a.1, a.2, k)) row (fun a => j a) (fun v ok s => (s.1 ++ gC i u m t v ok, s.2 || hC m t v ok))
  (fun v a => v ≤ row.length ∧ a.1.length ≤ acc.length + v)
  (fun n v ok a hx ha => by
   have hv := (lI.1 hx).1
   obtain ⟨c, f⟩ := a
   simp only at ha
   refine ⟨?_, by omega, ?_⟩
   ·rw [A9]
    simp only [A1]
    rw [D2 (d := 0) hto.1 hto.2, HP N m t.fj hto.1 (by rw [hm.base]; exact hto.2) (by rw [hm.next]; exact hto.2) (hm.b0 _ (by omega)).1, AZ, hu]
    simp only [oS]
    unfold BU
    rw [AE (by omega), AZ, hx, As (by omega), Pp hR.2.1 hR.2.2 (by omega), hR.1]
    simp only [oS]
    rw [AJ (by omega), JG _ _ _ (fun l => A9 N p m (b1, (i : Int)) t (b2, (u : Int)) j n (l, true, ((v + 1 : Nat) : Int))) (by omega)]
    unfold gC hC
    rw [JG _ _ _ (fun l => A9 N p m (b1, (i : Int)) t (b2, (u : Int)) j n (l, ok, ((v + 1 : Nat) : Int))) (by omega)]
    cases G4 m t.fj.toNat v
    ·simp
    ·cases ok <;> cases f <;> cases t.fp <;> simp
   ·simp only [gC, List.length_append]
    split <;> simp <;> omega)
  (fun n a _ => by
   rw [A9]
   simp only [A1]
   rw [D2 (d := 0) hto.1 hto.2]
   simp only [oS]
   rw [AC (by omega)]) N 0 (acc, false) (by omega) (by omega) ⟨by omega, by simp⟩
 have h2 := this.1
 rw [List.drop_zero, Ka, Bool.false_or] at h2
 exact h2
theorem KF (N : Nat) (p : Ab) (m : Ac) (t : Av) (i : Nat) (W : Int) (b1 acc : List Aj) (j : List Aj → Option (List Aj))
  (hN : N ≤ 1000000) (h8 : 8 ≤ N) (hp : B1 p) (hm : MixServ p m) (ht : Mz p t) (hacc : acc.length + 42 ≤ 10000) (hW0 : 0 ≤ W) (hW1 : W ≤ 255) (hWb : ∀ v, Ct W v = Rc m i t v) :
  Bn N p m (b1, (i : Int)) t W j N (acc, 0) = j (acc ++ IW m i t) := by
 have hl := LS hp ht
 have hfr := ht.from0
 have hok := ht.okL
 exact JE (Bn N p m (b1, (i : Int)) t W j) (fun a k => (a, k)) t.fq j (fun u row => if Rc m i t u then IH i m t u row else []) 7 10000
  (fun u row hx => PX i m t u row (hl.2 row (lM hx)))
  (fun n u row a hx ha => by
   have hu := (lI.1 hx).1
   have hrow := hl.2 row (lM hx)
   rw [Bn]
   simp only [A1]
   rw [D2 (d := 0) hfr.1 hfr.2]
   simp only [oS]
   unfold BU
   rw [AE (by omega), As (by omega), Pp hW0 hW1 (by omega), hWb]
   simp only [oS]
   rw [Po N p m t i u row b1 a a _ hN h8 hp hm ht hx (by unfold Do; omega), AJ (by omega)]
   cases hw : Rc m i t u
   ·simp
   ·simp only [Bool.not_true, Ao, if_true, IH]
    have h1 := Iy (g := gC i u m t) (c := 1) (i := 0) (xs := row) (fun j x _ => Qe _ _ _ _ _ _)
    have := JG (R := List Aj) (t.fp && !MH (hC m t) 0 row) (a ++ GQ (gC i u m t) 0 row) ⟨(i : Int), (u : Int), -1⟩ (fun l => Bn N p m (b1, (i : Int)) t W j n (l, ((u + 1 : Nat) : Int))) (by rw [List.length_append]; unfold Do; rw [hw, if_pos rfl] at ha; omega)
    rw [← List.append_assoc, ← this]
    cases t.fp <;> cases MH (hC m t) 0 row <;> rfl)
  (fun n a => by
   rw [Bn]
   simp only [A1]
   rw [D2 (d := 0) hfr.1 hfr.2]
   simp only [oS]
   rw [AC (by omega)]) N acc (by omega) (by omega)
theorem Lg (N : Nat) (p : Ab) (m : Ac) (hN : N ≤ 1000000) (h20 : 20 ≤ N) (hp : B1 p) (hm : Dg p m) : EF N p m = some (Gd p m) := by
 unfold EF
 have hnt := hp.nt
 rw [JE (CI N p m _) (fun a k => (a, k)) p.fe some (IW m) 42 9000
  (fun i t hx => Lz hp (Jx (hp.tab t (lM hx))) i m)
  (fun n i t a hx ha => by
   have hi := (lI.1 hx).1
   have ht := Jx (hp.tab t (lM hx))
   have hto := ht.to0
   have hfr := ht.from0
   have hR := Hg hp hm.toMixServ (s := t.fj.toNat) (by omega)
   have hF := Hg hp hm.toMixServ (s := t.fg.toNat) (by omega)
   have hH := hm.range i hi
   rw [CI]
   simp only [A1]
   rw [AE (by omega), AZ, hx]
   simp only [oS, JP]
   rw [Kc N m t.fg hfr.1 (by rw [hm.base]; exact hfr.2) (by rw [hm.next]; exact hfr.2) (hm.b0 _ (by omega)).1, Kc N m t.fj hto.1 (by rw [hm.base]; exact hto.2) (by rw [hm.next]; exact hto.2) (hm.b0 _ (by omega)).1, CK (d := 0) (by rw [hm.held]; exact hi), AJ (by omega)]
   simp only [oS]
   cases hs : Bp t
   ·rw [Ao, KC N p m t i _ _ a a _ hN (by omega) hp ht (by omega) hR.2.1 hR.2.2 hR.1 hF.2.1 hF.2.2 (fun v => by unfold Rc; rw [hs, hF.1]; rfl)]
   ·rw [AD, KC N p m t i _ _ a a _ hN (by omega) hp ht (by omega) hR.2.1 hR.2.2 hR.1 hH.1 hH.2 (fun v => by unfold Rc; rw [hs]; rfl)])
  (fun n a => by
   rw [CI]
   simp only [A1]
   rw [AC (by omega)]) N [] (by omega) (by simp; omega)]
 rfl
theorem KY (N : Nat) (p : Ab) (m : Ac) (hN : N ≤ 1000000) (h20 : 20 ≤ N) (hp : B1 p) (hm : Dg p m) : DO N p m = some (Gd p m) := by
 unfold DO
 have hnt := hp.nt
 rw [JE (B0 N p m _) (fun a k => (a, k)) p.fe some (IW m) 42 9000
  (fun i t hx => Lz hp (Jx (hp.tab t (lM hx))) i m)
  (fun n i t a hx ha => by
   have hi := (lI.1 hx).1
   have ht := Jx (hp.tab t (lM hx))
   have hto := ht.to0
   have hfr := ht.from0
   have hF := Hg hp hm.toMixServ (s := t.fg.toNat) (by omega)
   have hH := hm.range i hi
   rw [B0]
   simp only [A1]
   rw [AE (by omega), AZ, hx]
   simp only [oS, E1]
   rw [HP N m t.fg hfr.1 (by rw [hm.base]; exact hfr.2) (by rw [hm.next]; exact hfr.2) (hm.b0 _ (by omega)).1, CK (d := 0) (by rw [hm.held]; exact hi), AJ (by omega)]
   simp only [oS]
   cases hs : Bp t
   ·rw [Ao, KF N p m t i _ a a _ hN (by omega) hp hm.toMixServ ht (by omega) hF.2.1 hF.2.2 (fun v => by unfold Rc; rw [hs, hF.1]; rfl)]
   ·rw [AD, KF N p m t i _ a a _ hN (by omega) hp hm.toMixServ ht (by omega) hH.1 hH.2 (fun v => by unfold Rc; rw [hs]; rfl)])
  (fun n a => by
   rw [B0]
   simp only [A1]
   rw [AC (by omega)]) N [] (by omega) (by simp; omega)]
 rfl
theorem Fw {A S R : Type} (L : Nat → S → Option R) (mk : A → Int → S) (len : Nat) (j : A → Option R) (I : Nat → A → Prop)
  (hs : ∀ (n i : Nat) (a : A), i < len → I i a → ∃ a', L (n + 1) (mk a (i : Int)) = L n (mk a' ((i + 1 : Nat) : Int)) ∧ I (i + 1) a')
  (he : ∀ (n : Nat) (a : A), I len a → L (n + 1) (mk a (len : Int)) = j a) :
  ∀ (n i : Nat) (a : A), i ≤ len → len - i < n → I i a → ∃ a', L n (mk a (i : Int)) = j a' ∧ I len a'
 | 0, i, _, _, h, _ => by omega
 | n + 1, i, a, hi, h, ha => by
  by_cases h1 : i < len
  ·obtain ⟨a', e1, e2⟩ := hs n i a h1 ha
   rw [e1]
   exact Fw L mk len j I hs he n (i + 1) _ (by omega) (by omega) e2
  ·have : i = len := by omega
   subst this
   exact ⟨a, he n a ha, ha⟩
theorem If {α : Type} {xs ys : List α} {i : Nat} {d : α} (h : i < xs.length) : (xs ++ ys).getD i d = xs.getD i d := by
 rw [lD, lD, List.getElem?_append_left h]
theorem Id {α : Type} {xs : List α} {y : α} {i : Nat} {d : α} (h : i = xs.length) : (xs ++ [y]).getD i d = y := by
 subst h; rw [lD, List.getElem?_append_right (Nat.le_refl _)]; simp
theorem Fp {α : Type} {P : Nat → α → Prop} {xs : List α} {y : α} {d : α} {n : Nat} (hn : xs.length = n) (h : ∀ k, k < n → P k (xs.getD k d)) (hy : P n y) : ∀ k, k < n + 1 → P k ((xs ++ [y]).getD k d) := by
 intro k hk
 by_cases h1 : k < n
 ·rw [If (by omega)]; exact h k h1
 ·have : k = n := by omega
  subst this
  rw [Id hn.symm]; exact hy
theorem QH (x : BitVec 8) : wI .u8 (x.toNat : Int) = (x.toNat : Int) := by
 have := x.isLt
 simp [wI, IntKind.signed, IntKind.bits]
 omega
theorem RN {a : Int} (h : 0 ≤ a ∧ a ≤ 255) : wI .u8 a = a := by
 simp [wI, IntKind.signed, IntKind.bits]
 omega
theorem IM {a : Nat} (h : a < 256) (i : Nat) : (BitVec.ofInt 8 (a : Int)).toNat.testBit i = a.testBit i := by rw [QN h]
theorem T3 {a b : Int} (ha : 0 ≤ a ∧ a ≤ 255) (hb : 0 ≤ b ∧ b ≤ 255) : (∀ v, Ct (KW .u8 a b) v = (Ct a v || Ct b v)) ∧ 0 ≤ KW .u8 a b ∧ KW .u8 a b ≤ 255 := by
 obtain ⟨a, rfl⟩ := Int.eq_ofNat_of_zero_le ha.1
 obtain ⟨b, rfl⟩ := Int.eq_ofNat_of_zero_le hb.1
 have e : KW .u8 (a : Int) (b : Int) = ((BitVec.ofInt 8 (a : Int) ||| BitVec.ofInt 8 (b : Int)).toNat : Int) := QH _
 have hlt := (BitVec.ofInt 8 (a : Int) ||| BitVec.ofInt 8 (b : Int)).isLt
 rw [e]
 refine ⟨fun v => ?_, by omega, by omega⟩
 unfold Ct
 simp only [Int.toNat_natCast, BitVec.toNat_or, Nat.testBit_or]
 rw [IM (by omega), IM (by omega)]
theorem SB {a b : Int} (ha : 0 ≤ a ∧ a ≤ 255) (hb : 0 ≤ b ∧ b ≤ 255) : (∀ v, Ct (EM .u8 a b) v = (Ct a v && Ct b v)) ∧ 0 ≤ EM .u8 a b ∧ EM .u8 a b ≤ 255 := by
 obtain ⟨a, rfl⟩ := Int.eq_ofNat_of_zero_le ha.1
 obtain ⟨b, rfl⟩ := Int.eq_ofNat_of_zero_le hb.1
 have e : EM .u8 (a : Int) (b : Int) = ((BitVec.ofInt 8 (a : Int) &&& BitVec.ofInt 8 (b : Int)).toNat : Int) := QH _
 have hlt := (BitVec.ofInt 8 (a : Int) &&& BitVec.ofInt 8 (b : Int)).isLt
 rw [e]
 refine ⟨fun v => ?_, by omega, by omega⟩
 unfold Ct
 simp only [Int.toNat_natCast, BitVec.toNat_and, Nat.testBit_and]
 rw [IM (by omega), IM (by omega)]
theorem JY {l : List Int} (hw : Jf IB l) (i : Nat) : 0 ≤ l.getD i 0 ∧ l.getD i 0 ≤ 255 := by
 by_cases h : i < l.length
 ·have : l.getD i 0 ∈ l := by rw [lD, List.getElem?_eq_getElem h]; exact List.getElem_mem _
  exact HH (hw _ this)
 ·rw [lD, List.getElem?_eq_none (by omega)]
  exact ⟨by decide, by decide⟩
theorem KZ (N : Nat) {l : List Int} (hw : Jf IB l) (i : Nat) : CH N l (i : Int) = some (l.getD i 0) := by
 unfold CH
 have h2 := JY hw i
 by_cases h : i < l.length
 ·rw [AE (by omega), CK (d := 0) h]
  simp only [oS]
  rw [DI (by omega) (by omega)]
 ·rw [AC (by omega), lD, List.getElem?_eq_none (by omega)]; rfl
theorem Nb (N : Nat) {l : List Int} (hw : Jf IB l) (i : Nat) : Dm N l (i : Int) = some (l.getD i 0) := by
 unfold Dm
 have h2 := JY hw i
 by_cases h : i < l.length
 ·rw [AE (by omega), CK (d := 0) h]
  simp only [oS]
  rw [DI (by omega) (by omega)]
 ·rw [AC (by omega), lD, List.getElem?_eq_none (by omega)]; rfl
def Un (n b : Int) : Int := Int.tmod b n
def Ue (n b k : Int) : Int := if 0 < Int.tmod k n then Int.tmod (Int.tmod b n + Int.tmod k n) n else -1
theorem Eb {a n : Int} (ha : 0 ≤ a) (hn : 0 < n) : 0 ≤ Int.tmod a n ∧ Int.tmod a n < n := ⟨Int.tmod_nonneg n ha, Int.tmod_lt_of_pos a hn⟩
theorem SG {n b k : Int} (hn : 0 < n) (hb : 0 ≤ b) (hk : 0 ≤ k) : (0 ≤ Un n b ∧ Un n b < n) ∧ (-1 ≤ Ue n b k ∧ Ue n b k < n) ∧ Un n b ≠ Ue n b k := by
 unfold Un Ue
 have h1 := Eb hb hn
 have h2 := Eb hk hn
 split
 ·rename_i h
  have h3 := Eb (a := Int.tmod b n + Int.tmod k n) (by omega) hn
  refine ⟨h1, by omega, fun he => ?_⟩
  generalize Int.tmod b n = x at *
  generalize Int.tmod k n = y at *
  rw [Int.tmod_eq_emod_of_nonneg (by omega)] at he
  by_cases hxy : x + y < n
  ·rw [Int.emod_eq_of_lt (by omega) hxy] at he; omega
  ·have : (x + y) % n = x + y - n := by
    rw [← Int.emod_eq_of_lt (show 0 ≤ x + y - n by omega) (show x + y - n < n by omega)]
    simp
   omega
 ·exact ⟨h1, by omega, by omega⟩
structure V3 (p : Ab) (x : Bj) (m : Ac) : Prop where
 bl : m.fd.length = p.fb.length
 nl : m.fa.length = p.fb.length
 hl : m.fc.length = p.fe.length
 b : ∀ k, k < p.fb.length → m.fd.getD k 0 = Un (p.fb.getD k 0) (x.fd.getD k 0)
 n : ∀ k, k < p.fb.length → m.fa.getD k 0 = Ue (p.fb.getD k 0) (x.fd.getD k 0) (x.fa.getD k 0)
 r : ∀ k, k < p.fe.length → 0 ≤ m.fc.getD k 0 ∧ m.fc.getD k 0 ≤ 255
 s : ∀ k t, p.fe[k]? = some t → Bp t = true → ∀ v, Ct (m.fc.getD k 0) v = (G4 m t.fg.toNat v || (Ct (x.fc.getD k 0) v && decide ((v : Int) < p.fb.getD t.fg.toNat 0)))
 z : ∀ k t, p.fe[k]? = some t → Bp t = false → m.fc.getD k 0 = 0
def RZ (p : Ab) (x : Bj) (bs ns : List Int) (k : Nat) (y : Int) : Prop :=
 ∀ t, p.fe[k]? = some t → Bp t = true → ∀ v, Ct y v = (G4 ⟨bs, ns, []⟩ t.fg.toNat v || (Ct (x.fc.getD k 0) v && decide ((v : Int) < p.fb.getD t.fg.toNat 0)))
def RI (p : Ab) (k : Nat) (y : Int) : Prop := ∀ t, p.fe[k]? = some t → Bp t = false → y = 0
theorem Xn (N : Nat) (p : Ab) (x : Bj) (hN : N ≤ 1000000) (h20 : 20 ≤ N) (hp : B1 p) (hw : Eh x) : ∃ m, DU N p x = some m ∧ V3 p x m ∧ Dg p m := by
 obtain ⟨w1, w2, w3, _⟩ := hw
 have hnv := hp.nv
 have hnt := hp.nt
 unfold DU
 obtain ⟨⟨bs, ns⟩, e, h1, h2, h3, h4⟩ := Fw (A := List Int × List Int) (B5 N p x fun v2 => A5 N p x v2 (fun v15 => some (Ac.mk v2.1 v2.2 v15)) N ([], 0)) (fun a k => (a.1, a.2, k)) p.fb.length
  (fun v2 => A5 N p x v2 (fun v15 => some (Ac.mk v2.1 v2.2 v15)) N ([], 0))
  (fun i a => a.1.length = i ∧ a.2.length = i ∧ (∀ k, k < i → a.1.getD k 0 = Un (p.fb.getD k 0) (x.fd.getD k 0)) ∧ (∀ k, k < i → a.2.getD k 0 = Ue (p.fb.getD k 0) (x.fd.getD k 0) (x.fa.getD k 0)))
  (fun n i a hi ha => by
   obtain ⟨bs, ns⟩ := a
   obtain ⟨h1, h2, h3, h4⟩ := ha
   simp only at h1 h2 h3 h4
   have hv := HQ hp hi
   have hb := JY w1 i
   have hk := JY w2 i
   have m1 := Eb (n := p.fb.getD i 0) hb.1 (by omega)
   have m2 := Eb (n := p.fb.getD i 0) hk.1 (by omega)
   refine ⟨(bs ++ [Un (p.fb.getD i 0) (x.fd.getD i 0)], ns ++ [Ue (p.fb.getD i 0) (x.fd.getD i 0) (x.fa.getD i 0)]), ?_, ?_⟩
   ·rw [B5]
    simp only [A1]
    rw [AE (by omega), CK (d := 0) hi, KZ N w1, KZ N w2]
    simp only [oS]
    rw [As (by omega), AJ (by omega), DI (n := _ + _) (by omega) (by omega)]
    simp only [As (show p.fb.getD i 0 ≠ 0 by omega)]
    have l1 : bs.length + ([Int.tmod (x.fd.getD i 0) (p.fb.getD i 0)] : List Int).length ≤ Do := by rw [h1]; unfold Do; simp; omega
    have l2 : ∀ y : Int, ns.length + ([y] : List Int).length ≤ Do := by intro y; rw [h2]; unfold Do; simp; omega
    simp only [As l1, As (l2 _)]
    unfold Un Ue
    by_cases h : 0 < Int.tmod (x.fa.getD i 0) (p.fb.getD i 0)
    ·rw [AE h, if_pos h]
    ·rw [AC h, if_neg h]
   ·refine ⟨by simp [h1], by simp [h2], Fp (P := fun k y => y = _) h1 h3 rfl, Fp (P := fun k y => y = _) h2 h4 rfl⟩)
  (fun n a _ => by
   rw [B5]
   simp only [A1]
   rw [AC (by omega)]) N 0 ([], []) (Nat.zero_le _) (by omega) ⟨rfl, rfl, fun k hk => by omega, fun k hk => by omega⟩
 simp only at h1 h2 h3 h4
 have e' : B5 N p x (fun v2 => A5 N p x v2 (fun v15 => some (Ac.mk v2.1 v2.2 v15)) N ([], 0)) N ([], [], 0) = _ := e
 rw [e']
 have hrng : ∀ k, k < p.fb.length → (0 ≤ bs.getD k 0 ∧ bs.getD k 0 < p.fb.getD k 0) ∧ (-1 ≤ ns.getD k 0 ∧ ns.getD k 0 < p.fb.getD k 0) ∧ bs.getD k 0 ≠ ns.getD k 0 := by
  intro k hk
  rw [h3 k hk, h4 k hk]
  exact SG (by have := HQ hp hk; omega) (JY w1 k).1 (JY w2 k).1
 obtain ⟨hs, e2, g1, g2, g3, g4⟩ := Fw (A := List Int) (A5 N p x (bs, ns) (fun v15 => some (Ac.mk bs ns v15))) (fun a k => (a, k)) p.fe.length (fun v15 => some (Ac.mk bs ns v15))
  (fun i a => a.length = i ∧ (∀ k, k < i → 0 ≤ a.getD k 0 ∧ a.getD k 0 ≤ 255) ∧
   (∀ k, k < i → RZ p x bs ns k (a.getD k 0)) ∧
   (∀ k, k < i → RI p k (a.getD k 0)))
  (fun n i a hi ha => by
   obtain ⟨k1, k2, k3, k4⟩ := ha
   have hx : p.fe[i]? = some p.fe[i] := by simp [hi]
   generalize p.fe[i] = t at hx
   have ht := Jx (hp.tab t (lM hx))
   have hfr := ht.from0
   have hv := HQ hp (i := t.fg.toNat) (by omega)
   have hr := hrng t.fg.toNat (by omega)
   have hrun := Pk (m := ⟨bs, ns, a⟩) (s := t.fg.toNat) hr.1.1 (show bs.getD _ 0 < 8 by omega) (show ns.getD _ 0 < 8 by omega)
   have hall := QU (n := p.fb.getD t.fg.toNat 0) (by omega) (by omega)
   have hh := JY w3 i
   have e1 := SB hh hall.2
   have e2 := T3 hrun.2 e1.2
   cases hst : Bp t
   ·refine ⟨a ++ [0], ?_, by simp [k1], Fp (P := fun _ y => 0 ≤ y ∧ y ≤ 255) k1 k2 (by omega), Fp (P := RZ p x bs ns) k1 k3 (fun t' ht' hs' => by rw [hx] at ht'; cases ht'; rw [hst] at hs'; cases hs'), Fp (P := RI p) k1 k4 (fun _ _ _ => rfl)⟩
    rw [A5]
    simp only [A1]
    rw [AE (by omega), AZ, hx]
    simp only [oS, E1, hst, Ao]
    rw [As (by rw [k1]; unfold Do; simp; omega), AJ (by omega)]
   ·refine ⟨a ++ [KW .u8 (FB ⟨bs, ns, a⟩ t.fg.toNat) (EM .u8 (x.fc.getD i 0) (wI .u8 (C8 .u8 1 (p.fb.getD t.fg.toNat 0) - 1)))], ?_, by simp [k1], Fp (P := fun _ y => 0 ≤ y ∧ y ≤ 255) k1 k2 e2.2, Fp (P := RZ p x bs ns) k1 k3 (fun t' ht' _ v => by
      rw [hx] at ht'; cases ht'
      rw [e2.1, e1.1, hall.1, hrun.1]; rfl), Fp (P := RI p) k1 k4 (fun t' ht' hs' => by rw [hx] at ht'; cases ht'; rw [hst] at hs'; cases hs')⟩
    rw [A5]
    simp only [A1]
    rw [AE (by omega), AZ, hx]
    simp only [oS, E1, hst, AD]
    rw [D2 (d := 0) hfr.1 hfr.2]
    simp only [oS]
    rw [As (by omega), HP N ⟨bs, ns, a⟩ t.fg hfr.1 (show _ < (bs.length : Int) by omega) (show _ < (ns.length : Int) by omega) hr.1.1, KZ N w3]
    simp only [oS]
    rw [As (by rw [k1]; unfold Do; simp; omega), AJ (by omega), RN hh])
  (fun n a _ => by
   rw [A5]
   simp only [A1]
   rw [AC (by omega)]) N 0 [] (Nat.zero_le _) (by omega) ⟨rfl, fun k hk => by omega, fun k hk => by omega, fun k hk => by omega⟩
 have e2' : A5 N p x (bs, ns) (fun v15 => some (Ac.mk bs ns v15)) N ([], 0) = _ := e2
 refine ⟨⟨bs, ns, hs⟩, e2', ⟨h1, h2, g1, h3, h4, g2, fun k t ht hst => g3 k (lI.1 ht).1 t ht hst, fun k t ht hst => g4 k (lI.1 ht).1 t ht hst⟩, ?_⟩
 refine ⟨⟨h1, h2, g1, fun i hi => (hrng i hi).1, fun i hi => (hrng i hi).2.1, fun i hi => (hrng i hi).2.2⟩, g2, ?_, ?_, fun k t ht hst => g4 k (lI.1 ht).1 t ht hst⟩
 ·intro k t ht hst v hv
  rw [g3 k (lI.1 ht).1 t ht hst v]
  rw [show G4 ⟨bs, ns, []⟩ t.fg.toNat v = true from hv]; rfl
 ·intro k t ht hst v hv
  have hin := (Jx (hp.tab t (lM ht))).from0
  have hr := hrng t.fg.toNat (by omega)
  have hv : Ct (hs.getD k 0) v = true := hv
  rw [g3 k (lI.1 ht).1 t ht hst v] at hv
  simp only [Bool.or_eq_true, Bool.and_eq_true, decide_eq_true_eq, G4] at hv
  rcases hv with (h | h) | h
  ·omega
  ·omega
  ·exact h.2
theorem Ud {l : List (List Bool)} {n m : Int} (h1 : (l.length : Int) = n) (h2 : ∀ row, row ∈ l → (row.length : Int) = m) : sq l n m = true := by
 unfold sq
 simp only [Bool.and_eq_true, decide_eq_true_eq, List.all_eq_true]
 exact ⟨h1, h2⟩
theorem UV {p : Ab} {t : Av} (h : Mz p t) : Dw p t = 0 := by
 have hk := h.kind
 have hf := h.from0
 have ht := h.to0
 unfold Dw
 rw [if_neg, if_neg (by omega)]
 ·simp only [Ud h.okL h.okR]
  rw [if_neg (by simp)]
  by_cases h4 : t.ff = 4
  ·rw [if_pos h4, Ud (h.reL h4) h.reR, if_neg (by simp), h.reD h4]; rfl
  ·rw [if_neg h4, h.reN h4]; rfl
 ·rintro (h1 | h1 | ⟨h1, h2⟩)
  ·omega
  ·omega
  ·have := h.aware h1
   unfold Bp at this
   rw [Bool.or_eq_false_iff, beq_eq_false_iff_ne, beq_eq_false_iff_ne] at this
   omega
theorem RG (N : Nat) (m bad : Int) (diag : Bool) (i : Nat) (acc : List (List Bool)) {_R : Type} (j : List Bool → Option (List (List Bool))) (hN : N ≤ 1000000) (h20 : 20 ≤ N) (hm : 0 ≤ m ∧ m ≤ 6) (hi : i < 6) :
  ∃ row, BQ N m bad diag (acc, (i : Int)) j N ([], 0) = j row ∧ (row.length : Int) = m ∧ (diag = true → (i : Int) < m → row.getD i false = true) := by
 obtain ⟨M, rfl⟩ := Int.eq_ofNat_of_zero_le hm.1
 obtain ⟨row, e, h1, h2⟩ := Fw (A := List Bool) (BQ N (M : Int) bad diag (acc, (i : Int)) j) (fun a k => (a, k)) M j
  (fun k a => a.length = k ∧ ∀ q, q < k → diag = true → q = i → a.getD q false = true)
  (fun n k a hk ha => by
   refine ⟨a ++ [(diag && decide (i = k)) || (Int.tmod (EL .u16 bad ((3 * i + k : Nat) : Int)) 2 == 0)], ?_, by simp [ha.1], Fp (P := fun q y => diag = true → q = i → y = true) ha.1 ha.2 (fun h1 h2 => by simp [h1, h2])⟩
   rw [BQ]
   simp only [A1]
   rw [AE (by omega), AJ (by omega), DI (n := 3 * (i : Int)) (by omega) (by omega), DI (n := 3 * (i : Int) + (k : Int)) (by omega) (by omega)]
   have l1 : ∀ y : Bool, a.length + ([y] : List Bool).length ≤ Do := by intro y; rw [ha.1]; unfold Do; simp; omega
   simp only [As (l1 _), As (show (0 : Int) ≤ 3 * (i : Int) + (k : Int) by omega)]
   have e1 : ((3 * i + k : Nat) : Int) = 3 * (i : Int) + (k : Int) := by omega
   rw [e1]
   have e2 : (((i : Nat) : Int) == ((k : Nat) : Int)) = decide (i = k) := by
    by_cases h : i = k
    ·simp [h]
    ·rw [decide_eq_false h]; exact beq_eq_false_iff_ne.2 (by omega)
   rw [e2]
   cases diag <;> cases decide (i = k) <;> rfl)
  (fun n a _ => by
   rw [BQ]
   simp only [A1]
   rw [AC (by omega)]) N 0 [] (Nat.zero_le _) (by omega) ⟨rfl, fun q hq => by omega⟩
 exact ⟨row, e, by omega, fun hd hlt => h2 i (by omega) hd rfl⟩
theorem Qr (N : Nat) (n m bad : Int) (diag : Bool) (hN : N ≤ 1000000) (h20 : 20 ≤ N) (hn : 0 ≤ n ∧ n ≤ 6) (hm : 0 ≤ m ∧ m ≤ 6) :
  ∃ l, Dl N n m bad diag = some l ∧ (l.length : Int) = n ∧ (∀ row, row ∈ l → (row.length : Int) = m) ∧ (diag = true → n = m → HG l = none) := by
 obtain ⟨M, rfl⟩ := Int.eq_ofNat_of_zero_le hn.1
 unfold Dl
 obtain ⟨l, e, h1, h2⟩ := Fw (A := List (List Bool)) (BP N (M : Int) m bad diag (fun v => some v)) (fun a k => (a, k)) M some
  (fun k a => a.length = k ∧ ∀ q, q < k → (((a.getD q []).length : Nat) : Int) = m ∧ (diag = true → (q : Int) < m → (a.getD q []).getD q false = true))
  (fun n k a hk ha => by
   obtain ⟨row, e, h1, h2⟩ := RG (_R := Unit) N m bad diag k a (fun (v5 : List Bool) =>
    (Dj (a.length + (([v5] : List (List Bool))).length ≤ Do)).bind fun _ =>
    BP N (M : Int) m bad diag (fun v => some v) n (a ++ (([v5] : List (List Bool))), (wI .i64 ((k : Int) + 1)))) hN h20 hm (by omega)
   refine ⟨a ++ [row], ?_, by simp [ha.1], Fp (P := fun q y => ((y.length : Nat) : Int) = m ∧ (diag = true → (q : Int) < m → y.getD q false = true)) ha.1 ha.2 ⟨h1, h2⟩⟩
   rw [BP]
   simp only
   rw [AE (by omega), e, As (by rw [ha.1]; unfold Do; simp; omega), AJ (by omega)])
  (fun n a _ => by
   rw [BP]
   simp only
   rw [AC (by omega)]) N 0 [] (Nat.zero_le _) (by omega) ⟨rfl, fun q hq => by omega⟩
 have key : ∀ q row, l[q]? = some row → l.getD q [] = row := fun q row hq => by rw [lD, hq]; rfl
 refine ⟨l, e, by omega, fun row hr => ?_, fun hd hnm => ?_⟩
 ·obtain ⟨q, hq⟩ := List.mem_iff_getElem?.1 hr
  have := (h2 q (by have := (lI.1 hq).1; omega)).1
  rwa [key q row hq] at this
 ·unfold HG
  refine Eg fun q row hq => ?_
  have hlt := (lI.1 hq).1
  have := (h2 q (by omega)).2 hd (by omega)
  rw [key q row hq] at this
  rw [Nat.zero_add, this]; rfl
structure Sy (p : Ab) : Prop where
 valid : CW p = 0
 nv : p.fb.length ≤ 3
 nt : p.fe.length ≤ 4
 v3 : ∀ v, v ∈ p.fb → v ≤ 3
theorem Rd {p q : Ab} (h : p.fb = q.fb) (t : Av) : Dw p t = Dw q t := by
 unfold Dw; rw [h]
theorem W9 (N : Nat) (d : BE) (hN : N ≤ 1000000) (h20 : 20 ≤ N) (hw : En d) : ∃ p ok, DX N d = some (p, ok) ∧ (ok = true → Sy p) := by
 obtain ⟨w1, w2, w3, w4, _⟩ := hw
 unfold DX
 simp only [A1]
 by_cases k1 : 3 < d.fb.length
 ·rw [AE (by omega)]; exact ⟨_, false, rfl, fun h => by cases h⟩
 by_cases k2 : 4 < d.fr.length
 ·rw [AC (by omega), decide_eq_true (by omega : (4 : Int) < (d.fr.length : Int))]; exact ⟨_, false, rfl, fun h => by cases h⟩
 rw [AC (by omega), decide_eq_false (by omega : ¬ (4 : Int) < (d.fr.length : Int)), Ao]
 obtain ⟨⟨vs, ns, ts⟩, e, h1, h2, h3, h4⟩ := Fw (A := List Int × List Int × List Int) (B4 N d fun v5 => Bh N d v5 (fun v16 => some (Ab.mk v5.1 v5.2.1 v5.2.2 v16, true)) N ([], 0)) (fun a k => (a.1, a.2.1, a.2.2, k)) d.fb.length
  (fun v5 => Bh N d v5 (fun v16 => some (Ab.mk v5.1 v5.2.1 v5.2.2 v16, true)) N ([], 0))
  (fun i a => a.1.length = i ∧ a.2.1.length = i ∧ a.2.2.length = i ∧ (∀ k, k < i → (1 ≤ a.1.getD k 0 ∧ a.1.getD k 0 ≤ 3) ∧ (0 ≤ a.2.1.getD k 0 ∧ a.2.1.getD k 0 < a.1.getD k 0) ∧ (0 ≤ a.2.2.getD k 0 ∧ a.2.2.getD k 0 < a.1.getD k 0)))
  (fun n i a hi ha => by
   obtain ⟨vs, ns, ts⟩ := a
   obtain ⟨h1, h2, h3, h4⟩ := ha
   simp only at h1 h2 h3 h4
   have hv := JY w1 i
   have hb := JY w2 i
   have hk := JY w3 i
   have hm := Eb (n := 3) hv.1 (by omega)
   obtain ⟨v, hvd⟩ : ∃ v, v = 1 + Int.tmod (d.fb.getD i 0) 3 := ⟨_, rfl⟩
   have m1 := Eb (n := v) hb.1 (by omega)
   have m2 := Eb (n := v) hk.1 (by omega)
   refine ⟨(vs ++ [v], ns ++ [Int.tmod (d.fm.getD i 0) v], ts ++ [Int.tmod (d.fo.getD i 0) v]), ?_, by simp [h1], by simp [h2], by simp [h3], ?_⟩
   ·rw [B4]
    simp only
    rw [AE (by omega), CK (d := 0) hi, Nb N w2, Nb N w3]
    simp only [oS]
    rw [DI (n := Int.tmod _ _) (by omega) (by omega), DI (n := 1 + _) (by omega) (by omega), ← hvd, AJ (by omega)]
    have l1 : ∀ y : Int, vs.length + ([y] : List Int).length ≤ Do := by intro y; rw [h1]; unfold Do; simp; omega
    have l2 : ∀ y : Int, ns.length + ([y] : List Int).length ≤ Do := by intro y; rw [h2]; unfold Do; simp; omega
    have l3 : ∀ y : Int, ts.length + ([y] : List Int).length ≤ Do := by intro y; rw [h3]; unfold Do; simp; omega
    simp only [As (l1 _), As (l2 _), As (l3 _), As (show v ≠ 0 by omega)]
   ·intro k hk
    simp only
    by_cases hki : k < i
    ·rw [If (by omega), If (by omega), If (by omega)]; exact h4 k hki
    ·have : k = i := by omega
     subst this
     rw [Id h1.symm, Id h2.symm, Id h3.symm]
     omega)
  (fun n a _ => by
   rw [B4]
   simp only
   rw [AC (by omega)]) N 0 ([], [], []) (Nat.zero_le _) (by omega) ⟨rfl, rfl, rfl, fun k hk => by omega⟩
 simp only at h1 h2 h3 h4
 have e' : B4 N d (fun v5 => Bh N d v5 (fun v16 => some (Ab.mk v5.1 v5.2.1 v5.2.2 v16, true)) N ([], 0)) N ([], [], [], 0) = _ := e
 rw [e']
 have hvs : ∀ v, v ∈ vs → 1 ≤ v ∧ v ≤ 3 := by
  intro v hv
  obtain ⟨q, hq⟩ := List.mem_iff_getElem?.1 hv
  have := (h4 q (by have := (lI.1 hq).1; omega)).1
  rwa [lD, hq] at this
 have fin : ∀ LJ : List Av, LJ.length ≤ 4 → (∀ t, t ∈ LJ → Dw ⟨vs, ns, ts, []⟩ t = 0) → Sy ⟨vs, ns, ts, LJ⟩ := by
  intro LJ ht h
  have hp : B1 ⟨vs, ns, ts, LJ⟩ := ⟨show vs.length ≤ 6 by omega, show LJ.length ≤ 12 by omega, show ns.length = vs.length by omega, show ts.length = vs.length by omega, fun v hv => by have := hvs v hv; omega, fun t ht => by rw [← h t ht]; exact Rd rfl t⟩
  exact ⟨Oy hp fun i hi => by have := h4 i (by have : i < vs.length := hi; omega); simp only; omega, show vs.length ≤ 3 by omega, ht, fun v hv => (hvs v hv).2⟩
 by_cases k3 : vs.length = 0
 ·refine ⟨_, true, ?_, fun _ => fin [] (by simp) (fun t ht => by cases ht)⟩
  obtain ⟨M, rfl⟩ : ∃ M, N = M + 1 := ⟨N - 1, by omega⟩
  rw [Bh]
  simp only [A1]
  rw [k3]
  by_cases k4 : (0 : Int) < (d.fr.length : Int)
  ·rw [AE k4]; rfl
  ·rw [AC k4]; rfl
 obtain ⟨LJ, e2, g1, g2⟩ := Fw (A := List Av) (Bh N d (vs, ns, ts) (fun v16 => some (Ab.mk vs ns ts v16, true))) (fun a k => (a, k)) d.fr.length (fun v16 => some (Ab.mk vs ns ts v16, true))
  (fun i a => a.length = i ∧ ∀ t, t ∈ a → Dw ⟨vs, ns, ts, []⟩ t = 0)
  (fun n i a hi ha => by
   have hx : d.fr[i]? = some d.fr[i] := by simp [hi]
   generalize d.fr[i] = l at hx
   obtain ⟨u1, u2, u3, _, u5, u6, _⟩ := w4 l (lM hx)
   have u1 := HH u1
   have u2 := HH u2
   have u3 := HH u3
   have mk := Eb (n := 4) u1.1 (by omega)
   have hL : (0 : Int) < (vs.length : Int) := by omega
   have mf := Eb (n := (vs.length : Int)) u2.1 hL
   have mt := Eb (n := (vs.length : Int)) u3.1 hL
   rw [Bh]
   simp only [A1]
   rw [AE (by omega), decide_eq_true hL, AD, AZ, hx]
   simp only [oS]
   rw [As (by omega), As (by omega), DI (n := l.fg) (by omega) (by omega), DI (n := l.fj) (by omega) (by omega), DI (n := Int.tmod l.ff 4) (by omega) (by omega), DI (n := 1 + _) (by omega) (by omega), AJ (by omega)]
   simp only [K9, oS]
   rw [D2 (d := 0) mf.1 mf.2, D2 (d := 0) mt.1 mt.2]
   simp only [oS]
   have hA : ∀ q : Int, 0 ≤ q → q < (vs.length : Int) → 1 ≤ vs.getD q.toNat 0 ∧ vs.getD q.toNat 0 ≤ 3 := fun q h0 h1 => (h4 q.toNat (by omega)).1
   have hf := hA _ mf.1 mf.2
   have ht := hA _ mt.1 mt.2
   obtain ⟨A, eA, a1, a2, _⟩ := Qr N (vs.getD (Int.tmod l.fg (vs.length : Int)).toNat 0) (vs.getD (Int.tmod l.fj (vs.length : Int)).toNat 0) l.ft false hN h20 (by omega) (by omega)
   obtain ⟨B, eB, b1, b2, b3⟩ := Qr N (vs.getD (Int.tmod l.fg (vs.length : Int)).toNat 0) (vs.getD (Int.tmod l.fg (vs.length : Int)).toNat 0) l.fu true hN h20 (by omega) (by omega)
   rw [eA, eB]
   simp only [oS]
   have l1 : ∀ y : Av, a.length + ([y] : List Av).length ≤ Do := by intro y; rw [ha.1]; unfold Do; simp; omega
   simp only [As (l1 _)]
   obtain ⟨kd, hkd⟩ : ∃ kd, kd = 1 + Int.tmod l.ff 4 := ⟨_, rfl⟩
   rw [← hkd]
   have fin2 : ∀ (aw : Bool) (re : List (List Bool)), (aw = true → (kd == 3 || kd == 4) = false) → ((kd = 4 → re = B) ∧ (kd ≠ 4 → re = [])) →
     Dw ⟨vs, ns, ts, []⟩ (Av.mk kd (Int.tmod l.fg (vs.length : Int)) (Int.tmod l.fj (vs.length : Int)) aw A re) = 0 := by
    intro aw re haw hre
    refine UV ⟨show 1 ≤ kd ∧ kd ≤ 4 by omega, haw, mf, mt, a1, a2, fun h => by rw [hre.1 h]; exact b1, fun row hr => ?_, fun h => by rw [hre.1 h]; exact b3 rfl rfl, fun h => hre.2 h⟩
    by_cases h4 : kd = 4
    ·simp only at hr; rw [hre.1 h4] at hr; exact b2 row hr
    ·simp only at hr; rw [hre.2 h4] at hr; cases hr
   have app : ∀ t, Dw ⟨vs, ns, ts, []⟩ t = 0 → (a ++ [t]).length = i + 1 ∧ ∀ t', t' ∈ a ++ [t] → Dw ⟨vs, ns, ts, []⟩ t' = 0 := by
    intro t ht
    refine ⟨by simp [ha.1], fun t' ht' => ?_⟩
    rcases List.mem_append.1 ht' with h | h
    ·exact ha.2 t' h
    ·rw [List.mem_singleton.1 h]; exact ht
   by_cases h4 : kd = 4
   ·have e4 : (kd == 4) = true := beq_iff_eq.2 h4
    have hre : (kd = 4 → B = B) ∧ (kd ≠ 4 → B = []) := ⟨fun _ => rfl, fun h => (h h4).elim⟩
    rw [e4]
    simp only [AD, Bool.or_true, Bool.not_true]
    cases l.fp
    ·exact ⟨_, rfl, app _ (fin2 false B (fun h => by cases h) hre)⟩
    ·exact ⟨_, rfl, app _ (fin2 false B (fun h => by cases h) hre)⟩
   ·have e4 : (kd == 4) = false := beq_eq_false_iff_ne.2 h4
    have hre : (kd = 4 → ([] : List (List Bool)) = B) ∧ (kd ≠ 4 → ([] : List (List Bool)) = []) := ⟨fun h => (h4 h).elim, fun _ => rfl⟩
    rw [e4]
    simp only [Ao, Bool.or_false]
    cases l.fp
    ·exact ⟨_, rfl, app _ (fin2 false [] (fun h => by cases h) hre)⟩
    ·cases e3 : kd == 3
     ·exact ⟨_, rfl, app _ (fin2 true [] (fun _ => by rw [e3, e4]; rfl) hre)⟩
     ·exact ⟨_, rfl, app _ (fin2 false [] (fun h => by cases h) hre)⟩)
  (fun n a _ => by
   rw [Bh]
   simp only [A1]
   rw [AC (by omega), Ao]) N 0 [] (Nat.zero_le _) (by omega) ⟨rfl, fun t ht => by cases ht⟩
 exact ⟨_, true, e2, fun _ => fin LJ (by omega) g2⟩
def Hv : List Int → Nat → Nat
 | [], _ => 0
 | _, 0 => 0
 | n :: ns, q + 1 => (if 0 ≤ n then 1 else 0) + Hv ns q
theorem HT (l : List Int) : Hv l 0 = 0 := by cases l <;> rfl
theorem GC : ∀ (l : List Int) (q : Nat), q < l.length → Hv l (q + 1) = Hv l q + if 0 ≤ l.getD q 0 then 1 else 0
 | [], q, h => by simp at h
 | n :: ns, 0, _ => by simp [Hv, HT]
 | n :: ns, q + 1, h => by
  rw [Hv, GC ns q (by simpa using h), Hv, List.getD_cons_succ, Nat.add_assoc]
theorem MA (l : List Int) {a b : Nat} (h : a ≤ b) (hb : b ≤ l.length) : Hv l a ≤ Hv l b := by
 induction b with
 | zero => rw [Nat.le_zero.1 h]; exact Nat.le_refl _
 | succ b ih =>
  by_cases h1 : a = b + 1
  ·rw [h1]; exact Nat.le_refl _
  ·have := ih (by omega) (by omega)
   rw [GC l b (by omega)]; omega
theorem Jo (l : List Int) : ∀ q, q ≤ l.length → Hv l q ≤ q
 | 0, _ => by rw [HT]; exact Nat.le_refl _
 | q + 1, h => by
  have := Jo l q (by omega)
  rw [GC l q h]
  split <;> omega
def KX (l : List Int) (k q : Nat) : Int := if 0 ≤ l.getD q 0 ∧ k.testBit (Hv l q) = true then -1 else l.getD q 0
def SO (l : List Int) (k : Nat) : List Int := (List.range l.length).map (KX l k)
def UP (m : Ac) (k : Nat) : Ac := ⟨m.fd, SO m.fa k, m.fc⟩
def Fb (m : Ac) : List Ac := (List.range (2 ^ Hv m.fa m.fa.length)).map (UP m)
theorem KL (l : List Int) (k : Nat) : (SO l k).length = l.length := by simp [SO]
theorem Ou (l : List Int) (k q : Nat) (h : q < l.length) : (SO l k).getD q 0 = KX l k q := by
 unfold SO; rw [lD, List.getElem?_map, List.getElem?_range h]; rfl
theorem Io {l1 l2 : List Int} (h1 : l1.length = l2.length) (h : ∀ q, q < l1.length → l1.getD q 0 = l2.getD q 0) : l1 = l2 := by
 apply List.ext_getElem h1
 intro q h2 h3
 have := h q h2
 rw [lD, lD, List.getElem?_eq_getElem h2, List.getElem?_eq_getElem h3] at this
 exact this
theorem Qw : ∀ (k : Fin 64) (b : Fin 7), EM .i64 (EL .i64 (k.val : Int) (b.val : Int)) 1 = (if k.val.testBit b.val then 1 else 0) ∧ Int.tmod (EL .i64 (k.val : Int) (b.val : Int)) 2 = (if k.val.testBit b.val then 1 else 0) := by decide +kernel
theorem TW : ∀ n : Fin 7, C8 .i64 1 (n.val : Int) = ((2 ^ n.val : Nat) : Int) := by decide +kernel
structure M8 (m x : Ac) : Prop where
 base : x.fd = m.fd
 held : x.fc = m.fc
 len : x.fa.length = m.fa.length
 next : ∀ q, q < m.fa.length → x.fa.getD q 0 = m.fa.getD q 0 ∨ (0 ≤ m.fa.getD q 0 ∧ x.fa.getD q 0 = -1)
theorem M8.refl (m : Ac) : M8 m m := ⟨rfl, rfl, rfl, fun _ _ => .inl rfl⟩
theorem M8.trans {a b c : Ac} (h1 : M8 a b) (h2 : M8 b c) : M8 a c :=
 ⟨h2.base.trans h1.base, h2.held.trans h1.held, h2.len.trans h1.len, fun q hq => by
  have e1 := h1.next q hq
  have e2 := h2.next q (by rw [h1.len]; exact hq)
  omega⟩
theorem SI (m : Ac) (k : Nat) : M8 m (UP m k) :=
 ⟨rfl, rfl, KL _ _, fun q hq => by
  show (SO m.fa k).getD q 0 = _ ∨ _ ∧ (SO m.fa k).getD q 0 = _
  rw [Ou _ _ _ hq]; unfold KX
  split
  ·rename_i h; exact .inr ⟨h.1, rfl⟩
  ·exact .inl rfl⟩
theorem QO : ∀ (l x : List Int), x.length = l.length → (∀ q, q < l.length → x.getD q 0 = l.getD q 0 ∨ (0 ≤ l.getD q 0 ∧ x.getD q 0 = -1)) → ∃ k, k < 2 ^ Hv l l.length ∧ ∀ q, q < l.length → x.getD q 0 = KX l k q
 | [], x, h, _ => ⟨0, by simp [Hv], fun q hq => by simp at hq⟩
 | n :: ns, [], h, _ => by simp at h
 | n :: ns, y :: ys, h, hq => by
  obtain ⟨k, hk, hk2⟩ := QO ns ys (by simpa using h) (fun q hq' => by have := hq (q + 1) (by simpa using hq'); simpa using this)
  have h0 := hq 0 (by simp)
  simp only [List.getD_cons_zero] at h0
  by_cases hn : 0 ≤ n
  ·refine ⟨2 * k + if y = n then 0 else 1, ?_, ?_⟩
   ·rw [List.length_cons, Hv, if_pos hn, Nat.pow_add]
    split <;> omega
   ·intro q hq'
    cases q with
    | zero =>
     simp only [List.getD_cons_zero, KX, HT]
     by_cases hy : y = n
     ·simp [hy]
     ·rw [if_neg hy, if_pos ⟨hn, by simp⟩]; omega
    | succ q =>
     have := hk2 q (by simpa using hq')
     simp only [List.getD_cons_succ, KX, Hv, if_pos hn] at this ⊢
     rw [this, Nat.add_comm 1, Nat.testBit_succ]
     have : (2 * k + if y = n then 0 else 1) / 2 = k := by split <;> omega
     rw [this]
  ·refine ⟨k, ?_, ?_⟩
   ·rw [List.length_cons, Hv, if_neg hn, Nat.zero_add]; exact hk
   ·intro q hq'
    cases q with
    | zero =>
     simp only [List.getD_cons_zero, KX, HT]
     rw [if_neg (fun h => hn h.1)]
     omega
    | succ q =>
     have := hk2 q (by simpa using hq')
     simp only [List.getD_cons_succ, KX, Hv, if_neg hn, Nat.zero_add] at this ⊢
     exact this
theorem Mm {m x : Ac} : x ∈ Fb m ↔ M8 m x := by
 unfold Fb
 rw [List.mem_map]
 constructor
 ·rintro ⟨k, _, rfl⟩; exact SI m k
 ·intro h
  obtain ⟨k, hk, hq⟩ := QO m.fa x.fa h.len h.next
  refine ⟨k, List.mem_range.2 hk, ?_⟩
  have : SO m.fa k = x.fa := Io (by rw [KL, h.len]) fun q hq' => by
   rw [KL] at hq'
   rw [Ou _ _ _ hq', hq q hq']
  unfold UP
  rw [this, ← h.base, ← h.held]
theorem UK {m x : Ac} (h : M8 m x) {s : Nat} (hs : s < m.fa.length) {v : Nat} (hv : G4 x s v = true) : G4 m s v = true := by
 unfold G4 at hv ⊢
 rw [h.base] at hv
 have := h.next s hs
 simp only [Bool.or_eq_true, decide_eq_true_eq] at hv ⊢
 omega
theorem Uj {p : Ab} {m x : Ac} (hp : B1 p) (hm : Dg p m) (h : M8 m x) : Dg p x := by
 refine ⟨⟨by rw [h.base]; exact hm.base, by rw [h.len]; exact hm.next, by rw [h.held]; exact hm.held, fun i hi => by rw [h.base]; exact hm.b0 i hi, fun i hi => ?_, fun i hi => ?_⟩, fun i hi => by rw [h.held]; exact hm.range i hi, fun i t ht hs v hv => ?_, fun i t ht hs v hv => ?_, fun i t ht hs => by rw [h.held]; exact hm.none i t ht hs⟩
 ·have h1 := hm.n0 i hi
  have h2 := h.next i (by rw [hm.next]; exact hi)
  have h3 := HQ hp hi
  omega
 ·have h1 := hm.ne i hi
  have h2 := h.next i (by rw [hm.next]; exact hi)
  have h3 := hm.b0 i hi
  rw [h.base]
  omega
 ·have hin := (Jx (hp.tab t (lM ht))).from0
  rw [h.held]
  exact hm.low i t ht hs v (UK h (by rw [hm.next]; omega) hv)
 ·rw [h.held] at hv
  exact hm.high i t ht hs v hv
theorem JD (N : Nat) (l : List Int) (h : l.length ≤ Do) : Bq N l = some l := by
 unfold Bq
 rw [As (by simpa using h)]; rfl
theorem Ng (N : Nat) (l : List Int) (h : l.length ≤ Do) : Bu N l = some l := by
 unfold Bu
 rw [As (by simpa using h)]; rfl
theorem HZ {l : List Int} {i q : Nat} {y : Int} (hi : i < l.length) : (l.set i y).getD q 0 = if q = i then y else l.getD q 0 := by
 rw [lD, lD, List.getElem?_set]
 by_cases h : i = q
 ·subst h; simp [hi]
 ·rw [if_neg h, if_neg (fun e => h e.symm)]
theorem T8 {l : List Int} {a b : Nat} (ha : a < l.length) (hb : b < l.length) (h1 : 0 ≤ l.getD a 0) (h2 : 0 ≤ l.getD b 0) (h : Hv l a = Hv l b) : a = b := by
 rcases Nat.lt_trichotomy a b with h3 | h3 | h3
 ·have := MA l (a := a + 1) (b := b) h3 (by omega)
  rw [GC l a ha, if_pos h1] at this; omega
 ·exact h3
 ·have := MA l (a := b + 1) (b := a) h3 (by omega)
  rw [GC l b hb, if_pos h2] at this; omega
structure Sg (l : List Int) (o : List Int) : Prop where
 len : o.length = Hv l l.length
 at_ : ∀ b, b < o.length → ∃ i : Nat, o.getD b 0 = (i : Int) ∧ i < l.length ∧ 0 ≤ l.getD i 0 ∧ Hv l i = b
theorem O3 (N : Nat) (l o : List Int) (k : Nat) (acc : List Ac) (hN : N ≤ 1000000) (h20 : 20 ≤ N) (hl : l.length ≤ 6) (ho : Sg l o) (hk : k < 64) (j : List Int → Option (List Ac × Int)) :
  Cn N o (acc, (k : Int)) j N (l, 0) = j (SO l k) := by
 have hol := Jo l l.length (Nat.le_refl _)
 have hoL := ho.len
 obtain ⟨x, e, h1, h2⟩ := Fw (A := List Int) (Cn N o (acc, (k : Int)) j) (fun a k => (a, k)) o.length j
  (fun b a => a.length = l.length ∧ ∀ q, q < l.length → a.getD q 0 = if 0 ≤ l.getD q 0 ∧ Hv l q < b ∧ k.testBit (Hv l q) = true then -1 else l.getD q 0)
  (fun n b a hb ha => by
   obtain ⟨i, hi1, hi2, hi3, hi4⟩ := ho.at_ b hb
   have hbit := Qw ⟨k, hk⟩ ⟨b, by omega⟩
   rw [Cn]
   simp only [A1]
   rw [AE (by omega), CK (d := 0) hb]
   simp only [oS]
   rw [As (by omega), hi1, hbit.1, CK (d := 0) (show i < a.length by rw [ha.1]; exact hi2), AJ (by omega)]
   simp only [oS, Int.toNat_natCast]
   cases hkb : k.testBit b
   ·refine ⟨a, rfl, ha.1, fun q hq => ?_⟩
    rw [ha.2 q hq]
    by_cases hqb : Hv l q = b
    ·rw [hqb, hkb]; simp
    ·by_cases h3 : Hv l q < b
     ·have : Hv l q < b + 1 := by omega
      simp [h3, this]
     ·have : ¬ Hv l q < b + 1 := by omega
      simp [h3, this]
   ·refine ⟨a.set i (-1), rfl, by simp [ha.1], fun q hq => ?_⟩
    rw [HZ (by rw [ha.1]; exact hi2), ha.2 q hq]
    by_cases hqi : q = i
    ·subst hqi
     rw [if_pos rfl, if_pos ⟨hi3, by omega, by rw [hi4]; exact hkb⟩]
    ·rw [if_neg hqi]
     by_cases h0 : 0 ≤ l.getD q 0
     ·have hne : Hv l q ≠ b := fun h => hqi (T8 hq hi2 h0 hi3 (by omega))
      by_cases h3 : Hv l q < b
      ·have : Hv l q < b + 1 := by omega
       simp [h3, this]
      ·have : ¬ Hv l q < b + 1 := by omega
       simp [h3, this]
     ·rw [if_neg (fun h => h0 h.1), if_neg (fun h => h0 h.1)])
  (fun n a _ => by
   rw [Cn]
   simp only [A1]
   rw [AC (by omega)]) N 0 l (Nat.zero_le _) (by omega) ⟨rfl, fun q hq => by simp⟩
 have e' : Cn N o (acc, (k : Int)) j N (l, 0) = j x := e
 rw [e']
 congr 1
 refine Io (by rw [KL, h1]) fun q hq => ?_
 rw [h1] at hq
 rw [h2 q hq, Ou _ _ _ hq, KX]
 by_cases h0 : 0 ≤ l.getD q 0
 ·have h3 := MA l (a := q + 1) (b := l.length) hq (Nat.le_refl _)
  rw [GC l q hq, if_pos h0] at h3
  have : Hv l q < o.length := by omega
  simp [this]
 ·rw [if_neg (fun h => h0 h.1), if_neg (fun h => h0 h.1)]
theorem Ps (N : Nat) (m : Ac) (k : Nat) (acc : List Ac) (hN : N ≤ 1000000) (h20 : 20 ≤ N) (hl : m.fa.length ≤ 6) (hk : k < 64) (j : List Int → Option (List Ac)) :
  Bv N m (acc, (k : Int)) j N (m.fa, 0, 0) = j (SO m.fa k) := by
 obtain ⟨⟨x, pl⟩, e, h1, h2, h3⟩ := Fw (A := List Int × Nat) (Bv N m (acc, (k : Int)) j) (fun a k => (a.1, (a.2 : Int), k)) m.fa.length (fun a => j a.1)
  (fun i a => a.2 = Hv m.fa i ∧ a.1.length = m.fa.length ∧ ∀ q, q < m.fa.length → a.1.getD q 0 = if q < i then KX m.fa k q else m.fa.getD q 0)
  (fun n i a hi ha => by
   obtain ⟨a, pl⟩ := a
   obtain ⟨a1, a2, a3⟩ := ha
   simp only at a1 a2 a3
   have hple := Jo m.fa i (by omega)
   have hbit := Qw ⟨k, hk⟩ ⟨pl, by omega⟩
   have hs := GC m.fa i hi
   rw [Bv]
   simp only [A1]
   rw [AE (by omega), CK (d := 0) hi]
   simp only [oS]
   rw [AJ (by omega)]
   by_cases h0 : m.fa.getD i 0 < 0
   ·rw [AE h0]
    refine ⟨(a, pl), rfl, by simp only; rw [hs, if_neg (by omega), a1]; rfl, a2, fun q hq => ?_⟩
    simp only
    rw [a3 q hq]
    by_cases hqi : q = i
    ·subst hqi
     rw [if_neg (by omega), if_pos (by omega), KX, if_neg (by omega)]
    ·by_cases h4 : q < i
     ·rw [if_pos h4, if_pos (by omega)]
     ·rw [if_neg h4, if_neg (by omega)]
   ·rw [AC h0, As (by omega), CK (d := 0) (show i < a.length by omega), hbit.2, AJ (by omega)]
    simp only [oS, Int.toNat_natCast]
    cases hkb : k.testBit pl
    ·refine ⟨(a, pl + 1), rfl, by simp only; rw [hs, if_pos (by omega), a1], a2, fun q hq => ?_⟩
     simp only
     rw [a3 q hq]
     by_cases hqi : q = i
     ·subst hqi
      rw [if_neg (by omega), if_pos (by omega), KX, ← a1, hkb]; simp
     ·by_cases h4 : q < i
      ·rw [if_pos h4, if_pos (by omega)]
      ·rw [if_neg h4, if_neg (by omega)]
    ·refine ⟨(a.set i (-1), pl + 1), rfl, by simp only; rw [hs, if_pos (by omega), a1], by simp [a2], fun q hq => ?_⟩
     simp only
     rw [HZ (by omega), a3 q hq]
     by_cases hqi : q = i
     ·subst hqi
      rw [if_pos rfl, if_pos (by omega), KX, ← a1, if_pos ⟨by omega, hkb⟩]
     ·rw [if_neg hqi]
      by_cases h4 : q < i
      ·rw [if_pos h4, if_pos (by omega)]
      ·rw [if_neg h4, if_neg (by omega)])
  (fun n a _ => by
   rw [Bv]
   simp only [A1]
   rw [AC (by omega)]) N 0 (m.fa, 0) (Nat.zero_le _) (by omega) ⟨(HT _).symm, rfl, fun q hq => by simp⟩
 have e' : Bv N m (acc, (k : Int)) j N (m.fa, 0, 0) = j x := e
 rw [e']
 congr 1
 simp only at h2 h3
 refine Io (by rw [KL, h2]) fun q hq => ?_
 rw [h2] at hq
 rw [h3 q hq, if_pos hq, Ou _ _ _ hq]
theorem SJ (N : Nat) (m : Ac) (hN : N ≤ 1000000) (h20 : 20 ≤ N) (hl : m.fa.length ≤ 6) (j : List Int → Option (List Ac × Int)) :
  ∃ o, C1 N m j N ([], 0) = j o ∧ Sg m.fa o := by
 obtain ⟨o, e, h1, h2⟩ := Fw (A := List Int) (C1 N m j) (fun a k => (a, k)) m.fa.length j
  (fun i o => o.length = Hv m.fa i ∧ ∀ b, b < o.length → ∃ q : Nat, o.getD b 0 = (q : Int) ∧ q < m.fa.length ∧ 0 ≤ m.fa.getD q 0 ∧ Hv m.fa q = b)
  (fun n i o hi ho => by
   have hple := Jo m.fa i (by omega)
   have hs := GC m.fa i hi
   rw [C1]
   simp only [A1]
   rw [AE (by omega), CK (d := 0) hi]
   simp only [oS]
   rw [AJ (by omega)]
   by_cases h0 : 0 ≤ m.fa.getD i 0
   ·rw [AE h0, As (by rw [ho.1]; unfold Do; simp; omega)]
    refine ⟨o ++ [(i : Int)], rfl, by rw [hs, if_pos h0, ← ho.1]; simp, ?_⟩
    rw [List.length_append]
    exact Fp (P := fun b y => ∃ q : Nat, y = (q : Int) ∧ q < m.fa.length ∧ 0 ≤ m.fa.getD q 0 ∧ Hv m.fa q = b) rfl ho.2 ⟨i, rfl, hi, h0, ho.1.symm⟩
   ·rw [AC h0]
    exact ⟨o, rfl, by rw [hs, if_neg h0, ho.1]; rfl, ho.2⟩)
  (fun n a _ => by
   rw [C1]
   simp only [A1]
   rw [AC (by omega)]) N 0 [] (Nat.zero_le _) (by omega) ⟨(HT _).symm, fun b hb => by simp at hb⟩
 exact ⟨o, e, h1, h2⟩
theorem J8 {n : Nat} (h : n ≤ 6) : 2 ^ n ≤ 64 := Nat.pow_le_pow_right (n := 2) (by omega) h
theorem LP {n : Nat} (h : n ≤ 6) : C8 .i64 1 (n : Int) = ((2 ^ n : Nat) : Int) := TW ⟨n, by omega⟩
theorem I7 {β : Type} (f : Nat → β) (n : Nat) : (List.range (n + 1)).map f = (List.range n).map f ++ [f n] := by
 rw [List.range_succ, List.map_append]; rfl
theorem M3 (N : Nat) (p : Ab) (m : Ac) (hN : N ≤ 1000000) (h20 : 100 ≤ N) (hw : Jf IB m.fc) (hv : Ey p m = 0) : FK N p m = some (Fb m, 0) := by
 obtain ⟨hp, hm⟩ := Kp hw hv
 have hnv := hp.nv
 have hnt := hp.nt
 have hl : m.fa.length ≤ 6 := by rw [hm.next]; omega
 unfold FK
 rw [KI N p m hN (by omega) hw, hv]
 simp only [oS, bne_self_eq_false, Ao]
 obtain ⟨o, e, ho⟩ := SJ N m hN (by omega) hl (fun (v4 : (List Int)) =>
   (Dj (0 ≤ (v4.length : Int))).bind fun _ =>
   Cp N m v4 (fun (v12 : (List Ac)) =>
    some (v12, 0)) N (([] : List Ac), 0))
 rw [e, As (by omega)]
 have hoL := ho.len
 have hol := Jo m.fa m.fa.length (Nat.le_refl _)
 have hpow := J8 (show Hv m.fa m.fa.length ≤ 6 by omega)
 obtain ⟨a, e2, h1⟩ := Fw (A := List Ac) (Cp N m o fun v12 => some (v12, 0)) (fun a k => (a, k)) (2 ^ Hv m.fa m.fa.length) (fun v12 => some (v12, 0))
  (fun i a => a = (List.range i).map (UP m))
  (fun n i a hi ha => by
   refine ⟨a ++ [UP m i], ?_, by rw [I7, ha]⟩
   have hal : a.length = i := by rw [ha]; simp
   rw [Cp]
   rw [hoL, LP (n := Hv m.fa m.fa.length) (by omega), AE (by omega), JD N m.fd (by have := hm.base; unfold Do; omega), JD N m.fa (by unfold Do; omega), Ng N m.fc (by have := hm.held; unfold Do; omega)]
   simp only [oS]
   rw [O3 N m.fa o i a hN (by omega) hl ho (by omega), As (by rw [hal]; unfold Do; simp; omega), AJ (by omega)]
   rfl)
  (fun n a _ => by
   rw [Cp]
   rw [hoL, LP (n := Hv m.fa m.fa.length) (by omega), AC (by simp)]) N 0 [] (Nat.zero_le _) (by omega) rfl
 have e2' : Cp N m o (fun v12 => some (v12, 0)) N ([], 0) = some (a, 0) := e2
 rw [e2', h1]; rfl
theorem P6 (N : Nat) (m : Ac) (h1 : m.fd.length ≤ Do) (h2 : m.fa.length ≤ Do) (h3 : m.fc.length ≤ Do) : DA N m = some m := by
 unfold DA
 rw [As (by simpa using h1), As (by simpa using h2), As (by simpa using h3)]; rfl
theorem Ql (N : Nat) (m : Ac) (hN : N ≤ 1000000) (h20 : 100 ≤ N) (h1 : m.fd.length ≤ 100) (hl : m.fa.length ≤ 6) (h3 : m.fc.length ≤ 100) : DF N m = some (Fb m) := by
 unfold DF
 obtain ⟨c, e, hc⟩ := Fw (A := Nat) (BY N m (fun (v2 : Int) =>
  Bi N m v2 (fun (v8 : (List Ac)) => some v8) N (([] : List Ac), 0))) (fun a k => ((a : Int), k)) m.fa.length (fun a => Bi N m (a : Int) (fun (v8 : (List Ac)) => some v8) N (([] : List Ac), 0))
  (fun i a => a = Hv m.fa i)
  (fun n i a hi ha => by
   have hple := Jo m.fa i (by omega)
   have hs := GC m.fa i hi
   rw [BY]
   simp only [A1]
   rw [AE (by omega), CK (d := 0) hi]
   simp only [oS]
   rw [AJ (by omega), AJ (by omega)]
   by_cases h0 : 0 ≤ m.fa.getD i 0
   ·rw [AE h0]
    exact ⟨a + 1, rfl, by rw [hs, if_pos h0, ha]⟩
   ·rw [AC h0]
    exact ⟨a, rfl, by rw [hs, if_neg h0, ha]; rfl⟩)
  (fun n a _ => by
   rw [BY]
   simp only [A1]
   rw [AC (by omega)]) N 0 0 (Nat.zero_le _) (by omega) (HT _).symm
 have e' : BY N m (fun (v2 : Int) => Bi N m v2 (fun (v8 : (List Ac)) => some v8) N (([] : List Ac), 0)) N (0, 0) = _ := e
 rw [e', hc]
 have hol := Jo m.fa m.fa.length (Nat.le_refl _)
 have hpow := J8 (show Hv m.fa m.fa.length ≤ 6 by omega)
 obtain ⟨a, e2, h1⟩ := Fw (A := List Ac) (Bi N m (Hv m.fa m.fa.length : Int) fun v8 => some v8) (fun a k => (a, k)) (2 ^ Hv m.fa m.fa.length) some
  (fun i a => a = (List.range i).map (UP m))
  (fun n i a hi ha => by
   refine ⟨a ++ [UP m i], ?_, by rw [I7, ha]⟩
   have hal : a.length = i := by rw [ha]; simp
   rw [Bi]
   rw [As (by omega), LP (n := Hv m.fa m.fa.length) (by omega), AE (by omega), P6 N m (by unfold Do; omega) (by unfold Do; omega) (by unfold Do; omega)]
   simp only [oS]
   rw [Ps N m i a hN (by omega) hl (by omega), As (by rw [hal]; unfold Do; simp; omega), AJ (by omega)]
   rfl)
  (fun n a _ => by
   rw [Bi]
   rw [As (by omega), LP (n := Hv m.fa m.fa.length) (by omega), AC (by simp)]) N 0 [] (Nat.zero_le _) (by omega) rfl
 have e2' : Bi N m (Hv m.fa m.fa.length : Int) (fun v8 => some v8) N ([], 0) = some a := e2
 rw [e2', h1]; rfl
theorem PW (N : Nat) (p : Ab) (m : Ac) (hN : N ≤ 1000000) (h20 : 100 ≤ N) (hp : B1 p) (hm : Dg p m) : DF N m = some (Fb m) := by
 have := hp.nv
 have := hp.nt
 exact Ql N m hN h20 (by rw [hm.base]; omega) (by rw [hm.next]; omega) (by rw [hm.held]; omega)
theorem NH {p : Ab} {m : Ac} (hm : Dg p m) : Jf IB m.fc := by
 intro x hx
 obtain ⟨q, hq⟩ := List.mem_iff_getElem?.1 hx
 have h1 := (lI.1 hq).1
 have := hm.range q (by rw [← hm.held]; exact h1)
 rw [lD, hq] at this
 unfold IB
 simp only [Option.getD_some] at this
 simp [Lit.wf, IntKind.min, IntKind.max, IntKind.signed, IntKind.bits]
 omega
def Kd (p : Ab) (x : Ac) : Option (Ac × Aj) := match Gd p x with
 | [] => none
 | c :: _ => some (x, c)
def Me (p : Ab) (m : Ac) : Option (Ac × Aj) := C9 (fun _ x => Kd p x) 0 (Fb m)
def EZ : Ac := ⟨[], [], []⟩
def R1 : Aj := ⟨0, 0, 0⟩
def P8 (p : Ab) (m : Ac) : Ac × Aj × Int := match Me p m with
 | some (x, c) => (x, c, 0)
 | none => (EZ, R1, 15)
def FW (p : Ab) (m : Ac) : Bool := (Me p m).isNone
theorem MF {m : Ac} (hl : m.fa.length ≤ 6) : (Fb m).length ≤ 64 := by
 unfold Fb
 have hol := Jo m.fa m.fa.length (Nat.le_refl _)
 have hpow := J8 (show Hv m.fa m.fa.length ≤ 6 by omega)
 simpa using hpow
theorem Mx {α R R' : Type} (f : Nat → α → Option R) (g : R → R') : ∀ (i : Nat) (xs : List α), C9 (fun i x => (f i x).map g) i xs = (C9 f i xs).map g
 | _, [] => rfl
 | i, x :: xs => by
  rw [Gj, Gj]
  cases f i x
  ·exact Mx f g (i + 1) xs
  ·rfl
theorem Oa (N : Nat) (p : Ab) (m : Ac) (hN : N ≤ 1000000) (h20 : 100 ≤ N) (hw : Jf IB m.fc) (hv : Ey p m = 0) : EW N p m = some (P8 p m) := by
 obtain ⟨hp, hm⟩ := Kp hw hv
 have hnv := hp.nv
 unfold EW
 rw [M3 N p m hN h20 hw hv]
 simp only [oS, bne_self_eq_false, Ao]
 have hal := MF (m := m) (by rw [hm.next]; omega)
 have := Cr (DZ N p (Fb m, 0) fun _ => some (EZ, R1, 15)) (Fb m) (some (EZ, R1, 15)) (fun _ x => (Kd p x).map fun y => (y.1, y.2, 0))
  (fun n i x hx => by
   have hi := (lI.1 hx).1
   have hx2 := Uj hp hm (Mm.1 (lM hx))
   rw [DZ, AE (by simp only; omega)]
   simp only [AZ, hx, oS]
   rw [Lg N p x hN (by omega) hp hx2, AJ (by omega)]
   simp only [oS, Kd]
   cases Gd p x with
   | nil => rfl
   | cons c cs => rw [AE (by simp only [List.length_cons]; omega)]; rfl)
  (fun n => by rw [DZ, AC (by simp)]) N 0 (Nat.zero_le _) (by omega)
 rw [List.drop_zero, Mx] at this
 exact this.trans (by
  unfold P8 Me
  cases C9 (fun _ x => Kd p x) 0 (Fb m) <;> rfl)
theorem J0 (N : Nat) (p : Ab) (m : Ac) (hN : N ≤ 1000000) (h20 : 100 ≤ N) (hw : Jf IB m.fc) (hv : Ey p m = 0) : Et N p m = some (FW p m, 0) := by
 unfold Et
 rw [Oa N p m hN h20 hw hv]
 unfold FW P8
 cases Me p m <;> rfl
theorem PC (N : Nat) (p : Ab) (m : Ac) (hN : N ≤ 1000000) (h20 : 100 ≤ N) (hp : B1 p) (hm : Dg p m) : Dz N p m = some (Gd p m).isEmpty := by
 unfold Dz
 rw [KY N p m hN (by omega) hp hm]
 simp only [oS]
 cases Gd p m with
 | nil => rfl
 | cons c cs =>
  rw [beq_eq_false_iff_ne.2 (by simp only [List.length_cons]; omega)]; rfl
theorem JV (N : Nat) (p : Ab) (m : Ac) (hN : N ≤ 1000000) (h20 : 100 ≤ N) (hp : B1 p) (hm : Dg p m) : Cq N p m = some (FW p m) := by
 have hnv := hp.nv
 unfold Cq
 rw [PW N p m hN h20 hp hm]
 simp only [oS]
 have hal := MF (m := m) (by rw [hm.next]; omega)
 have := Cr (BG N p (Fb m) fun _ => some true) (Fb m) (some true) (fun _ x => (Kd p x).map fun _ => false)
  (fun n i x hx => by
   have hi := (lI.1 hx).1
   have hx2 := Uj hp hm (Mm.1 (lM hx))
   rw [BG, AE (by omega)]
   simp only [AZ, hx, oS]
   rw [PC N p x hN h20 hp hx2, AJ (by omega)]
   simp only [oS, Kd]
   cases Gd p x with
   | nil => rfl
   | cons c cs => rfl)
  (fun n => by rw [BG, AC (by simp)]) N 0 (Nat.zero_le _) (by omega)
 rw [List.drop_zero, Mx] at this
 refine Eq.trans this ?_
 unfold FW Me
 cases C9 (fun _ x => Kd p x) 0 (Fb m) <;> rfl
theorem PJ {N : Nat} {a b : Ac} (hN : N ≤ 1000000) (h1 : a.fd.length < N) (h2 : a.fa.length < N) (h3 : a.fc.length < N) (h4 : b.fc.length < N) (wa : Jf IB a.fc) (wb : Jf IB b.fc) : Dc N a b = some (Ov a b) := by
 unfold Dc
 rw [Mu h1 hN, Mu h2 hN, LA h3 hN wa, LA h4 hN wb]
 simp only [oS]
 rw [Mu h3 hN]
 unfold Ov Se
 by_cases h1 : Ff a.fd b.fd = 0
 ·simp only [h1, Se]
  by_cases h2 : Ff a.fa b.fa = 0
  ·simp only [h2]
   by_cases h3 : Ff a.fc b.fc = 0 <;> simp [h3]
  ·have : (Ff a.fa b.fa != 0) = true := by simpa using h2
   simp [h2, this]
 ·have : (Ff a.fd b.fd != 0) = true := by simpa using h1
  simp [h1, this]
theorem Rz (d : BE) (x : Bj) (wd : En d) (wx : Eh x) :
  ∃ p ok, DX 1000 d = some (p, ok) ∧ (ok = true → Sy p ∧ B1 p ∧ ∃ m, DU 1000 p x = some m ∧ V3 p x m ∧ Dg p m ∧ Ey p m = 0 ∧ Jf IB m.fc) := by
 obtain ⟨p, ok, e, h⟩ := W9 1000 d (by omega) (by omega) wd
 refine ⟨p, ok, e, fun hk => ?_⟩
 have hg := h hk
 have hp := (Gb hg.valid).1
 obtain ⟨m, e2, hi, ho⟩ := Xn 1000 p x (by omega) (by omega) hp wx
 exact ⟨hg, hp, m, e2, hi, ho, Ip hg.valid ho, NH ho⟩
open Go
structure XO (x y : Av) : Prop where
 k : y.ff = x.ff
 f : y.fg = x.fg
 t : y.fj = x.fj
 a : y.fp = x.fp
 r : y.fk = x.fk
 l : y.fq.length = x.fq.length
 o : ∀ (u : Nat) (row : List Bool), x.fq[u]? = some row → ∃ row', y.fq[u]? = some row' ∧ row'.length = row.length ∧ ∀ v : Nat, row[v]? = some true → row'[v]? = some true
theorem XO.st {x y : Av} (h : XO x y) : Bp y = Bp x := by unfold Bp; rw [h.k]
structure Vx (p : Ab) (m x : Ac) : Prop where
 base : m.fd = x.fd
 next : m.fa = x.fa
 held : ∀ i, i < p.fe.length → ∀ v, Ct (m.fc.getD i 0) v = true → Ct (x.fc.getD i 0) v = true
theorem Vx.refl (p : Ab) (m : Ac) : Vx p m m := ⟨rfl, rfl, fun _ _ _ h => h⟩
theorem Vx.trans {p : Ab} {a b c : Ac} (h : Vx p a b) (g : Vx p b c) : Vx p a c := ⟨h.base.trans g.base, h.next.trans g.next, fun i hi v hv => g.held i hi v (h.held i hi v hv)⟩
theorem Lp (x : BitVec 8) : wI .u8 (x.toNat : Int) = (x.toNat : Int) := by
 have := x.isLt
 simp [wI, IntKind.signed, IntKind.bits]
 omega
theorem PA (x : BitVec 8) : 0 ≤ (x.toNat : Int) ∧ (x.toNat : Int) ≤ 255 := by
 have := x.isLt
 omega
theorem Sd (x : BitVec 8) (v : Nat) : Ct (x.toNat : Int) v = x.getLsbD v := by
 unfold Ct; rw [Int.toNat_natCast]; rfl
theorem Oh {a : Int} (ha : 0 ≤ a ∧ a ≤ 255) (v : Nat) : (BitVec.ofInt 8 a).getLsbD v = Ct a v := by
 obtain ⟨a, rfl⟩ := Int.eq_ofNat_of_zero_le ha.1
 unfold BitVec.getLsbD Ct
 rw [QN (by omega), Int.toNat_natCast]
theorem P5 {a b : Int} (ha : 0 ≤ a ∧ a ≤ 255) (hb : 0 ≤ b ∧ b ≤ 255) : (∀ v, Ct (CC .u8 a b) v = (Ct a v && !Ct b v)) ∧ 0 ≤ CC .u8 a b ∧ CC .u8 a b ≤ 255 := by
 have e : CC .u8 a b = ((BitVec.ofInt 8 a &&& ~~~BitVec.ofInt 8 b).toNat : Int) := Lp (BitVec.ofInt 8 a &&& ~~~BitVec.ofInt 8 b)
 rw [e]
 refine ⟨fun v => ?_, PA _⟩
 rw [Sd, BitVec.getLsbD_and, BitVec.getLsbD_not, Oh ha, Oh hb]
 by_cases h : v < 8
 ·simp [h]
 ·rw [JB ha.2 (by omega)]; simp
theorem P2 {a b : Int} (ha : 0 ≤ a ∧ a ≤ 255) (hb : 0 ≤ b ∧ b ≤ 255) : (∀ v, Ct (KW .u8 a b) v = (Ct a v || Ct b v)) ∧ 0 ≤ KW .u8 a b ∧ KW .u8 a b ≤ 255 := by
 have e : KW .u8 a b = ((BitVec.ofInt 8 a ||| BitVec.ofInt 8 b).toNat : Int) := Lp (BitVec.ofInt 8 a ||| BitVec.ofInt 8 b)
 rw [e]
 refine ⟨fun v => ?_, PA _⟩
 rw [Sd, BitVec.getLsbD_or, Oh ha, Oh hb]
theorem TR {b : Nat} (hb : b < 8) : (∀ v, Ct (C8 .u8 1 (b : Int)) v = decide (b = v)) ∧ 0 ≤ C8 .u8 1 (b : Int) ∧ C8 .u8 1 (b : Int) ≤ 255 := by
 refine ⟨fun v => ?_, (LT ⟨b, hb⟩ ⟨0, by omega⟩).2⟩
 by_cases h : v < 8
 ·exact (LT ⟨b, hb⟩ ⟨v, h⟩).1
 ·rw [JB (LT ⟨b, hb⟩ ⟨0, by omega⟩).2.2 (by omega)]
  symm; apply decide_eq_false; omega
theorem Rv (N : Nat) {s : Int} {v : Nat} (hs : 0 ≤ s ∧ s ≤ 255) (hv : v < 8) : BU N s (v : Int) = some (Ct s v) := by
 unfold BU
 rw [As (by omega), N6 hs.1 hs.2 hv]
 cases Ct s v <;> rfl
def Uw (v : Nat) : Nat := ((List.range 8).find? fun u => v.testBit u).getD 8
def V7 (v : Nat) : Nat := ((List.range 8).filter fun u => v.testBit u).length
theorem UM : ∀ v : Fin 256, Cm 0 (v.val : Int) = some (Uw v.val : Int) := by decide +kernel
theorem WA (N : Nat) {v : Nat} (h : v < 256) : Cm N (v : Int) = some (Uw v : Int) := UM ⟨v, h⟩
theorem Tk : ∀ v : Fin 256, v.val ≠ 0 → Uw v.val < 8 ∧ Ct (v.val : Int) (Uw v.val) = true ∧ 0 ≤ EM .u8 (v.val : Int) (wI .u8 ((v.val : Int) - 1)) ∧ EM .u8 (v.val : Int) (wI .u8 ((v.val : Int) - 1)) ≤ 255 ∧
  V7 (EM .u8 (v.val : Int) (wI .u8 ((v.val : Int) - 1))).toNat + 1 = V7 v.val ∧
  ∀ u : Fin 8, Ct (EM .u8 (v.val : Int) (wI .u8 ((v.val : Int) - 1))) u.val = (Ct (v.val : Int) u.val && decide (u.val ≠ Uw v.val)) := by decide +kernel
theorem Ww (v : Nat) : V7 v ≤ 8 := by
 have := List.length_filter_le (fun u => v.testBit u) (List.range 8)
 simpa [V7] using this
theorem PD (N : Nat) (t : Av) (b : Int) (rw_ : Nat → Bool) : ∀ (k n v : Nat), V7 v ≤ k → k < n → v < 256 →
  (∀ u, u < 8 → Ct (v : Int) u = true → ∃ row, BD t.fk (u : Int) = some row ∧ BD row b = some (rw_ u)) →
  CP N t b (fun _ => some true) n (v : Int) = some ((List.range 8).all fun u => !Ct (v : Int) u || rw_ u)
 | k, 0, v, _, h, _, _ => by omega
 | k, n + 1, v, hk, hn, hv, hr => by
  rw [CP]
  by_cases h0 : v = 0
  ·subst h0
   have : (((0 : Nat) : Int) != 0) = false := rfl
   rw [this, Ao]
   congr 1
  ·have h1 : ((v : Int) != 0) = true := bne_iff_ne.2 (by omega)
   obtain ⟨l1, l2, l3, l4, l5, l6⟩ := Tk ⟨v, hv⟩ h0
   simp only at l1 l2 l3 l4 l5 l6
   obtain ⟨row, e1, e2⟩ := hr _ l1 l2
   rw [h1, AD, WA N hv]
   simp only [oS, e1, e2]
   obtain ⟨w, hw⟩ := Int.eq_ofNat_of_zero_le l3
   rw [hw] at l4 l5 l6 ⊢
   rw [Int.toNat_natCast] at l5
   cases hq : rw_ (Uw v)
   ·rw [Bool.not_false, AD]
    congr 1
    symm
    rw [List.all_eq_false]
    exact ⟨Uw v, by simpa using l1, by rw [l2, hq]; simp⟩
   ·rw [Bool.not_true, Ao]
    match k, hk with
    | 0, hk => exfalso; omega
    | k + 1, hk =>
    rw [PD N t b rw_ k n w (by omega) (by omega) (by omega) (fun u hu hb => hr u hu (by have := l6 ⟨u, hu⟩; simp only at this; rw [hb] at this; simpa using (Bool.and_eq_true_iff.1 this.symm).1))]
    congr 1
    rw [Bool.eq_iff_iff, List.all_eq_true, List.all_eq_true]
    refine ⟨fun h u hu => ?_, fun h u hu => ?_⟩
    ·have hu8 : u < 8 := by simpa using hu
     have h3 := h u hu
     have h4 := l6 ⟨u, hu8⟩
     simp only at h4
     rw [h4] at h3
     by_cases e : u = Uw v
     ·rw [e, hq]; simp
     ·simpa [e] using h3
    ·have hu8 : u < 8 := by simpa using hu
     have h3 := h u hu
     have h4 := l6 ⟨u, hu8⟩
     simp only at h4
     rw [h4]
     cases hb : Ct (v : Int) u
     ·simp
     ·rw [hb] at h3; simp at h3; simp [h3]
theorem O4 (N : Nat) (m : Ac) (s : Int) (h0 : 0 ≤ s) (h1 : s < (m.fd.length : Int)) (h2 : s < (m.fa.length : Int)) (hb : 0 ≤ m.fd.getD s.toNat 0) : EY N m s = some (FB m s.toNat) := by
 unfold EY FB
 rw [D2 (d := 0) h0 h1, D2 (d := 0) h0 h2]
 simp only [oS, Ba]
 rw [show Dj (0 ≤ m.fd.getD s.toNat 0) = some () from by unfold Dj; rw [if_pos hb]]
 simp only [oS]
 by_cases h : 0 ≤ m.fa.getD s.toNat 0
 ·rw [AE h, if_pos h, show Dj (0 ≤ m.fa.getD s.toNat 0) = some () from by unfold Dj; rw [if_pos h]]; rfl
 ·rw [AC h, if_neg h]
theorem Jq (N : Nat) (t : Av) : Ez N t = some (Bp t) := by
 unfold Ez Bp
 simp only [Ba]
 cases h : t.ff == 3 <;> simp
def Gp (s : Ad) : Bool := decide (1 ≤ s.ff ∧ s.ff ≤ 4 ∧ 0 ≤ s.fh ∧ 0 ≤ s.fi) && (s.ff == 1 || s.fi == 0)
def GT (p : Ab) (s : Ad) : Bool :=
 if s.ff = 3 then decide (s.fh < (p.fe.length : Int)) else decide (s.fh < (p.fb.length : Int)) && (s.ff != 1 || decide (s.fi < p.fb.getD s.fh.toNat 0))
theorem JR (N : Nat) (s : Ad) : E2 N s = some (Gp s) := by
 unfold E2 Gp Pq
 simp only [Ba]
 by_cases h1 : (if s.fi < s.fh then s.fi else s.fh) < 0
 ·rw [AE h1, AD, decide_eq_false (by split at h1 <;> omega)]; rfl
 ·rw [AC h1]
  by_cases h2 : s.ff < 1
  ·rw [AE h2, AD, decide_eq_false (by omega)]; rfl
  ·rw [AC h2]
   by_cases h3 : 4 < s.ff
   ·rw [decide_eq_true h3, AD, decide_eq_false (by omega)]; rfl
   ·rw [decide_eq_false h3, Ao, decide_eq_true (by split at h1 <;> omega), Bool.true_and]
    cases h4 : s.ff == 1 <;> simp
theorem Ko (N : Nat) (s : Ad) : C3 N s = some (Gp s) := by
 unfold C3 Gp
 simp only [Ba]
 by_cases h1 : 1 ≤ s.ff
 ·rw [AE h1]
  by_cases h2 : s.ff ≤ 4
  ·rw [AE h2]
   by_cases h3 : 0 ≤ s.fh
   ·rw [AE h3]
    by_cases h4 : 0 ≤ s.fi
    ·rw [AE h4, decide_eq_true (by omega), Bool.true_and]
     cases h5 : s.ff == 1 <;> simp
    ·rw [AC h4, decide_eq_false (by omega)]; rfl
   ·rw [AC h3, decide_eq_false (by omega)]; rfl
  ·rw [AC h2, decide_eq_false (by omega)]; rfl
 ·rw [AC h1, decide_eq_false (by omega)]; rfl
theorem Mb (N : Nat) (p : Ab) (s : Ad) (hv : Gp s = true) : Fk N p s = some (GT p s) := by
 have h0 : 0 ≤ s.fh := by
  unfold Gp at hv
  rw [Bool.and_eq_true, decide_eq_true_iff] at hv
  exact hv.1.2.2.1
 unfold Fk GT
 simp only [Ba]
 by_cases h1 : s.ff = 3
 ·rw [if_pos h1, beq_iff_eq.2 h1, AD]
 ·rw [if_neg h1, beq_eq_false_iff_ne.2 h1, Ao]
  by_cases h2 : s.fh < (p.fb.length : Int)
  ·rw [AE h2, decide_eq_true h2, Bool.true_and]
   cases h3 : s.ff != 1
   ·rw [Ao, D2 (d := 0) h0 h2, Bool.false_or]; rfl
   ·rw [AD]; rfl
  ·rw [AC h2, decide_eq_false h2]; rfl
def Qt (s : Ad) (t : Av) : Bool := t.fg == s.fh && Bp t
def Rq (s : Ad) (i : Nat) (t : Av) (a : List Int) : List Int := if Qt s t = true then a.set i (KW .u8 (a.getD i 0) (C8 .u8 1 s.fi)) else a
def H0 (p : Ab) (s : Ad) (held : List Int) : List Int := Hs (Rq s) 0 p.fe held
theorem LM {_R : Type} (N : Nat) (p : Ab) (s : Ad) (held : List Int) (hv : 0 ≤ s.fi) (hl : held.length = p.fe.length) (h12 : p.fe.length < N) (hN : N ≤ 1000000) (j : List Int → Option (Bool × List Int × List Int)) :
  C4 N p s j N (held, 0) = j (H0 p s held) ∧ (H0 p s held).length = p.fe.length := by
 have := HE (C4 N p s j) (fun a i => (a, i)) p.fe j (Rq s) (fun i a => a.length = p.fe.length)
  (fun n i x a hx ha => by
   have hi := (lI.1 hx).1
   rw [C4, AE (by simp only; omega)]
   simp only [A1, AZ, hx, oS, Jq, AJ (show i < 1000000 by omega)]
   have e2 : a[i]? = some (a.getD i 0) := by rw [lD]; simp [show i < a.length from by omega]
   unfold Rq Qt
   cases h1 : x.fg == s.fh
   ·rw [Ao, Ao, Bool.false_and, if_neg (by simp)]; exact ⟨rfl, ha⟩
   ·rw [AD, Bool.true_and]
    cases h2 : Bp x
    ·rw [Ao, if_neg (by simp)]; exact ⟨rfl, ha⟩
    ·rw [AD, e2, if_pos rfl]
     simp only [oS]
     rw [As hv]
     exact ⟨rfl, by simpa using ha⟩)
  (fun n a ha => by rw [C4, AC (by simp)]) N 0 held (Nat.zero_le _) (by omega) hl
 rw [List.drop_zero] at this
 exact this
theorem Mo (N : Nat) (p : Ab) (s : Ad) (held : List Int) (hv : 0 ≤ s.fi) (hl : held.length = p.fe.length) (h12 : p.fe.length < N) (hN : N ≤ 1000000) (j : List Int → Option (Ac × Bool)) :
  Bx N p s j N (held, 0) = j (H0 p s held) := by
 have := HE (Bx N p s j) (fun a i => (a, i)) p.fe j (Rq s) (fun i a => a.length = p.fe.length)
  (fun n i x a hx ha => by
   have hi := (lI.1 hx).1
   rw [Bx, AE (by simp only; omega)]
   simp only [A1, AZ, hx, oS, E1, AJ (show i < 1000000 by omega)]
   have e2 : a[i]? = some (a.getD i 0) := by rw [lD]; simp [show i < a.length from by omega]
   unfold Rq Qt
   cases h1 : x.fg == s.fh
   ·rw [Ao, Ao, Bool.false_and, if_neg (by simp)]; exact ⟨rfl, ha⟩
   ·rw [AD, Bool.true_and]
    cases h2 : Bp x
    ·rw [Ao, if_neg (by simp)]; exact ⟨rfl, ha⟩
    ·rw [AD, e2, if_pos rfl]
     simp only [oS]
     rw [As hv]
     exact ⟨rfl, by simpa using ha⟩)
  (fun n a ha => by rw [Bx, AC (by simp)]) N 0 held (Nat.zero_le _) (by omega) hl
 rw [List.drop_zero] at this
 exact this.1
def JS (m : Ac) (t : Av) (u : Nat) : Bool := (t.fk.getD u []).getD (m.fd.getD t.fg.toNat 0).toNat false
def L0 (m : Ac) (i : Nat) (t : Av) (u : Nat) : Bool := Ct (m.fc.getD i 0) u && !G4 m t.fg.toNat u
def Hl (_p : Ab) (m : Ac) (i : Nat) (t : Av) : Bool := t.ff == 4 && (List.range 8).any fun u => L0 m i t u && !JS m t u
def Gs (p : Ab) (m : Ac) (s : Ad) : Option Ac :=
 let i := s.fh.toNat
 if s.ff = 1 then (if 0 ≤ m.fa.getD i 0 ∨ m.fd.getD i 0 = s.fi then none else some ⟨m.fd, m.fa.set i s.fi, H0 p s m.fc⟩)
 else if s.ff = 3 then match p.fe[i]? with
  | none => none
  | some t => if Bp t = false ∨ m.fc.getD i 0 = FB m t.fg.toNat ∨ Hl p m i t = true then none else some ⟨m.fd, m.fa, m.fc.set i (FB m t.fg.toNat)⟩
 else if m.fa.getD i 0 < 0 then none
 else some ⟨if s.ff = 2 then m.fd.set i (m.fa.getD i 0) else m.fd, m.fa.set i (-1), m.fc⟩
def EG (p : Ab) (m : Ac) (s : Ad) : Ac × Int :=
 if Gp s = false then (EZ, 1) else if GT p s = false then (EZ, 4) else match Gs p m s with
  | none => (EZ, 11)
  | some x => (x, 0)
end Go.Lift
namespace Go.Lift
open Option renaming bind_some → oS
open List renaming mem_of_getElem? → lM
open List renaming getElem?_eq_some_iff → lI
open List renaming getD_eq_getElem?_getD → lD
open Go
section clear
variable {p : Ab} {m : Ac} {i : Nat} {t : Av}
theorem RV (hp : B1 p) (hm : Dg p m) (ht : p.fe[i]? = some t) (hs : Bp t = true) {u : Nat} (h : Ct (m.fc.getD i 0) u = true) : (u : Int) < p.fb.getD t.fg.toNat 0 ∧ u < 6 ∧ t.fg.toNat < p.fb.length := by
 have h1 := hm.high i t ht hs u h
 have hin := Ik (hp.tab t (lM ht))
 have h2 := HQ hp (i := t.fg.toNat) (by omega)
 exact ⟨h1, by omega, by omega⟩
theorem Sj (hp : B1 p) (hm : Dg p m) (ht : p.fe[i]? = some t) (hs : Bp t = true) (h4 : t.ff = 4) {u : Nat} (h : Ct (m.fc.getD i 0) u = true) :
  BD t.fk (u : Int) = some (t.fk.getD u []) ∧ BD (t.fk.getD u []) (m.fd.getD t.fg.toNat 0) = some (JS m t u) := by
 have hT := Jx (hp.tab t (lM ht))
 obtain ⟨h1, h2, h3⟩ := RV hp hm ht hs h
 have hl := hT.reL h4
 have e : t.fk[u]? = some (t.fk.getD u []) := by rw [lD]; simp [show u < t.fk.length from by omega]
 have hr := hT.reR _ (lM e)
 have hb := hm.b0 t.fg.toNat h3
 refine ⟨by rw [AZ, e], ?_⟩
 unfold JS
 obtain ⟨b, hb'⟩ := Int.eq_ofNat_of_zero_le hb.1
 rw [hb'] at hb ⊢
 rw [Int.toNat_natCast]
 exact CK (by omega)
theorem Na (N : Nat) (hN : N ≤ 1000000) (h20 : 100 ≤ N) (hp : B1 p) (hm : Dg p m) (ht : p.fe[i]? = some t) :
  zFS N p m (i : Int) = some (if Bp t = false ∨ m.fc.getD i 0 = FB m t.fg.toNat ∨ Hl p m i t = true then (false, m.fc) else (true, m.fc.set i (FB m t.fg.toNat))) := by
 have hi := (lI.1 ht).1
 have hin := Ik (hp.tab t (lM ht))
 have hb := hm.base
 have hnx := hm.next
 have hh := hm.held
 have hr := Hg hp hm.toMixServ (s := t.fg.toNat) (by omega)
 have hrg := hm.range i hi
 have eh : BD m.fc (i : Int) = some (m.fc.getD i 0) := CK (by omega)
 unfold zFS
 simp only [A1, AZ, ht, oS, Jq]
 have eh' : m.fc[i]? = some (m.fc.getD i 0) := by rw [← AZ, eh]
 cases hs : Bp t
 ·rw [Bool.not_false, AD, if_pos (.inl rfl)]
 ·rw [Bool.not_true, Ao, O4 N m _ hin.1 (by omega) (by omega) (hm.b0 _ (by omega)).1]
  simp only [oS, eh']
  by_cases h1 : m.fc.getD i 0 = FB m t.fg.toNat
  ·rw [beq_iff_eq.2 h1, AD, AD, if_pos (.inr (.inl h1))]
  ·rw [beq_eq_false_iff_ne.2 h1, Ao]
   by_cases h4 : t.ff = 4
   ·rw [beq_iff_eq.2 h4, AD, D2 (d := 0) hin.1 (by omega)]
    simp only [oS]
    obtain ⟨a1, a2, a3⟩ := P5 hrg hr.2
    obtain ⟨w, hw⟩ := Int.eq_ofNat_of_zero_le a2
    unfold ES
    rw [hw] at a1 a3 ⊢
    rw [PD N t _ (JS m t) 8 N w (Ww _) (by omega) (by omega) (fun u hu hbu => by
     have := a1 u; rw [hbu] at this
     exact ⟨_, Sj hp hm ht hs h4 (Bool.and_eq_true_iff.1 this.symm).1⟩)]
    simp only [oS]
    have e : (!(List.range 8).all fun u => !Ct (w : Int) u || JS m t u) = Hl p m i t := by
     unfold Hl
     rw [beq_iff_eq.2 h4, Bool.true_and, List.not_all_eq_any_not]
     congr 1
     funext u
     rw [a1 u, hr.1 u]
     unfold L0
     cases Ct (m.fc.getD i 0) u <;> cases G4 m t.fg.toNat u <;> cases JS m t u <;> rfl
    rw [e]
    cases hst : Hl p m i t
    ·rw [Ao, if_neg (by rintro (h | h | h); cases h; exact h1 h; cases h)]; rfl
    ·rw [AD, if_pos (.inr (.inr rfl))]
   ·have e : Hl p m i t = false := by unfold Hl; rw [beq_eq_false_iff_ne.2 h4]; rfl
    rw [beq_eq_false_iff_ne.2 h4, Ao, Ao, e, if_neg (by rintro (h | h | h); cases h; exact h1 h; cases h)]; rfl
theorem MB (N : Nat) (hN : N ≤ 1000000) (h20 : 100 ≤ N) (hp : B1 p) (hm : Dg p m) (ht : p.fe[i]? = some t) (hs : Bp t = true) (s : Ad) (hsi : s.fh = (i : Int)) (j : Option (Ac × Bool)) :
  Bm N p m s t (FB m t.fg.toNat) (fun _ => j) N 0 = if Hl p m i t = true then some (EZ, false) else j := by
 have hi := (lI.1 ht).1
 have hin := Ik (hp.tab t (lM ht))
 have hb := hm.base
 have hh := hm.held
 have hr := Hg hp hm.toMixServ (s := t.fg.toNat) (by omega)
 have hrg := hm.range i hi
 have hver := HQ hp (i := t.fg.toNat) (by omega)
 obtain ⟨nv, hnv⟩ := Int.eq_ofNat_of_zero_le (show 0 ≤ p.fb.getD t.fg.toNat 0 by omega)
 have eh' : m.fc[i]? = some (m.fc.getD i 0) := by rw [lD]; simp [show i < m.fc.length from by omega]
 have := Cr (Bm N p m s t (FB m t.fg.toNat) fun _ => j) (List.range nv) j (fun u _ => if (L0 m i t u && (t.ff == 4 && !JS m t u)) = true then some (EZ, false) else none)
  (fun n u x hx => by
   have hu : u < nv := by
    have := (lI.1 hx).1
    simpa using this
   rw [Bm, D2 (d := 0) hin.1 (by omega), hnv]
   simp only [oS]
   rw [AE (by omega)]
   simp only [A1, hsi, AZ, eh', oS]
   rw [Rv N hrg (by omega), AJ (by omega)]
   simp only [oS]
   cases h1 : Ct (m.fc.getD i 0) u
   ·have e : L0 m i t u = false := by unfold L0; rw [h1]; rfl
    rw [Ao, Ao, Ao, e]; rfl
   ·rw [AD, Rv N hr.2 (by omega), hr.1 u]
    simp only [oS]
    have e : L0 m i t u = !G4 m t.fg.toNat u := by unfold L0; rw [h1]; rfl
    rw [← e]
    cases h2 : L0 m i t u
    ·rw [Ao, Ao]; rfl
    ·rw [AD]
     by_cases h4 : t.ff = 4
     ·obtain ⟨e1, e2⟩ := Sj hp hm ht hs h4 h1
      rw [AZ] at e1
      rw [beq_iff_eq.2 h4, AD, e1, D2 (d := 0) hin.1 (by omega)]
      simp only [oS]
      rw [e2]
      simp only [oS]
      cases JS m t u <;> rfl
     ·rw [beq_eq_false_iff_ne.2 h4, Ao, Ao]; rfl)
  (fun n => by
   rw [Bm, D2 (d := 0) hin.1 (by omega), hnv]
   simp only [oS, List.length_range]
   rw [AC (by omega)]) N 0 (Nat.zero_le _) (by simp; omega)
 have e0 : Bm N p m s t (FB m t.fg.toNat) (fun _ => j) N 0 = _ := this
 rw [e0, List.drop_zero]
 by_cases hst : Hl p m i t = true
 ·rw [if_pos hst]
  unfold Hl at hst
  rw [Bool.and_eq_true, List.any_eq_true] at hst
  obtain ⟨h4, u, hu, h5⟩ := hst
  rw [Bool.and_eq_true] at h5
  have h6 : Ct (m.fc.getD i 0) u = true := by have := h5.1; unfold L0 at this; exact (Bool.and_eq_true_iff.1 this).1
  have h7 := RV hp hm ht hs h6
  cases hsc : C9 (fun u (_ : Nat) => if (L0 m i t u && (t.ff == 4 && !JS m t u)) = true then some (EZ, false) else none) 0 (List.range nv) with
  | some r =>
   obtain ⟨q, x, hx, hf⟩ := Fz hsc
   split at hf
   ·cases hf; rfl
   ·cases hf
  | none =>
   exfalso
   have hx : (List.range nv)[u]? = some u := List.getElem?_range (by omega)
   have := GY hsc u u hx
   rw [Nat.zero_add, h5.1, h4, h5.2] at this
   cases this
 ·rw [if_neg hst]
  have : C9 (fun u (_ : Nat) => if (L0 m i t u && (t.ff == 4 && !JS m t u)) = true then some (EZ, false) else none) 0 (List.range nv) = none := Eg fun q x hx => by
   rw [Nat.zero_add]
   split
   ·rename_i h5
    exfalso; apply hst
    rw [Bool.and_eq_true, Bool.and_eq_true] at h5
    unfold Hl
    rw [h5.2.1, Bool.true_and, List.any_eq_true]
    have hq : q < nv := by
     have := (lI.1 hx).1
     simpa using this
    exact ⟨q, List.mem_range.2 (by omega), by rw [h5.1, h5.2.2]; rfl⟩
   ·rfl
  rw [this]; rfl
end clear
end Go.Lift
namespace Go.Lift
open Option renaming bind_some → oS
open List renaming mem_of_getElem? → lM
open Go
theorem Ir {s : Ad} (h : Gp s = true) : 1 ≤ s.ff ∧ s.ff ≤ 4 ∧ 0 ≤ s.fh ∧ 0 ≤ s.fi ∧ (s.ff ≠ 1 → s.fi = 0) := by
 unfold Gp at h
 rw [Bool.and_eq_true, decide_eq_true_iff, Bool.or_eq_true, beq_iff_eq, beq_iff_eq] at h
 exact ⟨h.1.1, h.1.2.1, h.1.2.2.1, h.1.2.2.2, fun hk => h.2.elim (fun e => (hk e).elim) id⟩
theorem Lf {p : Ab} {s : Ad} (h : GT p s = true) : (s.ff = 3 → s.fh < (p.fe.length : Int)) ∧ (s.ff ≠ 3 → s.fh < (p.fb.length : Int)) ∧ (s.ff = 1 → s.fi < p.fb.getD s.fh.toNat 0) := by
 unfold GT at h
 split at h
 ·rename_i hk
  rw [decide_eq_true_iff] at h
  exact ⟨fun _ => h, fun hn => (hn hk).elim, fun h1 => by omega⟩
 ·rename_i hk
  rw [Bool.and_eq_true, decide_eq_true_iff, Bool.or_eq_true, decide_eq_true_iff, bne_iff_ne] at h
  exact ⟨fun h3 => (hk h3).elim, fun _ => h.1, fun h1 => h.2.elim (fun hn => (hn h1).elim) id⟩
theorem Q4 (N : Nat) {p : Ab} {m : Ac} (hp : B1 p) (hm : Dg p m) : Ft N m = some m := by
 have hnv := hp.nv
 have hnt := hp.nt
 have h1 := hm.base
 have h2 := hm.next
 have h3 := hm.held
 unfold Ft
 rw [JD N _ (by simp only [Do]; omega), JD N _ (by simp only [Do]; omega), Ng N _ (by simp only [Do]; omega)]
 rfl
theorem MT (N : Nat) (hN : N ≤ 1000000) (h20 : 100 ≤ N) {p : Ab} {m : Ac} (hp : B1 p) (hm : Dg p m) {s : Ad} (hv : Gp s = true) (hx : GT p s = true) :
  ∃ o, FT N p m s = some (o, (Gs p m s).isSome) ∧ ∀ x, Gs p m s = some x → o = x := by
 obtain ⟨k1, k4, i0, v0, vk⟩ := Ir hv
 obtain ⟨x3, xn, x1⟩ := Lf hx
 have hnv := hp.nv
 have hnt := hp.nt
 have hb := hm.base
 have hn := hm.next
 have hh := hm.held
 obtain ⟨i, hi⟩ := Int.eq_ofNat_of_zero_le i0
 unfold FT Gs
 rw [Q4 N hp hm]
 simp only [oS, A1]
 by_cases hk1 : s.ff = 1
 ·have hi1 : (i : Int) < p.fb.length := by have := xn (by omega); omega
  rw [beq_iff_eq.2 hk1, AD, if_pos hk1]
  unfold G8
  simp only [A1, hi, Int.toNat_natCast]
  rw [CK (d := 0) (show i < m.fa.length by omega)]
  simp only [oS]
  by_cases c1 : 0 ≤ m.fa.getD i 0
  ·rw [AE c1, AD, if_pos (.inl c1)]
   exact ⟨_, rfl, fun x hx => by cases hx⟩
  ·rw [AC c1, CK (d := 0) (show i < m.fd.length by omega)]
   simp only [oS]
   by_cases c2 : m.fd.getD i 0 = s.fi
   ·rw [beq_iff_eq.2 c2, AD, if_pos (.inr c2)]
    exact ⟨_, rfl, fun x hx => by cases hx⟩
   ·rw [beq_eq_false_iff_ne.2 c2, Ao, (LM (_R := Unit) N p s m.fc v0 hh (by omega) hN _).1, if_neg (by rintro (h | h); exact c1 h; exact c2 h)]
    exact ⟨_, rfl, fun x hx => by cases hx; rfl⟩
 ·rw [beq_eq_false_iff_ne.2 hk1, Ao, if_neg hk1]
  by_cases hk3 : s.ff = 3
  ·have hi3 : i < p.fe.length := by have := x3 hk3; omega
   have ht : p.fe[i]? = some p.fe[i] := by simp [hi3]
   rw [beq_iff_eq.2 hk3, AD, if_pos hk3, hi, Na N hN h20 hp hm ht]
   simp only [oS, Int.toNat_natCast, ht]
   split
   ·exact ⟨_, rfl, fun x hx => by cases hx⟩
   ·exact ⟨_, rfl, fun x hx => by cases hx; rfl⟩
  ·have hi1 : (i : Int) < p.fb.length := by have := xn hk3; omega
   rw [beq_eq_false_iff_ne.2 hk3, Ao, if_neg hk3, hi, CK (d := 0) (show i < m.fa.length by omega)]
   simp only [oS, Int.toNat_natCast]
   by_cases c1 : m.fa.getD i 0 < 0
   ·rw [AE c1, if_pos c1]
    exact ⟨_, rfl, fun x hx => by cases hx⟩
   ·rw [AC c1, if_neg c1]
    by_cases hk2 : s.ff = 2
    ·rw [beq_iff_eq.2 hk2, AD, CK (d := 0) (show i < m.fd.length by omega), if_pos hk2]
     exact ⟨_, rfl, fun x hx => by cases hx; rfl⟩
    ·rw [beq_eq_false_iff_ne.2 hk2, Ao, if_neg hk2]
     exact ⟨_, rfl, fun x hx => by cases hx; rfl⟩
theorem M4 (N : Nat) (hN : N ≤ 1000000) (h20 : 100 ≤ N) {p : Ab} {m : Ac} (hp : B1 p) (hm : Dg p m) (s : Ad) : FQ N p m s = some (EG p m s) := by
 unfold FQ EG
 rw [JR]
 simp only [oS]
 cases hv : Gp s
 ·rw [Bool.not_false, AD, if_pos rfl]; rfl
 ·rw [Bool.not_true, Ao, if_neg (by simp), Mb N p s hv]
  simp only [oS]
  cases hx : GT p s
  ·rw [Bool.not_false, AD, if_pos rfl]; rfl
  ·rw [Bool.not_true, Ao, if_neg (by simp)]
   obtain ⟨o, e, ho⟩ := MT N hN h20 hp hm hv hx
   rw [e]
   simp only [oS]
   cases ha : Gs p m s with
   | none => rfl
   | some x => rw [ho x ha]; rfl
theorem Ob (N : Nat) (hN : N ≤ 1000000) (h20 : 100 ≤ N) {p : Ab} {m : Ac} (hp : B1 p) (hm : Dg p m) {s : Ad} (hv : Gp s = true) (hx : GT p s = true) :
  C0 N p m s = some (match Gs p m s with | none => (EZ, false) | some x => (x, true)) := by
 obtain ⟨k1, k4, i0, v0, vk⟩ := Ir hv
 obtain ⟨x3, xn, x1⟩ := Lf hx
 have hnv := hp.nv
 have hnt := hp.nt
 have hb := hm.base
 have hn := hm.next
 have hh := hm.held
 obtain ⟨i, hi⟩ := Int.eq_ofNat_of_zero_le i0
 unfold C0 Gs
 rw [As (by simp [Do]; omega), As (by simp [Do]; omega), As (by simp [Do]; omega)]
 simp only [A1, List.nil_append]
 by_cases hk1 : s.ff = 1
 ·have hi1 : (i : Int) < p.fb.length := by have := xn (by omega); omega
  rw [beq_iff_eq.2 hk1, AD, if_pos hk1]
  simp only [hi, Int.toNat_natCast]
  rw [CK (d := 0) (show i < m.fa.length by omega)]
  simp only [oS]
  by_cases c1 : 0 ≤ m.fa.getD i 0
  ·rw [AE c1, AD, if_pos (.inl c1)]; rfl
  ·rw [AC c1, CK (d := 0) (show i < m.fd.length by omega)]
   simp only [oS]
   by_cases c2 : m.fd.getD i 0 = s.fi
   ·rw [beq_iff_eq.2 c2.symm, AD, if_pos (.inr c2)]; rfl
   ·rw [beq_eq_false_iff_ne.2 (fun h => c2 h.symm), Ao, Mo N p s m.fc v0 hh (by omega) hN _, if_neg (by rintro (h | h); exact c1 h; exact c2 h)]
 ·rw [beq_eq_false_iff_ne.2 hk1, Ao, if_neg hk1]
  by_cases hk3 : s.ff = 3
  ·have hi3 : i < p.fe.length := by have := x3 hk3; omega
   have ht : p.fe[i]? = some p.fe[i] := by simp [hi3]
   have hin := Ik (hp.tab _ (lM ht))
   have eh' : BD m.fc (i : Int) = some (m.fc.getD i 0) := CK (by omega)
   rw [beq_eq_false_iff_ne.2 (show s.ff ≠ 2 by omega), Ao, beq_iff_eq.2 hk3, AD, if_pos hk3, hi, AZ, ht]
   simp only [oS, E1, Int.toNat_natCast, ht]
   cases hs : Bp p.fe[i]
   ·rw [Bool.not_false, AD, if_pos (.inl rfl)]; rfl
   ·rw [Bool.not_true, Ao, HP N m _ hin.1 (by omega) (by omega) (hm.b0 _ (by omega)).1, eh']
    simp only [oS]
    by_cases h1 : m.fc.getD i 0 = FB m (p.fe[i]).fg.toNat
    ·rw [beq_iff_eq.2 h1, AD, if_pos (.inr (.inl h1))]; rfl
    ·rw [beq_eq_false_iff_ne.2 h1, Ao]
     rw [MB N hN h20 hp hm ht hs s hi]
     cases hst : Hl p m i p.fe[i]
     ·rw [if_neg (by simp), if_neg (by rintro (h | h | h); cases h; exact h1 h; cases h)]
     ·rw [if_pos rfl, if_pos (.inr (.inr rfl))]
  ·have hi1 : (i : Int) < p.fb.length := by have := xn hk3; omega
   rw [if_neg hk3, hi, CK (d := 0) (show i < m.fa.length by omega)]
   simp only [oS, Int.toNat_natCast]
   by_cases hk2 : s.ff = 2
   ·rw [beq_iff_eq.2 hk2, AD, if_pos hk2]
    by_cases c1 : m.fa.getD i 0 < 0
    ·rw [AE c1, if_pos c1]; rfl
    ·rw [AC c1, if_neg c1, CK (d := 0) (show i < m.fd.length by omega)]; rfl
   ·rw [beq_eq_false_iff_ne.2 hk2, Ao, beq_eq_false_iff_ne.2 hk3, Ao, if_neg hk2]
    by_cases c1 : m.fa.getD i 0 < 0
    ·rw [AE c1, if_pos c1]; rfl
    ·rw [AC c1, if_neg c1]
end Go.Lift
namespace Go.Lift
open Option renaming bind_some → oS
open List renaming mem_of_getElem? → lM
open List renaming getElem?_eq_some_iff → lI
open Go
theorem OL (s : Ad) : ∀ (xs : List Av) (i : Nat) (a : List Int), i + xs.length ≤ a.length → (Hs (Rq s) i xs a).length = a.length ∧ ∀ q, (Hs (Rq s) i xs a).getD q 0 = match (if i ≤ q then xs[q - i]? else none) with
  | some t => if Qt s t = true then KW .u8 (a.getD q 0) (C8 .u8 1 s.fi) else a.getD q 0
  | none => a.getD q 0
 | [], i, a, _ => by
  refine ⟨rfl, fun q => ?_⟩
  split
  ·rename_i h; split at h
   ·simp at h
   ·cases h
  ·rfl
 | x :: xs, i, a, hl => by
  have hl' : i + (xs.length + 1) ≤ a.length := by simpa using hl
  have ha : (Rq s i x a).length = a.length := by unfold Rq; split <;> simp
  obtain ⟨ih1, ih2⟩ := OL s xs (i + 1) (Rq s i x a) (by omega)
  refine ⟨by rw [Hs, ih1, ha], fun q => ?_⟩
  rw [Hs, ih2 q]
  have hu : (Rq s i x a).getD q 0 = if q = i ∧ Qt s x = true then KW .u8 (a.getD q 0) (C8 .u8 1 s.fi) else a.getD q 0 := by
   unfold Rq
   by_cases hc : Qt s x = true
   ·rw [if_pos hc, HZ (by omega)]
    by_cases hq : q = i
    ·subst hq; rw [if_pos rfl, if_pos ⟨rfl, hc⟩]
    ·rw [if_neg hq, if_neg (fun h => hq h.1)]
   ·rw [if_neg hc, if_neg (fun h => hc h.2)]
  by_cases h1 : i + 1 ≤ q
  ·rw [if_pos h1, if_pos (show i ≤ q by omega), hu, if_neg (by omega)]
   rw [show (x :: xs)[q - i]? = xs[q - (i + 1)]? from by rw [show q - i = (q - (i + 1)) + 1 from by omega, List.getElem?_cons_succ]]
  ·rw [if_neg h1]
   by_cases h2 : q = i
   ·subst h2
    rw [if_pos (Nat.le_refl _), Nat.sub_self, hu]
    simp
   ·rw [if_neg (show ¬ i ≤ q by omega), hu, if_neg (by omega)]
theorem Ra {p : Ab} {s : Ad} {held : List Int} (hl : held.length = p.fe.length) : (H0 p s held).length = p.fe.length ∧ ∀ q t, p.fe[q]? = some t → (H0 p s held).getD q 0 = if Qt s t = true then KW .u8 (held.getD q 0) (C8 .u8 1 s.fi) else held.getD q 0 := by
 obtain ⟨h1, h2⟩ := OL s p.fe 0 held (by omega)
 refine ⟨h1.trans hl, fun q t ht => ?_⟩
 have := h2 q
 rw [if_pos (Nat.zero_le _), Nat.sub_zero, ht] at this
 exact this
theorem Mp {m : Ac} {s v : Nat} : G4 m s v = true ↔ m.fd.getD s 0 = (v : Int) ∨ m.fa.getD s 0 = (v : Int) := by
 unfold G4; rw [Bool.or_eq_true, decide_eq_true_iff, decide_eq_true_iff]
theorem Rw {p : Ab} {m x : Ac} (hp : B1 p) (hm : Dg p m) {s : Ad} (hv : Gp s = true) (hx : GT p s = true) (h : Gs p m s = some x) : Dg p x := by
 obtain ⟨k1, k4, i0, v0, vk⟩ := Ir hv
 obtain ⟨x3, xn, x1⟩ := Lf hx
 obtain ⟨i, hi⟩ := Int.eq_ofNat_of_zero_le i0
 have hb := hm.base
 have hn := hm.next
 have hh := hm.held
 unfold Gs at h
 simp only [hi, Int.toNat_natCast] at h
 rw [hi, Int.toNat_natCast] at x1
 split at h
 ·rename_i hk1
  have hi1 : i < p.fb.length := by have := xn (by omega); omega
  have hx1 := x1 hk1
  have hvi := HQ hp hi1
  split at h
  ·cases h
  rename_i hc
  cases h
  obtain ⟨u1, u2⟩ := Ra (s := s) hh
  obtain ⟨b, hbv⟩ := Int.eq_ofNat_of_zero_le v0
  have hob := TR (b := b) (by omega)
  have hN : ∀ q, (m.fa.set i s.fi).getD q 0 = if q = i then s.fi else m.fa.getD q 0 := fun q => HZ (by omega)
  refine { base := hb, next := by simpa using hn, held := u1, b0 := hm.b0, n0 := fun q hq => ?_, ne := fun q hq => ?_, range := fun q hq => ?_, low := fun q t ht hs v hr => ?_, high := fun q t ht hs v hbit => ?_, none := fun q t ht hs => ?_ }
  ·show -1 ≤ (m.fa.set i s.fi).getD q 0 ∧ (m.fa.set i s.fi).getD q 0 < _
   rw [hN q]
   split
   ·rename_i e; subst e; omega
   ·exact hm.n0 q hq
  ·show m.fd.getD q 0 ≠ (m.fa.set i s.fi).getD q 0
   rw [hN q]
   split
   ·rename_i e; subst e; exact fun h => hc (.inr h)
   ·exact hm.ne q hq
  ·have ht : p.fe[q]? = some p.fe[q] := by simp [hq]
   show 0 ≤ (H0 p s m.fc).getD q 0 ∧ (H0 p s m.fc).getD q 0 ≤ 255
   rw [u2 q _ ht, hbv]
   split
   ·exact (P2 (hm.range q hq) hob.2).2
   ·exact hm.range q hq
  ·have hq := (lI.1 ht).1
   show Ct ((H0 p s m.fc).getD q 0) v = true
   have hin := Ik (hp.tab t (lM ht))
   rw [Mp] at hr
   have hr : m.fd.getD t.fg.toNat 0 = (v : Int) ∨ (m.fa.set i s.fi).getD t.fg.toNat 0 = (v : Int) := hr
   rw [hN] at hr
   rw [u2 q t ht, hbv]
   have hlow := hm.low q t ht hs v
   rw [Mp] at hlow
   by_cases hf : t.fg.toNat = i
   ·have hup : Qt s t = true := by unfold Qt; rw [hs, Bool.and_true, beq_iff_eq, hi]; omega
    rw [if_pos hup, (P2 (hm.range q hq) hob.2).1, hob.1 v, Bool.or_eq_true, decide_eq_true_iff]
    rw [if_pos hf] at hr
    rcases hr with h | h
    ·exact .inl (hlow (.inl h))
    ·right; omega
   ·rw [if_neg hf] at hr
    have hup : Qt s t = false := by unfold Qt; rw [hs, Bool.and_true, beq_eq_false_iff_ne, hi]; omega
    rw [hup, if_neg (by simp)]
    exact hlow hr
  ·have hq := (lI.1 ht).1
   have hbit : Ct ((H0 p s m.fc).getD q 0) v = true := hbit
   have hin := Ik (hp.tab t (lM ht))
   rw [u2 q t ht, hbv] at hbit
   split at hbit
   ·rename_i hup
    rw [(P2 (hm.range q hq) hob.2).1, hob.1 v, Bool.or_eq_true, decide_eq_true_iff] at hbit
    rcases hbit with h | h
    ·exact hm.high q t ht hs v h
    ·unfold Qt at hup
     rw [hs, Bool.and_true, beq_iff_eq, hi] at hup
     rw [hup, Int.toNat_natCast]; omega
   ·exact hm.high q t ht hs v hbit
  ·show (H0 p s m.fc).getD q 0 = 0
   have hup : Qt s t = false := by unfold Qt; rw [hs, Bool.and_false]
   rw [u2 q t ht, hup, if_neg (by simp)]
   exact hm.none q t ht hs
 ·rename_i hk1
  split at h
  ·rename_i hk3
   have hi3 : i < p.fe.length := by have := x3 hk3; omega
   have ht0 : p.fe[i]? = some p.fe[i] := by simp [hi3]
   rw [ht0] at h
   simp only at h
   split at h
   ·cases h
   rename_i hc
   cases h
   have hin0 := Ik (hp.tab _ (lM ht0))
   have hr0 := Hg hp hm.toMixServ (s := (p.fe[i]).fg.toNat) (by omega)
   have hs0 : Bp p.fe[i] = true := by
    cases hs : Bp p.fe[i]
    ·exact (hc (.inl hs)).elim
    ·rfl
   have hH : ∀ q, (m.fc.set i (FB m (p.fe[i]).fg.toNat)).getD q 0 = if q = i then FB m (p.fe[i]).fg.toNat else m.fc.getD q 0 := fun q => HZ (by omega)
   refine { base := hb, next := hn, held := by simpa using hh, b0 := hm.b0, n0 := hm.n0, ne := hm.ne, range := fun q hq => ?_, low := fun q t ht hs v hr => ?_, high := fun q t ht hs v hbit => ?_, none := fun q t ht hs => ?_ }
   ·show 0 ≤ (m.fc.set i (FB m (p.fe[i]).fg.toNat)).getD q 0 ∧ (m.fc.set i (FB m (p.fe[i]).fg.toNat)).getD q 0 ≤ 255
    rw [hH q]
    split
    ·exact hr0.2
    ·exact hm.range q hq
   ·show Ct ((m.fc.set i (FB m (p.fe[i]).fg.toNat)).getD q 0) v = true
    have hr : G4 m t.fg.toNat v = true := hr
    rw [hH q]
    split
    ·rename_i e; subst e
     rw [ht0] at ht; cases ht
     rw [hr0.1]; exact hr
    ·exact hm.low q t ht hs v hr
   ·have hbit : Ct ((m.fc.set i (FB m (p.fe[i]).fg.toNat)).getD q 0) v = true := hbit
    rw [hH q] at hbit
    split at hbit
    ·rename_i e; subst e
     rw [ht0] at ht; cases ht
     rw [hr0.1] at hbit
     exact hm.high q _ ht0 hs0 v (hm.low q _ ht0 hs0 v hbit)
    ·exact hm.high q t ht hs v hbit
   ·show (m.fc.set i (FB m (p.fe[i]).fg.toNat)).getD q 0 = 0
    rw [hH q, if_neg (fun e => by subst e; rw [ht0] at ht; cases ht; rw [hs0] at hs; cases hs)]
    exact hm.none q t ht hs
  ·rename_i hk3
   have hi1 : i < p.fb.length := by have := xn hk3; omega
   have hvi := HQ hp hi1
   split at h
   ·cases h
   rename_i hc
   cases h
   have hN : ∀ q, (m.fa.set i (-1)).getD q 0 = if q = i then -1 else m.fa.getD q 0 := fun q => HZ (by omega)
   have hB : ∀ q, (if s.ff = 2 then m.fd.set i (m.fa.getD i 0) else m.fd).getD q 0 = if s.ff = 2 ∧ q = i then m.fa.getD i 0 else m.fd.getD q 0 := fun q => by
    by_cases hk2 : s.ff = 2
    ·rw [if_pos hk2, HZ (by omega)]
     by_cases e : q = i
     ·rw [if_pos e, if_pos ⟨hk2, e⟩]
     ·rw [if_neg e, if_neg (fun h => e h.2)]
    ·rw [if_neg hk2, if_neg (fun h => hk2 h.1)]
   have hrun : ∀ q v, G4 ⟨if s.ff = 2 then m.fd.set i (m.fa.getD i 0) else m.fd, m.fa.set i (-1), m.fc⟩ q v = true → G4 m q v = true := fun q v hr => by
    rw [Mp] at hr ⊢
    simp only [hN q, hB q] at hr
    by_cases e : q = i
    ·subst e
     rw [if_pos rfl] at hr
     by_cases hk2 : s.ff = 2
     ·rw [if_pos ⟨hk2, rfl⟩] at hr; omega
     ·rw [if_neg (fun h => hk2 h.1)] at hr; omega
    ·rw [if_neg e, if_neg (fun h => e h.2)] at hr; exact hr
   refine { base := by simp only; split <;> simp [hb], next := by simpa using hn, held := hh, b0 := fun q hq => ?_, n0 := fun q hq => ?_, ne := fun q hq => ?_, range := hm.range, low := fun q t ht hs v hr => hm.low q t ht hs v (hrun _ _ hr), high := hm.high, none := hm.none }
   ·simp only [hB q]
    split
    ·rename_i e; obtain ⟨_, e⟩ := e; subst e
     have := hm.n0 q hq
     omega
    ·exact hm.b0 q hq
   ·simp only [hN q]
    split
    ·rename_i e; subst e; omega
    ·exact hm.n0 q hq
   ·simp only [hB q, hN q]
    have h1 := hm.b0 q hq
    by_cases e : q = i
    ·rw [if_pos e]
     split
     ·rename_i e2; obtain ⟨_, e2⟩ := e2; subst e2; omega
     ·omega
    ·rw [if_neg e, if_neg (fun h => e h.2)]; exact hm.ne q hq
theorem N0 (N : Nat) (hN : N ≤ 1000000) (h20 : 100 ≤ N) {p : Ab} {m : Ac} (hw : Jf IB m.fc) (s : Ad) : DQ N p m s = some (if Ey p m = 0 then EG p m s else (EZ, Ey p m)) := by
 unfold DQ EG
 rw [Kl N p m hN (by omega)]
 simp only [oS, A1]
 by_cases hval : Ey p m = 0
 ·obtain ⟨hp, hm⟩ := Kp hw hval
  rw [if_pos hval, hval, bne_self_eq_false, Ao, Ko]
  simp only [oS]
  cases hv : Gp s
  ·rw [Bool.not_false, AD, if_pos rfl]; rfl
  ·rw [Bool.not_true, Ao, if_neg (by simp)]
   obtain ⟨k1, k4, i0, v0, vk⟩ := Ir hv
   have key : ∀ b : Bool, GT p s = b → (if b = false then (EZ, (4 : Int)) else match Gs p m s with | none => (EZ, 11) | some x => (x, 0)) = (if b = false then (EZ, (4 : Int)) else match Gs p m s with | none => (EZ, 11) | some x => (x, 0)) := fun _ _ => rfl
   have tail : GT p s = true → ((C0 N p m s).bind fun v15 => AL (!v15.2) (some (Ac.mk [] [] [], (11 : Int))) (some (v15.1, 0))) = some (match Gs p m s with | none => (EZ, 11) | some x => (x, 0)) := fun hx => by
    rw [Ob N hN h20 hp hm hv hx]
    cases Gs p m s <;> rfl
   have zz : (Ac.mk [] [] [], (4 : Int)) = (EZ, 4) := rfl
   by_cases hk3 : s.ff = 3
   ·rw [beq_iff_eq.2 hk3, AD, show (s.ff != 3) = false from by rw [hk3]; rfl]
    have hX : GT p s = decide (s.fh < (p.fe.length : Int)) := by unfold GT; rw [if_pos hk3]
    by_cases c : (p.fe.length : Int) ≤ s.fh
    ·rw [AE c, AD, hX, decide_eq_false (by omega), if_pos rfl]; rfl
    ·have hx : GT p s = true := by rw [hX, decide_eq_true (by omega)]
     rw [AC c, Ao, Ao, beq_eq_false_iff_ne.2 (show s.ff ≠ 1 by omega), Ao, Ao, hx, if_neg (by simp)]
     exact tail hx
   ·rw [beq_eq_false_iff_ne.2 hk3, Ao, bne_iff_ne.2 hk3, AD]
    have hX : GT p s = (decide (s.fh < (p.fb.length : Int)) && (s.ff != 1 || decide (s.fi < p.fb.getD s.fh.toNat 0))) := by unfold GT; rw [if_neg hk3]
    by_cases c : (p.fb.length : Int) ≤ s.fh
    ·rw [decide_eq_true c, AD, hX, decide_eq_false (show ¬ s.fh < (p.fb.length : Int) by omega), Bool.false_and, if_pos rfl]; rfl
    ·rw [decide_eq_false c, Ao]
     by_cases hk1 : s.ff = 1
     ·rw [beq_iff_eq.2 hk1, AD, D2 (d := 0) i0 (by omega)]
      simp only [oS]
      by_cases c2 : p.fb.getD s.fh.toNat 0 ≤ s.fi
      ·rw [decide_eq_true c2, AD, hX, decide_eq_false (show ¬ s.fi < p.fb.getD s.fh.toNat 0 by omega), show (s.ff != 1) = false from by rw [hk1]; rfl, Bool.false_or, Bool.and_false, if_pos rfl]; rfl
      ·have hx : GT p s = true := by rw [hX, decide_eq_true (by omega), decide_eq_true (by omega), Bool.or_true]; rfl
       rw [decide_eq_false c2, Ao, hx, if_neg (by simp)]
       exact tail hx
     ·have hx : GT p s = true := by rw [hX, decide_eq_true (by omega), bne_iff_ne.2 hk1]; rfl
      rw [beq_eq_false_iff_ne.2 hk1, Ao, Ao, hx, if_neg (by simp)]
      exact tail hx
 ·rw [if_neg hval, bne_iff_ne.2 hval, AD]; rfl
theorem MP (N : Nat) (hN : N ≤ 1000000) (h20 : 100 ≤ N) {p : Ab} {m : Ac} (hw : Jf IB m.fc) (s : Ad) : E5 N p m s = some (if Ey p m = 0 then EG p m s else (EZ, Ey p m)) := by
 unfold E5
 rw [KI N p m hN (by omega) hw]
 simp only [oS]
 by_cases hval : Ey p m = 0
 ·obtain ⟨hp, hm⟩ := Kp hw hval
  rw [if_pos hval, hval, bne_self_eq_false, Ao, M4 N hN h20 hp hm s]; rfl
 ·rw [if_neg hval, bne_iff_ne.2 hval, AD]; rfl
theorem JA {p : Ab} {m : Ac} (hp : B1 p) (hm : Dg p m) {s : Ad} (h : (EG p m s).2 = 0) : Dg p (EG p m s).1 := by
 unfold EG at h ⊢
 split at h
 ·cases h
 rename_i h1
 rw [if_neg h1]
 split at h
 ·cases h
 rename_i h2
 rw [if_neg h2]
 cases ha : Gs p m s with
 | none => rw [ha] at h; cases h
 | some x => exact Rw hp hm (by simpa using h1) (by simpa using h2) ha
end Go.Lift
namespace Go.Lift
open Go
section
variable {N : Nat} {p : Ab} {l : List Ad}
end
end Go.Lift
namespace Go.Lift
open Go
theorem RM {α : Type} (l : List α) (i : Nat) : l.eraseIdx i = l.take i ++ l.drop (i + 1) := List.eraseIdx_eq_take_drop_succ ..
theorem Rl (N : Nat) (l : List Ad) (i : Nat) (hi : i < l.length) (hl : l.length ≤ 1000) : ∃ X, BH N l (i : Int) (((i + 1 : Nat) : Int)) = some (l.length - 1, X) ∧ X.take (l.length - 1) = l.eraseIdx i ∧ l.length - 1 ≤ X.length := by
 unfold BH
 have e1 : ((l.drop (i + 1)).take (l.length - (i + 1))) = l.drop (i + 1) := List.take_of_length_le (by simp)
 have e2 : i + (l.drop (i + 1)).length = l.length - 1 := by simp; omega
 have e3 : (Hi l (0 + i) (l.drop (i + 1))).length = l.length := GU (by simp; omega)
 have e4 : ((i : Int) + ((l.drop (i + 1)).length : Int)).toNat = l.length - 1 := by omega
 simp only [Int.toNat_natCast, e1, e2, e4, e3]
 rw [As ⟨by omega, by omega, by omega, by omega, by omega, Nat.le_refl _⟩, beq_eq_false_iff_ne.2 (show (i : Int) ≠ ((i + 1 : Nat) : Int) by omega), Ao,
  As ⟨by omega, by omega, by omega⟩, As ⟨by omega, by omega, Nat.le_refl _⟩, As (by omega), As ⟨by omega, by omega, by omega, Nat.le_refl _⟩]
 refine ⟨_, rfl, ?_, ?_⟩
 ·rw [RM]
  unfold Hi
  rw [Nat.zero_add, List.append_assoc]
  have h1 : (l.take i ++ l.drop (i + 1) ++ l.drop (i + (l.drop (i + 1)).length)).take (l.length - 1) = l.take i ++ l.drop (i + 1) := by
   have : (l.take i ++ l.drop (i + 1)).length = l.length - 1 := by simp; omega
   rw [List.take_append_of_le_length (by omega), List.take_of_length_le (by omega)]
  rw [h1, List.take_append_of_le_length (by simp; omega), List.take_of_length_le (by simp; omega)]
 ·rw [GU (by rw [e3, List.length_replicate]; omega), e3]; omega
theorem QW {α : Type} {l : List α} {i : Nat} (h : i < l.length) : (l.eraseIdx i).length = l.length - 1 := List.length_eraseIdx_of_lt h
theorem II (N : Nat) (l : List Ad) (h : l.length ≤ Do) : AV N l = some l := by
 unfold AV
 rw [As (by simpa using h)]; rfl
end Go.Lift
namespace Go.Lift
open Option renaming bind_some → oS
open List renaming getElem?_eq_some_iff → lI
open Go
theorem Pt (N : Nat) (l : List Ad) (hN : N ≤ 1000000) (h : l.length < N) : CL N l l = some true := by
 unfold CL
 rw [bne_self_eq_false, Ao]
 have := Cr (Ca N l l fun _ => some true) l (some true) (fun _ _ => none)
  (fun n i x hx => by
   have hi := (lI.1 hx).1
   rw [Ca, AE (by omega), AZ, hx]
   simp only [oS, beq_self_eq_true, Bool.and_true, Bool.not_true, Ao]
   rw [AJ (by omega)]; rfl)
  (fun n => by rw [Ca, AC (by simp)]) N 0 (Nat.zero_le _) (by omega)
 refine this.trans ?_
 rw [Eg fun j x hx => rfl]; rfl
end Go.Lift
namespace Go.Lift
namespace Bfs
section
variable {α σ : Type}
def code (rk : σ → Nat) (K : Nat) (w : List σ) : Nat := w.foldl (fun c s => c * K + rk s) 0
def Xc (rk : σ → Nat) (K : Nat) (w : List σ) : Prop := ∀ s, s ∈ w → 1 ≤ rk s ∧ rk s ≤ K
theorem Xc.snoc {rk : σ → Nat} {K : Nat} {w : List σ} {s : σ} (h : Xc rk K w) (hs : 1 ≤ rk s ∧ rk s ≤ K) : Xc rk K (w ++ [s]) := by
 intro x hx; rcases List.mem_append.1 hx with h1 | h1
 ·exact h x h1
 ·rw [List.mem_singleton.1 h1]; exact hs
abbrev Nd (α σ : Type) := α × Int × σ
def put [DecidableEq α] (i : Nat) (l : List (Nd α σ)) (q : σ × α) : List (Nd α σ) := if (l.any fun n => decide (n.1 = q.2)) = true then l else l ++ [(q.2, (i : Int), q.1)]
def SM [DecidableEq α] (most i : Nat) : List (σ × α) → List (Nd α σ) → Option (List (Nd α σ))
 | [], l => some l
 | q :: qs, l => if most < (put i l q).length then none else SM most i qs (put i l q)
def go [DecidableEq α] (nxt : α → List (σ × α)) (most : Nat) : Nat → Nat → List (Nd α σ) → Option (List (Nd α σ))
 | 0, _, _ => none
 | n + 1, i, l => match l[i]? with
  | none => some l
  | some nd => (SM most i (nxt nd.1) l).bind fun l' => go nxt most n (i + 1) l'
def run (nxt : α → List (σ × α)) (x : α) : List σ → α → Prop
 | [], y => y = x
 | s :: w, y => ∃ z, (s, z) ∈ nxt x ∧ run nxt z w y
theorem H3 {nxt : α → List (σ × α)} : ∀ {u w : List σ} {x y : α}, run nxt x (u ++ w) y ↔ ∃ z, run nxt x u z ∧ run nxt z w y
 | [], w, x, y => by simp [run]
 | s :: u, w, x, y => by
  simp only [List.cons_append, run]
  constructor
  ·rintro ⟨z, h1, h2⟩
   obtain ⟨z', h3, h4⟩ := H3.1 h2
   exact ⟨z', ⟨z, h1, h3⟩, h4⟩
  ·rintro ⟨z', ⟨z, h1, h3⟩, h4⟩
   exact ⟨z, h1, H3.2 ⟨z', h3, h4⟩⟩
end
end Bfs
end Go.Lift
namespace Go.Lift
open Go
theorem O1 : ∀ {l : List Int}, Se l = 0 → ∀ x, x ∈ l → x = 0
 | [], _, x, hx => by cases hx
 | y :: ys, h, x, hx => by
  unfold Se at h
  split at h
  ·rename_i hy
   rcases List.mem_cons.1 hx with rfl | hx
   ·exact hy
   ·exact O1 h x hx
  ·rename_i hy; exact absurd h hy
theorem Np {a b : Ac} (h : Ov a b = 0) : a = b := by
 have := O1 h
 have h1 := LQ _ _ (this (Ff a.fd b.fd) (by simp))
 have h2 := LQ _ _ (this (Ff a.fa b.fa) (by simp))
 have h3 := LQ _ _ (this (Ff a.fc b.fc) (by simp))
 cases a; cases b; simp only at h1 h2 h3; subst h1; subst h2; subst h3; rfl
instance WO : DecidableEq Ac := fun a b => if h : Ov a b = 0 then isTrue (Np h) else isFalse (fun e => h (by rw [e]; exact NL b))
theorem Pu (a b : Ac) : (Ov a b == 0) = decide (a = b) := by
 by_cases h : a = b
 ·rw [decide_eq_true h, h, NL]; rfl
 ·rw [decide_eq_false h]
  exact beq_eq_false_iff_ne.2 fun e => h (Np e)
def LG : Ad := ⟨0, 0, 0⟩
end Go.Lift
namespace Go.Lift
open Option renaming bind_some → oS
open List renaming mem_of_getElem? → lM
open List renaming getElem?_eq_some_iff → lI
open Go
def Fh (p : Ab) : Ac → List Ad → Ac × Bool
 | m, [] => (m, true)
 | m, s :: l => if (EG p m s).2 = 0 ∧ FW p (EG p m s).1 = true then Fh p (EG p m s).1 l else (EZ, false)
theorem NU {p : Ab} (hp : B1 p) : ∀ {l : List Ad} {m : Ac}, Dg p m → (Fh p m l).2 = true → Dg p (Fh p m l).1
 | [], m, hm, _ => hm
 | s :: l, m, hm, h => by
  unfold Fh at h ⊢
  by_cases hc : (EG p m s).2 = 0 ∧ FW p (EG p m s).1 = true
  ·rw [if_pos hc] at h ⊢
   exact NU hp (JA hp hm hc.1) h
  ·rw [if_neg hc] at h; cases h
section
variable {N : Nat} {p : Ab} {l : List Ad}
theorem Nw (hN : N ≤ 1000000) (h20 : 100 ≤ N) (hv : CW p = 0) (hl : l.length ≤ 1000) : ∀ (n i : Nat) (m : Ac), i ≤ l.length → l.length - i < n → Dg p m →
  Dn N p l (fun v2 => some (v2, true)) n (m.fd, m.fa, m.fc, (i : Int)) = some (Fh p m (l.drop i))
 | 0, i, m, _, h, _ => by omega
 | n + 1, i, m, hi, h, hm => by
  obtain ⟨hp, _⟩ := Gb hv
  have hval := Ip hv hm
  rw [Dn]
  by_cases hlt : i < l.length
  ·have hx : l[i]? = some l[i] := by simp [hlt]
   rw [AE (by simp only; omega), CQ hx, Fh]
   simp only [A1, AZ, hx, oS, AJ (show i < 1000000 by omega)]
   rw [MP N hN h20 (NH hm), if_pos hval]
   simp only [oS]
   by_cases h1 : (EG p m l[i]).2 = 0
   ·have hm' := JA hp hm h1
    rw [h1, bne_self_eq_false, Ao, J0 N p _ hN h20 (NH hm') (Ip hv hm')]
    simp only [oS, bne_self_eq_false, Ao]
    cases hr : FW p (EG p m l[i]).1
    ·rw [if_neg (by simp)]; rfl
    ·rw [if_pos ⟨by simp, by simp⟩, Bool.not_true, Ao]
     exact Nw hN h20 hv hl n (i + 1) _ (by omega) (by omega) hm'
   ·rw [bne_iff_ne.2 h1, AD, if_neg (fun q => h1 q.1)]; rfl
  ·rw [AC (by simp only; omega), List.drop_eq_nil_of_le (by omega)]; rfl
theorem Qm (hN : N ≤ 1000000) (h20 : 100 ≤ N) (hv : CW p = 0) (hl : l.length ≤ 1000) (hln : l.length < N) {m : Ac} (hm : Dg p m) : CF N p m l = some (Fh p m l) := by
 unfold CF
 have := Nw hN h20 hv hl N 0 m (Nat.zero_le _) (by omega) hm
 rwa [List.drop_zero] at this
theorem O7 (hN : N ≤ 1000000) (h20 : 100 ≤ N) (hv : CW p = 0) (hl : l.length ≤ 1000) : ∀ (n i : Nat) (m : Ac), i ≤ l.length → l.length - i < n → Dg p m →
  B8 N p l (fun v2 => some (v2, true)) n (m.fd, m.fa, m.fc, (i : Int)) = some (Fh p m (l.drop i))
 | 0, i, m, _, h, _ => by omega
 | n + 1, i, m, hi, h, hm => by
  obtain ⟨hp, _⟩ := Gb hv
  have hval := Ip hv hm
  rw [B8]
  by_cases hlt : i < l.length
  ·have hx : l[i]? = some l[i] := by simp [hlt]
   rw [AE (by simp only; omega), CQ hx, Fh]
   simp only [A1, AZ, hx, oS, AJ (show i < 1000000 by omega)]
   rw [N0 N hN h20 (NH hm), if_pos hval]
   simp only [oS]
   by_cases h1 : (EG p m l[i]).2 = 0
   ·have hm' := JA hp hm h1
    rw [h1, bne_self_eq_false, Ao, JV N p _ hN h20 hp hm']
    simp only [oS]
    cases hr : FW p (EG p m l[i]).1
    ·rw [if_neg (by simp)]; rfl
    ·rw [if_pos ⟨by simp, by simp⟩, Bool.not_true, Ao]
     exact O7 hN h20 hv hl n (i + 1) _ (by omega) (by omega) hm'
   ·rw [bne_iff_ne.2 h1, AD, AD, if_neg (fun q => h1 q.1)]; rfl
  ·rw [AC (by simp only; omega), List.drop_eq_nil_of_le (by omega)]; rfl
theorem R9 (hN : N ≤ 1000000) (h20 : 100 ≤ N) (hv : CW p = 0) (hl : l.length ≤ 1000) (hln : l.length < N) {m : Ac} (hm : Dg p m) : CE N p m l = some (Fh p m l) := by
 unfold CE
 have := O7 hN h20 hv hl N 0 m (Nat.zero_le _) (by omega) hm
 rwa [List.drop_zero] at this
end
def OH (a b : Ad) : Bool := (a.ff == b.ff) && ((a.fh == b.fh) && ((a.fi == b.fi) && true))
theorem QJ (a b : Ad) : OH a b = true ↔ a = b := by
 cases a; cases b
 simp [OH]
def Ry (l : List Ad) (i : Nat) (s : Ad) : Bool := !Gp s || s.ff == 4 || (l.take i).any fun x => OH s x
def Mi (l : List Ad) (i : Nat) (s : Ad) : Option Int := if Ry l i s = true then some 1 else none
def JZ (l : List Ad) : Int := if l.length < 1 ∨ 5 < l.length then 6 else (C9 (Mi l) 0 l).getD 0
theorem Rj {N : Nat} {k : Int} {w : ByteArray} (h : Em N k = some w) : w.size ≤ 6 := by
 unfold Em at h
 obtain ⟨v, h1, h2⟩ := bind_some h
 cases h2
 unfold BD at h1
 split at h1
 ·generalize k.toNat = i at h1
  match i, h1 with
  | 0, h1 => cases h1; decide
  | 1, h1 => cases h1; decide
  | 2, h1 => cases h1; decide
  | 3, h1 => cases h1; decide
  | 4, h1 => cases h1; decide
  | i + 5, h1 => simp at h1
 ·cases h1
def QB (s : Ad) : Prop := (-9223372036854775808 ≤ s.fh ∧ s.fh ≤ 9223372036854775807) ∧ (-9223372036854775808 ≤ s.fi ∧ s.fi ≤ 9223372036854775807)
theorem Ny {n : Int} (h0 : -9223372036854775808 ≤ n) (h1 : n ≤ 9223372036854775807) : ∃ r : ByteArray, O5 n = some r ∧ r.size ≤ 21 := by
 unfold O5
 rw [if_pos ⟨h0, h1⟩]
 exact ⟨_, rfl, by show (Lib.itoa n).toArray.size ≤ 21; simpa using Lib.itoa_length_le n h0 h1⟩
theorem Kk (a b : ByteArray) : (a ++ b).size = a.size + b.size := by simp
theorem Q6 {N : Nat} {k : Int} (h1 : 1 ≤ k) (h4 : k ≤ 4) : ∃ w, Em N k = some w ∧ w.size ≤ 6 := by
 have : ∃ w, Em N k = some w := by
  unfold Em BD
  rw [if_pos (by omega)]
  obtain ⟨q, hq⟩ : ∃ q : Nat, k = (q : Int) := ⟨k.toNat, by omega⟩
  subst hq
  rw [Int.toNat_natCast]
  match q, h1, h4 with
  | 1, _, _ => exact ⟨_, rfl⟩
  | 2, _, _ => exact ⟨_, rfl⟩
  | 3, _, _ => exact ⟨_, rfl⟩
  | 4, _, _ => exact ⟨_, rfl⟩
 obtain ⟨w, hw⟩ := this
 exact ⟨w, hw, Rj hw⟩
theorem Re (N : Nat) {s : Ad} (hw : QB s) : ∃ t, Fo N s = some (t, if Gp s = true then 0 else 1) := by
 unfold Fo
 rw [JR]
 simp only [oS, A1]
 cases hv : Gp s
 ·exact ⟨_, rfl⟩
 ·obtain ⟨k1, k4, _⟩ := Ir hv
  obtain ⟨w, e1, l1⟩ := Q6 (N := N) k1 k4
  obtain ⟨a, e2, l2⟩ := Ny hw.1.1 hw.1.2
  obtain ⟨b, e3, l3⟩ := Ny hw.2.1 hw.2.2
  have z1 : (⟨#[32]⟩ : ByteArray).size = 1 := rfl
  unfold FZ
  rw [Bool.not_true, Ao, e1]
  simp only [oS]
  rw [As (by rw [z1]; omega), e2]
  simp only [oS]
  rw [As (by rw [Kk, z1]; omega), e3]
  simp only [oS]
  cases s.ff == 1
  ·rw [Ao]; exact ⟨_, rfl⟩
  ·rw [AD, As (by rw [z1]; omega), As (by rw [Kk, Kk, Kk, z1]; omega)]; exact ⟨_, rfl⟩
theorem LK {N : Nat} (l : List Ad) (s : Ad) (hl : l.length ≤ 1000) (hln : l.length < N) : BM N l s = some ((C9 (fun i x => if OH s x = true then some (i : Int) else none) 0 l).getD (-1)) := by
 unfold BM
 have := Cr (AX N l s (fun _ => some (-1))) l (some (-1)) (fun i x => if OH s x = true then some (i : Int) else none)
  (fun n i x hx => by
   have hi := (lI.1 hx).1
   rw [AX, AE (by omega)]
   simp only [AZ, hx, oS, AJ (show i < 1000000 by omega)]
   show AL (OH s x) _ _ = _
   cases OH s x <;> rfl)
  (fun n => by rw [AX, AC (by omega)]) N 0 (Nat.zero_le _) (by omega)
 rw [List.drop_zero] at this
 refine this.trans ?_
 cases C9 (fun i x => if OH s x = true then some (i : Int) else none) 0 l <;> rfl
theorem QZ {l : List Ad} {s : Ad} : ∀ (i : Nat), decide (0 ≤ (C9 (fun i x => if OH s x = true then some (i : Int) else none) i l).getD (-1)) = l.any fun x => OH s x := by
 induction l with
 | nil => intro i; rfl
 | cons x l ih =>
  intro i
  rw [Gj, List.any_cons]
  cases h : OH s x
  ·simp only [Bool.false_or]; exact ih (i + 1)
  ·simp only [Bool.true_or, if_true]; exact decide_eq_true (by simp only [Option.getD_some]; omega)
theorem MW {N : Nat} (l : List Ad) (s : Ad) (hl : l.length ≤ 1000) (hln : l.length < N) : Bt N l s = some (l.any fun x => OH s x) := by
 unfold Bt
 rw [LK l s hl hln]
 simp only [oS]
 rw [QZ]
theorem TM {N : Nat} (l : List Ad) (hln : 10 < N) (hw : ∀ s, s ∈ l → QB s) : FR N l = some (JZ l) := by
 unfold FR JZ
 simp only [A1]
 by_cases h1 : (l.length : Int) < 1
 ·rw [AE h1, AD, if_pos (.inl (by omega))]
 rw [AC h1]
 by_cases h5 : (5 : Int) < (l.length : Int)
 ·rw [decide_eq_true h5, AD, if_pos (.inr (by omega))]
 rw [decide_eq_false h5, Ao, if_neg (by omega)]
 have := Cr (DG N l (fun _ => some 0)) l (some 0) (Mi l)
  (fun n i x hx => by
   have hi := (lI.1 hx).1
   obtain ⟨t, ht⟩ := Re N (hw x (lM hx))
   rw [DG, AE (by omega)]
   simp only [A1, AZ, hx, oS, AJ (show i < 1000000 by omega), ht, Int.toNat_natCast, List.drop_zero, Nat.sub_zero]
   unfold Mi Ry
   cases Gp x
   ·rw [if_neg (by simp)]; rfl
   ·rw [if_pos rfl, bne_self_eq_false, Ao]
    cases x.ff == 4
    ·rw [Ao, As ⟨by omega, by omega, by omega⟩, MW _ x (by simp; omega) (by simp; omega)]
     simp only [oS, Bool.not_true, Bool.false_or]
     cases (l.take i).any fun y => OH x y <;> rfl
    ·rfl)
  (fun n => by rw [DG, AC (by omega)]) N 0 (Nat.zero_le _) (by omega)
 rw [List.drop_zero] at this
 refine this.trans ?_
 cases C9 (Mi l) 0 l <;> rfl
theorem Ll (N : Nat) (l : List Ad) (v4 : Nat) (x : Ad) (hx : l[v4]? = some x) (hl : l.length ≤ 5) (j : Option Int) : ∀ (n i : Nat), i ≤ v4 → v4 - i < n →
  Cs N l (v4 : Int) (fun _ => j) n (i : Int) = if ((l.take v4).drop i).any (fun y => OH x y) = true then some 1 else j
 | 0, i, _, h => by omega
 | n + 1, i, hi, h => by
  have h4 := (lI.1 hx).1
  rw [Cs]
  by_cases hlt : i < v4
  ·have hy : l[i]? = some (l[i]'(by omega)) := by simp [show i < l.length by omega]
   have hy' : (l.take v4)[i]? = some (l[i]'(by omega)) := by rw [List.getElem?_take_of_lt hlt]; exact hy
   rw [AE (by omega), CQ hy']
   simp only [AZ, hx, hy, oS, AJ (show i < 1000000 by omega)]
   show AL (OH (l[i]'(by omega)) x) _ _ = _
   have e : OH (l[i]'(by omega)) x = OH x (l[i]'(by omega)) := by
    rw [Bool.eq_iff_iff, QJ, QJ]; exact ⟨Eq.symm, Eq.symm⟩
   rw [List.any_cons]
   rcases Bool.eq_false_or_eq_true (OH x (l[i]'(by omega))) with he | he
   ·rw [e, he, AD, Bool.true_or, if_pos rfl]
   ·rw [e, he, Ao, Bool.false_or]; exact Ll N l v4 x hx hl j n (i + 1) (by omega) (by omega)
  ·rw [AC (by omega), List.drop_eq_nil_of_le (by simp; omega)]; rfl
theorem Pi {N : Nat} (l : List Ad) (hln : 10 < N) : D5 N l = some (JZ l) := by
 unfold D5 JZ
 simp only [A1]
 by_cases h1 : (l.length : Int) < 1
 ·rw [AE h1, AD, if_pos (.inl (by omega))]
 rw [AC h1]
 by_cases h5 : (5 : Int) < (l.length : Int)
 ·rw [decide_eq_true h5, AD, if_pos (.inr (by omega))]
 rw [decide_eq_false h5, Ao, if_neg (by omega)]
 have := Cr (BR N l (fun _ => some 0)) l (some 0) (Mi l)
  (fun n i x hx => by
   have hi := (lI.1 hx).1
   rw [BR, AE (by omega)]
   simp only [A1, AZ, hx, oS, AJ (show i < 1000000 by omega), Ko]
   unfold Mi Ry
   cases Gp x
   ·cases x.ff == 4 <;> rfl
   ·cases x.ff == 4
    ·rw [Bool.not_true, Ao, Ao]
     have e := Ll N l i x hx (by omega) (BR N l (fun _ => some 0) n ((i + 1 : Nat) : Int)) N 0 (Nat.zero_le _) (by omega)
     rw [List.drop_zero] at e
     refine Eq.trans e ?_
     simp only [Bool.false_or]
     split <;> rfl
    ·rfl)
  (fun n => by rw [BR, AC (by omega)]) N 0 (Nat.zero_le _) (by omega)
 rw [List.drop_zero] at this
 refine this.trans ?_
 cases C9 (Mi l) 0 l <;> rfl
end Go.Lift
namespace Go.Lift
open Option renaming bind_some → oS
open Go
section
variable {α β : Type}
def Hp : List α → List (α × List α)
 | [] => []
 | x :: xs => (x, xs) :: (Hp xs).map fun q => (q.1, x :: q.2)
def EJ : Nat → List α → List (List α)
 | 0, _ => [[]]
 | k + 1, l => (Hp l).flatMap fun q => (EJ k q.2).map (q.1 :: ·)
def KM (l : List α) : List (List α) := EJ l.length l
theorem Nq : ∀ l : List α, (Hp l).length = l.length
 | [] => rfl
 | x :: xs => by simp [Hp, Nq xs]
theorem OT : ∀ {l : List α} {i : Nat} {x : α}, l[i]? = some x → (Hp l)[i]? = some (x, l.eraseIdx i)
 | y :: ys, 0, x, h => by simp at h; subst h; rfl
 | y :: ys, i + 1, x, h => by
  rw [Hp, List.getElem?_cons_succ, List.getElem?_map, OT (by simpa using h)]; rfl
theorem NE (f : α → β) : ∀ l : List α, Hp (l.map f) = (Hp l).map fun q => (f q.1, q.2.map f)
 | [] => rfl
 | x :: xs => by simp [Hp, NE f xs]
theorem Mk (f : α → β) : ∀ (k : Nat) (l : List α), EJ k (l.map f) = (EJ k l).map (List.map f)
 | 0, _ => rfl
 | k + 1, l => by
  simp only [EJ, NE, List.flatMap_map, List.map_flatMap]
  congr 1
  funext q
  rw [Mk f k]
  simp [Function.comp_def]
theorem J2 : ∀ {l : List α} {q : α × List α}, q ∈ Hp l → (q.1 :: q.2).Perm l
 | x :: xs, q, h => by
  rw [Hp] at h
  rcases List.mem_cons.1 h with e | e
  ·subst e; exact List.Perm.refl _
  ·obtain ⟨r, hr, rfl⟩ := List.mem_map.1 e
   exact (List.Perm.swap x r.1 r.2).trans ((J2 hr).cons x)
theorem Nc : ∀ {l : List α} {x : α}, x ∈ l → ∃ q, q ∈ Hp l ∧ q.1 = x
 | y :: ys, x, h => by
  rcases List.mem_cons.1 h with e | e
  ·exact ⟨(y, ys), by simp [Hp], e.symm⟩
  ·obtain ⟨q, h1, h2⟩ := Nc e
   exact ⟨(q.1, y :: q.2), by simp only [Hp, List.mem_cons, List.mem_map]; exact .inr ⟨q, h1, rfl⟩, h2⟩
theorem IV : ∀ {k : Nat} {l x : List α}, l.length = k → (x ∈ EJ k l ↔ x.Perm l)
 | 0, l, x, h => by
  have := List.eq_nil_of_length_eq_zero h
  subst this
  simp [EJ]
 | k + 1, l, x, h => by
  simp only [EJ, List.mem_flatMap, List.mem_map]
  constructor
  ·rintro ⟨q, hq, z, hz, rfl⟩
   have hp := J2 hq
   have hl : q.2.length = k := by have := hp.length_eq; simp at this; omega
   exact (((IV hl).1 hz).cons q.1).trans hp
  ·intro hx
   cases x with
   | nil => have := hx.length_eq; simp at this; omega
   | cons y z =>
    obtain ⟨q, hq, rfl⟩ := Nc (hx.mem_iff.1 (List.mem_cons_self : y ∈ y :: z))
    have hp := J2 hq
    have hl : q.2.length = k := by have := hp.length_eq; simp at this; omega
    exact ⟨q, hq, z, (IV hl).2 ((List.perm_cons q.1).1 (hx.trans hp.symm)), rfl⟩
theorem Nh {l x : List α} : x ∈ KM l ↔ x.Perm l := IV rfl
theorem Lt : ∀ {k : Nat} {l : List α}, l.length = k → ∃ r, EJ k l = l :: r
 | 0, l, h => by
  have := List.eq_nil_of_length_eq_zero h
  subst this
  exact ⟨[], rfl⟩
 | k + 1, [], h => by simp at h
 | k + 1, x :: xs, h => by
  obtain ⟨r, hr⟩ := Lt (k := k) (l := xs) (by simpa using h)
  simp only [EJ, Hp, List.flatMap_cons, hr, List.map_cons, List.cons_append]
  exact ⟨_, rfl⟩
end
def JH (p : Ab) (m e : Ac) (x : List Ad) : Bool := !((Fh p m x).2 && decide ((Fh p m x).1 = e))
def P3 (p : Ab) (m : Ac) (l : List Ad) : List Ad × Int :=
 if Ey p m ≠ 0 then ([], Ey p m) else if JZ l ≠ 0 then ([], JZ l) else
 if (FW p m && (Fh p m l).2) = true then (match (KM l).find? (JH p m (Fh p m l).1) with | some x => (x, 0) | none => ([], 15)) else (l, 0)
theorem Qb {N : Nat} (hN : N ≤ 1000000) (h20 : 100 ≤ N) {p : Ab} {a b : Ac} (hp : B1 p) (ha : Dg p a) : EB N a b = some (Ov a b) := by
 have := hp.nv
 have := hp.nt
 have h1 : a.fd.length < N := by rw [ha.base]; omega
 have h2 : a.fa.length < N := by rw [ha.next]; omega
 have h3 : a.fc.length < N := by rw [ha.held]; omega
 unfold EB
 rw [MK h1 hN, MK h2 hN, Ph h3 hN]
 simp only [oS]
 rw [US (by simp; omega) hN]
 rfl
theorem SF {a b : Ac} : (Ov a b != 0) = !decide (a = b) := by rw [← Pu]; rfl
section
variable {N : Nat} {p : Ab} {m e : Ac}
theorem Tx (hN : N ≤ 1000000) (h20 : 100 ≤ N) (hv : CW p = 0) (hm : Dg p m) {x : List Ad} (hl : x.length ≤ 90) (o : Option (List Ad)) :
  Fi N x p.fb p.fm p.fo p.fe m.fd m.fa m.fc e.fd e.fa e.fc o = some (if JH p m e x = true then (false, some x) else (true, o)) := by
 obtain ⟨hp, _⟩ := Gb hv
 unfold Fi
 show (CF N p m x).bind _ = _
 rw [Qm hN h20 hv (by omega) (by omega) hm]
 simp only [oS, A1]
 unfold JH
 cases h : (Fh p m x).2
 ·rfl
 ·rw [Bool.not_true, Ao]
  show (EB N (Fh p m x).1 e).bind _ = _
  rw [Qb hN h20 hp (NU hp hm h)]
  simp only [oS, SF, Bool.true_and]
  cases decide ((Fh p m x).1 = e) <;> rfl
abbrev Om (taken : List Ad) (o : Option (List Ad)) : Option (List Ad) → Bool × Option (List Ad)
 | some x => (false, some (taken ++ x))
 | none => (true, o)
theorem Nt (hN : N ≤ 1000000) (h20 : 100 ≤ N) (hv : CW p = 0) (hm : Dg p m) : ∀ (k : Nat) (rest taken : List Ad) (o : Option (List Ad)), rest.length < k → taken.length + rest.length ≤ 80 →
  CJ N k taken rest p.fb p.fm p.fo p.fe m.fd m.fa m.fc e.fd e.fa e.fc o = some (Om taken o ((KM rest).find? fun x => JH p m e (taken ++ x)))
 | 0, _, _, _, h, _ => by omega
 | k + 1, rest, taken, o, hk, hl => by
  rw [CJ, Ew]
  cases hr : rest with
  | nil =>
   rw [show ((([] : List Ad).length : Int) == 0) = true from rfl, AD, Tx hN h20 hv hm (by omega)]
   simp only [KM, EJ, List.length_nil, List.find?_cons, List.append_nil, List.find?_nil, oS]
   cases JH p m e taken <;> simp [Om]
  | cons y ys =>
   rw [← hr]
   have hlen : rest.length = ys.length + 1 := by rw [hr]; rfl
   rw [beq_eq_false_iff_ne.2 (show (rest.length : Int) ≠ 0 by omega), Ao]
   have key : ∀ (n i : Nat), i ≤ rest.length → rest.length - i < n →
     CY N taken rest p.fb p.fm p.fo p.fe m.fd m.fa m.fc e.fd e.fa e.fc (CJ N k) (fun v4 => some (true, v4)) n (o, (i : Int)) =
      some (Om taken o (((Hp rest).drop i).findSome? fun q => ((EJ ys.length q.2).find? fun x => JH p m e (taken ++ q.1 :: x)).map (q.1 :: ·))) := by
    intro n
    induction n with
    | zero => intro i _ h; omega
    | succ n ih =>
     intro i hi hn
     rw [CY]
     by_cases hlt : i < rest.length
     ·have hx : rest[i]? = some rest[i] := by simp [hlt]
      obtain ⟨X, d1, d2, _⟩ := Rl N rest i hlt (by omega)
      have d3 : rest.length - 1 ≤ X.length := by omega
      have hle : (rest.eraseIdx i).length = ys.length := by rw [QW hlt]; omega
      rw [AE (by simp only; omega), CQ (OT hx), List.findSome?_cons]
      simp only [AZ, hx, oS, AJ (show i < 1000000 by omega)]
      rw [II N taken (by unfold Do; omega), oS, As (by simp [Do]; omega), II N rest (by unfold Do; omega), oS, d1, oS]
      simp only
      rw [As d3, d2, Nt hN h20 hv hm k _ _ o (by omega) (by simp; omega)]
      have e1 : (fun x => JH p m e (taken ++ [rest[i]] ++ x)) = fun x => JH p m e (taken ++ rest[i] :: x) := by
       funext x; rw [List.append_assoc]; rfl
      unfold KM
      rw [hle, e1]
      simp only [oS]
      cases (EJ ys.length (rest.eraseIdx i)).find? fun x => JH p m e (taken ++ rest[i] :: x) with
      | some z => simp [Om]
      | none => exact ih (i + 1) (by omega) (by omega)
     ·rw [AC (by simp only; omega), List.drop_eq_nil_of_le (by rw [Nq]; omega)]; rfl
   have := key N 0 (Nat.zero_le _) (by omega)
   rw [List.drop_zero] at this
   refine this.trans ?_
   congr 2
   unfold KM
   rw [hlen, EJ, List.find?_flatMap]
   congr 1
   funext q
   rw [List.find?_map]
   rfl
end
end Go.Lift
namespace Go.Lift
open Option renaming bind_some → oS
open List renaming mem_of_getElem? → lM
open List renaming getD_eq_getElem?_getD → lD
open Go
theorem Rb {N : Nat} {a b : Ac} (hN : N ≤ 1000000) (h20 : 100 ≤ N) (ha : a.fd.length ≤ 90 ∧ a.fa.length ≤ 90 ∧ a.fc.length ≤ 90 ∧ Jf IB a.fc) (hb : b.fc.length ≤ 90 ∧ Jf IB b.fc) : DS N a b = some (decide (a = b)) := by
 unfold DS
 rw [PJ hN (by omega) (by omega) (by omega) (by omega) ha.2.2.2 hb.2]
 simp only [oS, Pu]
theorem Vs {p : Ab} {a : Ac} (hp : B1 p) (ha : Dg p a) : a.fd.length ≤ 90 ∧ a.fa.length ≤ 90 ∧ a.fc.length ≤ 90 ∧ Jf IB a.fc := by
 have := hp.nv
 have := hp.nt
 exact ⟨by rw [ha.base]; omega, by rw [ha.next]; omega, by rw [ha.held]; omega, NH ha⟩
theorem NX {p : Ab} {m : Ac} (hp : B1 p) (hm : Dg p m) (l : List Ad) : (Fh p m l).1.fd.length ≤ 90 ∧ (Fh p m l).1.fa.length ≤ 90 ∧ (Fh p m l).1.fc.length ≤ 90 ∧ Jf IB (Fh p m l).1.fc := by
 have : (Fh p m l).2 = true ∨ (Fh p m l).1 = EZ := by
  induction l generalizing m with
  | nil => exact .inl rfl
  | cons s l ih =>
   unfold Fh
   by_cases hc : (EG p m s).2 = 0 ∧ FW p (EG p m s).1 = true
   ·rw [if_pos hc]; exact ih (JA hp hm hc.1)
   ·rw [if_neg hc]; exact .inr rfl
 rcases this with h | h
 ·exact Vs hp (NU hp hm h)
 ·rw [h]; exact ⟨by simp [EZ], by simp [EZ], by simp [EZ], fun x hx => by simp [EZ] at hx⟩
theorem Q0 : ∀ n : Nat, 1 ≤ n → n ≤ 5 → DB 1000 (n : Int) = some ((EJ n (List.range n)).map (List.map fun i : Nat => (i : Int)))
 | 1, _, _ => by kernel_rfl
 | 2, _, _ => by kernel_rfl
 | 3, _, _ => by kernel_rfl
 | 4, _, _ => by kernel_rfl
 | 5, _, _ => by kernel_rfl
 | 0, h, _ => by omega
 | n + 6, _, h => by omega
theorem P9 {N : Nat} (l : List Ad) (o : List Nat) (hl : l.length ≤ 90) (ho : o.length ≤ 90) (hN : 100 ≤ N) (hi : ∀ i, i ∈ o → i < l.length) : Dd N l (o.map fun i : Nat => (i : Int)) = some (o.map fun i => l.getD i LG) := by
 unfold Dd
 have key : ∀ (n i : Nat) (a : List Ad), i ≤ o.length → o.length - i < n → a.length ≤ i → B6 N l (o.map fun i : Nat => (i : Int)) (fun v2 => some v2) n (a, (i : Int)) = some (a ++ (o.drop i).map fun i => l.getD i LG) := by
  intro n
  induction n with
  | zero => intro i a _ h; omega
  | succ n ih =>
   intro i a h1 h2 h3
   rw [B6]
   by_cases hlt : i < o.length
   ·have hx : o[i]? = some o[i] := by simp [hlt]
    have hy : l[o[i]]? = some (l.getD o[i] LG) := by
     have := hi o[i] (List.getElem_mem hlt)
     rw [lD, List.getElem?_eq_getElem this]; rfl
    rw [AE (by simp only [List.length_map]; omega), CQ hx]
    simp only [AZ, List.getElem?_map, hx, Option.map_some, oS, hy, AJ (show i < 1000000 by omega)]
    rw [As (by simp [Do]; omega), ih (i + 1) _ (by omega) (by omega) (by simp; omega), List.map_cons, List.append_assoc]
    rfl
   ·rw [AC (by simp only [List.length_map]; omega), List.drop_eq_nil_of_le (by omega)]; simp
 have := key N 0 [] (Nat.zero_le _) (by omega) (Nat.zero_le _)
 rw [List.drop_zero, List.nil_append] at this
 exact this
theorem P0 (l : List Ad) : (List.range l.length).map (fun i => l.getD i LG) = l := by
 apply List.ext_getElem
 ·simp
 ·intro i h1 h2
  simp [lD, h2]
theorem O0 {l : List Ad} (h : JZ l = 0) : 1 ≤ l.length ∧ l.length ≤ 5 := by
 unfold JZ at h
 split at h
 ·cases h
 ·omega
theorem QX : ∀ n : Nat, n ≤ 5 → (EJ n (List.range n)).length ≤ 120
 | 0, _ => by decide
 | 1, _ => by decide
 | 2, _ => by decide
 | 3, _ => by decide
 | 4, _ => by decide +kernel
 | 5, _ => by decide +kernel
 | n + 6, h => by omega
section
variable {p : Ab} {m : Ac} {l : List Ad}
theorem NV (hv : CW p = 0) (hm : Dg p m) (hw : ∀ s, s ∈ l → QB s) (hl : l.length ≤ 30) : EV 1000 p m l = some (P3 p m l) := by
 have hval := Ip hv hm
 unfold EV P3
 rw [J0 1000 p m (by omega) (by omega) (NH hm) hval, if_neg (fun q => q hval)]
 simp only [oS, bne_self_eq_false, Ao, A1]
 rw [TM l (by omega) hw]
 simp only [oS]
 by_cases hf : JZ l = 0
 ·rw [hf, bne_self_eq_false, Ao, Qm (by omega) (by omega) hv (by omega) (by omega) hm, if_neg (fun q => q rfl)]
  simp only [oS]
  have hlen := O0 hf
  cases FW p m
  ·rw [Bool.not_false, AD, AD, II 1000 l (by unfold Do; omega)]; rfl
  ·rw [Bool.not_true, Ao]
   cases ho : (Fh p m l).2
   ·rw [Bool.not_false, AD, II 1000 l (by unfold Do; omega)]; rfl
   ·rw [Bool.not_true, Ao]
    simp only [Bool.and_self, if_true]
    have hs := Nt (N := 1000) (e := (Fh p m l).1) (by omega) (by omega) hv hm 1000 l [] none (by omega) (by simp; omega)
    rw [show (fun x => JH p m (Fh p m l).1 ([] ++ x)) = JH p m (Fh p m l).1 from rfl] at hs
    unfold GI
    rw [hs]
    simp only [oS]
    cases hq : (KM l).find? (JH p m (Fh p m l).1) with
    | none => rfl
    | some x =>
     have hx := (Nh.1 (List.mem_of_find?_eq_some hq)).length_eq
     cases x with
     | nil => simp at hx; omega
     | cons y ys => rfl
 ·rw [bne_iff_ne.2 hf, AD, if_pos hf]
theorem OJ {N : Nat} (hN : N ≤ 1000000) (h20 : 100 ≤ N) (hv : CW p = 0) (hm : Dg p m) (hl : l.length ≤ 30) {qs : List (List Nat)} (hall : ∀ q, q ∈ qs → q.length = l.length ∧ ∀ i, i ∈ q → i < l.length) (hcnt : qs.length ≤ 120) : ∀ (n i : Nat), i ≤ qs.length → qs.length - i < n →
  CA N p m l (qs.map (List.map fun i : Nat => (i : Int))) (Fh p m l) (fun _ => some ([], 15)) n (i : Int) = some (match ((qs.drop i).map fun q => q.map fun i => l.getD i LG).find? (JH p m (Fh p m l).1) with | some x => (x, 0) | none => ([], 15))
 | 0, i, _, h => by omega
 | n + 1, i, hi, h => by
  obtain ⟨hp, _⟩ := Gb hv
  rw [CA]
  by_cases hlt : i < qs.length
  ·have hq : qs[i]? = some qs[i] := by simp [hlt]
   obtain ⟨h1, h2⟩ := hall _ (lM hq)
   rw [AE (by simp only [List.length_map]; omega), CQ hq, List.map_cons, List.find?_cons]
   simp only [AZ, List.getElem?_map, hq, Option.map_some, oS]
   rw [P9 l qs[i] (by omega) (by omega) (by omega) h2]
   simp only [oS]
   generalize hx : (qs[i].map fun i => l.getD i LG) = x
   have hxl : x.length ≤ 30 := by rw [← hx, List.length_map]; omega
   rw [R9 hN h20 hv (by omega) (by omega) hm]
   simp only [oS, A1, AJ (show i < 1000000 by omega)]
   have ih := OJ hN h20 hv hm hl hall hcnt n (i + 1) (by omega) (by omega)
   unfold JH at ih ⊢
   cases ho : (Fh p m x).2
   ·rfl
   ·rw [Bool.not_true, Ao, Rb hN h20 (NX hp hm _) ⟨(NX hp hm _).2.2.1, (NX hp hm _).2.2.2⟩]
    simp only [oS, Bool.true_and]
    cases decide ((Fh p m x).1 = (Fh p m l).1)
    ·rfl
    ·exact ih
  ·rw [AC (by simp only [List.length_map]; omega), List.drop_eq_nil_of_le (by omega)]; rfl
theorem Pa {N : Nat} (hN : N ≤ 1000000) (h20 : 200 ≤ N) (hord : 1 ≤ l.length → l.length ≤ 5 → DB N (l.length : Int) = some ((EJ l.length (List.range l.length)).map (List.map fun i : Nat => (i : Int)))) (hv : CW p = 0) (hm : Dg p m) (hl : l.length ≤ 30) : DH N p m l = some (P3 p m l) := by
 have hval := Ip hv hm
 obtain ⟨hp, _⟩ := Gb hv
 unfold DH P3
 rw [Kl N p m hN (by omega), if_neg (fun q => q hval), hval]
 simp only [oS, bne_self_eq_false, Ao]
 rw [Pi l (by omega)]
 simp only [oS]
 by_cases hf : JZ l = 0
 ·have hlen := O0 hf
  rw [hf, bne_self_eq_false, Ao, JV N p m hN (by omega) hp hm, if_neg (fun q => q rfl)]
  simp only [oS]
  cases FW p m
  ·rw [Bool.not_false, AD, As (by simp [Do]; omega)]; rfl
  ·rw [Bool.not_true, Ao, hord hlen.1 hlen.2]
   simp only [oS]
   rw [R9 hN (by omega) hv (by omega) (by omega) hm]
   simp only [oS]
   have hall : ∀ q, q ∈ EJ l.length (List.range l.length) → q.length = l.length ∧ ∀ i, i ∈ q → i < l.length := fun q hq => by
    have hp := (IV (by simp)).1 hq
    exact ⟨by have := hp.length_eq; simpa using this, fun i hi => by simpa using hp.mem_iff.1 hi⟩
   have hperm : KM l = (EJ l.length (List.range l.length)).map fun q => q.map fun i => l.getD i LG := by
    have e := Mk (fun i => l.getD i LG) l.length (List.range l.length)
    rw [P0] at e
    exact e
   have hcnt := QX l.length hlen.2
   generalize EJ l.length (List.range l.length) = qs at hall hperm hcnt
   have e := OJ hN (by omega) hv hm (by omega) hall hcnt N 0 (Nat.zero_le _) (by omega)
   rw [List.drop_zero, ← hperm] at e
   refine e.trans ?_
   cases ho : (Fh p m l).2
   ·obtain ⟨r, hr⟩ := Lt (l := l) rfl
    have hb : JH p m (Fh p m l).1 l = true := by unfold JH; rw [ho]; rfl
    unfold KM
    rw [hr, List.find?_cons, hb]; rfl
   ·rfl
 ·rw [bne_iff_ne.2 hf, AD, if_pos hf]
theorem Qf (hv : CW p = 0) (hm : Dg p m) (hl : l.length ≤ 30) : DH 1000 p m l = some (P3 p m l) := Pa (by omega) (by omega) (Q0 l.length) hv hm hl
theorem RH (hl : l.length ≤ 30) : (P3 p m l).1.length ≤ 30 := by
 unfold P3
 split
 ·exact Nat.zero_le _
 ·split
  ·exact Nat.zero_le _
  ·split
   ·split
    ·rename_i x h
     have := (Nh.1 (List.mem_of_find?_eq_some h)).length_eq
     show x.length ≤ 30
     omega
    ·exact Nat.zero_le _
   ·exact hl
end
theorem Sc {l : List Ad} (h : Jf Jp l) : ∀ s, s ∈ l → QB s := by
 intro s hs
 obtain ⟨_, h2, h3, _⟩ := h s hs
 have h2 : (Lit.int .i64 s.fh).wf = true := h2
 have h3 : (Lit.int .i64 s.fi).wf = true := h3
 simp [Lit.wf, IntKind.min, IntKind.max, IntKind.signed, IntKind.bits] at h2 h3
 exact ⟨h2, h3⟩
theorem OG : DR 1000 = some true := by show _ = _; kernel_rfl
theorem MJ (d : BE) (x : Bj) (l : List Ad) (wd : En d) (wx : Eh x) (wl : Jf Jp l) : CZ 1000 d x l = some true := by
 obtain ⟨p, ok, e, h⟩ := Rz d x wd wx
 unfold CZ
 rw [e]
 simp only [oS, A1, OG, Bool.not_true, Ao]
 cases ok
 ·rfl
 obtain ⟨hg, hp, m, e2, hi, ho, hv, hw⟩ := h rfl
 rw [Bool.not_true, Ao]
 by_cases h7 : (7 : Int) < (l.length : Int)
 ·rw [decide_eq_true h7]; rfl
 ·rw [decide_eq_false h7, Ao, e2]
  simp only [oS]
  have hl := RH (p := p) (m := m) (l := l) (by omega)
  rw [NV hg.valid ho (Sc wl) (by omega), Qf hg.valid ho (by omega)]
  simp only [oS, beq_self_eq_true, AD]
  rw [Pt 1000 _ (by omega) (by omega)]; rfl
end Go.Lift
