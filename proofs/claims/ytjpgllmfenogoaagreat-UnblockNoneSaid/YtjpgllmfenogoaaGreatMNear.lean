/- Lemmas for UnblockNoneSaid, which YtjpgllmfenogoaaGreatFinU3 proves. -/
import Derived.Test.YtjpgllmfenogoaaGreatDec
import Derived.KernelRfl
namespace Go.Lift
open IntKind renaming wrap → wI
open Option renaming bind_some → oS
open List renaming getElem?_eq_some_iff → lI
theorem A1 {α : Type} (xs : List α) (i : Nat) : A8 xs (i : Int) = xs[i]? := by
 unfold A8; simp
theorem DH {n : Int} (h0 : -9223372036854775808 ≤ n) (h1 : n ≤ 9223372036854775807) : wI .i64 n = n := by
 simp [wI, IntKind.signed, IntKind.bits]; omega
theorem AI {i : Nat} (h : i < 1000000) : wI .i64 ((i : Int) + 1) = ((i + 1 : Nat) : Int) := by
 rw [DH (by omega) (by omega)]; simp
@[simp] theorem AX {α : Type} {a b : Option α} : AY true a b = a := rfl
@[simp] theorem Av {α : Type} {a b : Option α} : AY false a b = b := rfl
theorem AM {α : Type} {p : Prop} [Decidable p] {a b : Option α} (h : p) : AY (decide p) a b = a := by simp [h]
theorem AE {α : Type} {p : Prop} [Decidable p] {a b : Option α} (h : ¬ p) : AY (decide p) a b = b := by simp [h]
def JJ : List Int → List Int → Int
 | [], [] => 0
 | [], _ :: _ => -1
 | _ :: _, [] => 1
 | a :: as1, b :: bs => if a < b then -1 else if b < a then 1 else JJ as1 bs
theorem IG {α : Type} {xs : List α} {i : Nat} {x : α} (h : xs[i]? = some x) : xs.drop i = x :: xs.drop (i + 1) := by
 obtain ⟨hi, rfl⟩ := lI.1 h
 exact List.drop_eq_getElem_cons hi
theorem VZ (N : Nat) (a b : List Int) (hb : a.length < 1000000) : ∀ (n i : Nat), i ≤ a.length → i ≤ b.length → a.length - i < n →
  Ej N a b (fun _ => AY (decide ((a.length : Int) < (b.length : Int))) (some (-1)) (AY (decide ((b.length : Int) < (a.length : Int))) (some 1) (some 0))) n (i : Int) = some (JJ (a.drop i) (b.drop i))
 | 0, i, _, _, h => by omega
 | n + 1, i, hi, hj, h => by
  unfold Ej
  simp only [Be]
  by_cases h1 : i < a.length
  ·rw [AM (p := (i : Int) < (a.length : Int)) (by omega)]
   have ha : a[i]? = some a[i] := by simp [h1]
   rw [IG ha]
   by_cases h2 : i < b.length
   ·have hbb : b[i]? = some b[i] := by simp [h2]
    rw [show decide ((i : Int) < (b.length : Int)) = true from decide_eq_true (by omega), AX, A1, A1, ha, hbb, IG hbb]
    simp only [oS, JJ]
    rw [AI (by omega), VZ N a b hb n (i + 1) (by omega) (by omega) (by omega)]
    by_cases h3 : a[i] < b[i]
    ·simp [h3]
    ·by_cases h4 : b[i] < a[i]
     ·simp [h3, h4]
     ·simp [h3, h4]
   ·rw [show decide ((i : Int) < (b.length : Int)) = false from decide_eq_false (by omega), Av, AE (by omega), AM (by omega), List.drop_eq_nil_of_le (by omega : b.length ≤ i)]
    simp [JJ]
  ·rw [AE (p := (i : Int) < (a.length : Int)) (by omega), Av, List.drop_eq_nil_of_le (by omega : a.length ≤ i)]
   by_cases h2 : a.length < b.length
   ·rw [AM (by omega)]
    have hbb : b[i]? = some b[i] := by simp [show i < b.length from by omega]
    rw [IG hbb]; simp [JJ]
   ·rw [AE (by omega), AE (by omega), List.drop_eq_nil_of_le (by omega : b.length ≤ i)]
    simp [JJ]
theorem P5 {N : Nat} {a b : List Int} (h : a.length < N) (hN : N ≤ 1000000) : Er N a b = some (JJ a b) := by
 have := VZ N a b (by omega) N 0 (by omega) (by omega) (by omega)
 simpa [Er] using this
theorem Rh : ∀ a : List Int, JJ a a = 0
 | [] => rfl
 | a :: as1 => by simp [JJ, Rh as1]
theorem Pi : ∀ a b : List Int, JJ a b = 0 → a = b
 | [], [], _ => rfl
 | [], _ :: _, h => by simp [JJ] at h
 | _ :: _, [], h => by simp [JJ] at h
 | a :: as1, b :: bs, h => by
  unfold JJ at h
  split at h
  ·omega
  ·split at h
   ·omega
   ·rw [Pi as1 bs h, show a = b from by omega]
def al : List Int → Int
 | [] => 0
 | x :: xs => if x = 0 then al xs else x
theorem cC (N : Nat) (a : List Int) (hb : a.length < 1000000) (hw : Qv MV a) : ∀ (n i : Nat), i ≤ a.length → a.length - i < n →
  DD N a (fun v => some v) n (a.take i, (i : Int)) = some a
 | 0, i, _, h => by omega
 | n + 1, i, hi, h => by
  unfold DD
  by_cases h1 : i < a.length
  ·have ha : a[i]? = some a[i] := by simp [h1]
   rw [AM (by simpa using h1)]
   simp only
   rw [A1, ha]
   have hr : wI .i64 a[i] = a[i] := by
    have := hw a[i] (List.getElem_mem h1)
    unfold MV at this
    have h2 : 0 ≤ a[i] ∧ a[i] ≤ 255 := by simpa [Lit.wf, IntKind.min, IntKind.max, IntKind.signed, IntKind.bits] using this
    exact DH (by omega) (by omega)
   simp only [oS, hr]
   have hlen : (a.take i).length + ([a[i]] : List Int).length ≤ DM := by
    simp [DM]; omega
   rw [show Ef ((a.take i).length + ([a[i]] : List Int).length ≤ DM) = some () from by unfold Ef; rw [if_pos hlen]]
   simp only [oS]
   rw [AI (by omega), show a.take i ++ [a[i]] = a.take (i + 1) from by rw [List.take_add_one, ha]; rfl]
   exact cC N a hb hw n (i + 1) (by omega) (by omega)
  ·rw [AE (by simpa using h1)]
   simp only
   rw [List.take_of_length_le (by omega)]
theorem ON {N : Nat} {a : List Int} (h : a.length < N) (hN : N ≤ 1000000) (hw : Qv MV a) : Ek N a = some a := by
 have := cC N a (by omega) hw N 0 (by omega) (by omega)
 simpa [Ek] using this
def ek (a : Ag) : Prop := a.fd.length ≤ 8 ∧ a.fa.length ≤ 8 ∧ a.fe.length ≤ 14
def UE (a b : Ag) : Int := al [JJ a.fd b.fd, JJ a.fa b.fa, JJ a.fe b.fe]
theorem Q8 (a : Ag) : UE a a = 0 := by unfold UE; simp [Rh, al]
def Ep {α R : Type} (f : Nat → α → Option R) : Nat → List α → Option R
 | _, [] => none
 | i, x :: xs => match f i x with
  | some r => some r
  | none => Ep f (i + 1) xs
theorem GW {α R : Type} (f : Nat → α → Option R) (i : Nat) (x : α) (xs : List α) : Ep f i (x :: xs) = match f i x with
  | some r => some r
  | none => Ep f (i + 1) xs := rfl
def Ce {R : Type} (a : Option R) (b : Option R) : Option R := match a with
 | some r => some r
 | none => b
theorem DP {α R : Type} (L : Nat → Int → Option R) (xs : List α) (j : Option R) (f : Nat → α → Option R)
  (hs : ∀ (n i : Nat) (x : α), xs[i]? = some x → L (n + 1) (i : Int) = Ce (f i x) (L n ((i + 1 : Nat) : Int))) (he : ∀ n : Nat, L (n + 1) (xs.length : Int) = j) :
  ∀ n i : Nat, i ≤ xs.length → xs.length - i < n → L n (i : Int) = Ce (Ep f i (xs.drop i)) j
 | 0, i, _, h => by omega
 | n + 1, i, hi, h => by
  by_cases h1 : i < xs.length
  ·have hx : xs[i]? = some xs[i] := by simp [h1]
   rw [hs n i _ hx, IG hx, DP L xs j f hs he n (i + 1) (by omega) (by omega)]
   rw [GW]
   cases f i xs[i] <;> rfl
  ·have : i = xs.length := by omega
   subst this
   rw [he n, List.drop_eq_nil_of_le (Nat.le_refl _)]
   rfl
theorem Ri (N : Nat) (k n : Int) : Fe N k n = some (decide (0 ≤ k) && decide (k < n)) := by
 unfold Fe
 simp only [Be]
 by_cases h : 0 ≤ k
 ·rw [AM h]; simp [h]
 ·rw [AE h]; simp [h]
theorem Ox (N : Nat) (t : Ar) : Bg N t = some (t.ff == 3 || t.ff == 4) := by
 unfold Bg
 simp only [Be]
 cases h : t.ff == 3 <;> simp
def sq (l : List (List Bool)) (n m : Int) : Bool := decide ((l.length : Int) = n) && l.all fun r => decide ((r.length : Int) = m)
theorem Qh {α : Type} (p : α → Bool) {R : Type} (r : Nat → R) : ∀ (i : Nat) (xs : List α), (Ep (fun i x => if p x then none else some (r i)) i xs).isNone = xs.all p
 | i, [] => rfl
 | i, x :: xs => by
  unfold Ep
  cases h : p x <;> simp [h, Qh p r (i + 1) xs]
theorem Rv (N : Nat) (l : List (List Bool)) (n m : Int) (h : n < (N : Int)) (hN : N ≤ 1000000) : EA N l n m = some (sq l n m) := by
 unfold EA sq
 by_cases h1 : (l.length : Int) = n
 ·subst h1
  simp only [bne_self_eq_false, Av, decide_true, Bool.true_and]
  have := DP (C8 N l (l.length : Int) m (fun _ => some true)) l (some true) (fun _ r => if decide ((r.length : Int) = m) then none else some false)
   (fun n i x hx => by
    have hi := (lI.1 hx).1
    rw [C8, AM (by omega), A1, hx]
    simp only [oS]
    rw [AI (by omega)]
    by_cases h2 : (x.length : Int) = m
    ·simp [h2, Ce]
    ·have : ((x.length : Int) != m) = true := by simpa using h2
     simp [h2, this, Ce])
   (fun n => by rw [C8, AE (by omega)]) N 0 (by omega) (by omega)
  simp only [Int.ofNat_zero, List.drop_zero] at this
  rw [this]
  have h3 := Qh (fun r : List Bool => decide ((r.length : Int) = m)) (fun _ => false) 0 l
  cases hsc : Ep (fun (_ : Nat) (r : List Bool) => if decide ((r.length : Int) = m) = true then none else some false) 0 l with
  | none => rw [hsc] at h3; rw [← h3]; rfl
  | some b =>
   rw [hsc] at h3
   rw [← h3]
   have : ∀ (i : Nat) (xs : List (List Bool)) b, Ep (fun (_ : Nat) (r : List Bool) => if decide ((r.length : Int) = m) = true then none else some false) i xs = some b → b = false := by
    intro i xs
    induction xs generalizing i with
    | nil => intro b hb; cases hb
    | cons x xs ih =>
     intro b hb
     unfold Ep at hb
     split at hb
     ·rename_i r hr; cases hb; split at hr <;> simp at hr; exact hr
     ·exact ih _ b hb
   rw [this 0 l b hsc]; rfl
 ·have : ((l.length : Int) != n) = true := by simpa using h1
  simp [this, h1]
theorem Rp (N : Nat) (l : List (List Bool)) (n m : Int) (h : n < (N : Int)) (hN : N ≤ 1000000) : Gu N l n m = some (sq l n m) := by
 unfold Gu sq
 simp only [Be]
 by_cases h1 : (l.length : Int) = n
 ·subst h1
  simp only [beq_self_eq_true, AX, decide_true, Bool.true_and]
  have := DP (BH N l (fun x => E6 N x m) (fun _ => some (-1))) l (some (-1)) (fun i r => if decide ((r.length : Int) = m) then none else some (i : Int))
   (fun n i x hx => by
    have hi := (lI.1 hx).1
    rw [BH, AM (by omega), A1, hx]
    simp only [oS, E6]
    rw [AI (by omega)]
    by_cases h2 : (x.length : Int) = m
    ·simp [h2, Ce]
    ·have : ((x.length : Int) != m) = true := by simpa using h2
     simp [h2, this, Ce])
   (fun n => by rw [BH, AE (by omega)]) N 0 (by omega) (by omega)
  simp only [Int.ofNat_zero, List.drop_zero] at this
  unfold DV Ez
  rw [this]
  have h3 := Qh (fun r : List Bool => decide ((r.length : Int) = m)) (fun i : Nat => (i : Int)) 0 l
  cases hsc : Ep (fun (i : Nat) (r : List Bool) => if decide ((r.length : Int) = m) = true then none else some (i : Int)) 0 l with
  | none => rw [hsc] at h3; rw [← h3]; rfl
  | some b =>
   rw [hsc] at h3
   rw [← h3]
   have : ∀ (i : Nat) (xs : List (List Bool)) b, Ep (fun (i : Nat) (r : List Bool) => if decide ((r.length : Int) = m) = true then none else some (i : Int)) i xs = some b → 0 ≤ b := by
    intro i xs
    induction xs generalizing i with
    | nil => intro b hb; cases hb
    | cons x xs ih =>
     intro b hb
     rw [GW] at hb
     split at hb
     ·rename_i r hr
      cases hb
      split at hr
      ·cases hr
      ·cases hr; omega
     ·exact ih _ b hb
   have := this 0 l b hsc
   simp [Ce, this]
 ·have : ((l.length : Int) == n) = false := by simpa using h1
  simp [this, h1]
open List renaming mem_of_getElem? → lM
open List renaming getD_eq_getElem?_getD → lD
def Kd (l : List (List Bool)) : Option Int := Ep (fun i row => if row.getD i false then none else some 1) 0 l
theorem Ud {row : List Bool} {i : Nat} (h : i < row.length) : A8 row (i : Int) = some (row.getD i false) := by
 rw [A1, lD]; simp [h]
theorem YE (N : Nat) (t : Ar) (h : t.fm.length < N) (hN : N ≤ 1000000) (hsq : ∀ row, row ∈ t.fm → row.length = t.fm.length) (j : Option Int) :
  Cx N t (fun _ => j) N 0 = Ce (Kd t.fm) j := by
 have := DP (Cx N t (fun _ => j)) t.fm j (fun i row => if row.getD i false then none else some 1)
  (fun n i x hx => by
   have hi := (lI.1 hx).1
   have hl := hsq x (lM hx)
   rw [Cx, AM (by omega), A1, hx]
   simp only [oS]
   rw [Ud (by omega), AI (by omega)]
   simp only [oS]
   cases x.getD i false <;> rfl)
  (fun n => by rw [Cx, AE (by omega)]) N 0 (by omega) (by omega)
 simpa [Kd] using this
theorem RE (N : Nat) (t : Ar) (h : t.fm.length < N) (hN : N ≤ 1000000) (hsq : ∀ row, row ∈ t.fm → row.length = t.fm.length) (j : Option Int) :
  D6 N t (fun _ => j) N 0 = Ce (Kd t.fm) j := by
 have := DP (D6 N t (fun _ => j)) t.fm j (fun i row => if row.getD i false then none else some 1)
  (fun n i x hx => by
   have hi := (lI.1 hx).1
   have hl := hsq x (lM hx)
   rw [D6, AM (by omega), A1, hx]
   simp only [oS]
   rw [Ud (by omega), AI (by omega)]
   simp only [oS]
   cases x.getD i false <;> rfl)
  (fun n => by rw [D6, AE (by omega)]) N 0 (by omega) (by omega)
 simpa [Kd] using this
theorem Pl {l : List (List Bool)} {n m : Int} (h : sq l n m = true) : (l.length : Int) = n ∧ ∀ row, row ∈ l → (row.length : Int) = m := by
 unfold sq at h
 simp only [Bool.and_eq_true, decide_eq_true_eq, List.all_eq_true] at h
 exact h
def EH (p : Ae) (t : Ar) : Int :=
 if t.ff < 1 ∨ 4 < t.ff ∨ (t.fp = true ∧ (t.ff = 3 ∨ t.ff = 4)) then 1
 else if t.fg < 0 ∨ (p.fb.length : Int) ≤ t.fg ∨ t.fk < 0 ∨ (p.fb.length : Int) ≤ t.fk then 4
 else
  let f := p.fb.getD t.fg.toNat 0
  let g := p.fb.getD t.fk.toNat 0
  if sq t.fj f g = false then 6
  else if t.ff = 4 then (if sq t.fm f f = false then 6 else (Kd t.fm).getD 0)
  else if t.fm.length = 0 then 0 else 6
theorem F4 {α : Type} {xs : List α} {i : Int} {d : α} (h0 : 0 ≤ i) (h1 : i < (xs.length : Int)) : A8 xs i = some (xs.getD i.toNat d) := by
 obtain ⟨k, rfl⟩ := Int.eq_ofNat_of_zero_le h0
 rw [A1, lD, Int.toNat_natCast]
 simp [show k < xs.length from by omega]
theorem XR {t : Ar} (A B : Option Int) (hk : ¬ (t.fp = true ∧ (t.ff = 3 ∨ t.ff = 4))) : AY t.fp (AY (t.ff == 3 || t.ff == 4) A B) B = B := by
 cases ha : t.fp
 ·rfl
 ·have : (t.ff == 3 || t.ff == 4) = false := by
   rw [Bool.or_eq_false_iff]
   constructor
   ·simp only [beq_eq_false_iff_ne]; intro h; exact hk ⟨ha, .inl h⟩
   ·simp only [beq_eq_false_iff_ne]; intro h; exact hk ⟨ha, .inr h⟩
  rw [this]; rfl
theorem KJ {p : Ae} {i : Int} (hv : ∀ v, v ∈ p.fb → 1 ≤ v ∧ v ≤ 6) (h0 : 0 ≤ i) (h1 : i < (p.fb.length : Int)) : 1 ≤ p.fb.getD i.toNat 0 ∧ p.fb.getD i.toNat 0 ≤ 6 := by
 refine hv _ ?_
 rw [lD, List.getElem?_eq_getElem (by omega)]
 exact List.getElem_mem _
theorem Wg (N : Nat) (p : Ae) (t : Ar) (hN : N ≤ 1000000) (h6 : 7 ≤ N) (hv : ∀ v, v ∈ p.fb → 1 ≤ v ∧ v ≤ 6) : FK N p t = some (EH p t) := by
 unfold FK EH
 simp only [Be, Ox, oS]
 by_cases k1 : t.ff < 1
 ·simp [k1]
 by_cases k2 : 4 < t.ff
 ·simp [k1, k2]
 rw [AE k1, AE k2]
 by_cases hk : t.fp = true ∧ (t.ff = 3 ∨ t.ff = 4)
 ·obtain ⟨ha, k | k⟩ := hk <;> simp [ha, k]
 rw [Av, XR _ _ hk, if_neg (fun h => h.elim k1 fun h => h.elim k2 hk)]
 by_cases f1 : t.fg < 0
 ·simp [f1]
 by_cases f2 : (p.fb.length : Int) ≤ t.fg
 ·simp [f1, f2]
 by_cases f3 : t.fk < 0
 ·simp [f1, f2, f3]
 by_cases f4 : (p.fb.length : Int) ≤ t.fk
 ·simp [f1, f2, f3, f4]
 rw [AE f1, AE f2, AE f3, if_neg (fun h => h.elim f1 fun h => h.elim f2 fun h => h.elim f3 f4)]
 have hf := KJ hv (i := t.fg) (by omega) (by omega)
 rw [decide_eq_false f4, Av, F4 (d := 0) (by omega : 0 ≤ t.fg) (by omega), F4 (d := 0) (by omega : 0 ≤ t.fk) (by omega)]
 simp only [oS]
 generalize p.fb.getD t.fg.toNat 0 = f at *
 generalize p.fb.getD t.fk.toNat 0 = g at *
 rw [Rv N t.fj f g (by omega) hN, Rv N t.fm f f (by omega) hN]
 simp only [oS]
 cases hq : sq t.fj f g
 ·rfl
 simp only [Bool.not_true, Av]
 by_cases k4 : t.ff = 4
 ·have : (t.ff != 4) = false := by simp [k4]
  rw [this, Av]
  simp only [k4, if_true]
  cases hr : sq t.fm f f
  ·rfl
  ·have h7 := Pl hr
   simp only [Bool.not_true, Av]
   rw [YE N t (by omega) hN (fun row hm => by have := h7.2 row hm; omega)]
   cases Kd t.fm <;> simp [Ce]
 ·have : (t.ff != 4) = true := by simpa using k4
  rw [this, AX]
  simp only [k4, if_false]
  by_cases hr : t.fm.length = 0
  ·simp [hr]
  ·have : ((t.fm.length : Int) != 0) = true := bne_iff_ne.2 (by omega)
   rw [this]; simp [hr]
theorem YD (N : Nat) (k : Int) (a : Bool) : Il N k a = some (k == 1 || (k == 2 || ((k == 3 || k == 4) && !a))) := by
 unfold Il
 simp only [Be]
 cases h1 : k == 1 <;> cases h2 : k == 2 <;> cases h3 : k == 3 <;> cases h4 : k == 4 <;> cases a <;> rfl
theorem PH (N : Nat) (p : Ae) (t : Ar) (hN : N ≤ 1000000) (h6 : 7 ≤ N) (hv : ∀ v, v ∈ p.fb → 1 ≤ v ∧ v ≤ 6) : HL N p t = some (EH p t) := by
 unfold HL EH
 simp only [Be, YD, Ri, oS]
 by_cases hb : t.ff < 1 ∨ 4 < t.ff ∨ (t.fp = true ∧ (t.ff = 3 ∨ t.ff = 4))
 ·have : (t.ff == 1 || (t.ff == 2 || ((t.ff == 3 || t.ff == 4) && !t.fp))) = false := by
   rcases hb with h | h | ⟨ha, h | h⟩
   ·rw [beq_eq_false_iff_ne.2 (by omega : t.ff ≠ 1), beq_eq_false_iff_ne.2 (by omega : t.ff ≠ 2), beq_eq_false_iff_ne.2 (by omega : t.ff ≠ 3), beq_eq_false_iff_ne.2 (by omega : t.ff ≠ 4)]; rfl
   ·rw [beq_eq_false_iff_ne.2 (by omega : t.ff ≠ 1), beq_eq_false_iff_ne.2 (by omega : t.ff ≠ 2), beq_eq_false_iff_ne.2 (by omega : t.ff ≠ 3), beq_eq_false_iff_ne.2 (by omega : t.ff ≠ 4)]; rfl
   ·simp [ha, h]
   ·simp [ha, h]
  rw [this, if_pos hb]; rfl
 ·have : (t.ff == 1 || (t.ff == 2 || ((t.ff == 3 || t.ff == 4) && !t.fp))) = true := by
   have hk : t.ff = 1 ∨ t.ff = 2 ∨ t.ff = 3 ∨ t.ff = 4 := by
    have h1 : ¬ t.ff < 1 := fun h => hb (.inl h)
    have h2 : ¬ 4 < t.ff := fun h => hb (.inr (.inl h))
    omega
   rcases hk with h | h | h | h
   ·simp [h]
   ·simp [h]
   ·cases ha : t.fp
    ·simp [h]
    ·exact (hb (.inr (.inr ⟨ha, .inl h⟩))).elim
   ·cases ha : t.fp
    ·simp [h]
    ·exact (hb (.inr (.inr ⟨ha, .inr h⟩))).elim
  rw [this, if_neg hb]
  simp only [Bool.not_true, Av]
  by_cases f1 : t.fg < 0
  ·simp [f1, show ¬ (0 ≤ t.fg) from by omega]
  by_cases f2 : (p.fb.length : Int) ≤ t.fg
  ·simp [f2, show ¬ (t.fg < (p.fb.length : Int)) from by omega]
  by_cases f3 : t.fk < 0
  ·simp [f3, show 0 ≤ t.fg from by omega, show t.fg < (p.fb.length : Int) from by omega, show ¬ (0 ≤ t.fk) from by omega]
  by_cases f4 : (p.fb.length : Int) ≤ t.fk
  ·simp [f4, show 0 ≤ t.fg from by omega, show t.fg < (p.fb.length : Int) from by omega, show ¬ (t.fk < (p.fb.length : Int)) from by omega]
  rw [if_neg (fun h => h.elim f1 fun h => h.elim f2 fun h => h.elim f3 f4)]
  have hf := KJ hv (i := t.fg) (by omega) (by omega)
  have hg := KJ hv (i := t.fk) (by omega) (by omega)
  rw [decide_eq_true (by omega : 0 ≤ t.fg), decide_eq_true (by omega : t.fg < (p.fb.length : Int)), decide_eq_true (by omega : 0 ≤ t.fk), decide_eq_true (by omega : t.fk < (p.fb.length : Int)), F4 (d := 0) (by omega : 0 ≤ t.fg) (by omega), F4 (d := 0) (by omega : 0 ≤ t.fk) (by omega)]
  simp only [Bool.and_self, Bool.not_true, Av, oS]
  generalize p.fb.getD t.fg.toNat 0 = f at *
  generalize p.fb.getD t.fk.toNat 0 = g at *
  rw [Rp N t.fj f g (by omega) hN, Rp N t.fm f f (by omega) hN]
  simp only [oS]
  cases hq : sq t.fj f g
  ·rfl
  simp only [Bool.not_true, Av]
  by_cases k4 : t.ff = 4
  ·simp only [k4, beq_self_eq_true, AX, if_true]
   cases hr : sq t.fm f f
   ·rfl
   ·have h7 := Pl hr
    simp only [Bool.not_true, Av]
    rw [RE N t (by omega) hN (fun row hm => by have := h7.2 row hm; omega)]
    cases Kd t.fm <;> simp [Ce]
  ·have : (t.ff == 4) = false := beq_eq_false_iff_ne.2 k4
   rw [this, Av]
   simp only [k4, if_false, Bool.not_false, AX]
   by_cases hr : t.fm.length = 0
   ·rw [RE N t (by omega) hN (fun row hm => by rw [List.eq_nil_of_length_eq_zero hr] at hm; cases hm), List.eq_nil_of_length_eq_zero hr]
    simp [Kd, Ep, Ce]
   ·rw [decide_eq_true (by omega : 0 < (t.fm.length : Int))]
    simp [hr]
def GO (p : Ae) (i : Nat) (v : Int) : Option Int :=
 if v < 1 ∨ 6 < v ∨ p.fh.getD i 0 < 0 ∨ v ≤ p.fh.getD i 0 ∨ p.fo.getD i 0 < 0 ∨ v ≤ p.fo.getD i 0 then some 7 else none
def Mk (p : Ae) (_ : Nat) (t : Ar) : Option Int := if EH p t = 0 then none else some (EH p t)
def BZ (p : Ae) : Int :=
 if 6 < p.fb.length ∨ 12 < p.fc.length then 3
 else if p.fh.length ≠ p.fb.length ∨ p.fo.length ≠ p.fb.length then 6
 else ((Ce (Ep (GO p) 0 p.fb) (Ep (Mk p) 0 p.fc)).getD 0)
theorem Ge {α R : Type} {f : Nat → α → Option R} : ∀ {i : Nat} {xs : List α}, Ep f i xs = none → ∀ j x, xs[j]? = some x → f (i + j) x = none
 | _, [], _, j, x, hx => by simp at hx
 | i, y :: ys, h, j, x, hx => by
  rw [GW] at h
  split at h
  ·cases h
  ·rename_i h0
   cases j with
   | zero => simp at hx; subst hx; exact h0
   | succ j =>
    have := Ge h j x (by simpa using hx)
    rwa [show i + 1 + j = i + (j + 1) from by omega] at this
theorem Pz {p : Ae} (h : Ep (GO p) 0 p.fb = none) : ∀ v, v ∈ p.fb → 1 ≤ v ∧ v ≤ 6 := by
 intro v hv
 obtain ⟨i, hi⟩ := List.mem_iff_getElem?.1 hv
 have := Ge h i v hi
 unfold GO at this
 split at this
 ·cases this
 ·rename_i hn
  constructor
  ·exact Int.not_lt.1 fun h => hn (.inl h)
  ·exact Int.not_lt.1 fun h => hn (.inr (.inl h))
theorem Eh {α : Type} {xs : List α} {i : Nat} {d : α} (h : i < xs.length) : A8 xs (i : Int) = some (xs.getD i d) := by
 rw [A1, lD]; simp [h]
theorem Vk (N : Nat) (p : Ae) (hN : N ≤ 1000000) (h1 : p.fb.length < N) (h2 : p.fh.length = p.fb.length) (h3 : p.fo.length = p.fb.length) (j : Option Int) :
  Bz N p (fun _ => j) N 0 = Ce (Ep (GO p) 0 p.fb) j := by
 have := DP (Bz N p (fun _ => j)) p.fb j (GO p)
  (fun n i x hx => by
   have hi := (lI.1 hx).1
   rw [Bz, AM (by omega), A1, hx]
   simp only [oS, Be]
   rw [Eh (d := 0) (by omega), Eh (d := 0) (by omega), AI (by omega)]
   simp only [oS]
   unfold GO
   generalize p.fh.getD i 0 = a
   generalize p.fo.getD i 0 = b
   by_cases k1 : x < 1 <;> by_cases k2 : 6 < x <;> by_cases k3 : a < 0 <;> by_cases k4 : x ≤ a <;> by_cases k5 : b < 0 <;> by_cases k6 : x ≤ b <;> simp [k1, k2, k3, k4, k5, k6, Ce])
  (fun n => by rw [Bz, AE (by omega)]) N 0 (by omega) (by omega)
 simpa using this
theorem Sv (N : Nat) (p : Ae) (hN : N ≤ 1000000) (h1 : p.fb.length < N) (h2 : p.fh.length = p.fb.length) (h3 : p.fo.length = p.fb.length) (j : Option Int) :
  Cv N p (fun _ => j) N 0 = Ce (Ep (GO p) 0 p.fb) j := by
 have := DP (Cv N p (fun _ => j)) p.fb j (GO p)
  (fun n i x hx => by
   have hi := (lI.1 hx).1
   rw [Cv, AM (by omega), A1, hx]
   simp only [oS, Be, Ri]
   rw [Eh (d := 0) (by omega), Eh (d := 0) (by omega), AI (by omega)]
   simp only [oS]
   unfold GO
   generalize p.fh.getD i 0 = a
   generalize p.fo.getD i 0 = b
   have e1 : decide (0 ≤ a) = !decide (a < 0) := by rw [← decide_not]; congr 1; simp
   have e2 : decide (a < x) = !decide (x ≤ a) := by rw [← decide_not]; congr 1; simp
   have e3 : decide (0 ≤ b) = !decide (b < 0) := by rw [← decide_not]; congr 1; simp
   have e4 : decide (b < x) = !decide (x ≤ b) := by rw [← decide_not]; congr 1; simp
   rw [e1, e2, e3, e4]
   by_cases k1 : x < 1 <;> by_cases k2 : 6 < x <;> by_cases k3 : a < 0 <;> by_cases k4 : x ≤ a <;> by_cases k5 : b < 0 <;> by_cases k6 : x ≤ b <;> simp [k1, k2, k3, k4, k5, k6, Ce])
  (fun n => by rw [Cv, AE (by omega)]) N 0 (by omega) (by omega)
 simpa using this
theorem Xx (N : Nat) (p : Ae) (hN : N ≤ 1000000) (h6 : 7 ≤ N) (h1 : p.fc.length < N) (hv : ∀ v, v ∈ p.fb → 1 ≤ v ∧ v ≤ 6) (j : Option Int) :
  Bo N p (fun _ => j) N 0 = Ce (Ep (Mk p) 0 p.fc) j := by
 have := DP (Bo N p (fun _ => j)) p.fc j (Mk p)
  (fun n i x hx => by
   have hi := (lI.1 hx).1
   rw [Bo, AM (by omega), A1, hx]
   simp only [oS]
   rw [Wg N p x hN h6 hv, AI (by omega)]
   simp only [oS]
   unfold Mk
   by_cases k : EH p x = 0
   ·simp [k, Ce]
   ·rw [bne_iff_ne.2 k, if_neg k]; rfl)
  (fun n => by rw [Bo, AE (by omega)]) N 0 (by omega) (by omega)
 simpa using this
theorem US (N : Nat) (p : Ae) (hN : N ≤ 1000000) (h6 : 7 ≤ N) (h1 : p.fc.length < N) (hv : ∀ v, v ∈ p.fb → 1 ≤ v ∧ v ≤ 6) (j : Option Int) :
  Ch N p (fun _ => j) N 0 = Ce (Ep (Mk p) 0 p.fc) j := by
 have := DP (Ch N p (fun _ => j)) p.fc j (Mk p)
  (fun n i x hx => by
   have hi := (lI.1 hx).1
   rw [Ch, AM (by omega), A1, hx]
   simp only [oS]
   rw [PH N p x hN h6 hv, AI (by omega)]
   simp only [oS]
   unfold Mk
   by_cases k : EH p x = 0
   ·simp [k, Ce]
   ·rw [bne_iff_ne.2 k, if_neg k]; rfl)
  (fun n => by rw [Ch, AE (by omega)]) N 0 (by omega) (by omega)
 simpa using this
theorem Pt (N : Nat) (p : Ae) (hN : N ≤ 1000000) (h : 20 ≤ N) : Dc N p = some (BZ p) := by
 unfold Dc BZ
 simp only [Be]
 by_cases k1 : 6 < p.fb.length
 ·rw [AM (by omega)]; simp [k1]
 rw [AE (by omega)]
 by_cases k2 : 12 < p.fc.length
 ·rw [decide_eq_true (by omega : (12 : Int) < (p.fc.length : Int))]; simp [k2]
 rw [decide_eq_false (by omega : ¬ (12 : Int) < (p.fc.length : Int)), Av, if_neg (by omega)]
 by_cases k3 : p.fh.length = p.fb.length
 ·by_cases k4 : p.fo.length = p.fb.length
  ·rw [k3, k4]
   simp only [bne_self_eq_false, Av, ne_eq, not_true_eq_false, or_self, if_false]
   rw [Vk N p hN (by omega) k3 k4]
   cases hs : Ep (GO p) 0 p.fb with
   | some r => rfl
   | none =>
    simp only [Ce]
    rw [Xx N p hN (by omega) (by omega) (Pz hs)]
    cases Ep (Mk p) 0 p.fc <;> rfl
  ·have : ((p.fo.length : Int) != (p.fb.length : Int)) = true := bne_iff_ne.2 (by omega)
   rw [this, k3]; simp [k4]
 ·have : ((p.fh.length : Int) != (p.fb.length : Int)) = true := bne_iff_ne.2 (by omega)
  rw [this]; simp [k3]
theorem IN (N : Nat) (p : Ae) (hN : N ≤ 1000000) (h : 20 ≤ N) : BQ N p = some (BZ p) := by
 unfold BQ BZ
 simp only [Be]
 by_cases k1 : 6 < p.fb.length
 ·rw [AM (by omega)]; simp [k1]
 rw [AE (by omega)]
 by_cases k2 : 12 < p.fc.length
 ·rw [decide_eq_true (by omega : (12 : Int) < (p.fc.length : Int))]; simp [k2]
 rw [decide_eq_false (by omega : ¬ (12 : Int) < (p.fc.length : Int)), Av, if_neg (by omega)]
 by_cases k3 : p.fh.length = p.fb.length
 ·by_cases k4 : p.fo.length = p.fb.length
  ·rw [k3, k4]
   simp only [bne_self_eq_false, Av, ne_eq, not_true_eq_false, or_self, if_false]
   rw [Sv N p hN (by omega) k3 k4]
   cases hs : Ep (GO p) 0 p.fb with
   | some r => rfl
   | none =>
    simp only [Ce]
    rw [US N p hN (by omega) (by omega) (Pz hs)]
    cases Ep (Mk p) 0 p.fc <;> rfl
  ·have : ((p.fo.length : Int) != (p.fb.length : Int)) = true := bne_iff_ne.2 (by omega)
   rw [this, k3]; simp [k4]
 ·have : ((p.fh.length : Int) != (p.fb.length : Int)) = true := bne_iff_ne.2 (by omega)
  rw [this]; simp [k3]
theorem Kc {n : Int} (h : MV n) : 0 ≤ n ∧ n ≤ 255 := by
 unfold MV at h
 simpa [Lit.wf, IntKind.min, IntKind.max, IntKind.signed, IntKind.bits] using h
theorem QR : ∀ k : Fin 256, Ei .u8 0 (k.val : Int) = 0 := by decide +kernel
theorem QL : ∀ k : Fin 256, Ei .u8 (k.val : Int) 0 = (k.val : Int) := by decide +kernel
theorem W2 {n : Int} (h : MV n) : Ei .u8 0 n = 0 := by
 have := Kc h
 obtain ⟨k, rfl⟩ := Int.eq_ofNat_of_zero_le this.1
 exact QR ⟨k, by omega⟩
theorem Xg {n : Int} (h : MV n) : Ei .u8 n 0 = n := by
 have := Kc h
 obtain ⟨k, rfl⟩ := Int.eq_ofNat_of_zero_le this.1
 exact QL ⟨k, by omega⟩
theorem FV {α R : Type} {f : Nat → α → Option R} : ∀ {i : Nat} {xs : List α} {r : R}, Ep f i xs = some r → ∃ j x, xs[j]? = some x ∧ f (i + j) x = some r
 | _, [], _, h => by cases h
 | i, y :: ys, r, h => by
  rw [GW] at h
  split at h
  ·rename_i r' h0
   cases h
   exact ⟨0, y, rfl, h0⟩
  ·obtain ⟨j, x, h1, h2⟩ := FV h
   exact ⟨j + 1, x, by simpa using h1, by rwa [show i + (j + 1) = i + 1 + j from by omega]⟩
structure Bj (p : Ae) : Prop where
 nv : p.fb.length ≤ 6
 nt : p.fc.length ≤ 12
 now : p.fh.length = p.fb.length
 tgt : p.fo.length = p.fb.length
 ver : ∀ v, v ∈ p.fb → 1 ≤ v ∧ v ≤ 6
 tab : ∀ t, t ∈ p.fc → EH p t = 0
theorem UT (l : List (List Bool)) : (Kd l).getD 0 = 0 ∨ (Kd l).getD 0 = 1 := by
 cases h : Kd l with
 | none => exact .inl rfl
 | some r =>
  obtain ⟨j, x, _, h⟩ := FV h
  split at h
  ·cases h
  ·cases h; exact .inr rfl
theorem Sz (p : Ae) (t : Ar) : EH p t = 0 ∨ EH p t = 1 ∨ EH p t = 4 ∨ EH p t = 6 := by
 unfold EH
 split
 ·exact .inr (.inl rfl)
 split
 ·exact .inr (.inr (.inl rfl))
 simp only
 split
 ·exact .inr (.inr (.inr rfl))
 split
 ·split
  ·exact .inr (.inr (.inr rfl))
  ·rcases UT t.fm with h | h
   ·exact .inl h
   ·exact .inr (.inl h)
 ·split
  ·exact .inl rfl
  ·exact .inr (.inr (.inr rfl))
theorem JN (p : Ae) : (BZ p = 0 ∧ Bj p) ∨ (BZ p = 1 ∨ BZ p = 3 ∨ BZ p = 4 ∨ BZ p = 6 ∨ BZ p = 7) := by
 unfold BZ
 split
 ·simp
 rename_i k1
 split
 ·simp
 rename_i k2
 cases hs : Ep (GO p) 0 p.fb with
 | some r =>
  obtain ⟨j, x, _, h⟩ := FV hs
  unfold GO at h
  split at h
  ·cases h; simp [Ce]
  ·cases h
 | none =>
  cases ht : Ep (Mk p) 0 p.fc with
  | some r =>
   obtain ⟨j, t, _, h⟩ := FV ht
   unfold Mk at h
   split at h
   ·cases h
   ·rename_i hne
    cases h
    simp only [Ce, Option.getD_some]
    right
    rcases Sz p t with h | h | h | h
    ·exact (hne h).elim
    ·exact .inl h
    ·exact .inr (.inr (.inl h))
    ·exact .inr (.inr (.inr (.inl h)))
  | none =>
   left
   refine ⟨rfl, by omega, by omega, by omega, by omega, Pz hs, fun t hm => ?_⟩
   obtain ⟨j, hj⟩ := List.mem_iff_getElem?.1 hm
   have := Ge ht j t hj
   unfold Mk at this
   split at this
   ·assumption
   ·cases this
def Ie (m : Ag) (s : Nat) : Int :=
 if 0 ≤ m.fa.getD s 0 then QF .u8 (Dp .u8 1 (m.fd.getD s 0)) (Dp .u8 1 (m.fa.getD s 0)) else Dp .u8 1 (m.fd.getD s 0)
def Nc (m : Ag) (i : Nat) (v : Int) : Option Int :=
 if m.fd.getD i 0 < 0 ∨ v ≤ m.fd.getD i 0 ∨ m.fa.getD i 0 < -1 ∨ v ≤ m.fa.getD i 0 then some 7
 else if m.fd.getD i 0 = m.fa.getD i 0 then some 1 else none
def Ct (t : Ar) : Bool := t.ff == 3 || t.ff == 4
def YM (p : Ae) (t : Ar) : Int := wI .u8 (Dp .u8 1 (p.fb.getD t.fg.toNat 0) - 1)
def KD (p : Ae) (m : Ag) (i : Nat) (t : Ar) : Option Int :=
 if Ct t = true then (if Ei .u8 (Ie m t.fg.toNat) (m.fe.getD i 0) ≠ 0 ∨ Ei .u8 (m.fe.getD i 0) (YM p t) ≠ 0 then some 1 else none)
 else if m.fe.getD i 0 ≠ 0 then some 1 else none
def He (p : Ae) (m : Ag) : Int :=
 if BZ p ≠ 0 then BZ p
 else if m.fd.length ≠ p.fb.length ∨ m.fa.length ≠ p.fb.length ∨ m.fe.length ≠ p.fc.length then 6
 else (Ce (Ep (Nc m) 0 p.fb) (Ep (KD p m) 0 p.fc)).getD 0
theorem JW {p : Ae} {t : Ar} (h : EH p t = 0) : 0 ≤ t.fg ∧ t.fg < (p.fb.length : Int) ∧ 0 ≤ t.fk ∧ t.fk < (p.fb.length : Int) := by
 unfold EH at h
 split at h
 ·cases h
 ·split at h
  ·cases h
  ·omega
theorem M7 (N : Nat) (m : Ag) (s : Int) (h0 : 0 ≤ s) (h1 : s < (m.fd.length : Int)) (h2 : s < (m.fa.length : Int)) (hb : 0 ≤ m.fd.getD s.toNat 0) : Gj N m s = some (Ie m s.toNat) := by
 unfold Gj Ie
 rw [F4 (d := 0) h0 h1, F4 (d := 0) h0 h2]
 simp only [oS, Be]
 rw [show Ef (0 ≤ m.fd.getD s.toNat 0) = some () from by unfold Ef; rw [if_pos hb]]
 simp only [oS]
 by_cases h : 0 ≤ m.fa.getD s.toNat 0
 ·rw [AM h, if_pos h, show Ef (0 ≤ m.fa.getD s.toNat 0) = some () from by unfold Ef; rw [if_pos h]]; rfl
 ·rw [AE h, if_neg h]
theorem Lp (N : Nat) (m : Ag) (s : Int) (h0 : 0 ≤ s) (h1 : s < (m.fd.length : Int)) (h2 : s < (m.fa.length : Int)) (hb : 0 ≤ m.fd.getD s.toNat 0) : Cr N m s = some (Ie m s.toNat) := by
 unfold Cr Ie
 rw [F4 (d := 0) h0 h1, F4 (d := 0) h0 h2]
 simp only [oS, Be]
 rw [show Ef (0 ≤ m.fd.getD s.toNat 0) = some () from by unfold Ef; rw [if_pos hb]]
 simp only [oS]
 by_cases h : 0 ≤ m.fa.getD s.toNat 0
 ·rw [AM h, if_pos h, show Ef (0 ≤ m.fa.getD s.toNat 0) = some () from by unfold Ef; rw [if_pos h]]; rfl
 ·rw [AE h, if_neg h]
theorem SM (N : Nat) (p : Ae) (m : Ag) (hN : N ≤ 1000000) (h1 : p.fb.length < N) (h2 : m.fd.length = p.fb.length) (h3 : m.fa.length = p.fb.length) (j : Option Int) :
  Ff N p m (fun _ => j) N 0 = Ce (Ep (Nc m) 0 p.fb) j := by
 have := DP (Ff N p m (fun _ => j)) p.fb j (Nc m)
  (fun n i x hx => by
   have hi := (lI.1 hx).1
   rw [Ff, AM (by omega), A1, hx]
   simp only [oS, Be]
   rw [Eh (d := 0) (by omega), Eh (d := 0) (by omega), AI (by omega)]
   simp only [oS]
   unfold Nc
   generalize m.fd.getD i 0 = a
   generalize m.fa.getD i 0 = b
   by_cases k7 : a = b
   ·subst k7
    by_cases k3 : a < 0 <;> by_cases k4 : x ≤ a <;> by_cases k5 : a < -1 <;> simp [k3, k4, k5, Ce]
   ·have k8 : (a == b) = false := beq_eq_false_iff_ne.2 k7
    by_cases k3 : a < 0 <;> by_cases k4 : x ≤ a <;> by_cases k5 : b < -1 <;> by_cases k6 : x ≤ b <;> simp [k3, k4, k5, k6, k7, k8, Ce])
  (fun n => by rw [Ff, AE (by omega)]) N 0 (by omega) (by omega)
 simpa using this
theorem Sn (N : Nat) (p : Ae) (m : Ag) (hN : N ≤ 1000000) (h1 : p.fb.length < N) (h2 : m.fd.length = p.fb.length) (h3 : m.fa.length = p.fb.length) (j : Option Int) :
  CO N p m (fun _ => j) N 0 = Ce (Ep (Nc m) 0 p.fb) j := by
 have := DP (CO N p m (fun _ => j)) p.fb j (Nc m)
  (fun n i x hx => by
   have hi := (lI.1 hx).1
   rw [CO, AM (by omega), show A8 p.fb (i : Int) = some x from by rw [A1, hx]]
   simp only [oS, Be]
   rw [Eh (d := 0) (by omega), Eh (d := 0) (by omega), AI (by omega)]
   simp only [oS]
   unfold Nc
   generalize m.fd.getD i 0 = a
   generalize m.fa.getD i 0 = b
   by_cases k7 : a = b
   ·subst k7
    by_cases k3 : a < 0 <;> by_cases k4 : x ≤ a <;> by_cases k5 : a < -1 <;> simp [k3, k4, k5, Ce]
   ·have k8 : (a == b) = false := beq_eq_false_iff_ne.2 k7
    by_cases k3 : a < 0 <;> by_cases k4 : x ≤ a <;> by_cases k5 : b < -1 <;> by_cases k6 : x ≤ b <;> simp [k3, k4, k5, k6, k7, k8, Ce])
  (fun n => by rw [CO, AE (by omega)]) N 0 (by omega) (by omega)
 simpa using this
structure MixServ (p : Ae) (m : Ag) : Prop where
 base : m.fd.length = p.fb.length
 next : m.fa.length = p.fb.length
 held : m.fe.length = p.fc.length
 b0 : ∀ i, i < p.fb.length → 0 ≤ m.fd.getD i 0 ∧ m.fd.getD i 0 < p.fb.getD i 0
 n0 : ∀ i, i < p.fb.length → -1 ≤ m.fa.getD i 0 ∧ m.fa.getD i 0 < p.fb.getD i 0
 ne : ∀ i, i < p.fb.length → m.fd.getD i 0 ≠ m.fa.getD i 0
theorem SK {p : Ae} {m : Ag} (h2 : m.fd.length = p.fb.length) (h3 : m.fa.length = p.fb.length) (h4 : m.fe.length = p.fc.length) (h : Ep (Nc m) 0 p.fb = none) : MixServ p m := by
 have key : ∀ i, i < p.fb.length → ¬ (m.fd.getD i 0 < 0 ∨ p.fb.getD i 0 ≤ m.fd.getD i 0 ∨ m.fa.getD i 0 < -1 ∨ p.fb.getD i 0 ≤ m.fa.getD i 0) ∧ ¬ m.fd.getD i 0 = m.fa.getD i 0 := by
  intro i hi
  have hx : p.fb[i]? = some (p.fb.getD i 0) := by rw [lD]; simp [hi]
  have := Ge h i _ hx
  rw [Nat.zero_add] at this
  unfold Nc at this
  split at this
  ·cases this
  ·split at this
   ·cases this
   ·rename_i k1 k2; exact ⟨k1, k2⟩
 exact ⟨h2, h3, h4, fun i hi => by have := (key i hi).1; omega, fun i hi => by have := (key i hi).1; omega, fun i hi => (key i hi).2⟩
theorem Tl {m : Ag} (hw : Qv MV m.fe) {i : Nat} (h : i < m.fe.length) : MV (m.fe.getD i 0) := by
 refine hw _ ?_
 rw [lD, List.getElem?_eq_getElem h]
 exact List.getElem_mem _
theorem KG (N : Nat) (t : Ar) : GN N t = some (Ct t) := by
 unfold GN Ct
 simp only [Be]
 cases h : t.ff == 3 <;> simp
theorem H9 (N : Nat) (t : Ar) : Bg N t = some (Ct t) := Ox N t
theorem Uy (N : Nat) (p : Ae) (m : Ag) (hN : N ≤ 1000000) (h1 : p.fc.length < N) (hp : Bj p) (hm : MixServ p m) (hw : Qv MV m.fe) (j : Option Int) :
  ER N p m (fun _ => j) N 0 = Ce (Ep (KD p m) 0 p.fc) j := by
 have := DP (ER N p m (fun _ => j)) p.fc j (KD p m)
  (fun n i x hx => by
   have hi := (lI.1 hx).1
   have hin := JW (hp.tab x (lM hx))
   have hheld := Tl hw (show i < m.fe.length from by rw [hm.held]; exact hi)
   have hv := KJ hp.ver hin.1 hin.2.1
   rw [ER, AM (by omega), A1, hx]
   simp only [oS, Be, KG]
   rw [M7 N m x.fg hin.1 (by rw [hm.base]; exact hin.2.1) (by rw [hm.next]; exact hin.2.1) (hm.b0 _ (by omega)).1, F4 (d := 0) hin.1 hin.2.1, Eh (d := 0) (show i < m.fe.length from by rw [hm.held]; exact hi), AI (by omega)]
   simp only [oS]
   rw [show Ef (0 ≤ p.fb.getD x.fg.toNat 0) = some () from by unfold Ef; rw [if_pos (by omega)]]
   simp only [oS]
   unfold KD YM
   rw [W2 hheld, Xg hheld]
   generalize Ei .u8 (Ie m x.fg.toNat) (m.fe.getD i 0) = A
   generalize Ei .u8 (m.fe.getD i 0) (wI .u8 (Dp .u8 1 (p.fb.getD x.fg.toNat 0) - 1)) = B
   generalize m.fe.getD i 0 = H
   cases Ct x
   ·simp only [Av, bne_self_eq_false]
    by_cases k : H = 0
    ·simp [k, Ce]
    ·have : (H != 0) = true := bne_iff_ne.2 k
     simp [k, this, Ce]
   ·simp only [AX]
    by_cases k : A = 0
    ·by_cases k2 : B = 0
     ·simp [k, k2, Ce]
     ·have : (B != 0) = true := bne_iff_ne.2 k2
      simp [k, k2, this, Ce]
    ·have : (A != 0) = true := bne_iff_ne.2 k
     simp [k, this, Ce])
  (fun n => by rw [ER, AE (by omega)]) N 0 (by omega) (by omega)
 simpa using this
theorem UL (N : Nat) (p : Ae) (m : Ag) (hN : N ≤ 1000000) (h1 : p.fc.length < N) (hp : Bj p) (hm : MixServ p m) (j : Option Int) :
  Cz N p m (fun _ => j) N 0 = Ce (Ep (KD p m) 0 p.fc) j := by
 have := DP (Cz N p m (fun _ => j)) p.fc j (KD p m)
  (fun n i x hx => by
   have hi := (lI.1 hx).1
   have hin := JW (hp.tab x (lM hx))
   have hv := KJ hp.ver hin.1 hin.2.1
   rw [Cz, AM (by omega), A1, hx]
   simp only [oS, Be, H9]
   rw [Lp N m x.fg hin.1 (by rw [hm.base]; exact hin.2.1) (by rw [hm.next]; exact hin.2.1) (hm.b0 _ (by omega)).1, F4 (d := 0) hin.1 hin.2.1, Eh (d := 0) (show i < m.fe.length from by rw [hm.held]; exact hi), AI (by omega)]
   simp only [oS]
   rw [show Ef (0 ≤ p.fb.getD x.fg.toNat 0) = some () from by unfold Ef; rw [if_pos (by omega)]]
   simp only [oS]
   unfold KD YM
   generalize Ei .u8 (Ie m x.fg.toNat) (m.fe.getD i 0) = A
   generalize Ei .u8 (m.fe.getD i 0) (wI .u8 (Dp .u8 1 (p.fb.getD x.fg.toNat 0) - 1)) = B
   generalize m.fe.getD i 0 = H
   cases Ct x
   ·simp only [Bool.not_false, AX, Av]
    by_cases k : H = 0
    ·simp [k, Ce]
    ·have : (H != 0) = true := bne_iff_ne.2 k
     simp [k, this, Ce]
   ·simp only [Bool.not_true, Av, AX]
    by_cases k : A = 0
    ·by_cases k2 : B = 0
     ·simp [k, k2, Ce]
     ·have : (B != 0) = true := bne_iff_ne.2 k2
      simp [k, k2, this, Ce]
    ·have : (A != 0) = true := bne_iff_ne.2 k
     by_cases k2 : B = 0
     ·simp [k, k2, this, Ce]
     ·have h5 : (B != 0) = true := bne_iff_ne.2 k2
      simp [k, h5, Ce])
  (fun n => by rw [Cz, AE (by omega)]) N 0 (by omega) (by omega)
 simpa using this
theorem JH (N : Nat) (p : Ae) (m : Ag) (hN : N ≤ 1000000) (h : 20 ≤ N) (hw : Qv MV m.fe) : GI N p m = some (He p m) := by
 unfold GI He
 rw [IN N p hN h]
 simp only [oS, Be]
 by_cases k0 : BZ p = 0
 ·have hp : Bj p := by
   rcases JN p with h | h
   ·exact h.2
   ·omega
  have hnv := hp.nv
  have hnt := hp.nt
  rw [k0]
  simp only [bne_self_eq_false, Av, ne_eq, not_true_eq_false, if_false]
  by_cases k1 : m.fd.length = p.fb.length
  ·by_cases k2 : m.fa.length = p.fb.length
   ·by_cases k3 : m.fe.length = p.fc.length
    ·rw [k1, k2, k3]
     simp only [bne_self_eq_false, Av, not_true_eq_false, or_self, if_false]
     rw [SM N p m hN (by omega) k1 k2]
     cases hs : Ep (Nc m) 0 p.fb with
     | some r => rfl
     | none =>
      simp only [Ce]
      rw [Uy N p m hN (by omega) hp (SK k1 k2 k3 hs) hw]
      cases Ep (KD p m) 0 p.fc <;> rfl
    ·have : ((m.fe.length : Int) != (p.fc.length : Int)) = true := bne_iff_ne.2 (by omega)
     rw [this, k1, k2]; simp [k3]
   ·have : ((m.fa.length : Int) != (p.fb.length : Int)) = true := bne_iff_ne.2 (by omega)
    rw [this, k1]; simp [k2]
  ·have : ((m.fd.length : Int) != (p.fb.length : Int)) = true := bne_iff_ne.2 (by omega)
   rw [this]; simp [k1]
 ·rw [bne_iff_ne.2 k0]; simp [k0]
theorem RW (N : Nat) (p : Ae) (m : Ag) (hN : N ≤ 1000000) (h : 20 ≤ N) : FG N p m = some (He p m) := by
 unfold FG He
 rw [Pt N p hN h]
 simp only [oS, Be]
 by_cases k0 : BZ p = 0
 ·have hp : Bj p := by
   rcases JN p with h | h
   ·exact h.2
   ·omega
  have hnv := hp.nv
  have hnt := hp.nt
  rw [k0]
  simp only [bne_self_eq_false, Av, ne_eq, not_true_eq_false, if_false]
  by_cases k1 : m.fd.length = p.fb.length
  ·by_cases k2 : m.fa.length = p.fb.length
   ·by_cases k3 : m.fe.length = p.fc.length
    ·rw [k1, k2, k3]
     simp only [bne_self_eq_false, Av, not_true_eq_false, or_self, if_false]
     rw [Sn N p m hN (by omega) k1 k2]
     cases hs : Ep (Nc m) 0 p.fb with
     | some r => rfl
     | none =>
      simp only [Ce]
      rw [UL N p m hN (by omega) hp (SK k1 k2 k3 hs)]
      cases Ep (KD p m) 0 p.fc <;> rfl
    ·have : ((m.fe.length : Int) != (p.fc.length : Int)) = true := bne_iff_ne.2 (by omega)
     rw [this, k1, k2]; simp [k3]
   ·have : ((m.fa.length : Int) != (p.fb.length : Int)) = true := bne_iff_ne.2 (by omega)
    rw [this, k1]; simp [k2]
  ·have : ((m.fd.length : Int) != (p.fb.length : Int)) = true := bne_iff_ne.2 (by omega)
   rw [this]; simp [k1]
 ·rw [bne_iff_ne.2 k0]; simp [k0]
@[simp] theorem Br {α β : Type} (k : α) (f : α → β) : Be k f = f k := rfl
@[simp] theorem WP {p : Prop} [Decidable p] (h : p) : Ef p = some () := by unfold Ef; rw [if_pos h]
theorem Au {β : Type} {p : Prop} [Decidable p] (h : p) (f : Unit → Option β) : (Ef p).bind f = f () := by rw [WP h]; rfl
def Cg {α β : Type} (g : Nat → α → List β) : Nat → List α → List β
 | _, [] => []
 | i, x :: xs => g i x ++ Cg g (i + 1) xs
def Iz {α A : Type} (f : Nat → α → A → A) : Nat → List α → A → A
 | _, [], a => a
 | i, x :: xs, a => Iz f (i + 1) xs (f i x a)
theorem Ny {α β : Type} (g : Nat → α → List β) : ∀ (i : Nat) (xs ys : List α), Cg g i (xs ++ ys) = Cg g i xs ++ Cg g (i + xs.length) ys
 | i, [], ys => by simp [Cg]
 | i, x :: xs, ys => by
  rw [List.cons_append, Cg, Cg, Ny g (i + 1) xs ys, List.append_assoc, List.length_cons, Nat.add_assoc, Nat.add_comm 1]
theorem Gf {α β : Type} {g : Nat → α → List β} {y : β} : ∀ {i : Nat} {xs : List α}, y ∈ Cg g i xs ↔ ∃ j x, xs[j]? = some x ∧ y ∈ g (i + j) x
 | _, [] => by simp [Cg]
 | i, x :: xs => by
  rw [Cg, List.mem_append, Gf]
  constructor
  ·rintro (h | ⟨j, z, hz, h⟩)
   ·exact ⟨0, x, rfl, h⟩
   ·exact ⟨j + 1, z, by simpa using hz, by rwa [show i + (j + 1) = i + 1 + j from by omega]⟩
  ·rintro ⟨j, z, hz, h⟩
   cases j with
   | zero => simp at hz; subst hz; exact .inl h
   | succ j => exact .inr ⟨j, z, by simpa using hz, by rwa [show i + 1 + j = i + (j + 1) from by omega]⟩
theorem KN {α β : Type} {g : Nat → α → List β} {i : Nat} {xs : List α} : Cg g i xs = [] ↔ ∀ j x, xs[j]? = some x → g (i + j) x = [] := by
 rw [List.eq_nil_iff_forall_not_mem]
 constructor
 ·intro h j x hx
  rw [List.eq_nil_iff_forall_not_mem]
  exact fun y hy => h y (Gf.2 ⟨j, x, hx, hy⟩)
 ·intro h y hy
  obtain ⟨j, x, hx, hm⟩ := Gf.1 hy
  rw [h j x hx] at hm; cases hm
theorem Gd {α β : Type} {g : Nat → α → List β} {c : Nat} : ∀ {i : Nat} {xs : List α}, (∀ j x, xs[j]? = some x → (g (i + j) x).length ≤ c) → (Cg g i xs).length ≤ c * xs.length
 | _, [], _ => by simp [Cg]
 | i, x :: xs, h => by
  have h1 := h 0 x rfl
  have h2 := Gd (g := g) (c := c) (i := i + 1) (xs := xs) fun j y hy => by
   have := h (j + 1) y (by simpa using hy)
   rwa [show i + (j + 1) = i + 1 + j from by omega] at this
  rw [Cg, List.length_append, List.length_cons, Nat.mul_add]
  simp only [Nat.add_zero] at h1
  omega
theorem IF {α A S R : Type} (L : Nat → S → Option R) (mk : A → Int → S) (xs : List α) (j : A → Option R) (f : Nat → α → A → A) (I : Nat → A → Prop)
  (hs : ∀ (n i : Nat) (x : α) (a : A), xs[i]? = some x → I i a → L (n + 1) (mk a (i : Int)) = L n (mk (f i x a) ((i + 1 : Nat) : Int)) ∧ I (i + 1) (f i x a))
  (he : ∀ (n : Nat) (a : A), I xs.length a → L (n + 1) (mk a (xs.length : Int)) = j a) :
  ∀ (n i : Nat) (a : A), i ≤ xs.length → xs.length - i < n → I i a → L n (mk a (i : Int)) = j (Iz f i (xs.drop i) a) ∧ I xs.length (Iz f i (xs.drop i) a)
 | 0, i, _, _, h, _ => by omega
 | n + 1, i, a, hi, h, ha => by
  by_cases h1 : i < xs.length
  ·have hx : xs[i]? = some xs[i] := by simp [h1]
   obtain ⟨e1, e2⟩ := hs n i _ a hx ha
   rw [e1, IG hx, Iz]
   exact IF L mk xs j f I hs he n (i + 1) _ (by omega) (by omega) e2
  ·have : i = xs.length := by omega
   subst this
   rw [List.drop_eq_nil_of_le (Nat.le_refl _), Iz]
   exact ⟨he n a ha, ha⟩
theorem Qk {α β : Type} (g : Nat → α → List β) : ∀ (i : Nat) (xs : List α) (acc : List β), Iz (fun i x a => a ++ g i x) i xs acc = acc ++ Cg g i xs
 | _, [], acc => by simp [Iz, Cg]
 | i, x :: xs, acc => by rw [Iz, Qk g (i + 1) xs, Cg, List.append_assoc]
theorem DB {α β S R : Type} (L : Nat → S → Option R) (mk : List β → Int → S) (xs : List α) (j : List β → Option R) (g : Nat → α → List β) (c B : Nat)
  (hg : ∀ i x, xs[i]? = some x → (g i x).length ≤ c)
  (hs : ∀ (n i : Nat) (x : α) (a : List β), xs[i]? = some x → a.length + (g i x).length ≤ B → L (n + 1) (mk a (i : Int)) = L n (mk (a ++ g i x) ((i + 1 : Nat) : Int)))
  (he : ∀ (n : Nat) (a : List β), L (n + 1) (mk a (xs.length : Int)) = j a) (n : Nat) (a : List β) (hn : xs.length < n) (ha : a.length + c * xs.length ≤ B) :
  L n (mk a 0) = j (a ++ Cg g 0 xs) := by
 have := IF L mk xs j (fun i x a => a ++ g i x) (fun i b => i ≤ xs.length ∧ b.length ≤ a.length + c * i)
  (fun n i x b hx hb => by
   have h1 := hg i x hx
   have hi := (lI.1 hx).1
   have h2 : c * (i + 1) ≤ c * xs.length := Nat.mul_le_mul_left c hi
   have h3 : c * (i + 1) = c * i + c := Nat.mul_succ c i
   refine ⟨hs n i x b hx (by have := hb.2; omega), hi, ?_⟩
   rw [List.length_append]
   have := hb.2
   omega)
  (fun n b _ => he n b) n 0 a (Nat.zero_le _) (by omega) ⟨Nat.zero_le _, by omega⟩
 have h2 := this.1
 rw [List.drop_zero, Qk] at h2
 exact h2
def ET (s : Int) (v : Nat) : Bool := s.toNat.testBit v
def JM (m : Ag) (s v : Nat) : Bool := decide (m.fd.getD s 0 = (v : Int)) || decide (m.fa.getD s 0 = (v : Int))
theorem Zn : ∀ (s : Fin 256) (v : Fin 8), Hr .u8 (FE .u8 (s.val : Int) (v.val : Int)) 1 = if ET (s.val : Int) v.val then 1 else 0 := by decide +kernel
theorem SV {s : Int} {v : Nat} (h0 : 0 ≤ s) (h1 : s ≤ 255) (hv : v < 8) : Hr .u8 (FE .u8 s (v : Int)) 1 = if ET s v then 1 else 0 := by
 obtain ⟨k, rfl⟩ := Int.eq_ofNat_of_zero_le h0
 exact Zn ⟨k, by omega⟩ ⟨v, hv⟩
theorem Uh {s : Int} {v : Nat} (h0 : 0 ≤ s) (h1 : s ≤ 255) (hv : v < 8) : (Hr .u8 (FE .u8 s (v : Int)) 1 == 0) = !ET s v := by
 rw [SV h0 h1 hv]; cases ET s v <;> rfl
theorem T0 {s : Int} {v : Nat} (h0 : 0 ≤ s) (h1 : s ≤ 255) (hv : v < 8) : (Hr .u8 (FE .u8 s (v : Int)) 1 == 1) = ET s v := by
 rw [SV h0 h1 hv]; cases ET s v <;> rfl
theorem Ll {s : Int} {v : Nat} (h1 : s ≤ 255) (hv : 8 ≤ v) : ET s v = false := by
 unfold ET
 apply Nat.testBit_lt_two_pow
 have : (2 : Nat) ^ 8 ≤ 2 ^ v := Nat.pow_le_pow_right (by omega) hv
 omega
theorem Ln : ∀ (b : Fin 8) (v : Fin 8), ET (Dp .u8 1 (b.val : Int)) v.val = decide (b.val = v.val) ∧ 0 ≤ Dp .u8 1 (b.val : Int) ∧ Dp .u8 1 (b.val : Int) ≤ 255 := by decide +kernel
theorem Zk : ∀ (b n : Fin 8) (v : Fin 8), ET (QF .u8 (Dp .u8 1 (b.val : Int)) (Dp .u8 1 (n.val : Int))) v.val = (decide (b.val = v.val) || decide (n.val = v.val))
  ∧ 0 ≤ QF .u8 (Dp .u8 1 (b.val : Int)) (Dp .u8 1 (n.val : Int)) ∧ QF .u8 (Dp .u8 1 (b.val : Int)) (Dp .u8 1 (n.val : Int)) ≤ 255 := by decide +kernel
theorem Ya {m : Ag} {s : Nat} (hb0 : 0 ≤ m.fd.getD s 0) (hb1 : m.fd.getD s 0 < 8) (hn1 : m.fa.getD s 0 < 8) :
  (∀ v, ET (Ie m s) v = JM m s v) ∧ 0 ≤ Ie m s ∧ Ie m s ≤ 255 := by
 unfold Ie JM
 obtain ⟨b, hb⟩ := Int.eq_ofNat_of_zero_le hb0
 rw [hb] at hb1 ⊢
 by_cases h : 0 ≤ m.fa.getD s 0
 ·obtain ⟨n, hn⟩ := Int.eq_ofNat_of_zero_le h
  rw [hn] at hn1 ⊢
  rw [if_pos (by omega)]
  have h1 := Zk ⟨b, by omega⟩ ⟨n, by omega⟩
  refine ⟨fun v => ?_, (h1 0).2⟩
  by_cases hv : v < 8
  ·rw [(h1 ⟨v, hv⟩).1]
   simp only [Int.ofNat_inj]
  ·rw [Ll (h1 0).2.2 (by omega)]
   simp; omega
 ·rw [if_neg h]
  have h1 := Ln ⟨b, by omega⟩
  refine ⟨fun v => ?_, (h1 0).2⟩
  have h3 : decide (m.fa.getD s 0 = (v : Int)) = false := decide_eq_false (by omega)
  rw [h3, Bool.or_false]
  by_cases hv : v < 8
  ·rw [(h1 ⟨v, hv⟩).1]
   simp only [Int.ofNat_inj]
  ·rw [Ll (h1 0).2.2 (by omega)]
   simp; omega
theorem X6 {a : Nat} (h : a < 256) : (BitVec.ofInt 8 (a : Int)).toNat = a := by
 simp; omega
theorem Qe {a b : Int} (ha : 0 ≤ a ∧ a ≤ 255) (hb : 0 ≤ b ∧ b ≤ 255) : Ei .u8 a b = 0 ↔ ∀ v, ET a v = true → ET b v = true := by
 obtain ⟨a, rfl⟩ := Int.eq_ofNat_of_zero_le ha.1
 obtain ⟨b, rfl⟩ := Int.eq_ofNat_of_zero_le hb.1
 have hA := X6 (a := a) (by omega)
 have hB := X6 (a := b) (by omega)
 unfold Ei ET
 simp only [IntKind.bits, Int.toNat_natCast]
 have hx : ∀ x : BitVec 8, wI .u8 (x.toNat : Int) = (x.toNat : Int) := by
  intro x
  have := x.isLt
  simp [wI, IntKind.signed, IntKind.bits]
  omega
 rw [hx]
 constructor
 ·intro h v hv
  have h0 : (BitVec.ofInt 8 (a : Int) &&& ~~~BitVec.ofInt 8 (b : Int)) = (BitVec.ofNat 8 0) := by
   apply BitVec.eq_of_toNat_eq
   simp only [BitVec.toNat_ofNat, Nat.zero_mod]
   exact Int.ofNat_inj.1 h
  by_cases hv8 : v < 8
  ·have h1 : (BitVec.ofInt 8 (a : Int) &&& ~~~BitVec.ofInt 8 (b : Int)).getLsbD v = false := by rw [h0]; simp
   rw [BitVec.getLsbD_and, BitVec.getLsbD_not] at h1
   have e1 : (BitVec.ofInt 8 (a : Int)).getLsbD v = a.testBit v := by unfold BitVec.getLsbD; rw [hA]
   have e2 : (BitVec.ofInt 8 (b : Int)).getLsbD v = b.testBit v := by unfold BitVec.getLsbD; rw [hB]
   rw [e1, e2, hv] at h1
   simpa [hv8] using h1
  ·have := Ll (s := (a : Int)) (v := v) (by omega) (by omega)
   unfold ET at this
   rw [Int.toNat_natCast, hv] at this
   cases this
 ·intro h
  have h0 : (BitVec.ofInt 8 (a : Int) &&& ~~~BitVec.ofInt 8 (b : Int)) = (BitVec.ofNat 8 0) := by
   apply BitVec.eq_of_getLsbD_eq
   intro i hi
   rw [BitVec.getLsbD_and, BitVec.getLsbD_not]
   have e1 : (BitVec.ofInt 8 (a : Int)).getLsbD i = a.testBit i := by unfold BitVec.getLsbD; rw [hA]
   have e2 : (BitVec.ofInt 8 (b : Int)).getLsbD i = b.testBit i := by unfold BitVec.getLsbD; rw [hB]
   rw [e1, e2]
   have := h i
   cases h3 : a.testBit i
   ·simp
   ·rw [this h3]; simp
  have h2 : ∀ x : BitVec 8, x = (BitVec.ofNat 8 0) → (x.toNat : Int) = 0 := fun x hx => by rw [hx]; rfl
  exact h2 _ h0
theorem YS : ∀ n : Fin 9, (∀ v : Fin 8, ET (wI .u8 (Dp .u8 1 (n.val : Int) - 1)) v.val = decide (v.val < n.val)) ∧ 0 ≤ wI .u8 (Dp .u8 1 (n.val : Int) - 1) ∧ wI .u8 (Dp .u8 1 (n.val : Int) - 1) ≤ 255 := by decide +kernel
theorem Yz {n : Int} (h0 : 0 ≤ n) (h1 : n ≤ 8) : (∀ v, ET (wI .u8 (Dp .u8 1 n - 1)) v = decide ((v : Int) < n)) ∧ 0 ≤ wI .u8 (Dp .u8 1 n - 1) ∧ wI .u8 (Dp .u8 1 n - 1) ≤ 255 := by
 obtain ⟨n, rfl⟩ := Int.eq_ofNat_of_zero_le h0
 have h := YS ⟨n, by omega⟩
 refine ⟨fun v => ?_, h.2⟩
 by_cases hv : v < 8
 ·rw [h.1 ⟨v, hv⟩]; simp
 ·rw [Ll h.2.2 (by omega)]
  symm; apply decide_eq_false; omega
structure Co (p : Ae) (m : Ag) : Prop extends MixServ p m where
 range : ∀ i, i < p.fc.length → 0 ≤ m.fe.getD i 0 ∧ m.fe.getD i 0 ≤ 255
 low : ∀ i t, p.fc[i]? = some t → Ct t = true → ∀ v, JM m t.fg.toNat v = true → ET (m.fe.getD i 0) v = true
 high : ∀ i t, p.fc[i]? = some t → Ct t = true → ∀ v, ET (m.fe.getD i 0) v = true → (v : Int) < p.fb.getD t.fg.toNat 0
 none : ∀ i t, p.fc[i]? = some t → Ct t = false → m.fe.getD i 0 = 0
theorem Jy {p : Ae} (hp : Bj p) {i : Nat} (hi : i < p.fb.length) : 1 ≤ p.fb.getD i 0 ∧ p.fb.getD i 0 ≤ 6 := by
 have := KJ (i := (i : Int)) hp.ver (by omega) (by omega)
 simpa using this
theorem Jt {p : Ae} {m : Ag} (hp : Bj p) (hm : MixServ p m) {s : Nat} (hs : s < p.fb.length) :
  (∀ v, ET (Ie m s) v = JM m s v) ∧ 0 ≤ Ie m s ∧ Ie m s ≤ 255 := by
 have h1 := hm.b0 s hs
 have h2 := hm.n0 s hs
 have h3 := Jy hp hs
 exact Ya h1.1 (by omega) (by omega)
theorem TI {p : Ae} {m : Ag} (hp : Bj p) (hm : MixServ p m) {i : Nat} {t : Ar} (ht : p.fc[i]? = some t) (hr : 0 ≤ m.fe.getD i 0 ∧ m.fe.getD i 0 ≤ 255) :
  KD p m i t = none ↔ ((Ct t = true → (∀ v, JM m t.fg.toNat v = true → ET (m.fe.getD i 0) v = true) ∧ (∀ v, ET (m.fe.getD i 0) v = true → (v : Int) < p.fb.getD t.fg.toNat 0)) ∧ (Ct t = false → m.fe.getD i 0 = 0)) := by
 have hin := JW (hp.tab t (lM ht))
 have hrun := Jt hp hm (s := t.fg.toNat) (by omega)
 have hver := Jy hp (i := t.fg.toNat) (by omega)
 have hall := Yz (n := p.fb.getD t.fg.toNat 0) (by omega) (by omega)
 unfold KD YM
 have e1 := Qe hrun.2 hr
 have e2 := Qe hr hall.2
 cases hst : Ct t
 ·simp
 ·simp only [if_true, true_implies, Bool.true_eq_false, false_implies, and_true, ite_eq_right_iff, reduceCtorEq, imp_false, not_or, Decidable.not_not]
  rw [e1, e2]
  simp only [hrun.1, hall.1, decide_eq_true_eq]
theorem Me {p : Ae} {m : Ag} (hw : Qv MV m.fe) (h : He p m = 0) : Bj p ∧ Co p m := by
 unfold He at h
 split at h
 ·rename_i k; exact (k h).elim
 ·rename_i k0
  have hp : Bj p := by
   rcases JN p with h | h
   ·exact h.2
   ·omega
  split at h
  ·cases h
  ·rename_i k1
   have b1 : m.fd.length = p.fb.length := Decidable.not_not.1 fun h => k1 (.inl h)
   have b2 : m.fa.length = p.fb.length := Decidable.not_not.1 fun h => k1 (.inr (.inl h))
   have b3 : m.fe.length = p.fc.length := Decidable.not_not.1 fun h => k1 (.inr (.inr h))
   cases hs : Ep (Nc m) 0 p.fb with
   | some r =>
    obtain ⟨j, x, _, he⟩ := FV hs
    rw [hs] at h
    unfold Nc at he
    simp only [Ce, Option.getD_some] at h
    split at he
    ·cases he; cases h
    ·split at he
     ·cases he; cases h
     ·cases he
   | none =>
    have hm := SK b1 b2 b3 hs
    rw [hs] at h
    simp only [Ce] at h
    cases ht : Ep (KD p m) 0 p.fc with
    | some r =>
     obtain ⟨j, x, _, he⟩ := FV ht
     rw [ht] at h
     simp only [Option.getD_some] at h
     subst h
     unfold KD at he
     split at he
     ·split at he <;> cases he
     ·split at he <;> cases he
    | none =>
     have hr : ∀ i, i < p.fc.length → 0 ≤ m.fe.getD i 0 ∧ m.fe.getD i 0 ≤ 255 := fun i hi => Kc (Tl hw (by omega))
     have key : ∀ i t, p.fc[i]? = some t → _ := fun i t hi => (TI hp hm hi (hr i (lI.1 hi).1)).1 (by have := Ge ht i t hi; rwa [Nat.zero_add] at this)
     exact ⟨hp, hm, hr, fun i t hi hst => ((key i t hi).1 hst).1, fun i t hi hst => ((key i t hi).1 hst).2, fun i t hi hst => (key i t hi).2 hst⟩
theorem Gw {α R : Type} {f : Nat → α → Option R} : ∀ {i : Nat} {xs : List α}, (∀ j x, xs[j]? = some x → f (i + j) x = none) → Ep f i xs = none
 | _, [], _ => rfl
 | i, y :: ys, h => by
  rw [GW, show f i y = none from h 0 y rfl]
  exact Gw fun j x hx => by
   have := h (j + 1) x (by simpa using hx)
   rwa [show i + (j + 1) = i + 1 + j from by omega] at this
theorem ST {p : Ae} (hp : Bj p) (hr : ∀ i, i < p.fb.length → 0 ≤ p.fh.getD i 0 ∧ p.fh.getD i 0 < p.fb.getD i 0 ∧ 0 ≤ p.fo.getD i 0 ∧ p.fo.getD i 0 < p.fb.getD i 0) : BZ p = 0 := by
 have := hp.nv
 have := hp.nt
 have := hp.now
 have := hp.tgt
 unfold BZ
 rw [if_neg (by omega), if_neg (by omega)]
 have h1 : Ep (GO p) 0 p.fb = none := Gw fun j x hx => by
  have hj := (lI.1 hx).1
  have h1 := hr j hj
  have h2 := Jy hp hj
  have e : p.fb.getD j 0 = x := by rw [lD, hx]; rfl
  rw [e] at h1 h2
  unfold GO
  rw [Nat.zero_add, if_neg (by omega)]
 have h2 : Ep (Mk p) 0 p.fc = none := Gw fun j x hx => by
  unfold Mk
  rw [if_pos (hp.tab x (lM hx))]
 rw [h1, h2]; rfl
theorem DR {p : Ae} (h : BZ p = 0) : Bj p ∧ ∀ i, i < p.fb.length → 0 ≤ p.fh.getD i 0 ∧ p.fh.getD i 0 < p.fb.getD i 0 ∧ 0 ≤ p.fo.getD i 0 ∧ p.fo.getD i 0 < p.fb.getD i 0 := by
 have hp : Bj p := by
  rcases JN p with h | h
  ·exact h.2
  ·omega
 refine ⟨hp, fun i hi => ?_⟩
 have h1 := hp.nv
 have h2 := hp.nt
 have h3 := hp.now
 have h4 := hp.tgt
 unfold BZ at h
 rw [if_neg (by omega), if_neg (by omega)] at h
 cases hs : Ep (GO p) 0 p.fb with
 | some r =>
  obtain ⟨j, x, _, he⟩ := FV hs
  rw [hs] at h
  unfold GO at he
  split at he
  ·cases he; cases h
  ·cases he
 | none =>
  have hx : p.fb[i]? = some (p.fb.getD i 0) := by rw [lD]; simp [hi]
  have := Ge hs i _ hx
  rw [Nat.zero_add] at this
  unfold GO at this
  split at this
  ·cases this
  ·rename_i hn; omega
theorem K5 {p : Ae} {m : Ag} (hv : BZ p = 0) (hm : Co p m) : He p m = 0 := by
 obtain ⟨hp, _⟩ := DR hv
 unfold He
 rw [hv, if_neg (by simp), if_neg (by have := hm.base; have := hm.next; have := hm.held; omega)]
 have h1 : Ep (Nc m) 0 p.fb = none := Gw fun j x hx => by
  have hj := (lI.1 hx).1
  have e : p.fb.getD j 0 = x := by rw [lD, hx]; rfl
  have h1 := hm.b0 j hj
  have h2 := hm.n0 j hj
  have h3 := hm.ne j hj
  rw [e] at h1 h2
  unfold Nc
  rw [Nat.zero_add, if_neg (by omega), if_neg h3]
 have h2 : Ep (KD p m) 0 p.fc = none := Gw fun j x hx => by
  have hj := (lI.1 hx).1
  rw [Nat.zero_add]
  exact (TI hp hm.toMixServ hx (hm.range j hj)).2 ⟨fun hst => ⟨hm.low j x hx hst, hm.high j x hx hst⟩, fun hst => hm.none j x hx hst⟩
 rw [h1, h2]; rfl
def MG {α : Type} (g : Nat → α → Bool) : Nat → List α → Bool
 | _, [] => false
 | i, x :: xs => g i x || MG g (i + 1) xs
theorem PS {α : Type} {g : Nat → α → Bool} : ∀ {i : Nat} {xs : List α}, MG g i xs = true ↔ ∃ j x, xs[j]? = some x ∧ g (i + j) x = true
 | _, [] => by simp [MG]
 | i, x :: xs => by
  rw [MG, Bool.or_eq_true, PS]
  constructor
  ·rintro (h | ⟨j, z, hz, h⟩)
   ·exact ⟨0, x, rfl, h⟩
   ·exact ⟨j + 1, z, by simpa using hz, by rwa [show i + (j + 1) = i + 1 + j from by omega]⟩
  ·rintro ⟨j, z, hz, h⟩
   cases j with
   | zero => simp at hz; subst hz; exact .inl h
   | succ j => exact .inr ⟨j, z, by simpa using hz, by rwa [show i + 1 + j = i + (j + 1) from by omega]⟩
theorem MW {α β : Type} (g : Nat → α → List β) (h : Nat → α → Bool) : ∀ (i : Nat) (xs : List α) (a : List β) (b : Bool),
  Iz (fun i x (s : List β × Bool) => (s.1 ++ g i x, s.2 || h i x)) i xs (a, b) = (a ++ Cg g i xs, b || MG h i xs)
 | _, [], a, b => by simp [Iz, Cg, MG]
 | i, x :: xs, a, b => by rw [Iz, MW g h, Cg, MG, List.append_assoc, Bool.or_assoc]
def gC (i u : Nat) (m : Ag) (t : Ar) (v : Nat) (ok : Bool) : List Aa :=
 if JM m t.fk.toNat v && (!ok && !t.fp) then [⟨(i : Int), (u : Int), (v : Int)⟩] else []
def hC (m : Ag) (t : Ar) (v : Nat) (ok : Bool) : Bool := JM m t.fk.toNat v && ok
def KK (i : Nat) (m : Ag) (t : Ar) (u : Nat) (row : List Bool) : List Aa :=
 Cg (gC i u m t) 0 row ++ if t.fp && !MG (hC m t) 0 row then [⟨(i : Int), (u : Int), -1⟩] else []
def TO (m : Ag) (i : Nat) (t : Ar) (u : Nat) : Bool := if Ct t then ET (m.fe.getD i 0) u else JM m t.fg.toNat u
def KF (m : Ag) (i : Nat) (t : Ar) : List Aa := Cg (fun u row => if TO m i t u then KK i m t u row else []) 0 t.fj
def FW (p : Ae) (m : Ag) : List Aa := Cg (KF m) 0 p.fc
structure NU (p : Ae) (t : Ar) : Prop where
 kind : 1 ≤ t.ff ∧ t.ff ≤ 4
 aware : t.fp = true → Ct t = false
 from0 : 0 ≤ t.fg ∧ t.fg < (p.fb.length : Int)
 to0 : 0 ≤ t.fk ∧ t.fk < (p.fb.length : Int)
 okL : (t.fj.length : Int) = p.fb.getD t.fg.toNat 0
 okR : ∀ row, row ∈ t.fj → (row.length : Int) = p.fb.getD t.fk.toNat 0
 reL : t.ff = 4 → (t.fm.length : Int) = p.fb.getD t.fg.toNat 0
 reR : ∀ row, row ∈ t.fm → (row.length : Int) = p.fb.getD t.fg.toNat 0
 reD : t.ff = 4 → Kd t.fm = none
 reN : t.ff ≠ 4 → t.fm = []
theorem Jd {p : Ae} {t : Ar} (h : EH p t = 0) : NU p t := by
 unfold EH at h
 split at h
 ·cases h
 rename_i h1
 split at h
 ·cases h
 rename_i h2
 simp only at h
 split at h
 ·cases h
 rename_i h3
 have h3 : sq t.fj (p.fb.getD t.fg.toNat 0) (p.fb.getD t.fk.toNat 0) = true := by simpa using h3
 have h3 := Pl h3
 have ha : t.fp = true → Ct t = false := by
  intro ha
  unfold Ct
  rw [Bool.or_eq_false_iff, beq_eq_false_iff_ne, beq_eq_false_iff_ne]
  exact ⟨fun hk => h1 (.inr (.inr ⟨ha, .inl hk⟩)), fun hk => h1 (.inr (.inr ⟨ha, .inr hk⟩))⟩
 split at h
 ·rename_i h4
  split at h
  ·cases h
  rename_i h5
  have h5 : sq t.fm (p.fb.getD t.fg.toNat 0) (p.fb.getD t.fg.toNat 0) = true := by simpa using h5
  have h5 := Pl h5
  refine ⟨by omega, ha, by omega, by omega, h3.1, h3.2, fun _ => h5.1, h5.2, fun _ => ?_, fun h => (h h4).elim⟩
  cases hd : Kd t.fm with
  | none => rfl
  | some r =>
   obtain ⟨j, x, _, hx⟩ := FV hd
   rw [hd] at h
   split at hx
   ·cases hx
   ·cases hx; cases h
 ·rename_i h4
  split at h
  ·rename_i h5
   have h5 := List.eq_nil_of_length_eq_zero h5
   refine ⟨by omega, ha, by omega, by omega, h3.1, h3.2, fun h => (h4 h).elim, fun row hr => ?_, fun h => (h4 h).elim, fun _ => h5⟩
   rw [h5] at hr; cases hr
  ·cases h
theorem Mr {R : Type} (b : Bool) (acc : List Aa) (x : Aa) (j : List Aa → Option R) (h : acc.length + 1 ≤ DM) :
  AY b ((Ef (acc.length + ([x] : List Aa).length ≤ DM)).bind fun _ => j (acc ++ [x])) (j acc) = j (acc ++ if b then [x] else []) := by
 cases b
 ·simp
 ·rw [AX, Au (by simpa using h)]; rfl
theorem T3 (N : Nat) (m : Ag) (t : Ar) (i u : Nat) (row : List Bool) (R : Int) (b1 b2 acc : List Aa) (j : List Aa × Bool → Option (List Aa))
  (hN : N ≤ 1000000) (h8 : 8 ≤ N) (hrow : row.length ≤ 6) (hacc : acc.length + 6 ≤ DM) (hR0 : 0 ≤ R) (hR1 : R ≤ 255) (hRb : ∀ v, ET R v = JM m t.fk.toNat v) :
  Cw N (b1, (i : Int)) t R (b2, (u : Int)) row j N (acc, false, 0) = j (acc ++ Cg (gC i u m t) 0 row, MG (hC m t) 0 row) := by
 have := IF (A := List Aa × Bool) (Cw N (b1, (i : Int)) t R (b2, (u : Int)) row j) (fun a k => (a.1, a.2, k)) row (fun a => j a) (fun v ok s => (s.1 ++ gC i u m t v ok, s.2 || hC m t v ok))
  (fun v a => v ≤ row.length ∧ a.1.length ≤ acc.length + v)
  (fun n v ok a hx ha => by
   have hv := (lI.1 hx).1
   obtain ⟨c, f⟩ := a
   simp only at ha
   refine ⟨?_, by omega, ?_⟩
   ·rw [Cw]
    simp only [Br]
    rw [AM (by omega), A1, hx]
    simp only [oS]
    rw [Au (by omega), Uh hR0 hR1 (by omega), hRb, AI (by omega), Mr _ _ _ (fun l => Cw N (b1, (i : Int)) t R (b2, (u : Int)) row j n (l, true, ((v + 1 : Nat) : Int))) (by omega)]
    unfold gC hC
    rw [Mr _ _ _ (fun l => Cw N (b1, (i : Int)) t R (b2, (u : Int)) row j n (l, ok, ((v + 1 : Nat) : Int))) (by omega)]
    cases JM m t.fk.toNat v
    ·simp
    ·cases ok <;> cases f <;> cases t.fp <;> simp
   ·simp only [gC, List.length_append]
    split <;> simp <;> omega)
  (fun n a _ => by
   rw [Cw]
   simp only [Br]
   rw [AE (by omega)]) N 0 (acc, false) (by omega) (by omega) ⟨by omega, by simp⟩
 have h2 := this.1
 rw [List.drop_zero, MW, Bool.false_or] at h2
 exact h2
theorem JE {p : Ae} {t : Ar} (hp : Bj p) (ht : NU p t) : t.fj.length ≤ 6 ∧ ∀ row, row ∈ t.fj → row.length ≤ 6 := by
 have h1 := KJ hp.ver ht.from0.1 ht.from0.2
 have h2 := KJ hp.ver ht.to0.1 ht.to0.2
 have h3 := ht.okL
 exact ⟨by omega, fun row hr => by have := ht.okR row hr; omega⟩
theorem Vj (i u : Nat) (m : Ag) (t : Ar) (v : Nat) (ok : Bool) : (gC i u m t v ok).length ≤ 1 := by
 unfold gC; split <;> simp
theorem UR (i : Nat) (m : Ag) (t : Ar) (u : Nat) (row : List Bool) (h : row.length ≤ 6) : (KK i m t u row).length ≤ 7 := by
 unfold KK
 rw [List.length_append]
 have := Gd (g := gC i u m t) (c := 1) (i := 0) (xs := row) (fun j x _ => Vj _ _ _ _ _ _)
 split <;> simp <;> omega
theorem Vc (i : Nat) (m : Ag) (t : Ar) (u : Nat) (row : List Bool) (h : row.length ≤ 6) : (if TO m i t u = true then KK i m t u row else []).length ≤ 7 := by
 have := UR i m t u row h
 split <;> simp <;> omega
theorem OV {p : Ae} {t : Ar} (hp : Bj p) (ht : NU p t) (i : Nat) (m : Ag) : (KF m i t).length ≤ 42 := by
 have h1 := JE hp ht
 have := Gd (g := fun u row => if TO m i t u = true then KK i m t u row else []) (c := 7) (i := 0) (xs := t.fj) (fun j x hx => Vc i m t _ x (h1.2 x (lM hx)))
 unfold KF
 omega
theorem N3 (N : Nat) (p : Ae) (m : Ag) (t : Ar) (i : Nat) (W R : Int) (b1 acc : List Aa) (j : List Aa → Option (List Aa))
  (hN : N ≤ 1000000) (h8 : 8 ≤ N) (hp : Bj p) (ht : NU p t) (hacc : acc.length + 42 ≤ 10000) (hR0 : 0 ≤ R) (hR1 : R ≤ 255) (hRb : ∀ v, ET R v = JM m t.fk.toNat v) (hW0 : 0 ≤ W) (hW1 : W ≤ 255) (hWb : ∀ v, ET W v = TO m i t v) :
  C5 N (b1, (i : Int)) t R W j N (acc, 0) = j (acc ++ KF m i t) := by
 have hl := JE hp ht
 exact DB (C5 N (b1, (i : Int)) t R W j) (fun a k => (a, k)) t.fj j (fun u row => if TO m i t u then KK i m t u row else []) 7 10000
  (fun u row hx => Vc i m t u row (hl.2 row (lM hx)))
  (fun n u row a hx ha => by
   have hu := (lI.1 hx).1
   have hrow := hl.2 row (lM hx)
   rw [C5]
   simp only [Br]
   rw [AM (by omega), Au (by omega), Uh hW0 hW1 (by omega), hWb, A1, hx]
   simp only [oS]
   rw [T3 N m t i u row R b1 a a _ hN h8 hrow (by unfold DM; omega) hR0 hR1 hRb, AI (by omega)]
   cases hw : TO m i t u
   ·simp
   ·simp only [Bool.not_true, Av, if_true, KK]
    have h1 := Gd (g := gC i u m t) (c := 1) (i := 0) (xs := row) (fun j x _ => Vj _ _ _ _ _ _)
    have := Mr (R := List Aa) (t.fp && !MG (hC m t) 0 row) (a ++ Cg (gC i u m t) 0 row) ⟨(i : Int), (u : Int), -1⟩ (fun l => C5 N (b1, (i : Int)) t R W j n (l, ((u + 1 : Nat) : Int))) (by rw [List.length_append]; unfold DM; rw [hw, if_pos rfl] at ha; omega)
    rw [← List.append_assoc, ← this]
    cases t.fp <;> cases MG (hC m t) 0 row <;> rfl)
  (fun n a => by
   rw [C5]
   simp only [Br]
   rw [AE (by omega)]) N acc (by omega) (by omega)
theorem T2 (N : Nat) (p : Ae) (m : Ag) (t : Ar) (i u : Nat) (row : List Bool) (b1 b2 acc : List Aa) (j : List Aa × Bool → Option (List Aa))
  (hN : N ≤ 1000000) (h8 : 8 ≤ N) (hp : Bj p) (hm : MixServ p m) (ht : NU p t) (hu : t.fj[u]? = some row) (hacc : acc.length + 6 ≤ DM) :
  BE N p m (b1, (i : Int)) t (b2, (u : Int)) j N (acc, false, 0) = j (acc ++ Cg (gC i u m t) 0 row, MG (hC m t) 0 row) := by
 have hrow := (JE hp ht).2 row (lM hu)
 have hR := Jt hp hm (s := t.fk.toNat) (by have := ht.to0; omega)
 have hlen := ht.okR row (lM hu)
 have hto := ht.to0
 have := IF (A := List Aa × Bool) (BE N p m (b1, (i : Int)) t (b2, (u : Int)) j) (fun a k => (a.1, a.2, k)) row (fun a => j a) (fun v ok s => (s.1 ++ gC i u m t v ok, s.2 || hC m t v ok))
  (fun v a => v ≤ row.length ∧ a.1.length ≤ acc.length + v)
  (fun n v ok a hx ha => by
   have hv := (lI.1 hx).1
   obtain ⟨c, f⟩ := a
   simp only at ha
   refine ⟨?_, by omega, ?_⟩
   ·rw [BE]
    simp only [Br]
    rw [F4 (d := 0) hto.1 hto.2, Lp N m t.fk hto.1 (by rw [hm.base]; exact hto.2) (by rw [hm.next]; exact hto.2) (hm.b0 _ (by omega)).1, A1, hu]
    simp only [oS]
    unfold C9
    rw [AM (by omega), A1, hx, Au (by omega), T0 hR.2.1 hR.2.2 (by omega), hR.1]
    simp only [oS]
    rw [AI (by omega), Mr _ _ _ (fun l => BE N p m (b1, (i : Int)) t (b2, (u : Int)) j n (l, true, ((v + 1 : Nat) : Int))) (by omega)]
    unfold gC hC
    rw [Mr _ _ _ (fun l => BE N p m (b1, (i : Int)) t (b2, (u : Int)) j n (l, ok, ((v + 1 : Nat) : Int))) (by omega)]
    cases JM m t.fk.toNat v
    ·simp
    ·cases ok <;> cases f <;> cases t.fp <;> simp
   ·simp only [gC, List.length_append]
    split <;> simp <;> omega)
  (fun n a _ => by
   rw [BE]
   simp only [Br]
   rw [F4 (d := 0) hto.1 hto.2]
   simp only [oS]
   rw [AE (by omega)]) N 0 (acc, false) (by omega) (by omega) ⟨by omega, by simp⟩
 have h2 := this.1
 rw [List.drop_zero, MW, Bool.false_or] at h2
 exact h2
theorem Nm (N : Nat) (p : Ae) (m : Ag) (t : Ar) (i : Nat) (W : Int) (b1 acc : List Aa) (j : List Aa → Option (List Aa))
  (hN : N ≤ 1000000) (h8 : 8 ≤ N) (hp : Bj p) (hm : MixServ p m) (ht : NU p t) (hacc : acc.length + 42 ≤ 10000) (hW0 : 0 ≤ W) (hW1 : W ≤ 255) (hWb : ∀ v, ET W v = TO m i t v) :
  B4 N p m (b1, (i : Int)) t W j N (acc, 0) = j (acc ++ KF m i t) := by
 have hl := JE hp ht
 have hfr := ht.from0
 have hok := ht.okL
 exact DB (B4 N p m (b1, (i : Int)) t W j) (fun a k => (a, k)) t.fj j (fun u row => if TO m i t u then KK i m t u row else []) 7 10000
  (fun u row hx => Vc i m t u row (hl.2 row (lM hx)))
  (fun n u row a hx ha => by
   have hu := (lI.1 hx).1
   have hrow := hl.2 row (lM hx)
   rw [B4]
   simp only [Br]
   rw [F4 (d := 0) hfr.1 hfr.2]
   simp only [oS]
   unfold C9
   rw [AM (by omega), Au (by omega), T0 hW0 hW1 (by omega), hWb]
   simp only [oS]
   rw [T2 N p m t i u row b1 a a _ hN h8 hp hm ht hx (by unfold DM; omega), AI (by omega)]
   cases hw : TO m i t u
   ·simp
   ·simp only [Bool.not_true, Av, if_true, KK]
    have h1 := Gd (g := gC i u m t) (c := 1) (i := 0) (xs := row) (fun j x _ => Vj _ _ _ _ _ _)
    have := Mr (R := List Aa) (t.fp && !MG (hC m t) 0 row) (a ++ Cg (gC i u m t) 0 row) ⟨(i : Int), (u : Int), -1⟩ (fun l => B4 N p m (b1, (i : Int)) t W j n (l, ((u + 1 : Nat) : Int))) (by rw [List.length_append]; unfold DM; rw [hw, if_pos rfl] at ha; omega)
    rw [← List.append_assoc, ← this]
    cases t.fp <;> cases MG (hC m t) 0 row <;> rfl)
  (fun n a => by
   rw [B4]
   simp only [Br]
   rw [F4 (d := 0) hfr.1 hfr.2]
   simp only [oS]
   rw [AE (by omega)]) N acc (by omega) (by omega)
theorem OE (N : Nat) (p : Ae) (m : Ag) (hN : N ≤ 1000000) (h20 : 20 ≤ N) (hp : Bj p) (hm : Co p m) : GY N p m = some (FW p m) := by
 unfold GY
 have hnt := hp.nt
 rw [DB (Es N p m _) (fun a k => (a, k)) p.fc some (KF m) 42 9000
  (fun i t hx => OV hp (Jd (hp.tab t (lM hx))) i m)
  (fun n i t a hx ha => by
   have hi := (lI.1 hx).1
   have ht := Jd (hp.tab t (lM hx))
   have hto := ht.to0
   have hfr := ht.from0
   have hR := Jt hp hm.toMixServ (s := t.fk.toNat) (by omega)
   have hF := Jt hp hm.toMixServ (s := t.fg.toNat) (by omega)
   have hH := hm.range i hi
   rw [Es]
   simp only [Br]
   rw [AM (by omega), A1, hx]
   simp only [oS, KG]
   rw [M7 N m t.fg hfr.1 (by rw [hm.base]; exact hfr.2) (by rw [hm.next]; exact hfr.2) (hm.b0 _ (by omega)).1, M7 N m t.fk hto.1 (by rw [hm.base]; exact hto.2) (by rw [hm.next]; exact hto.2) (hm.b0 _ (by omega)).1, Eh (d := 0) (by rw [hm.held]; exact hi), AI (by omega)]
   simp only [oS]
   cases hs : Ct t
   ·rw [Av, N3 N p m t i _ _ a a _ hN (by omega) hp ht (by omega) hR.2.1 hR.2.2 hR.1 hF.2.1 hF.2.2 (fun v => by unfold TO; rw [hs, hF.1]; rfl)]
   ·rw [AX, N3 N p m t i _ _ a a _ hN (by omega) hp ht (by omega) hR.2.1 hR.2.2 hR.1 hH.1 hH.2 (fun v => by unfold TO; rw [hs]; rfl)])
  (fun n a => by
   rw [Es]
   simp only [Br]
   rw [AE (by omega)]) N [] (by omega) (by simp; omega)]
 rfl
theorem OG (N : Nat) (p : Ae) (m : Ag) (hN : N ≤ 1000000) (h20 : 20 ≤ N) (hp : Bj p) (hm : Co p m) : FC N p m = some (FW p m) := by
 unfold FC
 have hnt := hp.nt
 rw [DB (Do N p m _) (fun a k => (a, k)) p.fc some (KF m) 42 9000
  (fun i t hx => OV hp (Jd (hp.tab t (lM hx))) i m)
  (fun n i t a hx ha => by
   have hi := (lI.1 hx).1
   have ht := Jd (hp.tab t (lM hx))
   have hto := ht.to0
   have hfr := ht.from0
   have hF := Jt hp hm.toMixServ (s := t.fg.toNat) (by omega)
   have hH := hm.range i hi
   rw [Do]
   simp only [Br]
   rw [AM (by omega), A1, hx]
   simp only [oS, H9]
   rw [Lp N m t.fg hfr.1 (by rw [hm.base]; exact hfr.2) (by rw [hm.next]; exact hfr.2) (hm.b0 _ (by omega)).1, Eh (d := 0) (by rw [hm.held]; exact hi), AI (by omega)]
   simp only [oS]
   cases hs : Ct t
   ·rw [Av, Nm N p m t i _ a a _ hN (by omega) hp hm.toMixServ ht (by omega) hF.2.1 hF.2.2 (fun v => by unfold TO; rw [hs, hF.1]; rfl)]
   ·rw [AX, Nm N p m t i _ a a _ hN (by omega) hp hm.toMixServ ht (by omega) hH.1 hH.2 (fun v => by unfold TO; rw [hs]; rfl)])
  (fun n a => by
   rw [Do]
   simp only [Br]
   rw [AE (by omega)]) N [] (by omega) (by simp; omega)]
 rfl
theorem FU {A S R : Type} (L : Nat → S → Option R) (mk : A → Int → S) (len : Nat) (j : A → Option R) (I : Nat → A → Prop)
  (hs : ∀ (n i : Nat) (a : A), i < len → I i a → ∃ a', L (n + 1) (mk a (i : Int)) = L n (mk a' ((i + 1 : Nat) : Int)) ∧ I (i + 1) a')
  (he : ∀ (n : Nat) (a : A), I len a → L (n + 1) (mk a (len : Int)) = j a) :
  ∀ (n i : Nat) (a : A), i ≤ len → len - i < n → I i a → ∃ a', L n (mk a (i : Int)) = j a' ∧ I len a'
 | 0, i, _, _, h, _ => by omega
 | n + 1, i, a, hi, h, ha => by
  by_cases h1 : i < len
  ·obtain ⟨a', e1, e2⟩ := hs n i a h1 ha
   rw [e1]
   exact FU L mk len j I hs he n (i + 1) _ (by omega) (by omega) e2
  ·have : i = len := by omega
   subst this
   exact ⟨a, he n a ha, ha⟩
theorem KC {α : Type} {xs ys : List α} {i : Nat} {d : α} (h : i < xs.length) : (xs ++ ys).getD i d = xs.getD i d := by
 rw [lD, lD, List.getElem?_append_left h]
theorem Kz {α : Type} {xs : List α} {y : α} {i : Nat} {d : α} (h : i = xs.length) : (xs ++ [y]).getD i d = y := by
 subst h; rw [lD, List.getElem?_append_right (Nat.le_refl _)]; simp
theorem P0 {α : Type} {P : Nat → α → Prop} {xs : List α} {y : α} {d : α} {n : Nat} (hn : xs.length = n) (h : ∀ k, k < n → P k (xs.getD k d)) (hy : P n y) : ∀ k, k < n + 1 → P k ((xs ++ [y]).getD k d) := by
 intro k hk
 by_cases h1 : k < n
 ·rw [KC (by omega)]; exact h k h1
 ·have : k = n := by omega
  subst this
  rw [Kz hn.symm]; exact hy
theorem VE {l : List Int} (hw : Qv MV l) (i : Nat) : 0 ≤ l.getD i 0 ∧ l.getD i 0 ≤ 255 := by
 by_cases h : i < l.length
 ·have : l.getD i 0 ∈ l := by rw [lD, List.getElem?_eq_getElem h]; exact List.getElem_mem _
  exact Kc (hw _ this)
 ·rw [lD, List.getElem?_eq_none (by omega)]
  exact ⟨by decide, by decide⟩
theorem RB (N : Nat) {l : List Int} (hw : Qv MV l) (i : Nat) : Fa N l (i : Int) = some (l.getD i 0) := by
 unfold Fa
 have h2 := VE hw i
 by_cases h : i < l.length
 ·rw [AM (by omega), Eh (d := 0) h]
  simp only [oS]
  rw [DH (by omega) (by omega)]
 ·rw [AE (by omega), lD, List.getElem?_eq_none (by omega)]; rfl
theorem Jc {a n : Int} (ha : 0 ≤ a) (hn : 0 < n) : 0 ≤ Int.tmod a n ∧ Int.tmod a n < n := ⟨Int.tmod_nonneg n ha, Int.tmod_lt_of_pos a hn⟩
theorem Zz {l : List (List Bool)} {n m : Int} (h1 : (l.length : Int) = n) (h2 : ∀ row, row ∈ l → (row.length : Int) = m) : sq l n m = true := by
 unfold sq
 simp only [Bool.and_eq_true, decide_eq_true_eq, List.all_eq_true]
 exact ⟨h1, h2⟩
theorem ao {p : Ae} {t : Ar} (h : NU p t) : EH p t = 0 := by
 have hk := h.kind
 have hf := h.from0
 have ht := h.to0
 unfold EH
 rw [if_neg, if_neg (by omega)]
 ·simp only [Zz h.okL h.okR]
  rw [if_neg (by simp)]
  by_cases h4 : t.ff = 4
  ·rw [if_pos h4, Zz (h.reL h4) h.reR, if_neg (by simp), h.reD h4]; rfl
  ·rw [if_neg h4, h.reN h4]; rfl
 ·rintro (h1 | h1 | ⟨h1, h2⟩)
  ·omega
  ·omega
  ·have := h.aware h1
   unfold Ct at this
   rw [Bool.or_eq_false_iff, beq_eq_false_iff_ne, beq_eq_false_iff_ne] at this
   omega
theorem WR (N : Nat) (m bad : Int) (diag : Bool) (i : Nat) (acc : List (List Bool)) {_R : Type} (j : List Bool → Option (List (List Bool))) (hN : N ≤ 1000000) (h20 : 20 ≤ N) (hm : 0 ≤ m ∧ m ≤ 6) (hi : i < 6) :
  ∃ row, C0 N m bad diag (acc, (i : Int)) j N ([], 0) = j row ∧ (row.length : Int) = m ∧ (diag = true → (i : Int) < m → row.getD i false = true) := by
 obtain ⟨M, rfl⟩ := Int.eq_ofNat_of_zero_le hm.1
 obtain ⟨row, e, h1, h2⟩ := FU (A := List Bool) (C0 N (M : Int) bad diag (acc, (i : Int)) j) (fun a k => (a, k)) M j
  (fun k a => a.length = k ∧ ∀ q, q < k → diag = true → q = i → a.getD q false = true)
  (fun n k a hk ha => by
   refine ⟨a ++ [(diag && decide (i = k)) || (Int.tmod (FE .u16 bad ((3 * i + k : Nat) : Int)) 2 == 0)], ?_, by simp [ha.1], P0 (P := fun q y => diag = true → q = i → y = true) ha.1 ha.2 (fun h1 h2 => by simp [h1, h2])⟩
   rw [C0]
   simp only [Br]
   rw [AM (by omega), AI (by omega), DH (n := 3 * (i : Int)) (by omega) (by omega), DH (n := 3 * (i : Int) + (k : Int)) (by omega) (by omega)]
   have l1 : ∀ y : Bool, a.length + ([y] : List Bool).length ≤ DM := by intro y; rw [ha.1]; unfold DM; simp; omega
   simp only [Au (l1 _), Au (show (0 : Int) ≤ 3 * (i : Int) + (k : Int) by omega)]
   have e1 : ((3 * i + k : Nat) : Int) = 3 * (i : Int) + (k : Int) := by omega
   rw [e1]
   have e2 : (((i : Nat) : Int) == ((k : Nat) : Int)) = decide (i = k) := by
    by_cases h : i = k
    ·simp [h]
    ·rw [decide_eq_false h]; exact beq_eq_false_iff_ne.2 (by omega)
   rw [e2]
   cases diag <;> cases decide (i = k) <;> rfl)
  (fun n a _ => by
   rw [C0]
   simp only [Br]
   rw [AE (by omega)]) N 0 [] (Nat.zero_le _) (by omega) ⟨rfl, fun q hq => by omega⟩
 exact ⟨row, e, by omega, fun hd hlt => h2 i (by omega) hd rfl⟩
theorem V0 (N : Nat) (n m bad : Int) (diag : Bool) (hN : N ≤ 1000000) (h20 : 20 ≤ N) (hn : 0 ≤ n ∧ n ≤ 6) (hm : 0 ≤ m ∧ m ≤ 6) :
  ∃ l, E9 N n m bad diag = some l ∧ (l.length : Int) = n ∧ (∀ row, row ∈ l → (row.length : Int) = m) ∧ (diag = true → n = m → Kd l = none) := by
 obtain ⟨M, rfl⟩ := Int.eq_ofNat_of_zero_le hn.1
 unfold E9
 obtain ⟨l, e, h1, h2⟩ := FU (A := List (List Bool)) (C1 N (M : Int) m bad diag (fun v => some v)) (fun a k => (a, k)) M some
  (fun k a => a.length = k ∧ ∀ q, q < k → (((a.getD q []).length : Nat) : Int) = m ∧ (diag = true → (q : Int) < m → (a.getD q []).getD q false = true))
  (fun n k a hk ha => by
   obtain ⟨row, e, h1, h2⟩ := WR (_R := Unit) N m bad diag k a (fun (v5 : List Bool) =>
    (Ef (a.length + (([v5] : List (List Bool))).length ≤ DM)).bind fun _ =>
    C1 N (M : Int) m bad diag (fun v => some v) n (a ++ (([v5] : List (List Bool))), (wI .i64 ((k : Int) + 1)))) hN h20 hm (by omega)
   refine ⟨a ++ [row], ?_, by simp [ha.1], P0 (P := fun q y => ((y.length : Nat) : Int) = m ∧ (diag = true → (q : Int) < m → y.getD q false = true)) ha.1 ha.2 ⟨h1, h2⟩⟩
   rw [C1]
   simp only
   rw [AM (by omega), e, Au (by rw [ha.1]; unfold DM; simp; omega), AI (by omega)])
  (fun n a _ => by
   rw [C1]
   simp only
   rw [AE (by omega)]) N 0 [] (Nat.zero_le _) (by omega) ⟨rfl, fun q hq => by omega⟩
 have key : ∀ q row, l[q]? = some row → l.getD q [] = row := fun q row hq => by rw [lD, hq]; rfl
 refine ⟨l, e, by omega, fun row hr => ?_, fun hd hnm => ?_⟩
 ·obtain ⟨q, hq⟩ := List.mem_iff_getElem?.1 hr
  have := (h2 q (by have := (lI.1 hq).1; omega)).1
  rwa [key q row hq] at this
 ·unfold Kd
  refine Gw fun q row hq => ?_
  have hlt := (lI.1 hq).1
  have := (h2 q (by omega)).2 hd (by omega)
  rw [key q row hq] at this
  rw [Nat.zero_add, this]; rfl
structure ZP (p : Ae) : Prop where
 valid : BZ p = 0
 nv : p.fb.length ≤ 3
 nt : p.fc.length ≤ 4
 v3 : ∀ v, v ∈ p.fb → v ≤ 3
theorem WA {p q : Ae} (h : p.fb = q.fb) (t : Ar) : EH p t = EH q t := by
 unfold EH; rw [h]
theorem d4 (N : Nat) (d : BW) (hN : N ≤ 1000000) (h20 : 20 ≤ N) (hw : GE d) : ∃ p ok, GH N d = some (p, ok) ∧ (ok = true → ZP p) := by
 obtain ⟨w1, w2, w3, w4, _⟩ := hw
 unfold GH
 simp only [Br]
 by_cases k1 : 3 < d.fb.length
 ·rw [AM (by omega)]; exact ⟨_, false, rfl, fun h => by cases h⟩
 by_cases k2 : 4 < d.fA.length
 ·rw [AE (by omega), decide_eq_true (by omega : (4 : Int) < (d.fA.length : Int))]; exact ⟨_, false, rfl, fun h => by cases h⟩
 rw [AE (by omega), decide_eq_false (by omega : ¬ (4 : Int) < (d.fA.length : Int)), Av]
 obtain ⟨⟨vs, ns, ts⟩, e, h1, h2, h3, h4⟩ := FU (A := List Int × List Int × List Int) (Dz N d fun v5 => BR N d v5 (fun v16 => some (Ae.mk v5.1 v5.2.1 v5.2.2 v16, true)) N ([], 0)) (fun a k => (a.1, a.2.1, a.2.2, k)) d.fb.length
  (fun v5 => BR N d v5 (fun v16 => some (Ae.mk v5.1 v5.2.1 v5.2.2 v16, true)) N ([], 0))
  (fun i a => a.1.length = i ∧ a.2.1.length = i ∧ a.2.2.length = i ∧ (∀ k, k < i → (1 ≤ a.1.getD k 0 ∧ a.1.getD k 0 ≤ 3) ∧ (0 ≤ a.2.1.getD k 0 ∧ a.2.1.getD k 0 < a.1.getD k 0) ∧ (0 ≤ a.2.2.getD k 0 ∧ a.2.2.getD k 0 < a.1.getD k 0)))
  (fun n i a hi ha => by
   obtain ⟨vs, ns, ts⟩ := a
   obtain ⟨h1, h2, h3, h4⟩ := ha
   simp only at h1 h2 h3 h4
   have hv := VE w1 i
   have hb := VE w2 i
   have hk := VE w3 i
   have hm := Jc (n := 3) hv.1 (by omega)
   obtain ⟨v, hvd⟩ : ∃ v, v = 1 + Int.tmod (d.fb.getD i 0) 3 := ⟨_, rfl⟩
   have m1 := Jc (n := v) hb.1 (by omega)
   have m2 := Jc (n := v) hk.1 (by omega)
   refine ⟨(vs ++ [v], ns ++ [Int.tmod (d.fh.getD i 0) v], ts ++ [Int.tmod (d.fo.getD i 0) v]), ?_, by simp [h1], by simp [h2], by simp [h3], ?_⟩
   ·rw [Dz]
    simp only
    rw [AM (by omega), Eh (d := 0) hi, RB N w2, RB N w3]
    simp only [oS]
    rw [DH (n := Int.tmod _ _) (by omega) (by omega), DH (n := 1 + _) (by omega) (by omega), ← hvd, AI (by omega)]
    have l1 : ∀ y : Int, vs.length + ([y] : List Int).length ≤ DM := by intro y; rw [h1]; unfold DM; simp; omega
    have l2 : ∀ y : Int, ns.length + ([y] : List Int).length ≤ DM := by intro y; rw [h2]; unfold DM; simp; omega
    have l3 : ∀ y : Int, ts.length + ([y] : List Int).length ≤ DM := by intro y; rw [h3]; unfold DM; simp; omega
    simp only [Au (l1 _), Au (l2 _), Au (l3 _), Au (show v ≠ 0 by omega)]
   ·intro k hk
    simp only
    by_cases hki : k < i
    ·rw [KC (by omega), KC (by omega), KC (by omega)]; exact h4 k hki
    ·have : k = i := by omega
     subst this
     rw [Kz h1.symm, Kz h2.symm, Kz h3.symm]
     omega)
  (fun n a _ => by
   rw [Dz]
   simp only
   rw [AE (by omega)]) N 0 ([], [], []) (Nat.zero_le _) (by omega) ⟨rfl, rfl, rfl, fun k hk => by omega⟩
 simp only at h1 h2 h3 h4
 have e' : Dz N d (fun v5 => BR N d v5 (fun v16 => some (Ae.mk v5.1 v5.2.1 v5.2.2 v16, true)) N ([], 0)) N ([], [], [], 0) = _ := e
 rw [e']
 have hvs : ∀ v, v ∈ vs → 1 ≤ v ∧ v ≤ 3 := by
  intro v hv
  obtain ⟨q, hq⟩ := List.mem_iff_getElem?.1 hv
  have := (h4 q (by have := (lI.1 hq).1; omega)).1
  rwa [lD, hq] at this
 have fin : ∀ tabs : List Ar, tabs.length ≤ 4 → (∀ t, t ∈ tabs → EH ⟨vs, ns, ts, []⟩ t = 0) → ZP ⟨vs, ns, ts, tabs⟩ := by
  intro tabs ht h
  have hp : Bj ⟨vs, ns, ts, tabs⟩ := ⟨show vs.length ≤ 6 by omega, show tabs.length ≤ 12 by omega, show ns.length = vs.length by omega, show ts.length = vs.length by omega, fun v hv => by have := hvs v hv; omega, fun t ht => by rw [← h t ht]; exact WA rfl t⟩
  exact ⟨ST hp fun i hi => by have := h4 i (by have : i < vs.length := hi; omega); simp only; omega, show vs.length ≤ 3 by omega, ht, fun v hv => (hvs v hv).2⟩
 by_cases k3 : vs.length = 0
 ·refine ⟨_, true, ?_, fun _ => fin [] (by simp) (fun t ht => by cases ht)⟩
  obtain ⟨M, rfl⟩ : ∃ M, N = M + 1 := ⟨N - 1, by omega⟩
  rw [BR]
  simp only [Br]
  rw [k3]
  by_cases k4 : (0 : Int) < (d.fA.length : Int)
  ·rw [AM k4]; rfl
  ·rw [AE k4]; rfl
 obtain ⟨tabs, e2, g1, g2⟩ := FU (A := List Ar) (BR N d (vs, ns, ts) (fun v16 => some (Ae.mk vs ns ts v16, true))) (fun a k => (a, k)) d.fA.length (fun v16 => some (Ae.mk vs ns ts v16, true))
  (fun i a => a.length = i ∧ ∀ t, t ∈ a → EH ⟨vs, ns, ts, []⟩ t = 0)
  (fun n i a hi ha => by
   have hx : d.fA[i]? = some d.fA[i] := by simp [hi]
   generalize d.fA[i] = l at hx
   obtain ⟨u1, u2, u3, _, u5, u6, _⟩ := w4 l (lM hx)
   have u1 := Kc u1
   have u2 := Kc u2
   have u3 := Kc u3
   have mk := Jc (n := 4) u1.1 (by omega)
   have hL : (0 : Int) < (vs.length : Int) := by omega
   have mf := Jc (n := (vs.length : Int)) u2.1 hL
   have mt := Jc (n := (vs.length : Int)) u3.1 hL
   rw [BR]
   simp only [Br]
   rw [AM (by omega), decide_eq_true hL, AX, A1, hx]
   simp only [oS]
   rw [Au (by omega), Au (by omega), DH (n := l.fg) (by omega) (by omega), DH (n := l.fk) (by omega) (by omega), DH (n := Int.tmod l.ff 4) (by omega) (by omega), DH (n := 1 + _) (by omega) (by omega), AI (by omega)]
   simp only [Ox, oS]
   rw [F4 (d := 0) mf.1 mf.2, F4 (d := 0) mt.1 mt.2]
   simp only [oS]
   have hA : ∀ q : Int, 0 ≤ q → q < (vs.length : Int) → 1 ≤ vs.getD q.toNat 0 ∧ vs.getD q.toNat 0 ≤ 3 := fun q h0 h1 => (h4 q.toNat (by omega)).1
   have hf := hA _ mf.1 mf.2
   have ht := hA _ mt.1 mt.2
   obtain ⟨A, eA, a1, a2, _⟩ := V0 N (vs.getD (Int.tmod l.fg (vs.length : Int)).toNat 0) (vs.getD (Int.tmod l.fk (vs.length : Int)).toNat 0) l.fB false hN h20 (by omega) (by omega)
   obtain ⟨B, eB, b1, b2, b3⟩ := V0 N (vs.getD (Int.tmod l.fg (vs.length : Int)).toNat 0) (vs.getD (Int.tmod l.fg (vs.length : Int)).toNat 0) l.fC true hN h20 (by omega) (by omega)
   rw [eA, eB]
   simp only [oS]
   have l1 : ∀ y : Ar, a.length + ([y] : List Ar).length ≤ DM := by intro y; rw [ha.1]; unfold DM; simp; omega
   simp only [Au (l1 _)]
   obtain ⟨kd, hkd⟩ : ∃ kd, kd = 1 + Int.tmod l.ff 4 := ⟨_, rfl⟩
   rw [← hkd]
   have fin2 : ∀ (aw : Bool) (re : List (List Bool)), (aw = true → (kd == 3 || kd == 4) = false) → ((kd = 4 → re = B) ∧ (kd ≠ 4 → re = [])) →
     EH ⟨vs, ns, ts, []⟩ (Ar.mk kd (Int.tmod l.fg (vs.length : Int)) (Int.tmod l.fk (vs.length : Int)) aw A re) = 0 := by
    intro aw re haw hre
    refine ao ⟨show 1 ≤ kd ∧ kd ≤ 4 by omega, haw, mf, mt, a1, a2, fun h => by rw [hre.1 h]; exact b1, fun row hr => ?_, fun h => by rw [hre.1 h]; exact b3 rfl rfl, fun h => hre.2 h⟩
    by_cases h4 : kd = 4
    ·simp only at hr; rw [hre.1 h4] at hr; exact b2 row hr
    ·simp only at hr; rw [hre.2 h4] at hr; cases hr
   have app : ∀ t, EH ⟨vs, ns, ts, []⟩ t = 0 → (a ++ [t]).length = i + 1 ∧ ∀ t', t' ∈ a ++ [t] → EH ⟨vs, ns, ts, []⟩ t' = 0 := by
    intro t ht
    refine ⟨by simp [ha.1], fun t' ht' => ?_⟩
    rcases List.mem_append.1 ht' with h | h
    ·exact ha.2 t' h
    ·rw [List.mem_singleton.1 h]; exact ht
   by_cases h4 : kd = 4
   ·have e4 : (kd == 4) = true := beq_iff_eq.2 h4
    have hre : (kd = 4 → B = B) ∧ (kd ≠ 4 → B = []) := ⟨fun _ => rfl, fun h => (h h4).elim⟩
    rw [e4]
    simp only [AX, Bool.or_true, Bool.not_true]
    cases l.fp
    ·exact ⟨_, rfl, app _ (fin2 false B (fun h => by cases h) hre)⟩
    ·exact ⟨_, rfl, app _ (fin2 false B (fun h => by cases h) hre)⟩
   ·have e4 : (kd == 4) = false := beq_eq_false_iff_ne.2 h4
    have hre : (kd = 4 → ([] : List (List Bool)) = B) ∧ (kd ≠ 4 → ([] : List (List Bool)) = []) := ⟨fun h => (h4 h).elim, fun _ => rfl⟩
    rw [e4]
    simp only [Av, Bool.or_false]
    cases l.fp
    ·exact ⟨_, rfl, app _ (fin2 false [] (fun h => by cases h) hre)⟩
    ·cases e3 : kd == 3
     ·exact ⟨_, rfl, app _ (fin2 true [] (fun _ => by rw [e3, e4]; rfl) hre)⟩
     ·exact ⟨_, rfl, app _ (fin2 false [] (fun h => by cases h) hre)⟩)
  (fun n a _ => by
   rw [BR]
   simp only [Br]
   rw [AE (by omega), Av]) N 0 [] (Nat.zero_le _) (by omega) ⟨rfl, fun t ht => by cases ht⟩
 exact ⟨_, true, e2, fun _ => fin tabs (by omega) g2⟩
def JI : List Int → Nat → Nat
 | [], _ => 0
 | _, 0 => 0
 | n :: ns, q + 1 => (if 0 ≤ n then 1 else 0) + JI ns q
theorem J4 (l : List Int) : JI l 0 = 0 := by cases l <;> rfl
theorem IU : ∀ (l : List Int) (q : Nat), q < l.length → JI l (q + 1) = JI l q + if 0 ≤ l.getD q 0 then 1 else 0
 | [], q, h => by simp at h
 | n :: ns, 0, _ => by simp [JI, J4]
 | n :: ns, q + 1, h => by
  rw [JI, IU ns q (by simpa using h), JI, List.getD_cons_succ, Nat.add_assoc]
theorem P9 (l : List Int) {a b : Nat} (h : a ≤ b) (hb : b ≤ l.length) : JI l a ≤ JI l b := by
 induction b with
 | zero => rw [Nat.le_zero.1 h]; exact Nat.le_refl _
 | succ b ih =>
  by_cases h1 : a = b + 1
  ·rw [h1]; exact Nat.le_refl _
  ·have := ih (by omega) (by omega)
   rw [IU l b (by omega)]; omega
theorem LV (l : List Int) : ∀ q, q ≤ l.length → JI l q ≤ q
 | 0, _ => by rw [J4]; exact Nat.le_refl _
 | q + 1, h => by
  have := LV l q (by omega)
  rw [IU l q h]
  split <;> omega
def OJ (l : List Int) (k q : Nat) : Int := if 0 ≤ l.getD q 0 ∧ k.testBit (JI l q) = true then -1 else l.getD q 0
def Yh (l : List Int) (k : Nat) : List Int := (List.range l.length).map (OJ l k)
def ak (m : Ag) (k : Nat) : Ag := ⟨m.fd, Yh m.fa k, m.fe⟩
def Hw (m : Ag) : List Ag := (List.range (2 ^ JI m.fa m.fa.length)).map (ak m)
theorem Od (l : List Int) (k : Nat) : (Yh l k).length = l.length := by simp [Yh]
theorem RZ (l : List Int) (k q : Nat) (h : q < l.length) : (Yh l k).getD q 0 = OJ l k q := by
 unfold Yh; rw [lD, List.getElem?_map, List.getElem?_range h]; rfl
theorem Hn {l1 l2 : List Int} (h1 : l1.length = l2.length) (h : ∀ q, q < l1.length → l1.getD q 0 = l2.getD q 0) : l1 = l2 := by
 apply List.ext_getElem h1
 intro q h2 h3
 have := h q h2
 rw [lD, lD, List.getElem?_eq_getElem h2, List.getElem?_eq_getElem h3] at this
 exact this
theorem VX : ∀ (k : Fin 64) (b : Fin 7), Hr .i64 (FE .i64 (k.val : Int) (b.val : Int)) 1 = (if k.val.testBit b.val then 1 else 0) ∧ Int.tmod (FE .i64 (k.val : Int) (b.val : Int)) 2 = (if k.val.testBit b.val then 1 else 0) := by decide +kernel
theorem Yt : ∀ n : Fin 7, Dp .i64 1 (n.val : Int) = ((2 ^ n.val : Nat) : Int) := by decide +kernel
structure QH (m x : Ag) : Prop where
 base : x.fd = m.fd
 held : x.fe = m.fe
 len : x.fa.length = m.fa.length
 next : ∀ q, q < m.fa.length → x.fa.getD q 0 = m.fa.getD q 0 ∨ (0 ≤ m.fa.getD q 0 ∧ x.fa.getD q 0 = -1)
theorem QH.refl (m : Ag) : QH m m := ⟨rfl, rfl, rfl, fun _ _ => .inl rfl⟩
theorem QH.trans {a b c : Ag} (h1 : QH a b) (h2 : QH b c) : QH a c :=
 ⟨h2.base.trans h1.base, h2.held.trans h1.held, h2.len.trans h1.len, fun q hq => by
  have e1 := h1.next q hq
  have e2 := h2.next q (by rw [h1.len]; exact hq)
  omega⟩
theorem Xd (m : Ag) (k : Nat) : QH m (ak m k) :=
 ⟨rfl, rfl, Od _ _, fun q hq => by
  show (Yh m.fa k).getD q 0 = _ ∨ _ ∧ (Yh m.fa k).getD q 0 = _
  rw [RZ _ _ _ hq]; unfold OJ
  split
  ·rename_i h; exact .inr ⟨h.1, rfl⟩
  ·exact .inl rfl⟩
theorem V1 : ∀ (l x : List Int), x.length = l.length → (∀ q, q < l.length → x.getD q 0 = l.getD q 0 ∨ (0 ≤ l.getD q 0 ∧ x.getD q 0 = -1)) → ∃ k, k < 2 ^ JI l l.length ∧ ∀ q, q < l.length → x.getD q 0 = OJ l k q
 | [], x, h, _ => ⟨0, by simp [JI], fun q hq => by simp at hq⟩
 | n :: ns, [], h, _ => by simp at h
 | n :: ns, y :: ys, h, hq => by
  obtain ⟨k, hk, hk2⟩ := V1 ns ys (by simpa using h) (fun q hq' => by have := hq (q + 1) (by simpa using hq'); simpa using this)
  have h0 := hq 0 (by simp)
  simp only [List.getD_cons_zero] at h0
  by_cases hn : 0 ≤ n
  ·refine ⟨2 * k + if y = n then 0 else 1, ?_, ?_⟩
   ·rw [List.length_cons, JI, if_pos hn, Nat.pow_add]
    split <;> omega
   ·intro q hq'
    cases q with
    | zero =>
     simp only [List.getD_cons_zero, OJ, J4]
     by_cases hy : y = n
     ·simp [hy]
     ·rw [if_neg hy, if_pos ⟨hn, by simp⟩]; omega
    | succ q =>
     have := hk2 q (by simpa using hq')
     simp only [List.getD_cons_succ, OJ, JI, if_pos hn] at this ⊢
     rw [this, Nat.add_comm 1, Nat.testBit_succ]
     have : (2 * k + if y = n then 0 else 1) / 2 = k := by split <;> omega
     rw [this]
  ·refine ⟨k, ?_, ?_⟩
   ·rw [List.length_cons, JI, if_neg hn, Nat.zero_add]; exact hk
   ·intro q hq'
    cases q with
    | zero =>
     simp only [List.getD_cons_zero, OJ, J4]
     rw [if_neg (fun h => hn h.1)]
     omega
    | succ q =>
     have := hk2 q (by simpa using hq')
     simp only [List.getD_cons_succ, OJ, JI, if_neg hn, Nat.zero_add] at this ⊢
     exact this
theorem PE {m x : Ag} : x ∈ Hw m ↔ QH m x := by
 unfold Hw
 rw [List.mem_map]
 constructor
 ·rintro ⟨k, _, rfl⟩; exact Xd m k
 ·intro h
  obtain ⟨k, hk, hq⟩ := V1 m.fa x.fa h.len h.next
  refine ⟨k, List.mem_range.2 hk, ?_⟩
  have : Yh m.fa k = x.fa := Hn (by rw [Od, h.len]) fun q hq' => by
   rw [Od] at hq'
   rw [RZ _ _ _ hq', hq q hq']
  unfold ak
  rw [this, ← h.base, ← h.held]
theorem aL {m x : Ag} (h : QH m x) {s : Nat} (hs : s < m.fa.length) {v : Nat} (hv : JM x s v = true) : JM m s v = true := by
 unfold JM at hv ⊢
 rw [h.base] at hv
 have := h.next s hs
 simp only [Bool.or_eq_true, decide_eq_true_eq] at hv ⊢
 omega
theorem Zt {p : Ae} {m x : Ag} (hp : Bj p) (hm : Co p m) (h : QH m x) : Co p x := by
 refine ⟨⟨by rw [h.base]; exact hm.base, by rw [h.len]; exact hm.next, by rw [h.held]; exact hm.held, fun i hi => by rw [h.base]; exact hm.b0 i hi, fun i hi => ?_, fun i hi => ?_⟩, fun i hi => by rw [h.held]; exact hm.range i hi, fun i t ht hs v hv => ?_, fun i t ht hs v hv => ?_, fun i t ht hs => by rw [h.held]; exact hm.none i t ht hs⟩
 ·have h1 := hm.n0 i hi
  have h2 := h.next i (by rw [hm.next]; exact hi)
  have h3 := Jy hp hi
  omega
 ·have h1 := hm.ne i hi
  have h2 := h.next i (by rw [hm.next]; exact hi)
  have h3 := hm.b0 i hi
  rw [h.base]
  omega
 ·have hin := (Jd (hp.tab t (lM ht))).from0
  rw [h.held]
  exact hm.low i t ht hs v (aL h (by rw [hm.next]; omega) hv)
 ·rw [h.held] at hv
  exact hm.high i t ht hs v hv
theorem KV (N : Nat) (l : List Int) (h : l.length ≤ DM) : A7 N l = some l := by
 unfold A7
 rw [Au (by simpa using h)]; rfl
theorem Rc (N : Nat) (l : List Int) (h : l.length ≤ DM) : Cn N l = some l := by
 unfold Cn
 rw [Au (by simpa using h)]; rfl
theorem JX {l : List Int} {i q : Nat} {y : Int} (hi : i < l.length) : (l.set i y).getD q 0 = if q = i then y else l.getD q 0 := by
 rw [lD, lD, List.getElem?_set]
 by_cases h : i = q
 ·subst h; simp [hi]
 ·rw [if_neg h, if_neg (fun e => h e.symm)]
theorem Y1 {l : List Int} {a b : Nat} (ha : a < l.length) (hb : b < l.length) (h1 : 0 ≤ l.getD a 0) (h2 : 0 ≤ l.getD b 0) (h : JI l a = JI l b) : a = b := by
 rcases Nat.lt_trichotomy a b with h3 | h3 | h3
 ·have := P9 l (a := a + 1) (b := b) h3 (by omega)
  rw [IU l a ha, if_pos h1] at this; omega
 ·exact h3
 ·have := P9 l (a := b + 1) (b := a) h3 (by omega)
  rw [IU l b hb, if_pos h2] at this; omega
structure WW (l : List Int) (o : List Int) : Prop where
 len : o.length = JI l l.length
 at_ : ∀ b, b < o.length → ∃ i : Nat, o.getD b 0 = (i : Int) ∧ i < l.length ∧ 0 ≤ l.getD i 0 ∧ JI l i = b
theorem Ul (N : Nat) (l o : List Int) (k : Nat) (acc : List Ag) (hN : N ≤ 1000000) (h20 : 20 ≤ N) (hl : l.length ≤ 6) (ho : WW l o) (hk : k < 64) (j : List Int → Option (List Ag × Int)) :
  DZ N o (acc, (k : Int)) j N (l, 0) = j (Yh l k) := by
 have hol := LV l l.length (Nat.le_refl _)
 have hoL := ho.len
 obtain ⟨x, e, h1, h2⟩ := FU (A := List Int) (DZ N o (acc, (k : Int)) j) (fun a k => (a, k)) o.length j
  (fun b a => a.length = l.length ∧ ∀ q, q < l.length → a.getD q 0 = if 0 ≤ l.getD q 0 ∧ JI l q < b ∧ k.testBit (JI l q) = true then -1 else l.getD q 0)
  (fun n b a hb ha => by
   obtain ⟨i, hi1, hi2, hi3, hi4⟩ := ho.at_ b hb
   have hbit := VX ⟨k, hk⟩ ⟨b, by omega⟩
   rw [DZ]
   simp only [Br]
   rw [AM (by omega), Eh (d := 0) hb]
   simp only [oS]
   rw [Au (by omega), hi1, hbit.1, Eh (d := 0) (show i < a.length by rw [ha.1]; exact hi2), AI (by omega)]
   simp only [oS, Int.toNat_natCast]
   cases hkb : k.testBit b
   ·refine ⟨a, rfl, ha.1, fun q hq => ?_⟩
    rw [ha.2 q hq]
    by_cases hqb : JI l q = b
    ·rw [hqb, hkb]; simp
    ·by_cases h3 : JI l q < b
     ·have : JI l q < b + 1 := by omega
      simp [h3, this]
     ·have : ¬ JI l q < b + 1 := by omega
      simp [h3, this]
   ·refine ⟨a.set i (-1), rfl, by simp [ha.1], fun q hq => ?_⟩
    rw [JX (by rw [ha.1]; exact hi2), ha.2 q hq]
    by_cases hqi : q = i
    ·subst hqi
     rw [if_pos rfl, if_pos ⟨hi3, by omega, by rw [hi4]; exact hkb⟩]
    ·rw [if_neg hqi]
     by_cases h0 : 0 ≤ l.getD q 0
     ·have hne : JI l q ≠ b := fun h => hqi (Y1 hq hi2 h0 hi3 (by omega))
      by_cases h3 : JI l q < b
      ·have : JI l q < b + 1 := by omega
       simp [h3, this]
      ·have : ¬ JI l q < b + 1 := by omega
       simp [h3, this]
     ·rw [if_neg (fun h => h0 h.1), if_neg (fun h => h0 h.1)])
  (fun n a _ => by
   rw [DZ]
   simp only [Br]
   rw [AE (by omega)]) N 0 l (Nat.zero_le _) (by omega) ⟨rfl, fun q hq => by simp⟩
 have e' : DZ N o (acc, (k : Int)) j N (l, 0) = j x := e
 rw [e']
 congr 1
 refine Hn (by rw [Od, h1]) fun q hq => ?_
 rw [h1] at hq
 rw [h2 q hq, RZ _ _ _ hq, OJ]
 by_cases h0 : 0 ≤ l.getD q 0
 ·have h3 := P9 l (a := q + 1) (b := l.length) hq (Nat.le_refl _)
  rw [IU l q hq, if_pos h0] at h3
  have : JI l q < o.length := by omega
  simp [this]
 ·rw [if_neg (fun h => h0 h.1), if_neg (fun h => h0 h.1)]
theorem SY (N : Nat) (m : Ag) (k : Nat) (acc : List Ag) (hN : N ≤ 1000000) (h20 : 20 ≤ N) (hl : m.fa.length ≤ 6) (hk : k < 64) (j : List Int → Option (List Ag)) :
  Cp N m (acc, (k : Int)) j N (m.fa, 0, 0) = j (Yh m.fa k) := by
 obtain ⟨⟨x, pl⟩, e, h1, h2, h3⟩ := FU (A := List Int × Nat) (Cp N m (acc, (k : Int)) j) (fun a k => (a.1, (a.2 : Int), k)) m.fa.length (fun a => j a.1)
  (fun i a => a.2 = JI m.fa i ∧ a.1.length = m.fa.length ∧ ∀ q, q < m.fa.length → a.1.getD q 0 = if q < i then OJ m.fa k q else m.fa.getD q 0)
  (fun n i a hi ha => by
   obtain ⟨a, pl⟩ := a
   obtain ⟨a1, a2, a3⟩ := ha
   simp only at a1 a2 a3
   have hple := LV m.fa i (by omega)
   have hbit := VX ⟨k, hk⟩ ⟨pl, by omega⟩
   have hs := IU m.fa i hi
   rw [Cp]
   simp only [Br]
   rw [AM (by omega), Eh (d := 0) hi]
   simp only [oS]
   rw [AI (by omega)]
   by_cases h0 : m.fa.getD i 0 < 0
   ·rw [AM h0]
    refine ⟨(a, pl), rfl, by simp only; rw [hs, if_neg (by omega), a1]; rfl, a2, fun q hq => ?_⟩
    simp only
    rw [a3 q hq]
    by_cases hqi : q = i
    ·subst hqi
     rw [if_neg (by omega), if_pos (by omega), OJ, if_neg (by omega)]
    ·by_cases h4 : q < i
     ·rw [if_pos h4, if_pos (by omega)]
     ·rw [if_neg h4, if_neg (by omega)]
   ·rw [AE h0, Au (by omega), Eh (d := 0) (show i < a.length by omega), hbit.2, AI (by omega)]
    simp only [oS, Int.toNat_natCast]
    cases hkb : k.testBit pl
    ·refine ⟨(a, pl + 1), rfl, by simp only; rw [hs, if_pos (by omega), a1], a2, fun q hq => ?_⟩
     simp only
     rw [a3 q hq]
     by_cases hqi : q = i
     ·subst hqi
      rw [if_neg (by omega), if_pos (by omega), OJ, ← a1, hkb]; simp
     ·by_cases h4 : q < i
      ·rw [if_pos h4, if_pos (by omega)]
      ·rw [if_neg h4, if_neg (by omega)]
    ·refine ⟨(a.set i (-1), pl + 1), rfl, by simp only; rw [hs, if_pos (by omega), a1], by simp [a2], fun q hq => ?_⟩
     simp only
     rw [JX (by omega), a3 q hq]
     by_cases hqi : q = i
     ·subst hqi
      rw [if_pos rfl, if_pos (by omega), OJ, ← a1, if_pos ⟨by omega, hkb⟩]
     ·rw [if_neg hqi]
      by_cases h4 : q < i
      ·rw [if_pos h4, if_pos (by omega)]
      ·rw [if_neg h4, if_neg (by omega)])
  (fun n a _ => by
   rw [Cp]
   simp only [Br]
   rw [AE (by omega)]) N 0 (m.fa, 0) (Nat.zero_le _) (by omega) ⟨(J4 _).symm, rfl, fun q hq => by simp⟩
 have e' : Cp N m (acc, (k : Int)) j N (m.fa, 0, 0) = j x := e
 rw [e']
 congr 1
 simp only at h2 h3
 refine Hn (by rw [Od, h2]) fun q hq => ?_
 rw [h2] at hq
 rw [h3 q hq, if_pos hq, RZ _ _ _ hq]
theorem XQ (N : Nat) (m : Ag) (hN : N ≤ 1000000) (h20 : 20 ≤ N) (hl : m.fa.length ≤ 6) (j : List Int → Option (List Ag × Int)) :
  ∃ o, ES N m j N ([], 0) = j o ∧ WW m.fa o := by
 obtain ⟨o, e, h1, h2⟩ := FU (A := List Int) (ES N m j) (fun a k => (a, k)) m.fa.length j
  (fun i o => o.length = JI m.fa i ∧ ∀ b, b < o.length → ∃ q : Nat, o.getD b 0 = (q : Int) ∧ q < m.fa.length ∧ 0 ≤ m.fa.getD q 0 ∧ JI m.fa q = b)
  (fun n i o hi ho => by
   have hple := LV m.fa i (by omega)
   have hs := IU m.fa i hi
   rw [ES]
   simp only [Br]
   rw [AM (by omega), Eh (d := 0) hi]
   simp only [oS]
   rw [AI (by omega)]
   by_cases h0 : 0 ≤ m.fa.getD i 0
   ·rw [AM h0, Au (by rw [ho.1]; unfold DM; simp; omega)]
    refine ⟨o ++ [(i : Int)], rfl, by rw [hs, if_pos h0, ← ho.1]; simp, ?_⟩
    rw [List.length_append]
    exact P0 (P := fun b y => ∃ q : Nat, y = (q : Int) ∧ q < m.fa.length ∧ 0 ≤ m.fa.getD q 0 ∧ JI m.fa q = b) rfl ho.2 ⟨i, rfl, hi, h0, ho.1.symm⟩
   ·rw [AE h0]
    exact ⟨o, rfl, by rw [hs, if_neg h0, ho.1]; rfl, ho.2⟩)
  (fun n a _ => by
   rw [ES]
   simp only [Br]
   rw [AE (by omega)]) N 0 [] (Nat.zero_le _) (by omega) ⟨(J4 _).symm, fun b hb => by simp at hb⟩
 exact ⟨o, e, h1, h2⟩
theorem M4 {n : Nat} (h : n ≤ 6) : 2 ^ n ≤ 64 := Nat.pow_le_pow_right (n := 2) (by omega) h
theorem Pj {n : Nat} (h : n ≤ 6) : Dp .i64 1 (n : Int) = ((2 ^ n : Nat) : Int) := Yt ⟨n, by omega⟩
theorem LX {β : Type} (f : Nat → β) (n : Nat) : (List.range (n + 1)).map f = (List.range n).map f ++ [f n] := by
 rw [List.range_succ, List.map_append]; rfl
theorem Q0 (N : Nat) (p : Ae) (m : Ag) (hN : N ≤ 1000000) (h20 : 100 ≤ N) (hw : Qv MV m.fe) (hv : He p m = 0) : Ij N p m = some (Hw m, 0) := by
 obtain ⟨hp, hm⟩ := Me hw hv
 have hnv := hp.nv
 have hnt := hp.nt
 have hl : m.fa.length ≤ 6 := by rw [hm.next]; omega
 unfold Ij
 rw [JH N p m hN (by omega) hw, hv]
 simp only [oS, bne_self_eq_false, Av]
 obtain ⟨o, e, ho⟩ := XQ N m hN (by omega) hl (fun (v4 : (List Int)) =>
   (Ef (0 ≤ (v4.length : Int))).bind fun _ =>
   DX N m v4 (fun (v12 : (List Ag)) =>
    some (v12, 0)) N (([] : List Ag), 0))
 rw [e, Au (by omega)]
 have hoL := ho.len
 have hol := LV m.fa m.fa.length (Nat.le_refl _)
 have hpow := M4 (show JI m.fa m.fa.length ≤ 6 by omega)
 obtain ⟨a, e2, h1⟩ := FU (A := List Ag) (DX N m o fun v12 => some (v12, 0)) (fun a k => (a, k)) (2 ^ JI m.fa m.fa.length) (fun v12 => some (v12, 0))
  (fun i a => a = (List.range i).map (ak m))
  (fun n i a hi ha => by
   refine ⟨a ++ [ak m i], ?_, by rw [LX, ha]⟩
   have hal : a.length = i := by rw [ha]; simp
   rw [DX]
   rw [hoL, Pj (n := JI m.fa m.fa.length) (by omega), AM (by omega), KV N m.fd (by have := hm.base; unfold DM; omega), KV N m.fa (by unfold DM; omega), Rc N m.fe (by have := hm.held; unfold DM; omega)]
   simp only [oS]
   rw [Ul N m.fa o i a hN (by omega) hl ho (by omega), Au (by rw [hal]; unfold DM; simp; omega), AI (by omega)]
   rfl)
  (fun n a _ => by
   rw [DX]
   rw [hoL, Pj (n := JI m.fa m.fa.length) (by omega), AE (by simp)]) N 0 [] (Nat.zero_le _) (by omega) rfl
 have e2' : DX N m o (fun v12 => some (v12, 0)) N ([], 0) = some (a, 0) := e2
 rw [e2', h1]; rfl
theorem Vo (N : Nat) (m : Ag) (h1 : m.fd.length ≤ DM) (h2 : m.fa.length ≤ DM) (h3 : m.fe.length ≤ DM) : Fr N m = some m := by
 unfold Fr
 rw [Au (by simpa using h1), Au (by simpa using h2), Au (by simpa using h3)]; rfl
theorem UP (N : Nat) (m : Ag) (hN : N ≤ 1000000) (h20 : 100 ≤ N) (h1 : m.fd.length ≤ 100) (hl : m.fa.length ≤ 6) (h3 : m.fe.length ≤ 100) : Fs N m = some (Hw m) := by
 unfold Fs
 obtain ⟨c, e, hc⟩ := FU (A := Nat) (Df N m (fun (v2 : Int) =>
  BP N m v2 (fun (v8 : (List Ag)) => some v8) N (([] : List Ag), 0))) (fun a k => ((a : Int), k)) m.fa.length (fun a => BP N m (a : Int) (fun (v8 : (List Ag)) => some v8) N (([] : List Ag), 0))
  (fun i a => a = JI m.fa i)
  (fun n i a hi ha => by
   have hple := LV m.fa i (by omega)
   have hs := IU m.fa i hi
   rw [Df]
   simp only [Br]
   rw [AM (by omega), Eh (d := 0) hi]
   simp only [oS]
   rw [AI (by omega), AI (by omega)]
   by_cases h0 : 0 ≤ m.fa.getD i 0
   ·rw [AM h0]
    exact ⟨a + 1, rfl, by rw [hs, if_pos h0, ha]⟩
   ·rw [AE h0]
    exact ⟨a, rfl, by rw [hs, if_neg h0, ha]; rfl⟩)
  (fun n a _ => by
   rw [Df]
   simp only [Br]
   rw [AE (by omega)]) N 0 0 (Nat.zero_le _) (by omega) (J4 _).symm
 have e' : Df N m (fun (v2 : Int) => BP N m v2 (fun (v8 : (List Ag)) => some v8) N (([] : List Ag), 0)) N (0, 0) = _ := e
 rw [e', hc]
 have hol := LV m.fa m.fa.length (Nat.le_refl _)
 have hpow := M4 (show JI m.fa m.fa.length ≤ 6 by omega)
 obtain ⟨a, e2, h1⟩ := FU (A := List Ag) (BP N m (JI m.fa m.fa.length : Int) fun v8 => some v8) (fun a k => (a, k)) (2 ^ JI m.fa m.fa.length) some
  (fun i a => a = (List.range i).map (ak m))
  (fun n i a hi ha => by
   refine ⟨a ++ [ak m i], ?_, by rw [LX, ha]⟩
   have hal : a.length = i := by rw [ha]; simp
   rw [BP]
   rw [Au (by omega), Pj (n := JI m.fa m.fa.length) (by omega), AM (by omega), Vo N m (by unfold DM; omega) (by unfold DM; omega) (by unfold DM; omega)]
   simp only [oS]
   rw [SY N m i a hN (by omega) hl (by omega), Au (by rw [hal]; unfold DM; simp; omega), AI (by omega)]
   rfl)
  (fun n a _ => by
   rw [BP]
   rw [Au (by omega), Pj (n := JI m.fa m.fa.length) (by omega), AE (by simp)]) N 0 [] (Nat.zero_le _) (by omega) rfl
 have e2' : BP N m (JI m.fa m.fa.length : Int) (fun v8 => some v8) N ([], 0) = some a := e2
 rw [e2', h1]; rfl
theorem UH (N : Nat) (p : Ae) (m : Ag) (hN : N ≤ 1000000) (h20 : 100 ≤ N) (hp : Bj p) (hm : Co p m) : Fs N m = some (Hw m) := by
 have := hp.nv
 have := hp.nt
 exact UP N m hN h20 (by rw [hm.base]; omega) (by rw [hm.next]; omega) (by rw [hm.held]; omega)
theorem NH {p : Ae} {m : Ag} (hm : Co p m) : Qv MV m.fe := by
 intro x hx
 obtain ⟨q, hq⟩ := List.mem_iff_getElem?.1 hx
 have h1 := (lI.1 hq).1
 have := hm.range q (by rw [← hm.held]; exact h1)
 rw [lD, hq] at this
 unfold MV
 simp only [Option.getD_some] at this
 simp [Lit.wf, IntKind.min, IntKind.max, IntKind.signed, IntKind.bits]
 omega
def Lc (p : Ae) (x : Ag) : Option (Ag × Aa) := match FW p x with
 | [] => none
 | c :: _ => some (x, c)
def Ou (p : Ae) (m : Ag) : Option (Ag × Aa) := Ep (fun _ x => Lc p x) 0 (Hw m)
def IM : Ag := ⟨[], [], []⟩
def XX : Aa := ⟨0, 0, 0⟩
def UD (p : Ae) (m : Ag) : Ag × Aa × Int := match Ou p m with
 | some (x, c) => (x, c, 0)
 | none => (IM, XX, 15)
def BJ (p : Ae) (m : Ag) : Bool := (Ou p m).isNone
theorem Pv {m : Ag} (hl : m.fa.length ≤ 6) : (Hw m).length ≤ 64 := by
 unfold Hw
 have hol := LV m.fa m.fa.length (Nat.le_refl _)
 have hpow := M4 (show JI m.fa m.fa.length ≤ 6 by omega)
 simpa using hpow
theorem NF {α R R' : Type} (f : Nat → α → Option R) (g : R → R') : ∀ (i : Nat) (xs : List α), Ep (fun i x => (f i x).map g) i xs = (Ep f i xs).map g
 | _, [] => rfl
 | i, x :: xs => by
  rw [GW, GW]
  cases f i x
  ·exact NF f g (i + 1) xs
  ·rfl
theorem SR (N : Nat) (p : Ae) (m : Ag) (hN : N ≤ 1000000) (h20 : 100 ≤ N) (hw : Qv MV m.fe) (hv : He p m = 0) : IV N p m = some (UD p m) := by
 obtain ⟨hp, hm⟩ := Me hw hv
 have hnv := hp.nv
 unfold IV
 rw [Q0 N p m hN h20 hw hv]
 simp only [oS, bne_self_eq_false, Av]
 have hal := Pv (m := m) (by rw [hm.next]; omega)
 have := DP (FZ N p (Hw m, 0) fun _ => some (IM, XX, 15)) (Hw m) (some (IM, XX, 15)) (fun _ x => (Lc p x).map fun y => (y.1, y.2, 0))
  (fun n i x hx => by
   have hi := (lI.1 hx).1
   have hx2 := Zt hp hm (PE.1 (lM hx))
   rw [FZ, AM (by simp only; omega)]
   simp only [A1, hx, oS]
   rw [OE N p x hN (by omega) hp hx2, AI (by omega)]
   simp only [oS, Lc]
   cases FW p x with
   | nil => rfl
   | cons c cs => rw [AM (by simp only [List.length_cons]; omega)]; rfl)
  (fun n => by rw [FZ, AE (by simp)]) N 0 (Nat.zero_le _) (by omega)
 rw [List.drop_zero, NF] at this
 exact this.trans (by
  unfold UD Ou
  cases Ep (fun _ x => Lc p x) 0 (Hw m) <;> rfl)
theorem KL (N : Nat) (p : Ae) (m : Ag) (hN : N ≤ 1000000) (h20 : 100 ≤ N) (hw : Qv MV m.fe) (hv : He p m = 0) : Ho N p m = some (BJ p m, 0) := by
 unfold Ho
 rw [SR N p m hN h20 hw hv]
 unfold BJ UD
 cases Ou p m <;> rfl
theorem T1 {α R : Type} {f : Nat → α → Option R} {i : Nat} {xs : List α} : (Ep f i xs).isNone = true ↔ ∀ j x, xs[j]? = some x → f (i + j) x = none := by
 constructor
 ·intro h
  exact Ge (Option.isNone_iff_eq_none.1 h)
 ·intro h
  rw [Gw h]; rfl
theorem TE {p : Ae} {x : Ag} : Lc p x = none ↔ FW p x = [] := by
 unfold Lc
 cases FW p x <;> simp
theorem TK (N : Nat) (p : Ae) (m : Ag) (hN : N ≤ 1000000) (h20 : 100 ≤ N) (hp : Bj p) (hm : Co p m) : Fk N p m = some (FW p m).isEmpty := by
 unfold Fk
 rw [OG N p m hN (by omega) hp hm]
 simp only [oS]
 cases FW p m with
 | nil => rfl
 | cons c cs =>
  rw [beq_eq_false_iff_ne.2 (by simp only [List.length_cons]; omega)]; rfl
theorem MS (N : Nat) (p : Ae) (m : Ag) (hN : N ≤ 1000000) (h20 : 100 ≤ N) (hp : Bj p) (hm : Co p m) : D3 N p m = some (BJ p m) := by
 have hnv := hp.nv
 unfold D3
 rw [UH N p m hN h20 hp hm]
 simp only [oS]
 have hal := Pv (m := m) (by rw [hm.next]; omega)
 have := DP (CE N p (Hw m) fun _ => some true) (Hw m) (some true) (fun _ x => (Lc p x).map fun _ => false)
  (fun n i x hx => by
   have hi := (lI.1 hx).1
   have hx2 := Zt hp hm (PE.1 (lM hx))
   rw [CE, AM (by omega)]
   simp only [A1, hx, oS]
   rw [TK N p x hN h20 hp hx2, AI (by omega)]
   simp only [oS, Lc]
   cases FW p x with
   | nil => rfl
   | cons c cs => rfl)
  (fun n => by rw [CE, AE (by simp)]) N 0 (Nat.zero_le _) (by omega)
 rw [List.drop_zero, NF] at this
 refine Eq.trans this ?_
 unfold BJ Ou
 cases Ep (fun _ x => Lc p x) 0 (Hw m) <;> rfl
theorem Td {N : Nat} {a b : Ag} (hN : N ≤ 1000000) (h1 : a.fd.length < N) (h2 : a.fa.length < N) (h3 : a.fe.length < N) (h4 : b.fe.length < N) (wa : Qv MV a.fe) (wb : Qv MV b.fe) : E5 N a b = some (UE a b) := by
 unfold E5
 rw [P5 h1 hN, P5 h2 hN, ON h3 hN wa, ON h4 hN wb]
 simp only [oS]
 rw [P5 h3 hN]
 unfold UE al
 by_cases h1 : JJ a.fd b.fd = 0
 ·simp only [h1, al]
  by_cases h2 : JJ a.fa b.fa = 0
  ·simp only [h2]
   by_cases h3 : JJ a.fe b.fe = 0 <;> simp [h3]
  ·have : (JJ a.fa b.fa != 0) = true := by simpa using h2
   simp [h2, this]
 ·have : (JJ a.fd b.fd != 0) = true := by simpa using h1
  simp [h1, this]
theorem SD (N : Nat) (a b : List Int) (hN : N ≤ 1000000) (h : a.length < N) : EN N a b = some (a == b) := by
 unfold EN
 by_cases hl : a.length = b.length
 ·rw [hl, bne_self_eq_false, Av]
  have := DP (CH N a b fun _ => some true) a (some true) (fun i x => if x = b.getD i 0 then none else some false)
   (fun n i x hx => by
    have hi := (lI.1 hx).1
    rw [CH, AM (by omega), A1, hx, Eh (d := 0) (by omega)]
    simp only [oS]
    rw [AI (by omega)]
    by_cases h : x = b.getD i 0
    ·rw [if_pos h, h, bne_self_eq_false]; rfl
    ·rw [if_neg h, bne_iff_ne.2 h]; rfl)
   (fun n => by rw [CH, AE (by simp)]) N 0 (Nat.zero_le _) (by omega)
  refine this.trans ?_
  rw [List.drop_zero]
  cases hs : Ep (fun i x => if x = b.getD i 0 then none else some false) 0 a with
  | none =>
   have : a = b := Hn hl fun q hq => by
    have hx : a[q]? = some (a.getD q 0) := by rw [lD]; simp [hq]
    have := Ge hs q _ hx
    rw [Nat.zero_add] at this
    split at this
    ·assumption
    ·cases this
   rw [this, beq_self_eq_true]; rfl
  | some r =>
   obtain ⟨j, x, hx, hf⟩ := FV hs
   rw [Nat.zero_add] at hf
   split at hf
   ·cases hf
   ·rename_i hne
    cases hf
    have : (a == b) = false := beq_eq_false_iff_ne.2 fun e => hne (by rw [← e, lD, hx]; rfl)
    rw [this]; rfl
 ·have h1 : ((a.length : Int) != (b.length : Int)) = true := bne_iff_ne.2 (by omega)
  have h2 : (a == b) = false := beq_eq_false_iff_ne.2 fun e => hl (by rw [e])
  rw [h1, h2]; rfl
theorem So (N : Nat) (a : List Int) (f : Int → Option Bool) (g : Int → Bool) (hN : N ≤ 1000000) (h : a.length < N) (hf : ∀ x, x ∈ a → f x = some (g x)) : Dl N a f = some (a.any g) := by
 unfold Dl EX
 have := DP (BB N a f fun _ => some (-1)) a (some (-1)) (fun i x => if g x then some (i : Int) else none)
  (fun n i x hx => by
   have hi := (lI.1 hx).1
   rw [BB, AM (by omega), A1, hx]
   simp only [oS]
   rw [hf x (lM hx), AI (by omega)]
   simp only [oS]
   cases g x <;> rfl)
  (fun n => by rw [BB, AE (by simp)]) N 0 (Nat.zero_le _) (by omega)
 have e : BB N a f (fun _ => some (-1)) N 0 = _ := this
 rw [e, List.drop_zero]
 cases hs : Ep (fun i x => if g x then some (i : Int) else none) 0 a with
 | none =>
  have : a.any g = false := by
   rw [List.any_eq_false]
   intro x hx
   obtain ⟨j, hj⟩ := List.mem_iff_getElem?.1 hx
   have := Ge hs j x hj
   intro hg
   rw [hg] at this; cases this
  rw [this]; rfl
 | some r =>
  obtain ⟨j, x, hx, hf⟩ := FV hs
  split at hf
  ·rename_i hg
   cases hf
   have : a.any g = true := List.any_eq_true.2 ⟨x, lM hx, hg⟩
   rw [this]
   simp only [Ce, oS]
   rw [decide_eq_true (by omega)]
  ·cases hf
def Ko (p : Ae) (m : Ag) : Bool := He p m == 0 && (m.fd == p.fo && m.fa.all (fun n => decide (n < 0)))
theorem TH (N : Nat) (p : Ae) (m : Ag) (hN : N ≤ 1000000) (h20 : 100 ≤ N) (hw : Qv MV m.fe) : Jl N p m = some (Ko p m) := by
 unfold Jl Ko
 rw [JH N p m hN (by omega) hw]
 simp only [Br, oS]
 by_cases hv : He p m = 0
 ·obtain ⟨hp, hm⟩ := Me hw hv
  have := hp.nv
  rw [hv, SD N _ _ hN (by rw [hm.base]; omega), So N m.fa (fun x => H8 N x) (fun n => decide (0 ≤ n)) hN (by rw [hm.next]; omega) (fun x _ => rfl)]
  simp only [oS, beq_self_eq_true, AX, Bool.true_and]
  have : m.fa.all (fun n => decide (n < 0)) = !m.fa.any (fun n => decide (0 ≤ n)) := by
   rw [List.not_any_eq_all_not]
   congr 1; funext n
   by_cases h : 0 ≤ n
   ·rw [decide_eq_true h, decide_eq_false (by omega)]; rfl
   ·rw [decide_eq_false h, decide_eq_true (by omega)]; rfl
  rw [this]
  cases m.fd == p.fo <;> simp
 ·rw [beq_eq_false_iff_ne.2 hv]; rfl
open Go
def GB (p : Ae) (t : Ar) : Int := if Ct t = true then Dp .u8 1 (p.fh.getD t.fg.toNat 0) else 0
def FY (p : Ae) : Ag := ⟨p.fh, List.replicate p.fh.length (-1), p.fc.map (GB p)⟩
theorem Wu (N : Nat) (h : 100 ≤ N) (n : Nat) (hn : n ≤ 6) : Fy N [(-1)] (n : Int) = some (List.replicate n (-1)) := by
 obtain ⟨k, rfl⟩ : ∃ k, N = k + 100 := ⟨N - 100, by omega⟩
 have : n = 0 ∨ n = 1 ∨ n = 2 ∨ n = 3 ∨ n = 4 ∨ n = 5 ∨ n = 6 := by omega
 rcases this with rfl | rfl | rfl | rfl | rfl | rfl | rfl
 all_goals (show _ = _; kernel_rfl)
theorem TS (T : List Int) (i : Nat) (hi : i < T.length) : (T.take i ++ List.replicate (T.length - i) 0).set i (T.getD i 0) = T.take (i + 1) ++ List.replicate (T.length - (i + 1)) 0 := by
 have hl : (T.take i).length = i := by simp; omega
 rw [List.set_append_right _ _ (by omega), hl, Nat.sub_self, show T.length - i = (T.length - (i + 1)) + 1 from by omega, List.replicate_succ, List.set_cons_zero, List.take_add_one, List.append_assoc]
 have : T[i]? = some (T.getD i 0) := by rw [lD]; simp [hi]
 rw [this]; rfl
theorem Wd (T : List Int) (i : Nat) (hi : i < T.length) (h0 : T.getD i 0 = 0) : T.take i ++ List.replicate (T.length - i) 0 = T.take (i + 1) ++ List.replicate (T.length - (i + 1)) 0 := by
 rw [← TS T i hi, h0, List.set_append_right _ _ (by rw [List.length_take]; omega)]
 congr 1
 have hl : (T.take i).length = i := by simp; omega
 rw [hl, Nat.sub_self, show T.length - i = (T.length - (i + 1)) + 1 from by omega, List.replicate_succ, List.set_cons_zero]
theorem Vm {p : Ae} (hv : BZ p = 0) {t : Ar} (ht : t ∈ p.fc) : 0 ≤ t.fg ∧ t.fg.toNat < p.fh.length ∧ 0 ≤ p.fh.getD t.fg.toNat 0 ∧ p.fh.getD t.fg.toNat 0 < 6 ∧ p.fh.getD t.fg.toNat 0 < p.fb.getD t.fg.toNat 0 ∧ t.fg.toNat < p.fb.length := by
 obtain ⟨hp, hr⟩ := DR hv
 have h1 := JW (hp.tab t ht)
 have h2 := hr t.fg.toNat (by omega)
 have h3 := Jy hp (i := t.fg.toNat) (by omega)
 have := hp.now
 refine ⟨h1.1, by omega, h2.1, by omega, h2.2.1, by omega⟩
theorem KW {p : Ae} {i : Nat} {t : Ar} (ht : p.fc[i]? = some t) : (p.fc.map (GB p)).getD i 0 = GB p t := by
 rw [lD, List.getElem?_map, ht]; rfl
theorem RX (N : Nat) (p : Ae) (hN : N ≤ 1000000) (h20 : 100 ≤ N) : IL N p = some (if BZ p = 0 then FY p else ⟨[], [], []⟩, BZ p) := by
 unfold IL
 rw [IN N p hN (by omega)]
 simp only [oS]
 by_cases hv : BZ p = 0
 ·rw [if_pos hv, hv]
  obtain ⟨hp, _⟩ := DR hv
  have hnv := hp.nv
  have hnt := hp.nt
  have hnow := hp.now
  rw [bne_self_eq_false, Av, KV N _ (by simp only [DM]; omega)]
  simp only [oS]
  rw [Wu N h20 _ (by omega)]
  simp only [oS]
  rw [Au (by simp only [DM]; omega)]
  obtain ⟨a', e, ha⟩ := FU (Fc N p fun v7 => some (Ag.mk p.fh (List.replicate p.fh.length (-1)) v7, 0)) (fun a i => (a, i)) p.fc.length (fun v7 => some (Ag.mk p.fh (List.replicate p.fh.length (-1)) v7, 0))
   (fun i a => a = (p.fc.map (GB p)).take i ++ List.replicate ((p.fc.map (GB p)).length - i) 0)
   (fun n i a hi ha => by
    have hx : p.fc[i]? = some p.fc[i] := by simp [hi]
    have hm : p.fc[i] ∈ p.fc := List.getElem_mem hi
    obtain ⟨n1, n2, n3, n4, _⟩ := Vm hv hm
    rw [Fc, AM (by simp only; omega)]
    simp only [Br, A1, hx, oS, KG, AI (show i < 1000000 by omega)]
    have hal : i < (p.fc.map (GB p)).length := by simpa using hi
    cases hs : Ct p.fc[i]
    ·rw [Av]
     refine ⟨a, rfl, ?_⟩
     rw [ha]
     exact Wd _ _ hal (by rw [KW hx]; unfold GB; rw [hs]; rfl)
    ·rw [AX]
     have e1 : A8 p.fh p.fc[i].fg = some (p.fh.getD p.fc[i].fg.toNat 0) := by
      obtain ⟨q, hq⟩ := Int.eq_ofNat_of_zero_le n1
      rw [hq]; exact Eh (by rw [hq] at n2; simpa using n2)
     rw [e1]
     simp only [oS]
     rw [Au n3]
     have hl : i < a.length := by rw [ha]; simp; omega
     have e2 : a[i]? = some a[i] := by simp [hl]
     rw [e2]
     simp only [oS]
     refine ⟨_, rfl, ?_⟩
     rw [← TS _ _ hal, KW hx, ha]
     unfold GB; rw [hs]; rfl)
   (fun n a ha => by rw [Fc, AE (by simp)]) N 0 (List.replicate p.fc.length 0) (Nat.zero_le _) (by omega) (by simp)
  have e' : Fc N p (fun v7 => some (Ag.mk p.fh (List.replicate p.fh.length (-1)) v7, 0)) N (List.replicate ((p.fc.length : Int)).toNat (0 : Int), 0) = _ := e
  rw [e', ha]
  have e5 : (p.fc.map (GB p)).take p.fc.length = p.fc.map (GB p) := List.take_of_length_le (by simp)
  simp [FY, e5]
 ·rw [if_neg hv, bne_iff_ne.2 hv, AX]
theorem RQ (N : Nat) (p : Ae) (hN : N ≤ 1000000) (h20 : 100 ≤ N) : FF N p = some (if BZ p = 0 then FY p else ⟨[], [], []⟩, BZ p) := by
 unfold FF
 rw [Pt N p hN (by omega)]
 simp only [oS]
 by_cases hv : BZ p = 0
 ·rw [if_pos hv, hv]
  obtain ⟨hp, _⟩ := DR hv
  have hnv := hp.nv
  have hnt := hp.nt
  have hnow := hp.now
  rw [bne_self_eq_false, Av]
  obtain ⟨a', e, ha⟩ := FU (CL N p fun v4 => By N p (fun v10 => some (Ag.mk v4.1 v4.2 v10, 0)) N (([] : List Int), 0)) (fun a i => (a.1, a.2, i)) p.fb.length (fun v4 => By N p (fun v10 => some (Ag.mk v4.1 v4.2 v10, 0)) N (([] : List Int), 0))
   (fun i a => a = (p.fh.take i, List.replicate i (-1)))
   (fun n i a hi ha => by
    subst ha
    rw [CL, AM (by simp only; omega)]
    have hx : p.fh[i]? = some p.fh[i] := by simp [show i < p.fh.length from by omega]
    simp only [A1, hx, oS, AI (show i < 1000000 by omega)]
    rw [Au (by simp [DM]; omega), Au (by simp [DM]; omega)]
    refine ⟨(p.fh.take i ++ [p.fh[i]], List.replicate i (-1) ++ [-1]), rfl, ?_⟩
    rw [List.take_add_one, hx, List.replicate_succ']; rfl)
   (fun n a ha => by rw [CL, AE (by simp)]) N 0 ([], []) (Nat.zero_le _) (by omega) rfl
  have e' : CL N p (fun v4 => By N p (fun v10 => some (Ag.mk v4.1 v4.2 v10, 0)) N (([] : List Int), 0)) N (([] : List Int), ([] : List Int), 0) = _ := e
  rw [e', ha]
  simp only
  obtain ⟨b', e2, hb⟩ := FU (By N p fun v10 => some (Ag.mk (p.fh.take p.fb.length) (List.replicate p.fb.length (-1)) v10, 0)) (fun a i => (a, i)) p.fc.length (fun v10 => some (Ag.mk (p.fh.take p.fb.length) (List.replicate p.fb.length (-1)) v10, 0))
   (fun i a => a = (p.fc.map (GB p)).take i)
   (fun n i a hi ha => by
    subst ha
    have hx : p.fc[i]? = some p.fc[i] := by simp [hi]
    have hm : p.fc[i] ∈ p.fc := List.getElem_mem hi
    obtain ⟨n1, n2, n3, n4, _⟩ := Vm hv hm
    rw [By, AM (by simp only; omega)]
    simp only [Br, A1, hx, oS, H9, AI (show i < 1000000 by omega)]
    have hT : (p.fc.map (GB p))[i]? = some (GB p p.fc[i]) := by rw [List.getElem?_map, hx]; rfl
    have hlen : ((p.fc.map (GB p)).take i).length + 1 ≤ DM := by simp [DM]; omega
    cases hs : Ct p.fc[i]
    ·rw [Av, Au (by simpa using hlen)]
     refine ⟨_, rfl, ?_⟩
     rw [List.take_add_one, hT]
     unfold GB; rw [hs]; rfl
    ·rw [AX]
     have e1 : A8 p.fh p.fc[i].fg = some (p.fh.getD p.fc[i].fg.toNat 0) := by
      obtain ⟨q, hq⟩ := Int.eq_ofNat_of_zero_le n1
      rw [hq]; exact Eh (by rw [hq] at n2; simpa using n2)
     rw [e1]
     simp only [oS]
     rw [Au n3, Au (by simpa using hlen)]
     refine ⟨_, rfl, ?_⟩
     rw [List.take_add_one, hT]
     unfold GB; rw [hs]; rfl)
   (fun n a ha => by rw [By, AE (by simp)]) N 0 [] (Nat.zero_le _) (by omega) rfl
  have e3 : By N p (fun v10 => some (Ag.mk (p.fh.take p.fb.length) (List.replicate p.fb.length (-1)) v10, 0)) N (([] : List Int), 0) = _ := e2
  rw [e3, hb]
  simp only [FY, ← hnow, List.take_length]
  rw [show p.fc.length = (p.fc.map (GB p)).length from by simp, List.take_length]
 ·rw [if_neg hv, bne_iff_ne.2 hv, AX]
theorem Qt {p : Ae} (hv : BZ p = 0) : Co p (FY p) := by
 obtain ⟨hp, hr⟩ := DR hv
 have hnow := hp.now
 have hnx : ∀ i, i < p.fb.length → (List.replicate p.fh.length (-1 : Int)).getD i 0 = -1 := fun i hi => by
  rw [lD, List.getElem?_replicate, if_pos (by omega)]; rfl
 have hone : ∀ (i : Nat) (t : Ar), p.fc[i]? = some t → ∃ b : Nat, b < 6 ∧ p.fh.getD t.fg.toNat 0 = (b : Int) ∧ (b : Int) < p.fb.getD t.fg.toNat 0 ∧ t.fg.toNat < p.fb.length := fun i t ht => by
  obtain ⟨n1, n2, n3, n4, n5, n6⟩ := Vm hv (lM ht)
  obtain ⟨b, hb⟩ := Int.eq_ofNat_of_zero_le n3
  exact ⟨b, by omega, hb, by omega, n6⟩
 have hbit : ∀ b : Nat, b < 8 → ∀ v, ET (Dp .u8 1 (b : Int)) v = decide (b = v) := fun b hb v => by
  by_cases h : v < 8
  ·exact (Ln ⟨b, hb⟩ ⟨v, h⟩).1
  ·rw [Ll (Ln ⟨b, hb⟩ ⟨0, by omega⟩).2.2 (by omega)]
   symm; apply decide_eq_false; omega
 refine { base := hnow, next := by simp [FY, hnow], held := by simp [FY], b0 := fun i hi => ⟨(hr i hi).1, (hr i hi).2.1⟩, n0 := fun i hi => ?_, ne := fun i hi => ?_, range := fun i hi => ?_, low := fun i t ht hs v hv' => ?_, high := fun i t ht hs v hb => ?_, none := fun i t ht hs => ?_ }
 ·show -1 ≤ (List.replicate p.fh.length (-1 : Int)).getD i 0 ∧ (List.replicate p.fh.length (-1 : Int)).getD i 0 < _
  rw [hnx i hi]
  have := Jy hp hi
  omega
 ·show p.fh.getD i 0 ≠ (List.replicate p.fh.length (-1 : Int)).getD i 0
  rw [hnx i hi]
  have := hr i hi
  omega
 ·have hx : p.fc[i]? = some p.fc[i] := by simp [hi]
  show 0 ≤ (p.fc.map (GB p)).getD i 0 ∧ (p.fc.map (GB p)).getD i 0 ≤ 255
  rw [KW hx]
  unfold GB
  split
  ·obtain ⟨b, h1, h2, _⟩ := hone i _ hx
   rw [h2]
   exact (Ln ⟨b, by omega⟩ ⟨0, by omega⟩).2
  ·omega
 ·show ET ((p.fc.map (GB p)).getD i 0) v = true
  obtain ⟨b, h1, h2, h3, h4⟩ := hone i t ht
  rw [KW ht]
  unfold GB
  rw [if_pos hs, h2, hbit b (by omega)]
  unfold JM at hv'
  have h5 : (FY p).fd.getD t.fg.toNat 0 = (b : Int) := h2
  have h6 : (FY p).fa.getD t.fg.toNat 0 = -1 := hnx _ h4
  rw [h5, h6, Bool.or_eq_true, decide_eq_true_iff, decide_eq_true_iff] at hv'
  apply decide_eq_true; omega
 ·have hb : ET ((p.fc.map (GB p)).getD i 0) v = true := hb
  obtain ⟨b, h1, h2, h3, h4⟩ := hone i t ht
  rw [KW ht] at hb
  unfold GB at hb
  rw [if_pos hs, h2, hbit b (by omega), decide_eq_true_iff] at hb
  omega
 ·show (p.fc.map (GB p)).getD i 0 = 0
  rw [KW ht]; unfold GB; rw [hs]; rfl
theorem O0 (x : BitVec 8) : wI .u8 (x.toNat : Int) = (x.toNat : Int) := by
 have := x.isLt
 simp [wI, IntKind.signed, IntKind.bits]
 omega
theorem Ti (x : BitVec 8) : 0 ≤ (x.toNat : Int) ∧ (x.toNat : Int) ≤ 255 := by
 have := x.isLt
 omega
theorem Xt (x : BitVec 8) (v : Nat) : ET (x.toNat : Int) v = x.getLsbD v := by
 unfold ET; rw [Int.toNat_natCast]; rfl
theorem Sa {a : Int} (ha : 0 ≤ a ∧ a ≤ 255) (v : Nat) : (BitVec.ofInt 8 a).getLsbD v = ET a v := by
 obtain ⟨a, rfl⟩ := Int.eq_ofNat_of_zero_le ha.1
 unfold BitVec.getLsbD ET
 rw [X6 (by omega), Int.toNat_natCast]
theorem Ux {a b : Int} (ha : 0 ≤ a ∧ a ≤ 255) (hb : 0 ≤ b ∧ b ≤ 255) : (∀ v, ET (Ei .u8 a b) v = (ET a v && !ET b v)) ∧ 0 ≤ Ei .u8 a b ∧ Ei .u8 a b ≤ 255 := by
 have e : Ei .u8 a b = ((BitVec.ofInt 8 a &&& ~~~BitVec.ofInt 8 b).toNat : Int) := O0 (BitVec.ofInt 8 a &&& ~~~BitVec.ofInt 8 b)
 rw [e]
 refine ⟨fun v => ?_, Ti _⟩
 rw [Xt, BitVec.getLsbD_and, BitVec.getLsbD_not, Sa ha, Sa hb]
 by_cases h : v < 8
 ·simp [h]
 ·rw [Ll ha.2 (by omega)]; simp
theorem UV {a b : Int} (ha : 0 ≤ a ∧ a ≤ 255) (hb : 0 ≤ b ∧ b ≤ 255) : (∀ v, ET (QF .u8 a b) v = (ET a v || ET b v)) ∧ 0 ≤ QF .u8 a b ∧ QF .u8 a b ≤ 255 := by
 have e : QF .u8 a b = ((BitVec.ofInt 8 a ||| BitVec.ofInt 8 b).toNat : Int) := O0 (BitVec.ofInt 8 a ||| BitVec.ofInt 8 b)
 rw [e]
 refine ⟨fun v => ?_, Ti _⟩
 rw [Xt, BitVec.getLsbD_or, Sa ha, Sa hb]
theorem Ym {b : Nat} (hb : b < 8) : (∀ v, ET (Dp .u8 1 (b : Int)) v = decide (b = v)) ∧ 0 ≤ Dp .u8 1 (b : Int) ∧ Dp .u8 1 (b : Int) ≤ 255 := by
 refine ⟨fun v => ?_, (Ln ⟨b, hb⟩ ⟨0, by omega⟩).2⟩
 by_cases h : v < 8
 ·exact (Ln ⟨b, hb⟩ ⟨v, h⟩).1
 ·rw [Ll (Ln ⟨b, hb⟩ ⟨0, by omega⟩).2.2 (by omega)]
  symm; apply decide_eq_false; omega
theorem XB (N : Nat) {s : Int} {v : Nat} (hs : 0 ≤ s ∧ s ≤ 255) (hv : v < 8) : C9 N s (v : Int) = some (ET s v) := by
 unfold C9
 rw [Au (by omega), SV hs.1 hs.2 hv]
 cases ET s v <;> rfl
def ZC (v : Nat) : Nat := ((List.range 8).find? fun u => v.testBit u).getD 8
def cV (v : Nat) : Nat := ((List.range 8).filter fun u => v.testBit u).length
theorem af : ∀ v : Fin 256, DW 0 (v.val : Int) = some (ZC v.val : Int) := by decide +kernel
theorem cb (N : Nat) {v : Nat} (h : v < 256) : DW N (v : Int) = some (ZC v : Int) := af ⟨v, h⟩
theorem YF : ∀ v : Fin 256, v.val ≠ 0 → ZC v.val < 8 ∧ ET (v.val : Int) (ZC v.val) = true ∧ 0 ≤ Hr .u8 (v.val : Int) (wI .u8 ((v.val : Int) - 1)) ∧ Hr .u8 (v.val : Int) (wI .u8 ((v.val : Int) - 1)) ≤ 255 ∧
  cV (Hr .u8 (v.val : Int) (wI .u8 ((v.val : Int) - 1))).toNat + 1 = cV v.val ∧
  ∀ u : Fin 8, ET (Hr .u8 (v.val : Int) (wI .u8 ((v.val : Int) - 1))) u.val = (ET (v.val : Int) u.val && decide (u.val ≠ ZC v.val)) := by decide +kernel
theorem cc (v : Nat) : cV v ≤ 8 := by
 have := List.length_filter_le (fun u => v.testBit u) (List.range 8)
 simpa [cV] using this
theorem Ut (N : Nat) (t : Ar) (b : Int) (rw_ : Nat → Bool) : ∀ (k n v : Nat), cV v ≤ k → k < n → v < 256 →
  (∀ u, u < 8 → ET (v : Int) u = true → ∃ row, A8 t.fm (u : Int) = some row ∧ A8 row b = some (rw_ u)) →
  EB N t b (fun _ => some true) n (v : Int) = some ((List.range 8).all fun u => !ET (v : Int) u || rw_ u)
 | k, 0, v, _, h, _, _ => by omega
 | k, n + 1, v, hk, hn, hv, hr => by
  rw [EB]
  by_cases h0 : v = 0
  ·subst h0
   have : (((0 : Nat) : Int) != 0) = false := rfl
   rw [this, Av]
   congr 1
  ·have h1 : ((v : Int) != 0) = true := bne_iff_ne.2 (by omega)
   obtain ⟨l1, l2, l3, l4, l5, l6⟩ := YF ⟨v, hv⟩ h0
   simp only at l1 l2 l3 l4 l5 l6
   obtain ⟨row, e1, e2⟩ := hr _ l1 l2
   rw [h1, AX, cb N hv]
   simp only [oS, e1, e2]
   obtain ⟨w, hw⟩ := Int.eq_ofNat_of_zero_le l3
   rw [hw] at l4 l5 l6 ⊢
   rw [Int.toNat_natCast] at l5
   cases hq : rw_ (ZC v)
   ·rw [Bool.not_false, AX]
    congr 1
    symm
    rw [List.all_eq_false]
    exact ⟨ZC v, by simpa using l1, by rw [l2, hq]; simp⟩
   ·rw [Bool.not_true, Av]
    match k, hk with
    | 0, hk => exfalso; omega
    | k + 1, hk =>
    rw [Ut N t b rw_ k n w (by omega) (by omega) (by omega) (fun u hu hb => hr u hu (by have := l6 ⟨u, hu⟩; simp only at this; rw [hb] at this; simpa using (Bool.and_eq_true_iff.1 this.symm).1))]
    congr 1
    rw [Bool.eq_iff_iff, List.all_eq_true, List.all_eq_true]
    refine ⟨fun h u hu => ?_, fun h u hu => ?_⟩
    ·have hu8 : u < 8 := by simpa using hu
     have h3 := h u hu
     have h4 := l6 ⟨u, hu8⟩
     simp only at h4
     rw [h4] at h3
     by_cases e : u = ZC v
     ·rw [e, hq]; simp
     ·simpa [e] using h3
    ·have hu8 : u < 8 := by simpa using hu
     have h3 := h u hu
     have h4 := l6 ⟨u, hu8⟩
     simp only at h4
     rw [h4]
     cases hb : ET (v : Int) u
     ·simp
     ·rw [hb] at h3; simp at h3; simp [h3]
theorem Tc (N : Nat) (m : Ag) (s : Int) (h0 : 0 ≤ s) (h1 : s < (m.fd.length : Int)) (h2 : s < (m.fa.length : Int)) (hb : 0 ≤ m.fd.getD s.toNat 0) : Hj N m s = some (Ie m s.toNat) := by
 unfold Hj Ie
 rw [F4 (d := 0) h0 h1, F4 (d := 0) h0 h2]
 simp only [oS, Be]
 rw [show Ef (0 ≤ m.fd.getD s.toNat 0) = some () from by unfold Ef; rw [if_pos hb]]
 simp only [oS]
 by_cases h : 0 ≤ m.fa.getD s.toNat 0
 ·rw [AM h, if_pos h, show Ef (0 ≤ m.fa.getD s.toNat 0) = some () from by unfold Ef; rw [if_pos h]]; rfl
 ·rw [AE h, if_neg h]
theorem Ml (N : Nat) (t : Ar) : GX N t = some (Ct t) := by
 unfold GX Ct
 simp only [Be]
 cases h : t.ff == 3 <;> simp
def HO (s : Ai) : Bool := decide (1 ≤ s.ff ∧ s.ff ≤ 4 ∧ 0 ≤ s.fi ∧ 0 ≤ s.fr) && (s.ff == 1 || s.fr == 0)
def GS (p : Ae) (s : Ai) : Bool :=
 if s.ff = 3 then decide (s.fi < (p.fc.length : Int)) else decide (s.fi < (p.fb.length : Int)) && (s.ff != 1 || decide (s.fr < p.fb.getD s.fi.toNat 0))
theorem QZ (N : Nat) (s : Ai) : Ih N s = some (HO s) := by
 unfold Ih HO W0
 simp only [Be]
 by_cases h1 : (if s.fr < s.fi then s.fr else s.fi) < 0
 ·rw [AM h1, AX, decide_eq_false (by split at h1 <;> omega)]; rfl
 ·rw [AE h1]
  by_cases h2 : s.ff < 1
  ·rw [AM h2, AX, decide_eq_false (by omega)]; rfl
  ·rw [AE h2]
   by_cases h3 : 4 < s.ff
   ·rw [decide_eq_true h3, AX, decide_eq_false (by omega)]; rfl
   ·rw [decide_eq_false h3, Av, decide_eq_true (by split at h1 <;> omega), Bool.true_and]
    cases h4 : s.ff == 1 <;> simp
theorem Sc (N : Nat) (s : Ai) : FB N s = some (HO s) := by
 unfold FB HO
 simp only [Be]
 by_cases h1 : 1 ≤ s.ff
 ·rw [AM h1]
  by_cases h2 : s.ff ≤ 4
  ·rw [AM h2]
   by_cases h3 : 0 ≤ s.fi
   ·rw [AM h3]
    by_cases h4 : 0 ≤ s.fr
    ·rw [AM h4, decide_eq_true (by omega), Bool.true_and]
     cases h5 : s.ff == 1 <;> simp
    ·rw [AE h4, decide_eq_false (by omega)]; rfl
   ·rw [AE h3, decide_eq_false (by omega)]; rfl
  ·rw [AE h2, decide_eq_false (by omega)]; rfl
 ·rw [AE h1, decide_eq_false (by omega)]; rfl
theorem PO (N : Nat) (p : Ae) (s : Ai) (hv : HO s = true) : HJ N p s = some (GS p s) := by
 have h0 : 0 ≤ s.fi := by
  unfold HO at hv
  rw [Bool.and_eq_true, decide_eq_true_iff] at hv
  exact hv.1.2.2.1
 unfold HJ GS
 simp only [Be]
 by_cases h1 : s.ff = 3
 ·rw [if_pos h1, beq_iff_eq.2 h1, AX]
 ·rw [if_neg h1, beq_eq_false_iff_ne.2 h1, Av]
  by_cases h2 : s.fi < (p.fb.length : Int)
  ·rw [AM h2, decide_eq_true h2, Bool.true_and]
   cases h3 : s.ff != 1
   ·rw [Av, F4 (d := 0) h0 h2, Bool.false_or]; rfl
   ·rw [AX]; rfl
  ·rw [AE h2, decide_eq_false h2]; rfl
def U4 (s : Ai) (t : Ar) : Bool := t.fg == s.fi && Ct t
def T7 (s : Ai) (i : Nat) (t : Ar) (a : List Int) : List Int := if U4 s t = true then a.set i (QF .u8 (a.getD i 0) (Dp .u8 1 s.fr)) else a
def IQ (p : Ae) (s : Ai) (held : List Int) : List Int := Iz (T7 s) 0 p.fc held
theorem Pb {_R : Type} (N : Nat) (p : Ae) (s : Ai) (held : List Int) (hv : 0 ≤ s.fr) (hl : held.length = p.fc.length) (h12 : p.fc.length < N) (hN : N ≤ 1000000) (j : List Int → Option (Bool × List Int × List Int)) :
  EW N p s j N (held, 0) = j (IQ p s held) ∧ (IQ p s held).length = p.fc.length := by
 have := IF (EW N p s j) (fun a i => (a, i)) p.fc j (T7 s) (fun i a => a.length = p.fc.length)
  (fun n i x a hx ha => by
   have hi := (lI.1 hx).1
   rw [EW, AM (by simp only; omega)]
   simp only [Br, A1, hx, oS, Ml, AI (show i < 1000000 by omega)]
   have e2 : a[i]? = some (a.getD i 0) := by rw [lD]; simp [show i < a.length from by omega]
   unfold T7 U4
   cases h1 : x.fg == s.fi
   ·rw [Av, Av, Bool.false_and, if_neg (by simp)]; exact ⟨rfl, ha⟩
   ·rw [AX, Bool.true_and]
    cases h2 : Ct x
    ·rw [Av, if_neg (by simp)]; exact ⟨rfl, ha⟩
    ·rw [AX, e2, if_pos rfl]
     simp only [oS]
     rw [Au hv]
     exact ⟨rfl, by simpa using ha⟩)
  (fun n a ha => by rw [EW, AE (by simp)]) N 0 held (Nat.zero_le _) (by omega) hl
 rw [List.drop_zero] at this
 exact this
theorem Qc (N : Nat) (p : Ae) (s : Ai) (held : List Int) (hv : 0 ≤ s.fr) (hl : held.length = p.fc.length) (h12 : p.fc.length < N) (hN : N ≤ 1000000) (j : List Int → Option (Ag × Bool)) :
  Cu N p s j N (held, 0) = j (IQ p s held) := by
 have := IF (Cu N p s j) (fun a i => (a, i)) p.fc j (T7 s) (fun i a => a.length = p.fc.length)
  (fun n i x a hx ha => by
   have hi := (lI.1 hx).1
   rw [Cu, AM (by simp only; omega)]
   simp only [Br, A1, hx, oS, H9, AI (show i < 1000000 by omega)]
   have e2 : a[i]? = some (a.getD i 0) := by rw [lD]; simp [show i < a.length from by omega]
   unfold T7 U4
   cases h1 : x.fg == s.fi
   ·rw [Av, Av, Bool.false_and, if_neg (by simp)]; exact ⟨rfl, ha⟩
   ·rw [AX, Bool.true_and]
    cases h2 : Ct x
    ·rw [Av, if_neg (by simp)]; exact ⟨rfl, ha⟩
    ·rw [AX, e2, if_pos rfl]
     simp only [oS]
     rw [Au hv]
     exact ⟨rfl, by simpa using ha⟩)
  (fun n a ha => by rw [Cu, AE (by simp)]) N 0 held (Nat.zero_le _) (by omega) hl
 rw [List.drop_zero] at this
 exact this.1
def L6 (m : Ag) (t : Ar) (u : Nat) : Bool := (t.fm.getD u []).getD (m.fd.getD t.fg.toNat 0).toNat false
def O8 (m : Ag) (i : Nat) (t : Ar) (u : Nat) : Bool := ET (m.fe.getD i 0) u && !JM m t.fg.toNat u
def Ix (_p : Ae) (m : Ag) (i : Nat) (t : Ar) : Bool := t.ff == 4 && (List.range 8).any fun u => O8 m i t u && !L6 m t u
def Gm (p : Ae) (m : Ag) (s : Ai) : Option Ag :=
 let i := s.fi.toNat
 if s.ff = 1 then (if 0 ≤ m.fa.getD i 0 ∨ m.fd.getD i 0 = s.fr then none else some ⟨m.fd, m.fa.set i s.fr, IQ p s m.fe⟩)
 else if s.ff = 3 then match p.fc[i]? with
  | none => none
  | some t => if Ct t = false ∨ m.fe.getD i 0 = Ie m t.fg.toNat ∨ Ix p m i t = true then none else some ⟨m.fd, m.fa, m.fe.set i (Ie m t.fg.toNat)⟩
 else if m.fa.getD i 0 < 0 then none
 else some ⟨if s.ff = 2 then m.fd.set i (m.fa.getD i 0) else m.fd, m.fa.set i (-1), m.fe⟩
def Ba (p : Ae) (m : Ag) (s : Ai) : Ag × Int :=
 if HO s = false then (IM, 1) else if GS p s = false then (IM, 4) else match Gm p m s with
  | none => (IM, 11)
  | some x => (x, 0)
end Go.Lift
namespace Go.Lift
open Option renaming bind_some → oS
open List renaming mem_of_getElem? → lM
open List renaming getElem?_eq_some_iff → lI
open List renaming getD_eq_getElem?_getD → lD
open Go
section clear
variable {p : Ae} {m : Ag} {i : Nat} {t : Ar}
theorem WZ (hp : Bj p) (hm : Co p m) (ht : p.fc[i]? = some t) (hs : Ct t = true) {u : Nat} (h : ET (m.fe.getD i 0) u = true) : (u : Int) < p.fb.getD t.fg.toNat 0 ∧ u < 6 ∧ t.fg.toNat < p.fb.length := by
 have h1 := hm.high i t ht hs u h
 have hin := JW (hp.tab t (lM ht))
 have h2 := Jy hp (i := t.fg.toNat) (by omega)
 exact ⟨h1, by omega, by omega⟩
theorem XD (hp : Bj p) (hm : Co p m) (ht : p.fc[i]? = some t) (hs : Ct t = true) (h4 : t.ff = 4) {u : Nat} (h : ET (m.fe.getD i 0) u = true) :
  A8 t.fm (u : Int) = some (t.fm.getD u []) ∧ A8 (t.fm.getD u []) (m.fd.getD t.fg.toNat 0) = some (L6 m t u) := by
 have hT := Jd (hp.tab t (lM ht))
 obtain ⟨h1, h2, h3⟩ := WZ hp hm ht hs h
 have hl := hT.reL h4
 have e : t.fm[u]? = some (t.fm.getD u []) := by rw [lD]; simp [show u < t.fm.length from by omega]
 have hr := hT.reR _ (lM e)
 have hb := hm.b0 t.fg.toNat h3
 refine ⟨by rw [A1, e], ?_⟩
 unfold L6
 obtain ⟨b, hb'⟩ := Int.eq_ofNat_of_zero_le hb.1
 rw [hb'] at hb ⊢
 rw [Int.toNat_natCast]
 exact Eh (by omega)
theorem QS (N : Nat) (hN : N ≤ 1000000) (h20 : 100 ≤ N) (hp : Bj p) (hm : Co p m) (ht : p.fc[i]? = some t) :
  Ia N p m (i : Int) = some (if Ct t = false ∨ m.fe.getD i 0 = Ie m t.fg.toNat ∨ Ix p m i t = true then (false, m.fe) else (true, m.fe.set i (Ie m t.fg.toNat))) := by
 have hi := (lI.1 ht).1
 have hin := JW (hp.tab t (lM ht))
 have hb := hm.base
 have hnx := hm.next
 have hh := hm.held
 have hr := Jt hp hm.toMixServ (s := t.fg.toNat) (by omega)
 have hrg := hm.range i hi
 have eh : A8 m.fe (i : Int) = some (m.fe.getD i 0) := Eh (by omega)
 unfold Ia
 simp only [Br, A1, ht, oS, Ml]
 have eh' : m.fe[i]? = some (m.fe.getD i 0) := by rw [← A1, eh]
 cases hs : Ct t
 ·rw [Bool.not_false, AX, if_pos (.inl rfl)]
 ·rw [Bool.not_true, Av, Tc N m _ hin.1 (by omega) (by omega) (hm.b0 _ (by omega)).1]
  simp only [oS, eh']
  by_cases h1 : m.fe.getD i 0 = Ie m t.fg.toNat
  ·rw [beq_iff_eq.2 h1, AX, AX, if_pos (.inr (.inl h1))]
  ·rw [beq_eq_false_iff_ne.2 h1, Av]
   by_cases h4 : t.ff = 4
   ·rw [beq_iff_eq.2 h4, AX, F4 (d := 0) hin.1 (by omega)]
    simp only [oS]
    obtain ⟨a1, a2, a3⟩ := Ux hrg hr.2
    obtain ⟨w, hw⟩ := Int.eq_ofNat_of_zero_le a2
    unfold Hf
    rw [hw] at a1 a3 ⊢
    rw [Ut N t _ (L6 m t) 8 N w (cc _) (by omega) (by omega) (fun u hu hbu => by
     have := a1 u; rw [hbu] at this
     exact ⟨_, XD hp hm ht hs h4 (Bool.and_eq_true_iff.1 this.symm).1⟩)]
    simp only [oS]
    have e : (!(List.range 8).all fun u => !ET (w : Int) u || L6 m t u) = Ix p m i t := by
     unfold Ix
     rw [beq_iff_eq.2 h4, Bool.true_and, List.not_all_eq_any_not]
     congr 1
     funext u
     rw [a1 u, hr.1 u]
     unfold O8
     cases ET (m.fe.getD i 0) u <;> cases JM m t.fg.toNat u <;> cases L6 m t u <;> rfl
    rw [e]
    cases hst : Ix p m i t
    ·rw [Av, if_neg (by rintro (h | h | h); cases h; exact h1 h; cases h)]; rfl
    ·rw [AX, if_pos (.inr (.inr rfl))]
   ·have e : Ix p m i t = false := by unfold Ix; rw [beq_eq_false_iff_ne.2 h4]; rfl
    rw [beq_eq_false_iff_ne.2 h4, Av, Av, e, if_neg (by rintro (h | h | h); cases h; exact h1 h; cases h)]; rfl
theorem Px (N : Nat) (hN : N ≤ 1000000) (h20 : 100 ≤ N) (hp : Bj p) (hm : Co p m) (ht : p.fc[i]? = some t) (hs : Ct t = true) (s : Ai) (hsi : s.fi = (i : Int)) (j : Option (Ag × Bool)) :
  B1 N p m s t (Ie m t.fg.toNat) (fun _ => j) N 0 = if Ix p m i t = true then some (IM, false) else j := by
 have hi := (lI.1 ht).1
 have hin := JW (hp.tab t (lM ht))
 have hb := hm.base
 have hh := hm.held
 have hr := Jt hp hm.toMixServ (s := t.fg.toNat) (by omega)
 have hrg := hm.range i hi
 have hver := Jy hp (i := t.fg.toNat) (by omega)
 obtain ⟨nv, hnv⟩ := Int.eq_ofNat_of_zero_le (show 0 ≤ p.fb.getD t.fg.toNat 0 by omega)
 have eh' : m.fe[i]? = some (m.fe.getD i 0) := by rw [lD]; simp [show i < m.fe.length from by omega]
 have := DP (B1 N p m s t (Ie m t.fg.toNat) fun _ => j) (List.range nv) j (fun u _ => if (O8 m i t u && (t.ff == 4 && !L6 m t u)) = true then some (IM, false) else none)
  (fun n u x hx => by
   have hu : u < nv := by
    have := (lI.1 hx).1
    simpa using this
   rw [B1, F4 (d := 0) hin.1 (by omega), hnv]
   simp only [oS]
   rw [AM (by omega)]
   simp only [Br, hsi, A1, eh', oS]
   rw [XB N hrg (by omega), AI (by omega)]
   simp only [oS]
   cases h1 : ET (m.fe.getD i 0) u
   ·have e : O8 m i t u = false := by unfold O8; rw [h1]; rfl
    rw [Av, Av, Av, e]; rfl
   ·rw [AX, XB N hr.2 (by omega), hr.1 u]
    simp only [oS]
    have e : O8 m i t u = !JM m t.fg.toNat u := by unfold O8; rw [h1]; rfl
    rw [← e]
    cases h2 : O8 m i t u
    ·rw [Av, Av]; rfl
    ·rw [AX]
     by_cases h4 : t.ff = 4
     ·obtain ⟨e1, e2⟩ := XD hp hm ht hs h4 h1
      rw [A1] at e1
      rw [beq_iff_eq.2 h4, AX, e1, F4 (d := 0) hin.1 (by omega)]
      simp only [oS]
      rw [e2]
      simp only [oS]
      cases L6 m t u <;> rfl
     ·rw [beq_eq_false_iff_ne.2 h4, Av, Av]; rfl)
  (fun n => by
   rw [B1, F4 (d := 0) hin.1 (by omega), hnv]
   simp only [oS, List.length_range]
   rw [AE (by omega)]) N 0 (Nat.zero_le _) (by simp; omega)
 have e0 : B1 N p m s t (Ie m t.fg.toNat) (fun _ => j) N 0 = _ := this
 rw [e0, List.drop_zero]
 by_cases hst : Ix p m i t = true
 ·rw [if_pos hst]
  unfold Ix at hst
  rw [Bool.and_eq_true, List.any_eq_true] at hst
  obtain ⟨h4, u, hu, h5⟩ := hst
  rw [Bool.and_eq_true] at h5
  have h6 : ET (m.fe.getD i 0) u = true := by have := h5.1; unfold O8 at this; exact (Bool.and_eq_true_iff.1 this).1
  have h7 := WZ hp hm ht hs h6
  cases hsc : Ep (fun u (_ : Nat) => if (O8 m i t u && (t.ff == 4 && !L6 m t u)) = true then some (IM, false) else none) 0 (List.range nv) with
  | some r =>
   obtain ⟨q, x, hx, hf⟩ := FV hsc
   split at hf
   ·cases hf; rfl
   ·cases hf
  | none =>
   exfalso
   have hx : (List.range nv)[u]? = some u := List.getElem?_range (by omega)
   have := Ge hsc u u hx
   rw [Nat.zero_add, h5.1, h4, h5.2] at this
   cases this
 ·rw [if_neg hst]
  have : Ep (fun u (_ : Nat) => if (O8 m i t u && (t.ff == 4 && !L6 m t u)) = true then some (IM, false) else none) 0 (List.range nv) = none := Gw fun q x hx => by
   rw [Nat.zero_add]
   split
   ·rename_i h5
    exfalso; apply hst
    rw [Bool.and_eq_true, Bool.and_eq_true] at h5
    unfold Ix
    rw [h5.2.1, Bool.true_and, List.any_eq_true]
    have hq : q < nv := by
     have := (lI.1 hx).1
     simpa using this
    exact ⟨q, List.mem_range.2 (by omega), by rw [h5.1, h5.2.2]; rfl⟩
   ·rfl
  rw [this]; rfl
end clear
end Go.Lift
namespace Go.Lift
open Option renaming bind_some → oS
open List renaming mem_of_getElem? → lM
open Go
theorem I9 {s : Ai} (h : HO s = true) : 1 ≤ s.ff ∧ s.ff ≤ 4 ∧ 0 ≤ s.fi ∧ 0 ≤ s.fr ∧ (s.ff ≠ 1 → s.fr = 0) := by
 unfold HO at h
 rw [Bool.and_eq_true, decide_eq_true_iff, Bool.or_eq_true, beq_iff_eq, beq_iff_eq] at h
 exact ⟨h.1.1, h.1.2.1, h.1.2.2.1, h.1.2.2.2, fun hk => h.2.elim (fun e => (hk e).elim) id⟩
theorem JQ {p : Ae} {s : Ai} (h : GS p s = true) : (s.ff = 3 → s.fi < (p.fc.length : Int)) ∧ (s.ff ≠ 3 → s.fi < (p.fb.length : Int)) ∧ (s.ff = 1 → s.fr < p.fb.getD s.fi.toNat 0) := by
 unfold GS at h
 split at h
 ·rename_i hk
  rw [decide_eq_true_iff] at h
  exact ⟨fun _ => h, fun hn => (hn hk).elim, fun h1 => by omega⟩
 ·rename_i hk
  rw [Bool.and_eq_true, decide_eq_true_iff, Bool.or_eq_true, decide_eq_true_iff, bne_iff_ne] at h
  exact ⟨fun h3 => (hk h3).elim, fun _ => h.1, fun h1 => h.2.elim (fun hn => (hn h1).elim) id⟩
theorem Wh (N : Nat) {p : Ae} {m : Ag} (hp : Bj p) (hm : Co p m) : HI N m = some m := by
 have hnv := hp.nv
 have hnt := hp.nt
 have h1 := hm.base
 have h2 := hm.next
 have h3 := hm.held
 unfold HI
 rw [KV N _ (by simp only [DM]; omega), KV N _ (by simp only [DM]; omega), Rc N _ (by simp only [DM]; omega)]
 rfl
theorem MP (N : Nat) (hN : N ≤ 1000000) (h20 : 100 ≤ N) {p : Ae} {m : Ag} (hp : Bj p) (hm : Co p m) {s : Ai} (hv : HO s = true) (hx : GS p s = true) :
  ∃ o, GK N p m s = some (o, (Gm p m s).isSome) ∧ ∀ x, Gm p m s = some x → o = x := by
 obtain ⟨k1, k4, i0, v0, vk⟩ := I9 hv
 obtain ⟨x3, xn, x1⟩ := JQ hx
 have hnv := hp.nv
 have hnt := hp.nt
 have hb := hm.base
 have hn := hm.next
 have hh := hm.held
 obtain ⟨i, hi⟩ := Int.eq_ofNat_of_zero_le i0
 unfold GK Gm
 rw [Wh N hp hm]
 simp only [oS, Br]
 by_cases hk1 : s.ff = 1
 ·have hi1 : (i : Int) < p.fb.length := by have := xn (by omega); omega
  rw [beq_iff_eq.2 hk1, AX, if_pos hk1]
  unfold Jg
  simp only [Br, hi, Int.toNat_natCast]
  rw [Eh (d := 0) (show i < m.fa.length by omega)]
  simp only [oS]
  by_cases c1 : 0 ≤ m.fa.getD i 0
  ·rw [AM c1, AX, if_pos (.inl c1)]
   exact ⟨_, rfl, fun x hx => by cases hx⟩
  ·rw [AE c1, Eh (d := 0) (show i < m.fd.length by omega)]
   simp only [oS]
   by_cases c2 : m.fd.getD i 0 = s.fr
   ·rw [beq_iff_eq.2 c2, AX, if_pos (.inr c2)]
    exact ⟨_, rfl, fun x hx => by cases hx⟩
   ·rw [beq_eq_false_iff_ne.2 c2, Av, (Pb (_R := Unit) N p s m.fe v0 hh (by omega) hN _).1, if_neg (by rintro (h | h); exact c1 h; exact c2 h)]
    exact ⟨_, rfl, fun x hx => by cases hx; rfl⟩
 ·rw [beq_eq_false_iff_ne.2 hk1, Av, if_neg hk1]
  by_cases hk3 : s.ff = 3
  ·have hi3 : i < p.fc.length := by have := x3 hk3; omega
   have ht : p.fc[i]? = some p.fc[i] := by simp [hi3]
   rw [beq_iff_eq.2 hk3, AX, if_pos hk3, hi, QS N hN h20 hp hm ht]
   simp only [oS, Int.toNat_natCast, ht]
   split
   ·exact ⟨_, rfl, fun x hx => by cases hx⟩
   ·exact ⟨_, rfl, fun x hx => by cases hx; rfl⟩
  ·have hi1 : (i : Int) < p.fb.length := by have := xn hk3; omega
   rw [beq_eq_false_iff_ne.2 hk3, Av, if_neg hk3, hi, Eh (d := 0) (show i < m.fa.length by omega)]
   simp only [oS, Int.toNat_natCast]
   by_cases c1 : m.fa.getD i 0 < 0
   ·rw [AM c1, if_pos c1]
    exact ⟨_, rfl, fun x hx => by cases hx⟩
   ·rw [AE c1, if_neg c1]
    by_cases hk2 : s.ff = 2
    ·rw [beq_iff_eq.2 hk2, AX, Eh (d := 0) (show i < m.fd.length by omega), if_pos hk2]
     exact ⟨_, rfl, fun x hx => by cases hx; rfl⟩
    ·rw [beq_eq_false_iff_ne.2 hk2, Av, if_neg hk2]
     exact ⟨_, rfl, fun x hx => by cases hx; rfl⟩
theorem QV (N : Nat) (hN : N ≤ 1000000) (h20 : 100 ≤ N) {p : Ae} {m : Ag} (hp : Bj p) (hm : Co p m) (s : Ai) : Ik N p m s = some (Ba p m s) := by
 unfold Ik Ba
 rw [QZ]
 simp only [oS]
 cases hv : HO s
 ·rw [Bool.not_false, AX, if_pos rfl]; rfl
 ·rw [Bool.not_true, Av, if_neg (by simp), PO N p s hv]
  simp only [oS]
  cases hx : GS p s
  ·rw [Bool.not_false, AX, if_pos rfl]; rfl
  ·rw [Bool.not_true, Av, if_neg (by simp)]
   obtain ⟨o, e, ho⟩ := MP N hN h20 hp hm hv hx
   rw [e]
   simp only [oS]
   cases ha : Gm p m s with
   | none => rfl
   | some x => rw [ho x ha]; rfl
theorem NB (N : Nat) (hN : N ≤ 1000000) (h20 : 100 ≤ N) {p : Ae} {m : Ag} (hp : Bj p) (hm : Co p m) {s : Ai} (hv : HO s = true) (hx : GS p s = true) :
  Dy N p m s = some (match Gm p m s with | none => (IM, false) | some x => (x, true)) := by
 obtain ⟨k1, k4, i0, v0, vk⟩ := I9 hv
 obtain ⟨x3, xn, x1⟩ := JQ hx
 have hnv := hp.nv
 have hnt := hp.nt
 have hb := hm.base
 have hn := hm.next
 have hh := hm.held
 obtain ⟨i, hi⟩ := Int.eq_ofNat_of_zero_le i0
 unfold Dy Gm
 rw [Au (by simp [DM]; omega), Au (by simp [DM]; omega), Au (by simp [DM]; omega)]
 simp only [Br, List.nil_append]
 by_cases hk1 : s.ff = 1
 ·have hi1 : (i : Int) < p.fb.length := by have := xn (by omega); omega
  rw [beq_iff_eq.2 hk1, AX, if_pos hk1]
  simp only [hi, Int.toNat_natCast]
  rw [Eh (d := 0) (show i < m.fa.length by omega)]
  simp only [oS]
  by_cases c1 : 0 ≤ m.fa.getD i 0
  ·rw [AM c1, AX, if_pos (.inl c1)]; rfl
  ·rw [AE c1, Eh (d := 0) (show i < m.fd.length by omega)]
   simp only [oS]
   by_cases c2 : m.fd.getD i 0 = s.fr
   ·rw [beq_iff_eq.2 c2.symm, AX, if_pos (.inr c2)]; rfl
   ·rw [beq_eq_false_iff_ne.2 (fun h => c2 h.symm), Av, Qc N p s m.fe v0 hh (by omega) hN _, if_neg (by rintro (h | h); exact c1 h; exact c2 h)]
 ·rw [beq_eq_false_iff_ne.2 hk1, Av, if_neg hk1]
  by_cases hk3 : s.ff = 3
  ·have hi3 : i < p.fc.length := by have := x3 hk3; omega
   have ht : p.fc[i]? = some p.fc[i] := by simp [hi3]
   have hin := JW (hp.tab _ (lM ht))
   have eh' : A8 m.fe (i : Int) = some (m.fe.getD i 0) := Eh (by omega)
   rw [beq_eq_false_iff_ne.2 (show s.ff ≠ 2 by omega), Av, beq_iff_eq.2 hk3, AX, if_pos hk3, hi, A1, ht]
   simp only [oS, H9, Int.toNat_natCast, ht]
   cases hs : Ct p.fc[i]
   ·rw [Bool.not_false, AX, if_pos (.inl rfl)]; rfl
   ·rw [Bool.not_true, Av, Lp N m _ hin.1 (by omega) (by omega) (hm.b0 _ (by omega)).1, eh']
    simp only [oS]
    by_cases h1 : m.fe.getD i 0 = Ie m (p.fc[i]).fg.toNat
    ·rw [beq_iff_eq.2 h1, AX, if_pos (.inr (.inl h1))]; rfl
    ·rw [beq_eq_false_iff_ne.2 h1, Av]
     rw [Px N hN h20 hp hm ht hs s hi]
     cases hst : Ix p m i p.fc[i]
     ·rw [if_neg (by simp), if_neg (by rintro (h | h | h); cases h; exact h1 h; cases h)]
     ·rw [if_pos rfl, if_pos (.inr (.inr rfl))]
  ·have hi1 : (i : Int) < p.fb.length := by have := xn hk3; omega
   rw [if_neg hk3, hi, Eh (d := 0) (show i < m.fa.length by omega)]
   simp only [oS, Int.toNat_natCast]
   by_cases hk2 : s.ff = 2
   ·rw [beq_iff_eq.2 hk2, AX, if_pos hk2]
    by_cases c1 : m.fa.getD i 0 < 0
    ·rw [AM c1, if_pos c1]; rfl
    ·rw [AE c1, if_neg c1, Eh (d := 0) (show i < m.fd.length by omega)]; rfl
   ·rw [beq_eq_false_iff_ne.2 hk2, Av, beq_eq_false_iff_ne.2 hk3, Av, if_neg hk2]
    by_cases c1 : m.fa.getD i 0 < 0
    ·rw [AM c1, if_pos c1]; rfl
    ·rw [AE c1, if_neg c1]
end Go.Lift
namespace Go.Lift
open Option renaming bind_some → oS
open List renaming mem_of_getElem? → lM
open List renaming getElem?_eq_some_iff → lI
open Go
theorem TR (s : Ai) : ∀ (xs : List Ar) (i : Nat) (a : List Int), i + xs.length ≤ a.length → (Iz (T7 s) i xs a).length = a.length ∧ ∀ q, (Iz (T7 s) i xs a).getD q 0 = match (if i ≤ q then xs[q - i]? else none) with
  | some t => if U4 s t = true then QF .u8 (a.getD q 0) (Dp .u8 1 s.fr) else a.getD q 0
  | none => a.getD q 0
 | [], i, a, _ => by
  refine ⟨rfl, fun q => ?_⟩
  split
  ·rename_i h; split at h
   ·simp at h
   ·cases h
  ·rfl
 | x :: xs, i, a, hl => by
  have hl' : i + (xs.length + 1) ≤ a.length := by simpa using hl
  have ha : (T7 s i x a).length = a.length := by unfold T7; split <;> simp
  obtain ⟨ih1, ih2⟩ := TR s xs (i + 1) (T7 s i x a) (by omega)
  refine ⟨by rw [Iz, ih1, ha], fun q => ?_⟩
  rw [Iz, ih2 q]
  have hu : (T7 s i x a).getD q 0 = if q = i ∧ U4 s x = true then QF .u8 (a.getD q 0) (Dp .u8 1 s.fr) else a.getD q 0 := by
   unfold T7
   by_cases hc : U4 s x = true
   ·rw [if_pos hc, JX (by omega)]
    by_cases hq : q = i
    ·subst hq; rw [if_pos rfl, if_pos ⟨rfl, hc⟩]
    ·rw [if_neg hq, if_neg (fun h => hq h.1)]
   ·rw [if_neg hc, if_neg (fun h => hc h.2)]
  by_cases h1 : i + 1 ≤ q
  ·rw [if_pos h1, if_pos (show i ≤ q by omega), hu, if_neg (by omega)]
   rw [show (x :: xs)[q - i]? = xs[q - (i + 1)]? from by rw [show q - i = (q - (i + 1)) + 1 from by omega, List.getElem?_cons_succ]]
  ·rw [if_neg h1]
   by_cases h2 : q = i
   ·subst h2
    rw [if_pos (Nat.le_refl _), Nat.sub_self, hu]
    simp
   ·rw [if_neg (show ¬ i ≤ q by omega), hu, if_neg (by omega)]
theorem Wb {p : Ae} {s : Ai} {held : List Int} (hl : held.length = p.fc.length) : (IQ p s held).length = p.fc.length ∧ ∀ q t, p.fc[q]? = some t → (IQ p s held).getD q 0 = if U4 s t = true then QF .u8 (held.getD q 0) (Dp .u8 1 s.fr) else held.getD q 0 := by
 obtain ⟨h1, h2⟩ := TR s p.fc 0 held (by omega)
 refine ⟨h1.trans hl, fun q t ht => ?_⟩
 have := h2 q
 rw [if_pos (Nat.zero_le _), Nat.sub_zero, ht] at this
 exact this
theorem Pm {m : Ag} {s v : Nat} : JM m s v = true ↔ m.fd.getD s 0 = (v : Int) ∨ m.fa.getD s 0 = (v : Int) := by
 unfold JM; rw [Bool.or_eq_true, decide_eq_true_iff, decide_eq_true_iff]
theorem Yf {p : Ae} {m x : Ag} (hp : Bj p) (hm : Co p m) {s : Ai} (hv : HO s = true) (hx : GS p s = true) (h : Gm p m s = some x) : Co p x := by
 obtain ⟨k1, k4, i0, v0, vk⟩ := I9 hv
 obtain ⟨x3, xn, x1⟩ := JQ hx
 obtain ⟨i, hi⟩ := Int.eq_ofNat_of_zero_le i0
 have hb := hm.base
 have hn := hm.next
 have hh := hm.held
 unfold Gm at h
 simp only [hi, Int.toNat_natCast] at h
 rw [hi, Int.toNat_natCast] at x1
 split at h
 ·rename_i hk1
  have hi1 : i < p.fb.length := by have := xn (by omega); omega
  have hx1 := x1 hk1
  have hvi := Jy hp hi1
  split at h
  ·cases h
  rename_i hc
  cases h
  obtain ⟨u1, u2⟩ := Wb (s := s) hh
  obtain ⟨b, hbv⟩ := Int.eq_ofNat_of_zero_le v0
  have hob := Ym (b := b) (by omega)
  have hN : ∀ q, (m.fa.set i s.fr).getD q 0 = if q = i then s.fr else m.fa.getD q 0 := fun q => JX (by omega)
  refine { base := hb, next := by simpa using hn, held := u1, b0 := hm.b0, n0 := fun q hq => ?_, ne := fun q hq => ?_, range := fun q hq => ?_, low := fun q t ht hs v hr => ?_, high := fun q t ht hs v hbit => ?_, none := fun q t ht hs => ?_ }
  ·show -1 ≤ (m.fa.set i s.fr).getD q 0 ∧ (m.fa.set i s.fr).getD q 0 < _
   rw [hN q]
   split
   ·rename_i e; subst e; omega
   ·exact hm.n0 q hq
  ·show m.fd.getD q 0 ≠ (m.fa.set i s.fr).getD q 0
   rw [hN q]
   split
   ·rename_i e; subst e; exact fun h => hc (.inr h)
   ·exact hm.ne q hq
  ·have ht : p.fc[q]? = some p.fc[q] := by simp [hq]
   show 0 ≤ (IQ p s m.fe).getD q 0 ∧ (IQ p s m.fe).getD q 0 ≤ 255
   rw [u2 q _ ht, hbv]
   split
   ·exact (UV (hm.range q hq) hob.2).2
   ·exact hm.range q hq
  ·have hq := (lI.1 ht).1
   show ET ((IQ p s m.fe).getD q 0) v = true
   have hin := JW (hp.tab t (lM ht))
   rw [Pm] at hr
   have hr : m.fd.getD t.fg.toNat 0 = (v : Int) ∨ (m.fa.set i s.fr).getD t.fg.toNat 0 = (v : Int) := hr
   rw [hN] at hr
   rw [u2 q t ht, hbv]
   have hlow := hm.low q t ht hs v
   rw [Pm] at hlow
   by_cases hf : t.fg.toNat = i
   ·have hup : U4 s t = true := by unfold U4; rw [hs, Bool.and_true, beq_iff_eq, hi]; omega
    rw [if_pos hup, (UV (hm.range q hq) hob.2).1, hob.1 v, Bool.or_eq_true, decide_eq_true_iff]
    rw [if_pos hf] at hr
    rcases hr with h | h
    ·exact .inl (hlow (.inl h))
    ·right; omega
   ·rw [if_neg hf] at hr
    have hup : U4 s t = false := by unfold U4; rw [hs, Bool.and_true, beq_eq_false_iff_ne, hi]; omega
    rw [hup, if_neg (by simp)]
    exact hlow hr
  ·have hq := (lI.1 ht).1
   have hbit : ET ((IQ p s m.fe).getD q 0) v = true := hbit
   have hin := JW (hp.tab t (lM ht))
   rw [u2 q t ht, hbv] at hbit
   split at hbit
   ·rename_i hup
    rw [(UV (hm.range q hq) hob.2).1, hob.1 v, Bool.or_eq_true, decide_eq_true_iff] at hbit
    rcases hbit with h | h
    ·exact hm.high q t ht hs v h
    ·unfold U4 at hup
     rw [hs, Bool.and_true, beq_iff_eq, hi] at hup
     rw [hup, Int.toNat_natCast]; omega
   ·exact hm.high q t ht hs v hbit
  ·show (IQ p s m.fe).getD q 0 = 0
   have hup : U4 s t = false := by unfold U4; rw [hs, Bool.and_false]
   rw [u2 q t ht, hup, if_neg (by simp)]
   exact hm.none q t ht hs
 ·rename_i hk1
  split at h
  ·rename_i hk3
   have hi3 : i < p.fc.length := by have := x3 hk3; omega
   have ht0 : p.fc[i]? = some p.fc[i] := by simp [hi3]
   rw [ht0] at h
   simp only at h
   split at h
   ·cases h
   rename_i hc
   cases h
   have hin0 := JW (hp.tab _ (lM ht0))
   have hr0 := Jt hp hm.toMixServ (s := (p.fc[i]).fg.toNat) (by omega)
   have hs0 : Ct p.fc[i] = true := by
    cases hs : Ct p.fc[i]
    ·exact (hc (.inl hs)).elim
    ·rfl
   have hH : ∀ q, (m.fe.set i (Ie m (p.fc[i]).fg.toNat)).getD q 0 = if q = i then Ie m (p.fc[i]).fg.toNat else m.fe.getD q 0 := fun q => JX (by omega)
   refine { base := hb, next := hn, held := by simpa using hh, b0 := hm.b0, n0 := hm.n0, ne := hm.ne, range := fun q hq => ?_, low := fun q t ht hs v hr => ?_, high := fun q t ht hs v hbit => ?_, none := fun q t ht hs => ?_ }
   ·show 0 ≤ (m.fe.set i (Ie m (p.fc[i]).fg.toNat)).getD q 0 ∧ (m.fe.set i (Ie m (p.fc[i]).fg.toNat)).getD q 0 ≤ 255
    rw [hH q]
    split
    ·exact hr0.2
    ·exact hm.range q hq
   ·show ET ((m.fe.set i (Ie m (p.fc[i]).fg.toNat)).getD q 0) v = true
    have hr : JM m t.fg.toNat v = true := hr
    rw [hH q]
    split
    ·rename_i e; subst e
     rw [ht0] at ht; cases ht
     rw [hr0.1]; exact hr
    ·exact hm.low q t ht hs v hr
   ·have hbit : ET ((m.fe.set i (Ie m (p.fc[i]).fg.toNat)).getD q 0) v = true := hbit
    rw [hH q] at hbit
    split at hbit
    ·rename_i e; subst e
     rw [ht0] at ht; cases ht
     rw [hr0.1] at hbit
     exact hm.high q _ ht0 hs0 v (hm.low q _ ht0 hs0 v hbit)
    ·exact hm.high q t ht hs v hbit
   ·show (m.fe.set i (Ie m (p.fc[i]).fg.toNat)).getD q 0 = 0
    rw [hH q, if_neg (fun e => by subst e; rw [ht0] at ht; cases ht; rw [hs0] at hs; cases hs)]
    exact hm.none q t ht hs
  ·rename_i hk3
   have hi1 : i < p.fb.length := by have := xn hk3; omega
   have hvi := Jy hp hi1
   split at h
   ·cases h
   rename_i hc
   cases h
   have hN : ∀ q, (m.fa.set i (-1)).getD q 0 = if q = i then -1 else m.fa.getD q 0 := fun q => JX (by omega)
   have hB : ∀ q, (if s.ff = 2 then m.fd.set i (m.fa.getD i 0) else m.fd).getD q 0 = if s.ff = 2 ∧ q = i then m.fa.getD i 0 else m.fd.getD q 0 := fun q => by
    by_cases hk2 : s.ff = 2
    ·rw [if_pos hk2, JX (by omega)]
     by_cases e : q = i
     ·rw [if_pos e, if_pos ⟨hk2, e⟩]
     ·rw [if_neg e, if_neg (fun h => e h.2)]
    ·rw [if_neg hk2, if_neg (fun h => hk2 h.1)]
   have hrun : ∀ q v, JM ⟨if s.ff = 2 then m.fd.set i (m.fa.getD i 0) else m.fd, m.fa.set i (-1), m.fe⟩ q v = true → JM m q v = true := fun q v hr => by
    rw [Pm] at hr ⊢
    simp only [hN q, hB q] at hr
    by_cases e : q = i
    ·subst e
     rw [if_pos rfl] at hr
     by_cases hk2 : s.ff = 2
     ·rw [if_pos ⟨hk2, rfl⟩] at hr; omega
     ·rw [if_neg (fun h => hk2 h.1)] at hr; omega
    ·rw [if_neg e, if_neg (fun h => e h.2)] at hr; exact hr
   refine { base := by simp only; split <;> simp [hb], next := by simpa using hn, held := hh, b0 := fun q hq => ?_, n0 := fun q hq => ?_, ne := fun q hq => ?_, range := hm.range, low := fun q t ht hs v hr => hm.low q t ht hs v (hrun _ _ hr), high := hm.high, none := hm.none }
   ·simp only [hB q]
    split
    ·rename_i e; obtain ⟨_, e⟩ := e; subst e
     have := hm.n0 q hq
     omega
    ·exact hm.b0 q hq
   ·simp only [hN q]
    split
    ·rename_i e; subst e; omega
    ·exact hm.n0 q hq
   ·simp only [hB q, hN q]
    have h1 := hm.b0 q hq
    by_cases e : q = i
    ·rw [if_pos e]
     split
     ·rename_i e2; obtain ⟨_, e2⟩ := e2; subst e2; omega
     ·omega
    ·rw [if_neg e, if_neg (fun h => e h.2)]; exact hm.ne q hq
theorem Ss (N : Nat) (hN : N ≤ 1000000) (h20 : 100 ≤ N) {p : Ae} {m : Ag} (hw : Qv MV m.fe) (s : Ai) : FM N p m s = some (if He p m = 0 then Ba p m s else (IM, He p m)) := by
 unfold FM Ba
 rw [RW N p m hN (by omega)]
 simp only [oS, Br]
 by_cases hval : He p m = 0
 ·obtain ⟨hp, hm⟩ := Me hw hval
  rw [if_pos hval, hval, bne_self_eq_false, Av, Sc]
  simp only [oS]
  cases hv : HO s
  ·rw [Bool.not_false, AX, if_pos rfl]; rfl
  ·rw [Bool.not_true, Av, if_neg (by simp)]
   obtain ⟨k1, k4, i0, v0, vk⟩ := I9 hv
   have key : ∀ b : Bool, GS p s = b → (if b = false then (IM, (4 : Int)) else match Gm p m s with | none => (IM, 11) | some x => (x, 0)) = (if b = false then (IM, (4 : Int)) else match Gm p m s with | none => (IM, 11) | some x => (x, 0)) := fun _ _ => rfl
   have tail : GS p s = true → ((Dy N p m s).bind fun v15 => AY (!v15.2) (some (Ag.mk [] [] [], (11 : Int))) (some (v15.1, 0))) = some (match Gm p m s with | none => (IM, 11) | some x => (x, 0)) := fun hx => by
    rw [NB N hN h20 hp hm hv hx]
    cases Gm p m s <;> rfl
   have zz : (Ag.mk [] [] [], (4 : Int)) = (IM, 4) := rfl
   by_cases hk3 : s.ff = 3
   ·rw [beq_iff_eq.2 hk3, AX, show (s.ff != 3) = false from by rw [hk3]; rfl]
    have hX : GS p s = decide (s.fi < (p.fc.length : Int)) := by unfold GS; rw [if_pos hk3]
    by_cases c : (p.fc.length : Int) ≤ s.fi
    ·rw [AM c, AX, hX, decide_eq_false (by omega), if_pos rfl]; rfl
    ·have hx : GS p s = true := by rw [hX, decide_eq_true (by omega)]
     rw [AE c, Av, Av, beq_eq_false_iff_ne.2 (show s.ff ≠ 1 by omega), Av, Av, hx, if_neg (by simp)]
     exact tail hx
   ·rw [beq_eq_false_iff_ne.2 hk3, Av, bne_iff_ne.2 hk3, AX]
    have hX : GS p s = (decide (s.fi < (p.fb.length : Int)) && (s.ff != 1 || decide (s.fr < p.fb.getD s.fi.toNat 0))) := by unfold GS; rw [if_neg hk3]
    by_cases c : (p.fb.length : Int) ≤ s.fi
    ·rw [decide_eq_true c, AX, hX, decide_eq_false (show ¬ s.fi < (p.fb.length : Int) by omega), Bool.false_and, if_pos rfl]; rfl
    ·rw [decide_eq_false c, Av]
     by_cases hk1 : s.ff = 1
     ·rw [beq_iff_eq.2 hk1, AX, F4 (d := 0) i0 (by omega)]
      simp only [oS]
      by_cases c2 : p.fb.getD s.fi.toNat 0 ≤ s.fr
      ·rw [decide_eq_true c2, AX, hX, decide_eq_false (show ¬ s.fr < p.fb.getD s.fi.toNat 0 by omega), show (s.ff != 1) = false from by rw [hk1]; rfl, Bool.false_or, Bool.and_false, if_pos rfl]; rfl
      ·have hx : GS p s = true := by rw [hX, decide_eq_true (by omega), decide_eq_true (by omega), Bool.or_true]; rfl
       rw [decide_eq_false c2, Av, hx, if_neg (by simp)]
       exact tail hx
     ·have hx : GS p s = true := by rw [hX, decide_eq_true (by omega), bne_iff_ne.2 hk1]; rfl
      rw [beq_eq_false_iff_ne.2 hk1, Av, Av, hx, if_neg (by simp)]
      exact tail hx
 ·rw [if_neg hval, bne_iff_ne.2 hval, AX]; rfl
theorem QT (N : Nat) (hN : N ≤ 1000000) (h20 : 100 ≤ N) {p : Ae} {m : Ag} (hw : Qv MV m.fe) (s : Ai) : Ic N p m s = some (if He p m = 0 then Ba p m s else (IM, He p m)) := by
 unfold Ic
 rw [JH N p m hN (by omega) hw]
 simp only [oS]
 by_cases hval : He p m = 0
 ·obtain ⟨hp, hm⟩ := Me hw hval
  rw [if_pos hval, hval, bne_self_eq_false, Av, QV N hN h20 hp hm s]; rfl
 ·rw [if_neg hval, bne_iff_ne.2 hval, AX]; rfl
theorem Mp {p : Ae} {m : Ag} (hp : Bj p) (hm : Co p m) {s : Ai} (h : (Ba p m s).2 = 0) : Co p (Ba p m s).1 := by
 unfold Ba at h ⊢
 split at h
 ·cases h
 rename_i h1
 rw [if_neg h1]
 split at h
 ·cases h
 rename_i h2
 rw [if_neg h2]
 cases ha : Gm p m s with
 | none => rw [ha] at h; cases h
 | some x => exact Yf hp hm (by simpa using h1) (by simpa using h2) ha
end Go.Lift
namespace Go.Lift
open Go
section
variable {N : Nat} {p : Ae} {l : List Ai}
end
end Go.Lift
namespace Go.Lift
open Go
def Nj (p : Ae) (m : Ag) (s : Ai) : Option Ag := if (Ba p m s).2 = 0 ∧ s.ff ≠ 4 ∧ BJ p (Ba p m s).1 = true then some (Ba p m s).1 else none
def QE (p : Ae) : Ag → List Ai → Option Ag
 | m, [] => some m
 | m, s :: l => (Nj p m s).bind fun x => QE p x l
def NY (p : Ae) (m : Ag) (l : List Ai) : Bool := match QE p m l with
 | some x => Ko p x
 | none => false
theorem Ws {p : Ae} {m x : Ag} {s : Ai} : Nj p m s = some x ↔ HO s = true ∧ GS p s = true ∧ Gm p m s = some x ∧ s.ff ≠ 4 ∧ BJ p x = true := by
 unfold Nj Ba
 cases h1 : HO s
 ·simp
 cases h2 : GS p s
 ·simp
 cases h3 : Gm p m s with
 | none => simp
 | some y =>
  simp only [Bool.true_eq_false, if_false, true_and, Option.some.injEq]
  constructor
  ·intro h
   split at h
   ·rename_i hc; cases h; exact ⟨rfl, hc.1, hc.2⟩
   ·cases h
  ·rintro ⟨rfl, h4, h5⟩
   rw [if_pos ⟨h4, h5⟩]
structure aX (p : Ae) (m x : Ag) : Prop where
 base : m.fd = x.fd
 next : m.fa = x.fa
 held : ∀ i, i < p.fc.length → ∀ v, ET (m.fe.getD i 0) v = true → ET (x.fe.getD i 0) v = true
theorem aX.refl (p : Ae) (m : Ag) : aX p m m := ⟨rfl, rfl, fun _ _ _ h => h⟩
theorem aX.trans {p : Ae} {a b c : Ag} (h : aX p a b) (g : aX p b c) : aX p a c := ⟨h.base.trans g.base, h.next.trans g.next, fun i hi v hv => g.held i hi v (h.held i hi v hv)⟩
theorem RD {p : Ae} {m : Ag} {l : List Ai} (h : NY p m l = true) : ∃ x, QE p m l = some x ∧ Ko p x = true := by
 unfold NY at h
 cases hr : QE p m l with
 | none => rw [hr] at h; cases h
 | some x => rw [hr] at h; exact ⟨x, rfl, h⟩
end Go.Lift
namespace Go.Lift
open IntKind renaming wrap → wI
open Option renaming bind_some → oS
open List renaming getElem?_eq_some_iff → lI
open List renaming getD_eq_getElem?_getD → lD
open Go
def Hv (m : Ag) (i : Nat) (b : Int) : List Int := [wI .u8 b, wI .u8 (wI .i64 (m.fa.getD i 0 + 1))]
def L8 (m : Ag) : List Int := Cg (Hv m) 0 m.fd ++ m.fe
theorem Xn (N : Nat) (hN : N ≤ 1000000) (h20 : 100 ≤ N) {p : Ae} {m : Ag} (hp : Bj p) (hm : Co p m) : IC N m = some (Dh (L8 m)) := by
 have hnv := hp.nv
 have hnt := hp.nt
 have hb := hm.base
 have hn := hm.next
 have hh := hm.held
 unfold IC
 have e1 : wI .i64 (2 * (m.fd.length : Int)) = 2 * (m.fd.length : Int) := DH (by omega) (by omega)
 rw [e1, DH (n := 2 * (m.fd.length : Int) + (m.fe.length : Int)) (by omega) (by omega), Au ⟨Int.le_refl 0, by omega, by simp only [DM]; omega⟩]
 have l1 := DB (FO N m fun v3 => EE N m (fun v9 => some (Dh v9)) N (v3, 0)) (fun a i => (a, i)) m.fd (fun v3 => EE N m (fun v9 => some (Dh v9)) N (v3, 0)) (Hv m) 2 100
  (fun i x hx => by simp [Hv])
  (fun n i x a hx hl => by
   have hi := (lI.1 hx).1
   rw [FO, AM (by simp only; omega)]
   simp only [A1, hx, oS, AI (show i < 1000000 by omega)]
   have e2 : m.fa[i]? = some (m.fa.getD i 0) := by rw [lD]; simp [show i < m.fa.length by omega]
   rw [e2]
   simp only [oS]
   rw [Au (by simp [DM]; simp [Hv] at hl; omega)]
   rfl)
  (fun n a => by rw [FO, AE (by simp)]) N [] (by omega) (by simp; omega)
 have l1' : FO N m (fun v3 => EE N m (fun v9 => some (Dh v9)) N (v3, 0)) N (List.replicate (0 : Int).toNat (0 : Int), 0) = _ := l1
 rw [l1', List.nil_append]
 have hfl : (Cg (Hv m) 0 m.fd).length ≤ 2 * m.fd.length := Gd fun j x hx => by simp [Hv]
 have l2 := DB (EE N m fun v9 => some (Dh v9)) (fun a i => (a, i)) m.fe (fun v9 => some (Dh v9)) (fun _ x => [x]) 1 100
  (fun i x hx => by simp)
  (fun n i x a hx hl => by
   have hi := (lI.1 hx).1
   rw [EE, AM (by simp only; omega)]
   simp only [A1, hx, oS, AI (show i < 1000000 by omega)]
   rw [Au (by simp [DM]; simp at hl; omega)])
  (fun n a => by rw [EE, AE (by simp)]) N (Cg (Hv m) 0 m.fd) (by omega) (by omega)
 have e3 : ∀ (i : Nat) (l : List Int), Cg (fun _ (x : Int) => [x]) i l = l := by
  intro i l
  induction l generalizing i with
  | nil => rfl
  | cons x l ih => rw [Cg, ih]; rfl
 refine l2.trans ?_
 rw [e3]; rfl
theorem Vg (xs : List Int) : ∀ b : ByteArray, (xs.foldl (fun s n => s.push (UInt8.ofNat n.toNat)) b).data.toList = b.data.toList ++ xs.map fun n => UInt8.ofNat n.toNat := by
 induction xs with
 | nil => intro b; simp
 | cons x xs ih => intro b; rw [List.foldl_cons, ih]; simp [ByteArray.push]
theorem NI (xs : List Int) : (Dh xs).data.toList = xs.map fun n => UInt8.ofNat n.toNat := by
 unfold Dh
 rw [Vg]; rfl
theorem Z3 {a b : Int} (ha : 0 ≤ a ∧ a ≤ 255) (hb : 0 ≤ b ∧ b ≤ 255) (h : UInt8.ofNat a.toNat = UInt8.ofNat b.toNat) : a = b := by
 have := congrArg UInt8.toNat h
 simp at this
 omega
theorem P4 : ∀ {xs ys : List Int}, (∀ x, x ∈ xs → 0 ≤ x ∧ x ≤ 255) → (∀ x, x ∈ ys → 0 ≤ x ∧ x ≤ 255) → (xs.map fun n => UInt8.ofNat n.toNat) = (ys.map fun n => UInt8.ofNat n.toNat) → xs = ys
 | [], [], _, _, _ => rfl
 | [], _ :: _, _, _, h => by cases h
 | _ :: _, [], _, _, h => by cases h
 | x :: xs, y :: ys, hx, hy, h => by
  rw [List.map_cons, List.map_cons, List.cons.injEq] at h
  rw [Z3 (hx x (by simp)) (hy y (by simp)) h.1, P4 (fun z hz => hx z (List.mem_cons_of_mem _ hz)) (fun z hz => hy z (List.mem_cons_of_mem _ hz)) h.2]
theorem Tr {xs ys : List Int} (hx : ∀ x, x ∈ xs → 0 ≤ x ∧ x ≤ 255) (hy : ∀ x, x ∈ ys → 0 ≤ x ∧ x ≤ 255) (h : (Dh xs == Dh ys) = true) : xs = ys := by
 rw [KO, beq_iff_eq] at h
 have h := congrArg Array.toList h
 rw [NI, NI] at h
 exact P4 hx hy h
theorem Sr (xs : List Int) : (Dh xs == Dh xs) = true := by rw [KO]; simp
theorem Rw {α β : Type} {g h : Nat → α → List β} {c : Nat} : ∀ {i : Nat} {xs ys : List α}, xs.length = ys.length → (∀ i x, (g i x).length = c) → (∀ i x, (h i x).length = c) → Cg g i xs = Cg h i ys → ∀ j x y, xs[j]? = some x → ys[j]? = some y → g (i + j) x = h (i + j) y
 | i, [], ys, _, _, _, _, j, x, y, hx, _ => by simp at hx
 | i, x :: xs, [], hl, _, _, _, _, _, _, _, _ => by simp at hl
 | i, x :: xs, y :: ys, hl, hg, hh, e, j, x', y', hx, hy => by
  rw [Cg, Cg] at e
  have e1 := List.append_inj e ((hg i x).trans (hh i y).symm)
  cases j with
  | zero => simp at hx hy; subst hx; subst hy; exact e1.1
  | succ j =>
   have := Rw (i := i + 1) (by simpa using hl) hg hh e1.2 j x' y' (by simpa using hx) (by simpa using hy)
   rwa [show i + 1 + j = i + (j + 1) from by omega] at this
theorem Rn {p : Ae} {m : Ag} (_hp : Bj p) (hm : Co p m) : ∀ x, x ∈ L8 m → 0 ≤ x ∧ x ≤ 255 := by
 intro x hx
 unfold L8 at hx
 rcases List.mem_append.1 hx with h | h
 ·obtain ⟨j, b, hb, hk⟩ := Gf.1 h
  have hw : ∀ n : Int, 0 ≤ wI .u8 n ∧ wI .u8 n ≤ 255 := fun n => by
   simp [wI, IntKind.signed, IntKind.bits]; omega
  unfold Hv at hk
  rcases List.mem_cons.1 hk with e | e
  ·subst e; exact hw _
  ·rcases List.mem_cons.1 e with e | e
   ·subst e; exact hw _
   ·cases e
 ·obtain ⟨j, hj⟩ := List.mem_iff_getElem?.1 h
  have hl := (lI.1 hj).1
  have := hm.range j (by rw [← hm.held]; exact hl)
  rw [lD, hj] at this
  exact this
theorem Jk {n : Int} (h : 0 ≤ n ∧ n ≤ 255) : wI .u8 n = n := by
 simp [wI, IntKind.signed, IntKind.bits]; omega
theorem YX {p : Ae} {m x : Ag} (hp : Bj p) (hm : Co p m) (hx : Co p x) (h : (Dh (L8 m) == Dh (L8 x)) = true) : m = x := by
 have e := Tr (Rn hp hm) (Rn hp hx) h
 unfold L8 at e
 have hbl : m.fd.length = x.fd.length := hm.base.trans hx.base.symm
 have hfl : ∀ y : Ag, (Cg (Hv y) 0 y.fd).length = 2 * y.fd.length := fun y => by
  have : ∀ (i : Nat) (l : List Int), (Cg (Hv y) i l).length = 2 * l.length := by
   intro i l
   induction l generalizing i with
   | nil => rfl
   | cons b l ih => rw [Cg, List.length_append, ih, List.length_cons]; simp [Hv]; omega
  exact this 0 _
 obtain ⟨e1, e2⟩ := List.append_inj e (by rw [hfl, hfl, hbl])
 have key : ∀ j, j < p.fb.length → m.fd.getD j 0 = x.fd.getD j 0 ∧ m.fa.getD j 0 = x.fa.getD j 0 := fun j hj => by
  have h1 : m.fd[j]? = some (m.fd.getD j 0) := by rw [lD]; simp [hm.base, hj]
  have h2 : x.fd[j]? = some (x.fd.getD j 0) := by rw [lD]; simp [hx.base, hj]
  have h3 := Rw (c := 2) hbl (fun _ _ => by simp [Hv]) (fun _ _ => by simp [Hv]) e1 j _ _ h1 h2
  rw [Nat.zero_add] at h3
  have v := Jy hp hj
  have b1 := hm.b0 j hj
  have b2 := hx.b0 j hj
  have n1 := hm.n0 j hj
  have n2 := hx.n0 j hj
  unfold Hv at h3
  rw [DH (n := m.fa.getD j 0 + 1) (by omega) (by omega), DH (n := x.fa.getD j 0 + 1) (by omega) (by omega), Jk (n := m.fd.getD j 0) (by omega), Jk (n := x.fd.getD j 0) (by omega), Jk (n := m.fa.getD j 0 + 1) (by omega), Jk (n := x.fa.getD j 0 + 1) (by omega), List.cons.injEq, List.cons.injEq] at h3
  exact ⟨h3.1, by omega⟩
 have hB : m.fd = x.fd := Hn hbl fun q hq => (key q (by rw [← hm.base]; exact hq)).1
 have hN : m.fa = x.fa := Hn (hm.next.trans hx.next.symm) fun q hq => (key q (by rw [← hm.next]; exact hq)).2
 cases m; cases x
 simp only at hB hN e2
 rw [hB, hN, e2]
end Go.Lift
namespace Go.Lift
open Option renaming bind_some → oS
open List renaming mem_of_getElem? → lM
open List renaming getElem?_eq_some_iff → lI
open Go
def Kk (i : Nat) (n : Int) : List Ai := (List.range n.toNat).map fun v => ⟨1, (i : Int), ((v : Nat) : Int), ⟩
def EU (p : Ae) : List Ai := Cg Kk 0 p.fb ++ ((List.range p.fb.length).map fun i => (⟨2, ((i : Nat) : Int), 0⟩ : Ai)) ++ ((List.range p.fc.length).map fun i => (⟨3, ((i : Nat) : Int), 0⟩ : Ai))
def GR (p : Ae) (m : Ag) : List Ai := (EU p).filter fun s => (Ba p m s).2 == 0
theorem VI {p : Ae} (hp : Bj p) : (EU p).length ≤ 54 := by
 have h1 : (Cg Kk 0 p.fb).length ≤ 6 * p.fb.length := Gd fun j x hx => by
  have := hp.ver x (lM hx)
  simp [Kk]; omega
 have := hp.nv
 have := hp.nt
 unfold EU
 simp only [List.length_append, List.length_map, List.length_range]
 omega
theorem Tp (N : Nat) (hN : N ≤ 1000000) (h20 : 100 ≤ N) {p : Ae} (hp : Bj p) : Jv N p = some (EU p) := by
 have hnv := hp.nv
 have hnt := hp.nt
 unfold Jv
 have l1 := DB (D8 N p fun v2 => CZ N p (fun v10 => BK N p (fun v14 => some v14) N (v10, 0)) N (v2, 0)) (fun a i => (a, i)) p.fb (fun v2 => CZ N p (fun v10 => BK N p (fun v14 => some v14) N (v10, 0)) N (v2, 0)) Kk 6 100
  (fun i x hx => by have := hp.ver x (lM hx); simp [Kk]; omega)
  (fun n i x a hx hl => by
   have hi := (lI.1 hx).1
   have hx6 := hp.ver x (lM hx)
   obtain ⟨k, hk⟩ := Int.eq_ofNat_of_zero_le (show 0 ≤ x by omega)
   rw [D8, AM (by simp only; omega)]
   simp only [A1, hx, oS, AI (show i < 1000000 by omega)]
   subst hk
   obtain ⟨a', e, ha⟩ := FU (FJ N (a, (i : Int)) (k : Int) fun v6 => D8 N p (fun v2 => CZ N p (fun v10 => BK N p (fun v14 => some v14) N (v10, 0)) N (v2, 0)) n (v6, ((i + 1 : Nat) : Int))) (fun b v => (b, v)) k (fun v6 => D8 N p (fun v2 => CZ N p (fun v10 => BK N p (fun v14 => some v14) N (v10, 0)) N (v2, 0)) n (v6, ((i + 1 : Nat) : Int)))
    (fun v b => b = a ++ (List.range v).map fun v => (⟨1, (i : Int), ((v : Nat) : Int)⟩ : Ai))
    (fun n v b hv hb => by
     subst hb
     rw [FJ, AM (by simp only; omega), Au (by simp [DM]; simp [Kk] at hl; omega), AI (by omega)]
     exact ⟨_, rfl, by rw [List.range_succ, List.map_append, List.append_assoc]; rfl⟩)
    (fun n b hb => by rw [FJ, AE (by simp)]) N 0 a (Nat.zero_le _) (by omega) (by simp)
   have e' : FJ N (a, (i : Int)) (k : Int) (fun v6 => D8 N p (fun v2 => CZ N p (fun v10 => BK N p (fun v14 => some v14) N (v10, 0)) N (v2, 0)) n (v6, ((i + 1 : Nat) : Int))) N (a, 0) = _ := e
   rw [e', ha]; rfl)
  (fun n a => by rw [D8, AE (by simp)]) N [] (by omega) (by simp; omega)
 have l1' : D8 N p (fun v2 => CZ N p (fun v10 => BK N p (fun v14 => some v14) N (v10, 0)) N (v2, 0)) N (([] : List Ai), 0) = _ := l1
 rw [l1', List.nil_append]
 have hA : (Cg Kk 0 p.fb).length ≤ 6 * p.fb.length := Gd fun j x hx => by
  have := hp.ver x (lM hx)
  simp [Kk]; omega
 generalize hAe : Cg Kk 0 p.fb = A at hA
 obtain ⟨b', e2, hb⟩ := FU (CZ N p fun v10 => BK N p (fun v14 => some v14) N (v10, 0)) (fun b v => (b, v)) p.fb.length (fun v10 => BK N p (fun v14 => some v14) N (v10, 0))
  (fun v b => b = A ++ (List.range v).map fun i => (⟨2, ((i : Nat) : Int), 0⟩ : Ai))
  (fun n v b hv hb => by
   subst hb
   rw [CZ, AM (by simp only; omega), Au (by simp [DM]; omega), AI (by omega)]
   exact ⟨_, rfl, by rw [List.range_succ, List.map_append, List.append_assoc]; rfl⟩)
  (fun n b hb => by rw [CZ, AE (by simp)]) N 0 A (Nat.zero_le _) (by omega) (by simp)
 have e2' : CZ N p (fun v10 => BK N p (fun v14 => some v14) N (v10, 0)) N (A, 0) = _ := e2
 rw [e2', hb]
 generalize hBe : A ++ (List.range p.fb.length).map (fun i => (⟨2, ((i : Nat) : Int), 0⟩ : Ai)) = B
 have hB : B.length ≤ 50 := by rw [← hBe]; simp; omega
 obtain ⟨c', e3, hc⟩ := FU (BK N p fun v14 => some v14) (fun b v => (b, v)) p.fc.length (fun v14 => some v14)
  (fun v b => b = B ++ (List.range v).map fun i => (⟨3, ((i : Nat) : Int), 0⟩ : Ai))
  (fun n v b hv hb => by
   subst hb
   rw [BK, AM (by simp only; omega), Au (by simp [DM]; omega), AI (by omega)]
   exact ⟨_, rfl, by rw [List.range_succ, List.map_append, List.append_assoc]; rfl⟩)
  (fun n b hb => by rw [BK, AE (by simp)]) N 0 B (Nat.zero_le _) (by omega) (by simp)
 have e3' : BK N p (fun v14 => some v14) N (B, 0) = _ := e3
 rw [e3', hc, ← hBe, ← hAe]; rfl
end Go.Lift
namespace Go.Lift
open Option renaming bind_some → oS
open List renaming mem_of_getElem? → lM
open List renaming getElem?_eq_some_iff → lI
open List renaming getD_eq_getElem?_getD → lD
open Go
theorem OD {p : Ae} (hp : Bj p) {s : Ai} (h : s ∈ EU p) : HO s = true ∧ GS p s = true := by
 have hnv := hp.nv
 unfold EU at h
 rcases List.mem_append.1 h with h | h
 ·rcases List.mem_append.1 h with h | h
  ·obtain ⟨j, x, hx, hk⟩ := Gf.1 h
   rw [Nat.zero_add] at hk
   unfold Kk at hk
   obtain ⟨v, hv, rfl⟩ := List.mem_map.1 hk
   have hx6 := hp.ver x (lM hx)
   have hv := List.mem_range.1 hv
   have hj := (lI.1 hx).1
   refine ⟨by unfold HO; simp, ?_⟩
   unfold GS
   have e : p.fb.getD j 0 = x := by rw [lD, hx]; rfl
   simp only
   rw [if_neg (by omega), decide_eq_true (by omega), Int.toNat_natCast, e, decide_eq_true (by omega), Bool.or_true]; rfl
  ·obtain ⟨v, hv, rfl⟩ := List.mem_map.1 h
   have hv := List.mem_range.1 hv
   refine ⟨by unfold HO; simp, ?_⟩
   unfold GS
   simp only
   rw [if_neg (by omega), decide_eq_true (by omega)]; rfl
 ·obtain ⟨v, hv, rfl⟩ := List.mem_map.1 h
  have hv := List.mem_range.1 hv
  refine ⟨by unfold HO; simp, ?_⟩
  unfold GS
  simp only
  rw [if_pos trivial, decide_eq_true (by omega)]
theorem XI {p : Ae} {m : Ag} {s : Ai} (hv : HO s = true) (hx : GS p s = true) : ((Ba p m s).2 == 0) = (Gm p m s).isSome := by
 unfold Ba
 rw [hv, hx, if_neg (by simp), if_neg (by simp)]
 cases Gm p m s <;> rfl
theorem Ue (N : Nat) (hN : N ≤ 1000000) (h20 : 100 ≤ N) {p : Ae} {m : Ag} (hp : Bj p) (hm : Co p m) {s : Ai} (h : s ∈ EU p) :
  Ex N s p.fb p.fh p.fo p.fc m.fd m.fa m.fe = some (!((Ba p m s).2 == 0)) := by
 obtain ⟨hv, hx⟩ := OD hp h
 unfold Ex
 obtain ⟨o, e, _⟩ := MP N hN h20 hp hm hv hx
 have e' : GK N ⟨p.fb, p.fh, p.fo, p.fc⟩ ⟨m.fd, m.fa, m.fe⟩ s = some (o, (Gm p m s).isSome) := e
 rw [e', XI hv hx]; rfl
theorem U2 (N : Nat) (hN : N ≤ 1000000) (a : List Ai) (f : Ai → Option Bool) (g : Ai → Bool) (h : a.length < N) (hf : ∀ x, x ∈ a → f x = some (g x)) :
  Cc N a f = some ((Ep (fun i x => if g x = true then some (i : Int) else none) 0 a).getD (-1)) := by
 unfold Cc
 have := DP (Bb N a f fun _ => some (-1)) a (some (-1)) (fun i x => if g x = true then some (i : Int) else none)
  (fun n i x hx => by
   have hi := (lI.1 hx).1
   rw [Bb, AM (by omega), A1, hx]
   simp only [oS]
   rw [hf x (lM hx), AI (by omega)]
   simp only [oS]
   cases g x <;> rfl)
  (fun n => by rw [Bb, AE (by simp)]) N 0 (Nat.zero_le _) (by omega)
 refine this.trans ?_
 rw [List.drop_zero]
 cases Ep (fun i x => if g x = true then some (i : Int) else none) 0 a <;> rfl
theorem QN {α : Type} {l : List α} {i : Nat} {v : α} (h : i < l.length) : (l.set i v).take (i + 1) = l.take i ++ [v] := by
 rw [List.take_add_one, List.take_set_of_le (Nat.le_refl i)]
 congr 1
 simp [h]
theorem TJ (N : Nat) (hN : N ≤ 1000000) (a : List Ai) (f : Ai → Option Bool) (g : Ai → Bool) (h : a.length < N) (h9 : a.length ≤ 1000) (hf : ∀ x, x ∈ a → f x = some (g x)) :
  ∃ X n, B6 N a f = some (n, X) ∧ n ≤ X.length ∧ X.take n = a.filter fun x => !g x := by
 unfold B6
 rw [U2 N hN a f g h hf]
 simp only [oS]
 cases hs : Ep (fun i x => if g x = true then some (i : Int) else none) 0 a with
 | none =>
  refine ⟨a, a.length, rfl, Nat.le_refl _, ?_⟩
  rw [List.take_length]
  symm
  rw [List.filter_eq_self]
  intro x hx
  obtain ⟨j, hj⟩ := List.mem_iff_getElem?.1 hx
  have := Ge hs j x hj
  cases hg : g x
  ·rfl
  ·rw [hg] at this; cases this
 | some r =>
  obtain ⟨j, x, hx, hr⟩ := FV hs
  rw [Nat.zero_add] at hr
  split at hr
  ·rename_i hg
   cases hr
   have hj := (lI.1 hx).1
   have e0 : ((some (j : Int)).getD (-1) == (-1 : Int)) = false := beq_eq_false_iff_ne.2 (by simp only [Option.getD_some]; omega)
   rw [e0, Av]
   simp only [Option.getD_some]
   rw [AI (by omega)]
   -- what lies before the first that goes is kept
   have hpre : (a.take (j + 1)).filter (fun x => !g x) = a.take j := by
    rw [List.take_add_one, hx, List.filter_append]
    have h1 : (a.take j).filter (fun x => !g x) = a.take j := by
     rw [List.filter_eq_self]
     intro y hy
     obtain ⟨q, hq⟩ := List.mem_iff_getElem?.1 hy
     have hql := (lI.1 hq).1
     simp at hql
     rw [List.getElem?_take_of_lt (by omega)] at hq
     cases hgy : g y
     ·rfl
     ·exfalso
      have : ∀ (xs : List Ai) (i j q : Nat) (y : Ai), Ep (fun i x => if g x = true then some (i : Int) else none) i xs = some ((i + j : Nat) : Int) → q < j → xs[q]? = some y → g y = true → False := by
       intro xs
       induction xs with
       | nil => intro i j q y _ _ hq; simp at hq
       | cons z zs ih =>
        intro i j q y hs hqj hq hgy
        rw [GW] at hs
        cases hz : g z
        ·rw [hz] at hs
         cases q with
         | zero => simp at hq; subst hq; rw [hz] at hgy; cases hgy
         | succ q =>
          cases j with
          | zero => omega
          | succ j => exact ih (i + 1) j q y (by rw [show i + 1 + j = i + (j + 1) from by omega]; exact hs) (by omega) (by simpa using hq) hgy
        ·rw [hz] at hs
         have hs : (some (i : Int)) = some ((i + j : Nat) : Int) := hs
         have := Option.some.inj hs
         omega
      exact this a 0 j q y (by rw [Nat.zero_add]; exact hs) (by omega) hq hgy
    rw [h1]
    simp [hg]
   obtain ⟨b, e, hb⟩ := FU (A4 N f fun v4 => (Ef ((0 : Int) ≤ v4.2 ∧ (v4.2).toNat ≤ v4.1.length ∧ v4.1.length ≤ v4.1.length)).bind fun _ =>
     (Ef ((0 : Int) ≤ v4.2 ∧ 0 ≤ (v4.2).toNat ∧ (v4.2).toNat ≤ (HC v4.1 ((v4.2).toNat) (List.replicate ((v4.1.length - (v4.2).toNat)) ((Ai.mk 0 0 0)))).length)).bind fun _ =>
     some ((v4.2).toNat, HC v4.1 ((v4.2).toNat) (List.replicate ((v4.1.length - (v4.2).toNat)) ((Ai.mk 0 0 0)))))
    (fun (b : List Ai × Nat) i => (b.1, ((b.2 : Nat) : Int), i)) a.length (fun b => (Ef ((0 : Int) ≤ ((b.2 : Nat) : Int) ∧ (((b.2 : Nat) : Int)).toNat ≤ b.1.length ∧ b.1.length ≤ b.1.length)).bind fun _ =>
     (Ef ((0 : Int) ≤ ((b.2 : Nat) : Int) ∧ 0 ≤ (((b.2 : Nat) : Int)).toNat ∧ (((b.2 : Nat) : Int)).toNat ≤ (HC b.1 ((((b.2 : Nat) : Int)).toNat) (List.replicate ((b.1.length - (((b.2 : Nat) : Int)).toNat)) ((Ai.mk 0 0 0)))).length)).bind fun _ =>
     some ((((b.2 : Nat) : Int)).toNat, HC b.1 ((((b.2 : Nat) : Int)).toNat) (List.replicate ((b.1.length - (((b.2 : Nat) : Int)).toNat)) ((Ai.mk 0 0 0)))))
    (fun i b => b.1.length = a.length ∧ b.2 ≤ i ∧ b.1.drop i = a.drop i ∧ b.1.take b.2 = (a.take i).filter fun x => !g x)
    (fun n i b hi hb => by
     obtain ⟨b1, b2, b3, b4⟩ := hb
     rw [A4, AM (by simp only; omega)]
     have hai : a[i]? = some a[i] := by simp [hi]
     have hbi : b.1[i]? = some a[i] := by
      have := congrArg (fun l => l[0]?) b3
      simp only [List.getElem?_drop, Nat.add_zero] at this
      rw [this, hai]
     simp only [Br, A1, hbi, oS]
     rw [hf a[i] (List.getElem_mem hi), AI (i := i) (by omega)]
     simp only [oS]
     have hnext : b.1.drop (i + 1) = a.drop (i + 1) := by
      have := congrArg (List.drop 1) b3
      rwa [List.drop_drop, List.drop_drop] at this
     cases hgi : g a[i]
     ·rw [Bool.not_false, AX]
      have hbj : b.1[b.2]? = some b.1[b.2] := by simp [show b.2 < b.1.length from by omega]
      rw [hbj, AI (i := b.2) (by omega)]
      refine ⟨(b.1.set b.2 a[i], b.2 + 1), rfl, by simpa using b1, by simp only; omega, ?_, ?_⟩
      ·simp only
       rw [List.drop_set_of_lt (by omega), hnext]
      ·simp only
       rw [QN (by omega), b4, List.take_add_one, hai, List.filter_append]
       simp [hgi]
     ·rw [Bool.not_true, Av]
      refine ⟨b, rfl, b1, by omega, hnext, ?_⟩
      rw [b4, List.take_add_one, hai, List.filter_append]
      simp [hgi])
    (fun n b hb => by rw [A4, AE (by simp [hb.1])]) N (j + 1) (a, j) (by omega) (by omega) ⟨rfl, by simp only; omega, rfl, hpre.symm⟩
   obtain ⟨b1, b2, b3, b4⟩ := hb
   have e' : A4 N f (fun v4 => (Ef ((0 : Int) ≤ v4.2 ∧ (v4.2).toNat ≤ v4.1.length ∧ v4.1.length ≤ v4.1.length)).bind fun _ =>
     (Ef ((0 : Int) ≤ v4.2 ∧ 0 ≤ (v4.2).toNat ∧ (v4.2).toNat ≤ (HC v4.1 ((v4.2).toNat) (List.replicate ((v4.1.length - (v4.2).toNat)) ((Ai.mk 0 0 0)))).length)).bind fun _ =>
     some ((v4.2).toNat, HC v4.1 ((v4.2).toNat) (List.replicate ((v4.1.length - (v4.2).toNat)) ((Ai.mk 0 0 0))))) N (a, (j : Int), ((j + 1 : Nat) : Int)) = _ := e
   rw [e']
   have hsl : (HC b.1 b.2 (List.replicate (b.1.length - b.2) (Ai.mk 0 0 0))).length = b.1.length := Iu (by rw [List.length_replicate]; omega)
   simp only [Int.toNat_natCast]
   rw [Au ⟨by omega, by omega, Nat.le_refl _⟩, Au ⟨by omega, by omega, by rw [hsl]; omega⟩]
   refine ⟨_, _, rfl, by rw [hsl]; omega, ?_⟩
   unfold HC
   rw [List.append_assoc, List.take_append_of_le_length (by simp; omega), List.take_take, Nat.min_self, b4, List.take_length]
  ·cases hr
theorem Uw (N : Nat) (hN : N ≤ 1000000) (h20 : 100 ≤ N) {p : Ae} {m : Ag} (hv : BZ p = 0) (hm : Co p m) : Hl N p m = some (GR p m, 0) := by
 obtain ⟨hp, _⟩ := DR hv
 unfold Hl
 rw [JH N p m hN (by omega) (NH hm), K5 hv hm]
 simp only [oS, bne_self_eq_false, Av]
 rw [Tp N hN h20 hp]
 simp only [oS]
 have hl := VI hp
 obtain ⟨X, n, e, h1, h2⟩ := TJ N hN (EU p) (fun x => Ex N x p.fb p.fh p.fo p.fc m.fd m.fa m.fe) (fun s => !((Ba p m s).2 == 0)) (by omega) (by omega) (fun x hx => Ue N hN h20 hp hm hx)
 rw [e]
 simp only [oS]
 rw [Au h1, h2]
 unfold GR
 simp
theorem Ju {β : Type} (g : Nat → List β) : ∀ n : Nat, Cg (fun i (_ : Nat) => g i) 0 (List.range n) = (List.range n).flatMap g
 | 0 => rfl
 | n + 1 => by rw [List.range_succ, Ny, Ju g n, List.flatMap_append]; simp [Cg]
def Yg (p : Ae) (m : Ag) (s : Ai) : Bool := (Ba p m s).2 == 0
def gS (p : Ae) (m : Ag) (k : Int) (i v : Nat) : List Ai := if Yg p m ⟨k, (i : Int), (v : Int)⟩ = true then [⟨k, (i : Int), (v : Int)⟩] else []
def bS (p : Ae) (m : Ag) (k : Int) (i : Nat) : List Ai := (List.range 6).flatMap (gS p m k i)
def Vf (p : Ae) : Nat := max p.fb.length p.fc.length
def kS (p : Ae) (m : Ag) (k : Int) : List Ai := (List.range (Vf p)).flatMap (bS p m k)
theorem L0 {β : Type} (f : Nat → β) (q : β → Bool) : ∀ n : Nat, ((List.range n).flatMap fun v => if q (f v) = true then [f v] else []) = ((List.range n).map f).filter q
 | 0 => rfl
 | n + 1 => by
  rw [List.range_succ, List.flatMap_append, L0 f q n, List.map_append, List.filter_append]
  cases h : q (f n) <;> simp [h]
theorem Ma {β : Type} (g : Nat → List β) (a : Nat) (h : ∀ v, a ≤ v → g v = []) : ∀ n, a ≤ n → (List.range n).flatMap g = (List.range a).flatMap g
 | 0, hn => by rw [Nat.le_zero.1 hn]
 | n + 1, hn => by
  by_cases h1 : a = n + 1
  ·rw [h1]
  ·rw [List.range_succ, List.flatMap_append, Ma g a h n (by omega)]
   simp [h n (by omega)]
theorem WM (p : Ae) (m : Ag) (k : Int) (i v : Nat) : (gS p m k i v).length ≤ 1 := by unfold gS; split <;> simp
theorem X4 (p : Ae) (m : Ag) (k : Int) (i : Nat) : (bS p m k i).length ≤ 6 := by
 unfold bS
 rw [← Ju]
 have := Gd (g := fun i' (_ : Nat) => gS p m k i i') (c := 1) (i := 0) (xs := List.range 6) fun j x _ => WM p m k i _
 simpa using this
theorem aO {p : Ae} (hp : Bj p) (m : Ag) (k : Int) : (kS p m k).length ≤ 72 := by
 have h1 := hp.nv
 have h2 := hp.nt
 unfold kS
 rw [← Ju]
 have := Gd (g := fun i' (_ : Nat) => bS p m k i') (c := 6) (i := 0) (xs := List.range (Vf p)) fun j x _ => X4 p m k _
 simp only [List.length_range] at this
 have h3 : Vf p ≤ 12 := by unfold Vf; omega
 omega
theorem Z4 {p : Ae} {m : Ag} {s : Ai} (h : Yg p m s = true) : HO s = true ∧ GS p s = true := by
 unfold Yg Ba at h
 split at h
 ·cases h
 ·rename_i h1
  split at h
  ·cases h
  ·rename_i h2
   exact ⟨by simpa using h1, by simpa using h2⟩
theorem NM {p : Ae} {m : Ag} {k : Int} {i v : Nat} (h : Yg p m ⟨k, (i : Int), (v : Int)⟩ = true) : (k = 3 → i < p.fc.length) ∧ (k ≠ 3 → i < p.fb.length) ∧ (k = 1 → (v : Int) < p.fb.getD i 0) ∧ (k ≠ 1 → v = 0) := by
 obtain ⟨h1, h2⟩ := Z4 h
 obtain ⟨a1, a2, a3, a4, a5⟩ := I9 h1
 obtain ⟨b1, b2, b3⟩ := JQ h2
 simp only [Int.toNat_natCast] at *
 exact ⟨fun e => by have := b1 e; omega, fun e => by have := b2 e; omega, b3, fun e => by have := a5 e; omega⟩
theorem Xv {p : Ae} (hp : Bj p) (m : Ag) : kS p m 1 ++ kS p m 2 ++ kS p m 3 = GR p m := by
 have hnv := hp.nv
 have hnt := hp.nt
 unfold GR EU
 rw [List.filter_append, List.filter_append]
 have e1 : kS p m 1 = (Cg Kk 0 p.fb).filter fun s => (Ba p m s).2 == 0 := by
  unfold kS
  rw [Ma (bS p m 1) p.fb.length (fun i hi => by
   unfold bS
   rw [List.flatMap_eq_nil_iff]
   intro v _
   unfold gS
   rw [if_neg]
   intro h
   have := (NM h).2.1 (by decide)
   omega) (Vf p) (by unfold Vf; omega)]
  have e : ∀ (xs : List Int) (i : Nat), (∀ j x, xs[j]? = some x → 1 ≤ x ∧ x ≤ 6 ∧ p.fb.getD (i + j) 0 = x) → ((List.range xs.length).flatMap fun j => bS p m 1 (i + j)) = (Cg Kk i xs).filter fun s => (Ba p m s).2 == 0 := by
   intro xs
   induction xs with
   | nil => intro i _; rfl
   | cons x xs ih =>
    intro i hx
    rw [List.length_cons, List.range_succ_eq_map, List.flatMap_cons, List.flatMap_map, Cg, List.filter_append]
    have ih' := ih (i + 1) (fun j y hy => by
     have := hx (j + 1) y (by simpa using hy)
     rw [show i + 1 + j = i + (j + 1) from by omega]; exact this)
    have hx0 := hx 0 x rfl
    rw [Nat.add_zero] at hx0
    congr 1
    ·rw [Nat.add_zero]
     unfold bS Kk
     rw [Ma (gS p m 1 i) x.toNat (fun v hv => by
      unfold gS
      rw [if_neg]
      intro h
      have := (NM h).2.2.1 rfl
      rw [hx0.2.2] at this
      omega) 6 (by omega)]
     exact L0 (fun v => (⟨1, (i : Int), ((v : Nat) : Int)⟩ : Ai)) (Yg p m) x.toNat
    ·rw [← ih']
     congr 1
     funext j
     rw [show i + (j + 1) = i + 1 + j from by omega]
  have := e p.fb 0 (fun j x hx => by
   have h1 := hp.ver x (lM hx)
   refine ⟨h1.1, h1.2, ?_⟩
   rw [Nat.zero_add, lD, hx]; rfl)
  simp only [Nat.zero_add] at this
  exact this
 have e23 : ∀ (k : Int) (n : Nat), k ≠ 1 → n ≤ Vf p → (∀ i v, Yg p m ⟨k, ((i : Nat) : Int), ((v : Nat) : Int)⟩ = true → i < n) → kS p m k = (((List.range n).map fun i => (⟨k, ((i : Nat) : Int), 0⟩ : Ai)).filter fun s => (Ba p m s).2 == 0) := by
  intro k n hk hn hi
  unfold kS
  rw [Ma (bS p m k) n (fun i hi' => by
   unfold bS
   rw [List.flatMap_eq_nil_iff]
   intro v _
   unfold gS
   rw [if_neg]
   intro h
   have := hi i v h
   omega) (Vf p) hn]
  show _ = List.filter (Yg p m) _
  rw [← L0 (fun i => (⟨k, ((i : Nat) : Int), 0⟩ : Ai)) (Yg p m) n]
  congr 1
  funext i
  unfold bS
  rw [Ma (gS p m k i) 1 (fun v hv => by
   unfold gS
   rw [if_neg]
   intro h
   have := (NM h).2.2.2 hk
   omega) 6 (by omega)]
  simp [gS]
 rw [e1, e23 2 p.fb.length (by decide) (by unfold Vf; omega) (fun i v h => (NM h).2.1 (by decide)), e23 3 p.fc.length (by decide) (by unfold Vf; omega) (fun i v h => (NM h).1 rfl)]
theorem S6 (a b : Nat) : WC (a : Int) (b : Int) = ((max a b : Nat) : Int) := by
 unfold WC
 omega
theorem R7 (N : Nat) (hN : N ≤ 1000000) (h20 : 100 ≤ N) {p : Ae} {m : Ag} (hv : BZ p = 0) (hm : Co p m) : FI N p m = some (GR p m) := by
 obtain ⟨hp, _⟩ := DR hv
 have hnv := hp.nv
 have hnt := hp.nt
 have hmx : Vf p ≤ 12 := by unfold Vf; omega
 unfold FI
 have hmix := K5 hv hm
 -- one number
 have inn : ∀ (k : Int) (c0 a : List Ai) (i : Nat) (d0 : List Ai) (j : List Ai → Option (List Ai)), a.length ≤ 1000 →
   CJ N p m (c0, k) (d0, (i : Int)) j N (a, 0) = j (a ++ bS p m k i) := by
  intro k c0 a i d0 j ha
  have := DB (CJ N p m (c0, k) (d0, (i : Int)) j) (fun a i => (a, i)) (List.range 6) j (fun v _ => gS p m k i v) 1 2000
   (fun v x _ => WM _ _ _ _ _)
   (fun n v x a hx hl => by
    have hi := (lI.1 hx).1
    simp only [List.length_range] at hi
    rw [CJ, AM (by simp only; omega)]
    simp only [Br]
    rw [Ss N hN h20 (NH hm), if_pos hmix]
    simp only [oS, AI (show v < 1000000 by omega)]
    unfold gS Yg
    cases hq : (Ba p m ⟨k, (i : Int), (v : Int)⟩).2 == 0
    ·rw [Av, if_neg (by simp), List.append_nil]
    ·rw [AX, if_pos rfl, Au (by simp [DM]; unfold gS Yg at hl; rw [hq] at hl; simp at hl; omega)])
   (fun n a => by rw [CJ, AE (by simp)]) N a (by simp; omega) (by simp; omega)
  rw [Ju] at this
  exact this
 have mid : ∀ (k : Int) (c0 a : List Ai) (j : List Ai → Option (List Ai)), a.length ≤ 500 →
   CK N p m (c0, k) j N (a, 0) = j (a ++ kS p m k) := by
  intro k c0 a j ha
  have := DB (CK N p m (c0, k) j) (fun a i => (a, i)) (List.range (Vf p)) j (fun i _ => bS p m k i) 6 900
   (fun v x _ => X4 _ _ _ _)
   (fun n i x a hx hl => by
    have hi := (lI.1 hx).1
    simp only [List.length_range] at hi
    rw [CK, AM (by simp only; rw [S6]; unfold Vf at hi; omega)]
    rw [inn k c0 a i a _ (by omega)]
    simp only [AI (show i < 1000000 by omega)])
   (fun n a => by rw [CK, AE (by simp [S6, Vf])]) N a (by simp; omega) (by simp; omega)
  rw [Ju] at this
  exact this
 have hk := aO hp m
 have go : ∀ (k : Int) (n : Nat) (a : List Ai), k ≤ 3 → 1 ≤ k → a.length ≤ 300 → BM N p m (fun v2 => some v2) (n + 1) (a, k) = BM N p m (fun v2 => some v2) n (a ++ kS p m k, k + 1) := by
  intro k n a h1 h2 ha
  rw [BM, AM h1]
  rw [mid k a a _ (by omega), DH (by omega) (by omega)]
 obtain ⟨N', hN'⟩ : ∃ q, N = q + 4 := ⟨N - 4, by omega⟩
 have e0 : BM N p m (fun v2 => some v2) N ([], 1) = BM N p m (fun v2 => some v2) (N' + 4) ([], 1) := by rw [hN']
 rw [e0, go 1 (N' + 3) [] (by decide) (by decide) (by simp), List.nil_append]
 rw [show (1 : Int) + 1 = 2 from rfl, go 2 (N' + 2) _ (by decide) (by decide) (by have := hk 1; omega)]
 rw [show (2 : Int) + 1 = 3 from rfl, go 3 (N' + 1) _ (by decide) (by decide) (by have h1 := hk 1; have h2 := hk 2; rw [List.length_append]; omega)]
 rw [BM, AE (by simp), Xv hp]
end Go.Lift
namespace Go.Lift
open List renaming mem_of_getElem? → lM
open List renaming getElem?_eq_some_iff → lI
namespace Bfs
section
variable {α σ : Type}
def code (rk : σ → Nat) (K : Nat) (w : List σ) : Nat := w.foldl (fun c s => c * K + rk s) 0
theorem JT (rk : σ → Nat) (K : Nat) (w : List σ) (s : σ) : code rk K (w ++ [s]) = code rk K w * K + rk s := by
 simp [code]
theorem SW (rk : σ → Nat) (K : Nat) : code rk K ([] : List σ) = 0 := rfl
def Dig (rk : σ → Nat) (K : Nat) (w : List σ) : Prop := ∀ s, s ∈ w → 1 ≤ rk s ∧ rk s ≤ K
theorem Dig.snoc {rk : σ → Nat} {K : Nat} {w : List σ} {s : σ} (h : Dig rk K w) (hs : 1 ≤ rk s ∧ rk s ≤ K) : Dig rk K (w ++ [s]) := by
 intro x hx; rcases List.mem_append.1 hx with h1 | h1
 ·exact h x h1
 ·rw [List.mem_singleton.1 h1]; exact hs
theorem Vq {c d K a b : Nat} (h : c < d) (_ : 1 ≤ b) (ha : a ≤ K) : c * K + a < d * K + b := by
 have : c * K + K ≤ d * K := by rw [← Nat.succ_mul]; exact Nat.mul_le_mul_right K h
 omega
theorem YG {c d K a : Nat} (h : c ≤ d) : c * K + a ≤ d * K + a := Nat.add_le_add_right (Nat.mul_le_mul_right K h) a
theorem list_snoc {β : Type} (l : List β) : l = [] ∨ ∃ u s, l = u ++ [s] := by
 cases h : l.reverse with
 | nil => exact .inl (List.reverse_eq_nil_iff.1 h)
 | cons s r => exact .inr ⟨r.reverse, s, by rw [← List.reverse_cons, ← h, List.reverse_reverse]⟩
abbrev Nd (α σ : Type) := α × Int × σ
def put [DecidableEq α] (i : Nat) (l : List (Nd α σ)) (q : σ × α) : List (Nd α σ) := if (l.any fun n => decide (n.1 = q.2)) = true then l else l ++ [(q.2, (i : Int), q.1)]
def inner [DecidableEq α] (most i : Nat) : List (σ × α) → List (Nd α σ) → Option (List (Nd α σ))
 | [], l => some l
 | q :: qs, l => if most < (put i l q).length then none else inner most i qs (put i l q)
def go [DecidableEq α] (nxt : α → List (σ × α)) (most : Nat) : Nat → Nat → List (Nd α σ) → Option (List (Nd α σ))
 | 0, _, _ => none
 | n + 1, i, l => match l[i]? with
  | none => some l
  | some nd => (inner most i (nxt nd.1) l).bind fun l' => go nxt most n (i + 1) l'
structure Inv (nxt : α → List (σ × α)) (rk : σ → Nat) (K : Nat) (root : α) (i : Nat) (done : List (σ × α)) (l : List (Nd α σ)) (ws : List (List σ)) : Prop where
 len : ws.length = l.length
 root : ∃ s, l[0]? = some (root, -1, s)
 root' : ws[0]? = some []
 par : ∀ (k : Nat) x f s, 0 < k → l[k]? = some (x, f, s) → ∃ (j : Nat) (y : α) (g : Int) (t : σ) (w : List σ), f = (j : Int) ∧ j < k ∧ l[j]? = some (y, g, t) ∧ (s, x) ∈ nxt y ∧ ws[j]? = some w ∧ ws[k]? = some (w ++ [s]) ∧ (j < i ∨ (j = i ∧ (s, x) ∈ done))
 nodup : ∀ (a b : Nat) x f s g t, l[a]? = some (x, f, s) → l[b]? = some (x, g, t) → a = b
 inc : ∀ (a b : Nat) u w, ws[a]? = some u → ws[b]? = some w → a < b → code rk K u < code rk K w
 dig : ∀ (k : Nat) w, ws[k]? = some w → Dig rk K w
 closed : ∀ (j : Nat) x f s w, l[j]? = some (x, f, s) → ws[j]? = some w → ∀ q, (j < i ∧ q ∈ nxt x) ∨ (j = i ∧ q ∈ done) → ∃ (k : Nat) (f' : Int) (s' : σ) (w' : List σ), l[k]? = some (q.2, f', s') ∧ ws[k]? = some w' ∧ code rk K w' ≤ code rk K (w ++ [q.1])
theorem get_app {β : Type} {l : List β} {y x : β} {k : Nat} (h : (l ++ [y])[k]? = some x) : l[k]? = some x ∨ (k = l.length ∧ x = y) := by
 rcases Nat.lt_trichotomy k l.length with h1 | h1 | h1
 ·rw [List.getElem?_append_left h1] at h; exact .inl h
 ·subst h1; simp at h; exact .inr ⟨rfl, h.symm⟩
 ·rw [List.getElem?_eq_none (by simp; omega)] at h; cases h
theorem get_app_of {β : Type} {l : List β} {y x : β} {k : Nat} (h : l[k]? = some x) : (l ++ [y])[k]? = some x := by
 rw [List.getElem?_append_left ((lI.1 h).1)]; exact h
theorem get_app_new {β : Type} {l : List β} {y : β} : (l ++ [y])[l.length]? = some y := by simp
theorem lt_get {β : Type} {l : List β} {k : Nat} {x : β} (h : l[k]? = some x) : k < l.length := (lI.1 h).1
theorem get_ex {β : Type} {l : List β} {k : Nat} (h : k < l.length) : ∃ x, l[k]? = some x := ⟨l[k], List.getElem?_eq_getElem h⟩
theorem Y9 [DecidableEq α] {nxt : α → List (σ × α)} {rk : σ → Nat} {K : Nat} {root : α} {i : Nat} {done : List (σ × α)} {l : List (Nd α σ)} {ws : List (List σ)} {x : α} {f : Int} {s : σ} {q : σ × α}
  (hI : Inv nxt rk K root i done l ws) (hx : l[i]? = some (x, f, s)) (hq : q ∈ nxt x) (hd : ∀ r, r ∈ done → rk r.1 < rk q.1) (hr : 1 ≤ rk q.1 ∧ rk q.1 ≤ K) :
  ∃ ws', Inv nxt rk K root i (done ++ [q]) (put i l q) ws' ∧ (∀ (k : Nat) w, ws[k]? = some w → ws'[k]? = some w) ∧ (∀ (k : Nat) n, l[k]? = some n → (put i l q)[k]? = some n) := by
 obtain ⟨w0, hw0⟩ := get_ex (l := ws) (k := i) (by rw [hI.len]; exact lt_get hx)
 unfold put
 by_cases hin : (l.any fun n => decide (n.1 = q.2)) = true
 ·rw [if_pos hin]
  refine ⟨ws, ⟨hI.len, hI.root, hI.root', ?_, hI.nodup, hI.inc, hI.dig, ?_⟩, fun _ _ h => h, fun _ _ h => h⟩
  ·intro k y g t hk hy
   obtain ⟨j, y', g', t', w, h1, h2, h3, h4, h5, h6, h7⟩ := hI.par k y g t hk hy
   exact ⟨j, y', g', t', w, h1, h2, h3, h4, h5, h6, h7.imp id fun h => ⟨h.1, List.mem_append_left _ h.2⟩⟩
  ·intro j y g t w hy hw r hr'
   by_cases hold : (j < i ∧ r ∈ nxt y) ∨ (j = i ∧ r ∈ done)
   ·exact hI.closed j y g t w hy hw r hold
   ·have hjr : j = i ∧ r = q := by
     rcases hr' with h | ⟨h1, h2⟩
     ·exact absurd (.inl h) hold
     ·rcases List.mem_append.1 h2 with h3 | h3
      ·exact absurd (.inr ⟨h1, h3⟩) hold
      ·exact ⟨h1, List.mem_singleton.1 h3⟩
    obtain ⟨rfl, rfl⟩ := hjr
    rw [hw0] at hw; cases hw
    obtain ⟨n, hn1, hn2⟩ := List.any_eq_true.1 hin
    obtain ⟨k, hk⟩ := List.mem_iff_getElem?.1 hn1
    obtain ⟨nx, nf, ns⟩ := n
    have hn2 : nx = r.2 := of_decide_eq_true hn2
    subst hn2
    obtain ⟨wk, hwk⟩ := get_ex (l := ws) (k := k) (by rw [hI.len]; exact lt_get hk)
    refine ⟨k, nf, ns, wk, hk, hwk, ?_⟩
    rw [JT]
    rcases Nat.eq_zero_or_pos k with rfl | hk0
    ·rw [hI.root'] at hwk; cases hwk; rw [SW]; omega
    ·obtain ⟨j', y', g', t', w, h1, h2, h3, h4, h5, h6, h7⟩ := hI.par k _ _ _ hk0 hk
     rw [h6] at hwk; cases hwk
     rw [JT]
     have hdg : 1 ≤ rk ns ∧ rk ns ≤ K := hI.dig k _ h6 ns (by simp)
     rcases h7 with h7 | ⟨h7, h8⟩
     ·exact Nat.le_of_lt (Vq (hI.inc _ _ _ _ h5 hw0 h7) hr.1 hdg.2)
     ·subst h7; rw [hw0] at h5; cases h5
      have := hd _ h8
      simp only at this; omega
 ·rw [if_neg hin]
  have hnew : ∀ (k : Nat) y g t, l[k]? = some (y, g, t) → y ≠ q.2 := fun k y g t hy e => hin (List.any_eq_true.2 ⟨_, lM hy, decide_eq_true e⟩)
  have hbig : ∀ (k : Nat) u, ws[k]? = some u → code rk K u < code rk K (w0 ++ [q.1]) := by
   intro k u hu
   rw [JT]
   obtain ⟨⟨nx, nf, ns⟩, hk⟩ := get_ex (l := l) (k := k) (by rw [← hI.len]; exact lt_get hu)
   rcases Nat.eq_zero_or_pos k with rfl | hk0
   ·rw [hI.root'] at hu; cases hu; rw [SW]; omega
   ·obtain ⟨j', y', g', t', w, h1, h2, h3, h4, h5, h6, h7⟩ := hI.par k _ _ _ hk0 hk
    rw [h6] at hu; cases hu
    rw [JT]
    have hdg : 1 ≤ rk ns ∧ rk ns ≤ K := hI.dig k _ h6 ns (by simp)
    rcases h7 with h7 | ⟨h7, h8⟩
    ·exact Vq (hI.inc _ _ _ _ h5 hw0 h7) hr.1 hdg.2
    ·subst h7; rw [hw0] at h5; cases h5
     have := hd _ h8
     simp only at this; omega
  refine ⟨ws ++ [w0 ++ [q.1]], ⟨by simp [hI.len], ?_, get_app_of hI.root', ?_, ?_, ?_, ?_, ?_⟩, fun _ _ h => get_app_of h, fun _ _ h => get_app_of h⟩
  ·obtain ⟨s0, hs0⟩ := hI.root; exact ⟨s0, get_app_of hs0⟩
  ·intro k y g t hk hy
   rcases get_app hy with hy | ⟨hk1, hy⟩
   ·obtain ⟨j, y', g', t', w, h1, h2, h3, h4, h5, h6, h7⟩ := hI.par k y g t hk hy
    exact ⟨j, y', g', t', w, h1, h2, get_app_of h3, h4, get_app_of h5, get_app_of h6, h7.imp id fun h => ⟨h.1, List.mem_append_left _ h.2⟩⟩
   ·cases hy
    refine ⟨i, x, f, s, w0, rfl, by rw [hk1]; exact lt_get hx, get_app_of hx, hq, get_app_of hw0, by rw [hk1, ← hI.len]; exact get_app_new, .inr ⟨rfl, by simp⟩⟩
  ·intro a b y g t g' t' ha hb
   rcases get_app ha with ha | ⟨ha1, ha⟩ <;> rcases get_app hb with hb | ⟨hb1, hb⟩
   ·exact hI.nodup a b y g t g' t' ha hb
   ·cases hb; exact absurd rfl (hnew _ _ _ _ ha)
   ·cases ha; exact absurd rfl (hnew _ _ _ _ hb)
   ·omega
  ·intro a b u w ha hb hab
   rcases get_app ha with ha | ⟨ha1, ha⟩ <;> rcases get_app hb with hb | ⟨hb1, hb⟩
   ·exact hI.inc a b u w ha hb hab
   ·rw [hb]; exact hbig _ _ ha
   ·have := lt_get hb; omega
   ·omega
  ·intro k w hw
   rcases get_app hw with hw | ⟨hw1, hw⟩
   ·exact hI.dig k w hw
   ·rw [hw]; exact (hI.dig _ _ hw0).snoc hr
  ·intro j y g t w hy hw r hr'
   rcases get_app hy with hy1 | ⟨hy1, hy2⟩
   ·have hw1 : ws[j]? = some w := by
     rcases get_app hw with h | ⟨h, _⟩
     ·exact h
     ·have := lt_get hy1; rw [← hI.len] at this; omega
    by_cases hold : (j < i ∧ r ∈ nxt y) ∨ (j = i ∧ r ∈ done)
    ·obtain ⟨k, f', s', w', h1, h2, h3⟩ := hI.closed j y g t w hy1 hw1 r hold
     exact ⟨k, f', s', w', get_app_of h1, get_app_of h2, h3⟩
    ·have hjr : j = i ∧ r = q := by
      rcases hr' with h | ⟨h1, h2⟩
      ·exact absurd (.inl h) hold
      ·rcases List.mem_append.1 h2 with h3 | h3
       ·exact absurd (.inr ⟨h1, h3⟩) hold
       ·exact ⟨h1, List.mem_singleton.1 h3⟩
     obtain ⟨rfl, rfl⟩ := hjr
     rw [hw0] at hw1; cases hw1
     exact ⟨l.length, _, _, _, get_app_new, by rw [← hI.len]; exact get_app_new, Nat.le_refl _⟩
   ·have := lt_get hx
    rcases hr' with h | h <;> omega
theorem Rx [DecidableEq α] {nxt : α → List (σ × α)} {rk : σ → Nat} {K : Nat} {root : α} {i most : Nat} {x : α} {f : Int} {s : σ} (hP : (nxt x).Pairwise fun a b => rk a.1 < rk b.1) (hD : ∀ q, q ∈ nxt x → 1 ≤ rk q.1 ∧ rk q.1 ≤ K) :
  ∀ (qs done : List (σ × α)) (l l' : List (Nd α σ)) (ws : List (List σ)), done ++ qs = nxt x → Inv nxt rk K root i done l ws → l[i]? = some (x, f, s) → inner most i qs l = some l' →
   ∃ ws', Inv nxt rk K root i (nxt x) l' ws' ∧ (∀ (k : Nat) w, ws[k]? = some w → ws'[k]? = some w) ∧ (∀ (k : Nat) n, l[k]? = some n → l'[k]? = some n)
 | [], done, l, l', ws, he, hI, hx, h => by
  cases h; rw [List.append_nil] at he; subst he; exact ⟨ws, hI, fun _ _ h => h, fun _ _ h => h⟩
 | q :: qs, done, l, l', ws, he, hI, hx, h => by
  have hqm : q ∈ nxt x := by rw [← he]; simp
  have hlt : ∀ r, r ∈ done → rk r.1 < rk q.1 := fun r hr => by
   rw [← he] at hP
   exact (List.pairwise_append.1 hP).2.2 r hr q (by simp)
  obtain ⟨ws1, h1, h2, h3⟩ := Y9 hI hx hqm hlt (hD q hqm)
  simp only [inner] at h
  split at h
  ·cases h
  ·obtain ⟨ws2, g1, g2, g3⟩ := Rx hP hD qs (done ++ [q]) _ l' ws1 (by rw [List.append_assoc]; exact he) h1 (h3 _ _ hx) h
   exact ⟨ws2, g1, fun k w hw => g2 k w (h2 k w hw), fun k n hn => g3 k n (h3 k n hn)⟩
theorem W1 {nxt : α → List (σ × α)} {rk : σ → Nat} {K : Nat} {root : α} {i : Nat} {x : α} {f : Int} {s : σ} {l : List (Nd α σ)} {ws : List (List σ)} (h : Inv nxt rk K root i (nxt x) l ws) (hx : l[i]? = some (x, f, s)) : Inv nxt rk K root (i + 1) [] l ws := by
 refine ⟨h.len, h.root, h.root', ?_, h.nodup, h.inc, h.dig, ?_⟩
 ·intro k y g t hk hy
  obtain ⟨j, y', g', t', w, h1, h2, h3, h4, h5, h6, h7⟩ := h.par k y g t hk hy
  exact ⟨j, y', g', t', w, h1, h2, h3, h4, h5, h6, .inl (by rcases h7 with h7 | h7 <;> omega)⟩
 ·intro j y g t w hy hw r hr
  rcases hr with ⟨h1, h2⟩ | ⟨_, h2⟩
  ·refine h.closed j y g t w hy hw r ?_
   by_cases hj : j < i
   ·exact .inl ⟨hj, h2⟩
   ·have : j = i := by omega
    subst this; rw [hx] at hy; cases hy; exact .inr ⟨rfl, h2⟩
  ·cases h2
theorem inv_go [DecidableEq α] {nxt : α → List (σ × α)} {rk : σ → Nat} {K : Nat} {root : α} {most : Nat} (P : α → Prop) (hP : ∀ x, P x → (nxt x).Pairwise fun a b => rk a.1 < rk b.1) (hD : ∀ x, P x → ∀ q, q ∈ nxt x → (1 ≤ rk q.1 ∧ rk q.1 ≤ K) ∧ P q.2) (hroot : P root) :
  ∀ (n i : Nat) (l l' : List (Nd α σ)) (ws : List (List σ)), i ≤ l.length → Inv nxt rk K root i [] l ws → (∀ (k : Nat) x f s, l[k]? = some (x, f, s) → P x) → go nxt most n i l = some l' → ∃ ws', Inv nxt rk K root l'.length [] l' ws' ∧ (∀ (k : Nat) x f s, l'[k]? = some (x, f, s) → P x)
 | 0, i, l, l', ws, _, _, _, h => by cases h
 | n + 1, i, l, l', ws, hi, hI, hA, h => by
  simp only [go] at h
  split at h
  ·rename_i hn
   cases h
   have : i = l.length := by
    have := List.getElem?_eq_none_iff.1 hn; omega
   subst this
   exact ⟨ws, hI, hA⟩
  ·rename_i nd hn
   obtain ⟨x, f, s⟩ := nd
   cases hin : inner most i (nxt x) l with
   | none => rw [hin] at h; cases h
   | some l1 =>
    rw [hin] at h
    have hx := hA _ _ _ _ hn
    obtain ⟨ws1, h1, h2, h3⟩ := Rx (hP x hx) (fun q hq => (hD x hx q hq).1) (nxt x) [] l l1 ws rfl hI hn hin
    have hA1 : ∀ (k : Nat) y g t, l1[k]? = some (y, g, t) → P y := fun k y g t hy => by
     rcases Nat.eq_zero_or_pos k with rfl | hk
     ·obtain ⟨s0, hs0⟩ := h1.root; rw [hs0] at hy; cases hy; exact hroot
     ·obtain ⟨j, y', g', t', w, e1, e2, e3, e4, e5, e6, e7⟩ := h1.par k y g t hk hy
      have hj : P y' := by
       have hjl : j < l.length := by rcases e7 with h | h <;> have := lt_get hn <;> omega
       obtain ⟨⟨z, zf, zs⟩, hz⟩ := get_ex hjl
       have := h3 _ _ hz
       rw [e3] at this; cases this
       exact hA _ _ _ _ hz
      exact (hD y' hj _ e4).2
    exact inv_go P hP hD hroot n (i + 1) l1 l' ws1 (by have := lt_get (h3 _ _ hn); omega) (W1 h1 (h3 _ _ hn)) hA1 h
theorem inv_start {nxt : α → List (σ × α)} {rk : σ → Nat} {K : Nat} {root : α} {s : σ} : Inv nxt rk K root 0 [] [(root, -1, s)] [[]] := by
 refine ⟨rfl, ⟨s, rfl⟩, rfl, ?_, ?_, ?_, ?_, ?_⟩
 ·intro k x f s hk h; rw [List.getElem?_eq_none (by simp; omega)] at h; cases h
 ·intro a b x f s g t ha hb; have := lt_get ha; have := lt_get hb; simp at *; omega
 ·intro a b u w ha hb hab; have := lt_get hb; simp at this; omega
 ·intro k w hw
  have := lt_get hw; simp at this; subst this; simp at hw; subst hw
  intro s hs; cases hs
 ·intro j x f s w _ _ q h
  rcases h with h | h
  ·omega
  ·cases h.2
def run (nxt : α → List (σ × α)) (x : α) : List σ → α → Prop
 | [], y => y = x
 | s :: w, y => ∃ z, (s, z) ∈ nxt x ∧ run nxt z w y
theorem Ha {nxt : α → List (σ × α)} : ∀ {u w : List σ} {x y : α}, run nxt x (u ++ w) y ↔ ∃ z, run nxt x u z ∧ run nxt z w y
 | [], w, x, y => by simp [run]
 | s :: u, w, x, y => by
  simp only [List.cons_append, run]
  constructor
  ·rintro ⟨z, h1, h2⟩
   obtain ⟨z', h3, h4⟩ := Ha.1 h2
   exact ⟨z', ⟨z, h1, h3⟩, h4⟩
  ·rintro ⟨z', ⟨z, h1, h3⟩, h4⟩
   exact ⟨z, h1, Ha.2 ⟨z', h3, h4⟩⟩
theorem way_run {nxt : α → List (σ × α)} {rk : σ → Nat} {K : Nat} {root : α} {i : Nat} {l : List (Nd α σ)} {ws : List (List σ)} (h : Inv nxt rk K root i [] l ws) : ∀ (n k : Nat) {x : α} {f : Int} {s : σ} {w : List σ}, k < n → l[k]? = some (x, f, s) → ws[k]? = some w → run nxt root w x
 | 0, k, _, _, _, _, hk, _, _ => by omega
 | n + 1, k, x, f, s, w, hk, hx, hw => by
  rcases Nat.eq_zero_or_pos k with rfl | hk0
  ·obtain ⟨s0, hs0⟩ := h.root; rw [hs0] at hx; cases hx
   rw [h.root'] at hw; cases hw; rfl
  ·obtain ⟨j, y', g', t', w', e1, e2, e3, e4, e5, e6, e7⟩ := h.par k _ _ _ hk0 hx
   rw [e6] at hw; cases hw
   exact Ha.2 ⟨y', way_run h n j (by omega) e3 e5, x, e4, rfl⟩
theorem reach_node {nxt : α → List (σ × α)} {rk : σ → Nat} {K : Nat} {root : α} {l : List (Nd α σ)} {ws : List (List σ)} (h : Inv nxt rk K root l.length [] l ws) : ∀ (n : Nat) {w : List σ} {y : α}, w.length = n → run nxt root w y → ∃ (k : Nat) (f : Int) (s : σ) (u : List σ), l[k]? = some (y, f, s) ∧ ws[k]? = some u ∧ code rk K u ≤ code rk K w
 | 0, w, y, hn, hr => by
  rw [List.length_eq_zero_iff.1 hn] at hr ⊢
  simp only [run] at hr; subst hr
  obtain ⟨s, hs⟩ := h.root
  exact ⟨0, _, _, _, hs, h.root', Nat.le_refl _⟩
 | n + 1, w, y, hn, hr => by
  rcases list_snoc w with rfl | ⟨w', s, rfl⟩
  ·simp at hn
  obtain ⟨z, h1, h2⟩ := Ha.1 hr
  simp only [run] at h2
  obtain ⟨z', h2, rfl⟩ := h2
  simp only [List.length_append, List.length_singleton] at hn
  obtain ⟨k, f, t, u, g1, g2, g3⟩ := reach_node h n (by omega) h1
  obtain ⟨k', f', s', u', e1, e2, e3⟩ := h.closed k z f t u g1 g2 (s, y) (.inl ⟨lt_get g1, h2⟩)
  refine ⟨k', f', s', u', e1, e2, Nat.le_trans e3 ?_⟩
  rw [JT, JT]
  exact YG g3
theorem PN [DecidableEq α] {most more i : Nat} (hm : most ≤ more) : ∀ (qs : List (σ × α)) (l l' : List (Nd α σ)), inner most i qs l = some l' → inner more i qs l = some l'
 | [], l, l', h => h
 | q :: qs, l, l', h => by
  simp only [inner] at h ⊢
  split at h
  ·cases h
  ·rw [if_neg (by omega)]; exact PN hm qs _ _ h
theorem go_more [DecidableEq α] {nxt : α → List (σ × α)} {most more : Nat} (hm : most ≤ more) : ∀ (n m i : Nat) (l l' : List (Nd α σ)), n ≤ m → go nxt most n i l = some l' → go nxt more m i l = some l'
 | 0, m, i, l, l', _, h => by cases h
 | n + 1, m, i, l, l', hnm, h => by
  obtain ⟨m, rfl⟩ : ∃ k, m = k + 1 := ⟨m - 1, by omega⟩
  simp only [go] at h ⊢
  cases hl : l[i]? with
  | none => rw [hl] at h; exact h
  | some nd =>
   rw [hl] at h
   simp only at h ⊢
   cases hin : inner most i (nxt nd.1) l with
   | none => rw [hin] at h; cases h
   | some l1 =>
    rw [hin] at h
    rw [PN hm _ _ _ hin]
    exact go_more hm n m (i + 1) l1 l' (by omega) h
theorem inner_len [DecidableEq α] {most i : Nat} : ∀ (qs : List (σ × α)) (l l' : List (Nd α σ)), l.length ≤ most → inner most i qs l = some l' → l'.length ≤ most
 | [], l, l', h0, h => by cases h; exact h0
 | q :: qs, l, l', h0, h => by
  simp only [inner] at h
  split at h
  ·cases h
  ·exact inner_len qs _ _ (by omega) h
theorem go_len [DecidableEq α] {nxt : α → List (σ × α)} {most : Nat} : ∀ (n i : Nat) (l l' : List (Nd α σ)), l.length ≤ most → go nxt most n i l = some l' → l'.length ≤ most
 | 0, i, l, l', _, h => by cases h
 | n + 1, i, l, l', h0, h => by
  simp only [go] at h
  split at h
  ·cases h; exact h0
  ·rename_i nd hn
   cases hin : inner most i (nxt nd.1) l with
   | none => rw [hin] at h; cases h
   | some l1 => rw [hin] at h; exact go_len n (i + 1) l1 l' (inner_len _ _ _ h0 hin) h
end
end Bfs
end Go.Lift
namespace Go.Lift
open IntKind renaming wrap → wI
open Option renaming bind_some → oS
open List renaming mem_of_getElem? → lM
open List renaming getElem?_eq_some_iff → lI
open List renaming getD_eq_getElem?_getD → lD
open Go
theorem To : ∀ {l : List Int}, al l = 0 → ∀ x, x ∈ l → x = 0
 | [], _, x, hx => by cases hx
 | y :: ys, h, x, hx => by
  unfold al at h
  split at h
  ·rename_i hy
   rcases List.mem_cons.1 hx with rfl | hx
   ·exact hy
   ·exact To h x hx
  ·rename_i hy; exact absurd h hy
theorem Rk {a b : Ag} (h : UE a b = 0) : a = b := by
 have := To h
 have h1 := Pi _ _ (this (JJ a.fd b.fd) (by simp))
 have h2 := Pi _ _ (this (JJ a.fa b.fa) (by simp))
 have h3 := Pi _ _ (this (JJ a.fe b.fe) (by simp))
 cases a; cases b; simp only at h1 h2 h3; subst h1; subst h2; subst h3; rfl
instance d3 : DecidableEq Ag := fun a b => if h : UE a b = 0 then isTrue (Rk h) else isFalse (fun e => h (by rw [e]; exact Q8 b))
theorem Xf (a b : Ag) : (UE a b == 0) = decide (a = b) := by
 by_cases h : a = b
 ·rw [decide_eq_true h, h, Q8]; rfl
 ·rw [decide_eq_false h]
  exact beq_eq_false_iff_ne.2 fun e => h (Rk e)
def RK (p : Ae) (m : Ag) (ss : List Ai) : List (Ai × Ag) := ss.filterMap fun s => if BJ p (Ba p m s).1 = true then some (s, (Ba p m s).1) else none
def Js (p : Ae) (m : Ag) : List (Ai × Ag) := RK p m (GR p m)
def Nh (s : Ai) : Nat := if s.ff = 1 then 1 + 8 * s.fi.toNat + s.fr.toNat else if s.ff = 2 then 60 + s.fi.toNat else 70 + s.fi.toNat
theorem IZ {p : Ae} {m : Ag} {s : Ai} (h : s ∈ GR p m) : s ∈ EU p ∧ (Ba p m s).2 = 0 := by
 unfold GR at h
 have := List.mem_filter.1 h
 exact ⟨this.1, by simpa using this.2⟩
theorem Pg {p : Ae} {m : Ag} {ss : List Ai} {q : Ai × Ag} : q ∈ RK p m ss ↔ q.1 ∈ ss ∧ q.2 = (Ba p m q.1).1 ∧ BJ p q.2 = true := by
 unfold RK
 rw [List.mem_filterMap]
 constructor
 ·rintro ⟨s, h1, h2⟩
  split at h2
  ·rename_i h3; cases h2; exact ⟨h1, rfl, h3⟩
  ·cases h2
 ·rintro ⟨h1, h2, h3⟩
  refine ⟨q.1, h1, ?_⟩
  rw [← h2, if_pos h3]
theorem NV {p : Ae} {m : Ag} {q : Ai × Ag} : q ∈ Js p m ↔ q.1 ∈ GR p m ∧ q.2 = (Ba p m q.1).1 ∧ BJ p q.2 = true := Pg
theorem Vp {p : Ae} {m : Ag} (hp : Bj p) (hm : Co p m) {q : Ai × Ag} (h : q ∈ Js p m) : Co p q.2 ∧ BJ p q.2 = true := by
 obtain ⟨h1, h2, h3⟩ := NV.1 h
 exact ⟨by rw [h2]; exact Mp hp hm (IZ h1).2, h3⟩
theorem PX {p : Ae} (hp : Bj p) {s : Ai} (h : s ∈ EU p) : s.ff ≤ 3 ∧ 1 ≤ Nh s ∧ Nh s ≤ 100 := by
 obtain ⟨h1, h2⟩ := OD hp h
 obtain ⟨a1, a2, a3, a4, a5⟩ := I9 h1
 obtain ⟨b1, b2, b3⟩ := JQ h2
 have hnv := hp.nv
 have hnt := hp.nt
 have hk : s.ff ≤ 3 := by
  unfold EU at h
  rcases List.mem_append.1 h with h | h
  ·rcases List.mem_append.1 h with h | h
   ·obtain ⟨j, x, hx, hk⟩ := Gf.1 h
    unfold Kk at hk
    obtain ⟨v, hv, rfl⟩ := List.mem_map.1 hk
    exact (by decide : (1 : Int) ≤ 3)
   ·obtain ⟨v, hv, rfl⟩ := List.mem_map.1 h
    exact (by decide : (2 : Int) ≤ 3)
  ·obtain ⟨v, hv, rfl⟩ := List.mem_map.1 h
   exact (by decide : (3 : Int) ≤ 3)
 refine ⟨hk, ?_⟩
 unfold Nh
 by_cases h1 : s.ff = 1
 ·rw [if_pos h1]
  have := b2 (by omega)
  have h3 := b3 h1
  have h4 := (Jy hp (i := s.fi.toNat) (by omega)).2
  omega
 ·rw [if_neg h1]
  by_cases h2 : s.ff = 2
  ·rw [if_pos h2]
   have := b2 (by omega)
   omega
  ·rw [if_neg h2]
   have := b1 (by omega)
   omega
theorem YP (i : Nat) (n : Int) : (Kk i n).Pairwise fun a b => Nh a < Nh b := by
 unfold Kk
 rw [List.pairwise_map]
 refine List.Pairwise.imp ?_ List.pairwise_lt_range
 intro a b h
 simp [Nh]; omega
theorem Zo {p : Ae} (hp : Bj p) : (EU p).Pairwise fun a b => Nh a < Nh b := by
 have hnv := hp.nv
 have hnt := hp.nt
 have e1 : ∀ (xs : List Int) (i : Nat), (∀ x, x ∈ xs → x ≤ 6) → (Cg Kk i xs).Pairwise fun a b => Nh a < Nh b := by
  intro xs
  induction xs with
  | nil => intro i _; exact List.Pairwise.nil
  | cons x xs ih =>
   intro i hx
   rw [Cg, List.pairwise_append]
   refine ⟨YP i x, ih (i + 1) fun y hy => hx y (List.mem_cons_of_mem _ hy), ?_⟩
   intro a ha b hb
   unfold Kk at ha
   obtain ⟨v, hv, rfl⟩ := List.mem_map.1 ha
   obtain ⟨j, y, hy, hb⟩ := Gf.1 hb
   unfold Kk at hb
   obtain ⟨w, hw, rfl⟩ := List.mem_map.1 hb
   have := hx x (by simp)
   have := List.mem_range.1 hv
   simp [Nh]; omega
 unfold EU
 rw [List.pairwise_append, List.pairwise_append]
 refine ⟨⟨e1 _ 0 fun x hx => (hp.ver x hx).2, ?_, ?_⟩, ?_, ?_⟩
 ·rw [List.pairwise_map]
  refine List.Pairwise.imp ?_ List.pairwise_lt_range
  intro a b h
  simp [Nh]; omega
 ·intro a ha b hb
  obtain ⟨w, hw, rfl⟩ := List.mem_map.1 hb
  obtain ⟨j, y, hy, ha⟩ := Gf.1 ha
  unfold Kk at ha
  obtain ⟨v, hv, rfl⟩ := List.mem_map.1 ha
  have := List.mem_range.1 hv
  have := (hp.ver y (lM hy)).2
  have := (lI.1 hy).1
  simp [Nh]; omega
 ·rw [List.pairwise_map]
  refine List.Pairwise.imp ?_ List.pairwise_lt_range
  intro a b h
  simp [Nh]; omega
 ·intro a ha b hb
  obtain ⟨w, hw, rfl⟩ := List.mem_map.1 hb
  have hw := List.mem_range.1 hw
  rcases List.mem_append.1 ha with ha | ha
  ·obtain ⟨j, y, hy, ha⟩ := Gf.1 ha
   unfold Kk at ha
   obtain ⟨v, hv, rfl⟩ := List.mem_map.1 ha
   have := List.mem_range.1 hv
   have := (hp.ver y (lM hy)).2
   have := (lI.1 hy).1
   simp [Nh]; omega
  ·obtain ⟨v, hv, rfl⟩ := List.mem_map.1 ha
   have := List.mem_range.1 hv
   simp [Nh]; omega
theorem ag {p : Ae} {m : Ag} {ss : List Ai} (h : ss.Pairwise fun a b => Nh a < Nh b) : (RK p m ss).Pairwise fun a b => Nh a.1 < Nh b.1 := by
 unfold RK
 rw [List.pairwise_filterMap]
 refine List.Pairwise.imp ?_ h
 intro a b hab x hx y hy
 split at hx
 ·cases hx
  split at hy
  ·cases hy; exact hab
  ·cases hy
 ·cases hx
theorem ab {p : Ae} (hp : Bj p) (m : Ag) : (Js p m).Pairwise fun a b => Nh a.1 < Nh b.1 := ag ((Zo hp).filter _)
theorem YT {p : Ae} {s : Ai} (hv : HO s = true) (hx : GS p s = true) (hk : s.ff ≠ 4) : s ∈ EU p := by
 obtain ⟨a1, a2, a3, a4, a5⟩ := I9 hv
 obtain ⟨b1, b2, b3⟩ := JQ hx
 obtain ⟨k, i, v⟩ := s
 simp only at *
 unfold EU
 obtain ⟨i, rfl⟩ := Int.eq_ofNat_of_zero_le a3
 by_cases h1 : k = 1
 ·subst h1
  have h2 := b2 (by decide)
  have h3 := b3 rfl
  obtain ⟨v, rfl⟩ := Int.eq_ofNat_of_zero_le a4
  refine List.mem_append_left _ (List.mem_append_left _ (Gf.2 ⟨i, p.fb.getD i 0, ?_, ?_⟩))
  ·rw [lD]
   have hi : i < p.fb.length := by omega
   simp [hi]
  ·unfold Kk
   refine List.mem_map.2 ⟨v, List.mem_range.2 ?_, by simp⟩
   simp only [Int.toNat_natCast] at h3
   omega
 ·have hv0 := a5 h1
  subst hv0
  by_cases h2 : k = 2
  ·subst h2
   have := b2 (by decide)
   exact List.mem_append_left _ (List.mem_append_right _ (List.mem_map.2 ⟨i, List.mem_range.2 (by omega), rfl⟩))
  ·have h3 : k = 3 := by omega
   subst h3
   have := b1 rfl
   exact List.mem_append_right _ (List.mem_map.2 ⟨i, List.mem_range.2 (by omega), rfl⟩)
theorem Q6 {p : Ae} {m x : Ag} {s : Ai} : Nj p m s = some x → (s, x) ∈ Js p m := by
 intro h
 obtain ⟨h1, h2, h3, h4, h5⟩ := Ws.1 h
 unfold Nj at h
 split at h
 ·rename_i h6
  cases h
  refine NV.2 ⟨?_, rfl, h6.2.2⟩
  unfold GR
  exact List.mem_filter.2 ⟨YT h1 h2 h4, by simpa using h6.1⟩
 ·cases h
theorem Wi {p : Ae} (hp : Bj p) {m x : Ag} {s : Ai} (h : (s, x) ∈ Js p m) : Nj p m s = some x := by
 obtain ⟨h1, h2, h3⟩ := NV.1 h
 have h1 : s ∈ GR p m := h1
 obtain ⟨h4, h5⟩ := IZ h1
 have := (PX hp h4).1
 have h2 : x = (Ba p m s).1 := h2
 have h3 : BJ p x = true := h3
 unfold Nj
 rw [if_pos ⟨h5, by omega, by rw [← h2]; exact h3⟩, h2]
theorem N0 {p : Ae} (hp : Bj p) : ∀ {w : List Ai} {m x : Ag}, QE p m w = some x ↔ Bfs.run (Js p) m w x
 | [], m, x => by simp only [QE, Bfs.run, Option.some.injEq]; exact eq_comm
 | s :: w, m, x => by
  simp only [QE, Bfs.run]
  constructor
  ·intro h
   cases hs : Nj p m s with
   | none => rw [hs] at h; cases h
   | some z => rw [hs] at h; exact ⟨z, Q6 hs, (N0 hp).1 h⟩
  ·rintro ⟨z, h1, h2⟩
   rw [Wi hp h1]
   exact (N0 hp).2 h2
abbrev Kn := Bfs.Nd Ag Ai
def LL (n : Kn) : AN := ⟨n.1, n.2.1, n.2.2⟩
def NQ : Ai := ⟨0, 0, 0⟩
theorem Xj {N : Nat} {p : Ae} {a b : Ag} (hN : N ≤ 1000000) (h20 : 100 ≤ N) (hp : Bj p) (ha : Co p a) (hb : Co p b) : FD N a b = some (decide (a = b)) := by
 have hnv := hp.nv
 have hnt := hp.nt
 unfold FD
 rw [Td hN (by rw [ha.base]; omega) (by rw [ha.next]; omega) (by rw [ha.held]; omega) (by rw [hb.held]; omega) (NH ha) (NH hb)]
 simp only [oS]
 rw [Xf]
theorem Te {N : Nat} (hN : N ≤ 1000000) (h20 : 100 ≤ N) {p : Ae} (hp : Bj p) {x : Ag} (hx : Co p x) {l : List Kn} (hl : l.length < N) (hA : ∀ n, n ∈ l → Co p n.1) :
  ∃ r, Fb N (l.map LL) x = some r ∧ decide (r < 0) = !(l.any fun n => decide (n.1 = x)) := by
 unfold Fb
 have := DP (C2 N (l.map LL) x fun _ => some (-1)) l (some (-1)) (fun i n => if n.1 = x then some (i : Int) else none)
  (fun n i nd hnd => by
   have hi := (lI.1 hnd).1
   rw [C2, AM (by rw [List.length_map]; omega), A1, List.getElem?_map, hnd]
   simp only [Option.map_some, oS, LL]
   have e := Xj hN h20 hp (hA nd (lM hnd)) hx
   rw [show (Ag.mk nd.1.fd nd.1.fa nd.1.fe) = nd.1 from rfl, e, AI (by omega)]
   simp only [oS]
   by_cases h : nd.1 = x
   ·rw [decide_eq_true h, if_pos h]; rfl
   ·rw [decide_eq_false h, if_neg h]; rfl)
  (fun n => by rw [C2, AE (by simp)]) N 0 (Nat.zero_le _) (by omega)
 have e' : C2 N (l.map LL) x (fun _ => some (-1)) N 0 = _ := this
 rw [e', List.drop_zero]
 cases hs : Ep (fun i (n : Kn) => if n.1 = x then some (i : Int) else none) 0 l with
 | none =>
  refine ⟨_, rfl, ?_⟩
  have : (l.any fun n => decide (n.1 = x)) = false := by
   rw [List.any_eq_false]
   intro n hn
   obtain ⟨j, hj⟩ := List.mem_iff_getElem?.1 hn
   have := Ge hs j n hj
   split at this
   ·cases this
   ·rename_i h; simpa using h
  rw [this]; rfl
 | some r =>
  refine ⟨_, rfl, ?_⟩
  obtain ⟨j, n, hj, hr⟩ := FV hs
  split at hr
  ·rename_i h
   cases hr
   have : (l.any fun n => decide (n.1 = x)) = true := List.any_eq_true.2 ⟨n, lM hj, decide_eq_true h⟩
   rw [this]
   exact decide_eq_false (by omega)
  ·cases hr
theorem Tu {i : Nat} {l : List Kn} {q : Ai × Ag} {k : Nat} {n : Kn} (h : l[k]? = some n) : (Bfs.put i l q)[k]? = some n := by
 unfold Bfs.put
 split
 ·exact h
 ·exact Bfs.get_app_of h
theorem Vu {i : Nat} {l : List Kn} {q : Ai × Ag} {n : Kn} (h : n ∈ Bfs.put i l q) : n ∈ l ∨ n.1 = q.2 := by
 unfold Bfs.put at h
 split at h
 ·exact .inl h
 ·rcases List.mem_append.1 h with h | h
  ·exact .inl h
  ·rw [List.mem_singleton.1 h]; exact .inr rfl
theorem TX {p : Ae} {m : Ag} {s : Ai} {ss : List Ai} : RK p m (s :: ss) = if BJ p (Ba p m s).1 = true then (s, (Ba p m s).1) :: RK p m ss else RK p m ss := by
 unfold RK
 rw [List.filterMap_cons]
 split <;> rename_i h
 ·split at h
  ·cases h
  ·rename_i h2; rw [if_neg h2]
 ·split at h
  ·rename_i h2; cases h; rw [if_pos h2]
  ·cases h
theorem Lo {p : Ae} {most i : Nat} : ∀ {qs : List (Ai × Ag)} {l l' : List Kn}, Bfs.inner most i qs l = some l' → (∀ q, q ∈ qs → Co p q.2 ∧ BJ p q.2 = true) → (∀ n, n ∈ l → Co p n.1 ∧ BJ p n.1 = true) → (∀ n, n ∈ l' → Co p n.1 ∧ BJ p n.1 = true) ∧ (∀ (k : Nat) n, l[k]? = some n → l'[k]? = some n)
 | [], l, l', h, _, hA => by cases h; exact ⟨hA, fun _ _ h => h⟩
 | q :: qs, l, l', h, hq, hA => by
  simp only [Bfs.inner] at h
  split at h
  ·cases h
  ·obtain ⟨h1, h2⟩ := Lo h (fun q hq' => hq q (List.mem_cons_of_mem _ hq')) (fun n hn => by
    rcases Vu hn with h | h
    ·exact hA n h
    ·rw [h]; exact hq q (by simp))
   exact ⟨h1, fun k n hn => h2 k n (Tu hn)⟩
theorem Sy (N : Nat) (hN : N ≤ 1000000) (h20 : 100 ≤ N) {p : Ae} {m : Ag} (hp : Bj p) (hm : Co p m) {s : Ai} (hs : s ∈ GR p m) : ∃ b, Dy N p m s = some ((Ba p m s).1, b) := by
 obtain ⟨h1, h2⟩ := IZ hs
 obtain ⟨h3, h4⟩ := OD hp h1
 rw [NB N hN h20 hp hm h3 h4]
 unfold Ba at h2 ⊢
 rw [h3, h4, if_neg (by simp), if_neg (by simp)] at h2 ⊢
 cases h : Gm p m s with
 | none => rw [h] at h2; cases h2
 | some x => exact ⟨true, rfl⟩
theorem Lf {N : Nat} (hN : N ≤ 1000000) (h20 : 100 ≤ N) {p : Ae} (hp : Bj p) {m : Ag} (hm : Co p m) {f : Int} {t : Ai} {most i : Nat} (hmo : most ≤ 20000) {v1 : List AN × Int} (hv1 : v1.2 = (i : Int)) (ss : List Ai) (hss : ∀ s, s ∈ ss → s ∈ GR p m) (hsl : ss.length ≤ 1000) (j : List AN → Option (List AN × Bool)) :
  ∀ (n k : Nat) (l : List Kn), k ≤ ss.length → ss.length - k < n → l[i]? = some (m, f, t) → (∀ n, n ∈ l → Co p n.1 ∧ BJ p n.1 = true) → l.length ≤ most → (l.length < N ∧ most < N ∨ ∃ l', Bfs.inner most i (RK p m (ss.drop k)) l = some l' ∧ l'.length < N) →
   Cb N p (most : Int) v1 ss j n (l.map LL, (k : Int)) = match Bfs.inner most i (RK p m (ss.drop k)) l with
    | none => some ([], false)
    | some l' => j (l'.map LL)
 | 0, k, l, _, h, _, _, _, _ => by omega
 | n + 1, k, l, hk, h, hi, hA, hlm, hfu => by
  by_cases h1 : k < ss.length
  ·have hs : ss[k]? = some ss[k] := by simp [h1]
   have hsm := hss _ (lM hs)
   have hl1 : l.length < N := by
    rcases hfu with h | ⟨l', h, h2⟩
    ·exact h.1
    ·have hk := (Lo (p := p) h (fun q hq => by
      obtain ⟨g1, g2, g3⟩ := Pg.1 hq
      exact ⟨by rw [g2]; exact Mp hp hm (IZ (hss _ (List.mem_of_mem_drop g1))).2, g3⟩) hA).2
     by_cases h0 : l.length = 0
     ·omega
     ·have := hk (l.length - 1) l[l.length - 1] (by simp)
      have := (lI.1 this).1
      omega
   rw [Cb, AM (by simp only; omega)]
   simp only [Br, hv1, A1, List.getElem?_map, hi, hs, Option.map_some, oS, LL]
   obtain ⟨b, ea⟩ := Sy N hN h20 hp hm hsm
   rw [show (Ag.mk m.fd m.fa m.fe) = m from rfl, ea]
   simp only [oS]
   have hxo := Mp hp hm (IZ hsm).2
   rw [MS N p _ hN h20 hp hxo]
   simp only [oS]
   rw [IG hs, TX] at hfu ⊢
   cases hr : BJ p (Ba p m ss[k]).1
   ·rw [hr] at hfu
    rw [Av, Av, if_neg (by simp), AE (by rw [List.length_map]; omega), AI (by omega)]
    rw [if_neg (by simp)] at hfu
    exact Lf hN h20 hp hm hmo hv1 ss hss hsl j n (k + 1) l (by omega) (by omega) hi hA hlm hfu
   ·rw [hr] at hfu
    rw [AX, if_pos rfl]
    rw [if_pos rfl] at hfu
    obtain ⟨r, er, hr2⟩ := Te hN h20 hp hxo hl1 (fun n hn => (hA n hn).1)
    have er' : Fb N (l.map fun n => AN.mk n.1 n.2.1 n.2.2) (Ba p m ss[k]).1 = some r := er
    have em : (l.map fun n : Kn => AN.mk n.1 n.2.1 n.2.2) = l.map LL := rfl
    rw [← em, er']
    simp only [oS]
    rw [hr2]
    have hput : Bfs.put i l (ss[k], (Ba p m ss[k]).1) = if (l.any fun n => decide (n.1 = (Ba p m ss[k]).1)) = true then l else l ++ [((Ba p m ss[k]).1, (i : Int), ss[k])] := rfl
    simp only [Bfs.inner] at hfu ⊢
    have hA2 : ∀ n, n ∈ Bfs.put i l (ss[k], (Ba p m ss[k]).1) → Co p n.1 ∧ BJ p n.1 = true := fun n hn => by
     rcases Vu hn with h | h
     ·exact hA n h
     ·rw [h]; exact ⟨hxo, hr⟩
    have hi2 : (Bfs.put i l (ss[k], (Ba p m ss[k]).1))[i]? = some (m, f, t) := Tu hi
    have main : (AY (decide ((most : Int) < (((Bfs.put i l (ss[k], (Ba p m ss[k]).1)).map LL).length : Int))) (some (([] : List AN), false)) (Cb N p (most : Int) v1 ss j n ((Bfs.put i l (ss[k], (Ba p m ss[k]).1)).map LL, (wI .i64 ((k : Int) + 1))))) =
      match (if most < (Bfs.put i l (ss[k], (Ba p m ss[k]).1)).length then none else Bfs.inner most i (RK p m (ss.drop (k + 1))) (Bfs.put i l (ss[k], (Ba p m ss[k]).1))) with
      | none => some ([], false)
      | some l' => j (l'.map LL) := by
     by_cases hb : most < (Bfs.put i l (ss[k], (Ba p m ss[k]).1)).length
     ·rw [if_pos hb, AM (by rw [List.length_map]; omega)]
     ·rw [if_neg hb] at hfu
      rw [if_neg hb, AE (by rw [List.length_map]; omega), AI (by omega)]
      exact Lf hN h20 hp hm hmo hv1 ss hss hsl j n (k + 1) _ (by omega) (by omega) hi2 hA2 (by omega) (hfu.imp (fun h => ⟨by omega, h.2⟩) id)
    cases hin : (l.any fun n => decide (n.1 = (Ba p m ss[k]).1))
    ·rw [hin] at hput
     rw [Bool.not_false, AX, Au (by simp [DM]; omega)]
     rw [if_neg (by simp)] at hput
     rw [hput, List.map_append] at main
     rw [hput]
     exact main
    ·rw [hin] at hput
     rw [Bool.not_true, Av]
     rw [if_pos rfl] at hput
     rw [hput] at main
     rw [hput]
     exact main
  ·have : k = ss.length := by omega
   subst this
   rw [Cb, AE (by simp), List.drop_eq_nil_of_le (Nat.le_refl _)]
   rfl
theorem VW {p : Ae} {m : Ag} (hm : Co p m) (hr : BJ p m = true) : ∀ n, n ∈ ([(m, -1, NQ)] : List Kn) → Co p n.1 ∧ BJ p n.1 = true := fun n hn => by
 rw [List.mem_singleton.1 hn]; exact ⟨hm, hr⟩
theorem Q9 {p : Ae} (hp : Bj p) (m : Ag) : (GR p m).length ≤ 54 := Nat.le_trans (List.length_filter_le _ _) (VI hp)
theorem Mm {N : Nat} (hN : N ≤ 1000000) (h20 : 100 ≤ N) {p : Ae} (hv : BZ p = 0) {most : Nat} (hmo : most ≤ 20000) (j : List AN → Option (List AN × Bool)) :
  ∀ (n i : Nat) (l : List Kn), i ≤ l.length → (∀ n, n ∈ l → Co p n.1 ∧ BJ p n.1 = true) → l.length ≤ most → (most < N ∧ most < n + i ∨ ∃ l', Bfs.go (Js p) most n i l = some l' ∧ l'.length < N) →
   B9 N p (most : Int) j n (l.map LL, (i : Int)) = match Bfs.go (Js p) most n i l with
    | none => some ([], false)
    | some l' => j (l'.map LL)
 | 0, i, l, hi, _, hlm, hfu => by
  rcases hfu with h | ⟨l', h, _⟩
  ·omega
  ·cases h
 | n + 1, i, l, hi, hA, hlm, hfu => by
  obtain ⟨hp, _⟩ := DR hv
  simp only [Bfs.go] at hfu ⊢
  rw [B9]
  by_cases h1 : i < l.length
  ·obtain ⟨⟨m, f, t⟩, hx⟩ := Bfs.get_ex h1
   have hm := (hA _ (lM hx)).1
   rw [hx] at hfu ⊢
   simp only at hfu ⊢
   rw [AM (by rw [List.length_map]; omega)]
   simp only [A1, List.getElem?_map, hx, Option.map_some, oS, LL]
   rw [show (Ag.mk m.fd m.fa m.fe) = m from rfl, R7 N hN h20 hv hm]
   simp only [oS]
   have hgo : RK p m ((GR p m).drop 0) = Js p m := rfl
   have hsl := Q9 hp m
   have e := Lf hN h20 hp hm hmo (v1 := (l.map LL, (i : Int))) rfl (GR p m) (fun s hs => hs) (by omega) (fun (v7 : (List AN)) =>
    B9 N p (most : Int) j n (v7, (wI .i64 ((i : Int) + 1)))) N 0 l (Nat.zero_le _) (by omega) hx hA hlm (by
     rcases hfu with ⟨g1, g2⟩ | ⟨l', h, hl'⟩
     ·exact .inl ⟨by omega, g1⟩
     ·right
      rw [hgo]
      cases hin : Bfs.inner most i (Js p m) l with
      | none => rw [hin] at h; cases h
      | some l1 =>
       rw [hin] at h
       refine ⟨l1, rfl, ?_⟩
       have : l1.length ≤ l'.length := by
        have : ∀ (n i : Nat) (l l' : List Kn), Bfs.go (Js p) most n i l = some l' → l.length ≤ l'.length := by
         intro n
         induction n with
         | zero => intro i l l' h; cases h
         | succ n ih =>
          intro i l l' h
          simp only [Bfs.go] at h
          split at h
          ·cases h; exact Nat.le_refl _
          ·rename_i nd _
           cases hin : Bfs.inner most i (Js p nd.1) l with
           | none => rw [hin] at h; cases h
           | some l1 =>
            rw [hin] at h
            refine Nat.le_trans ?_ (ih _ _ _ h)
            have : ∀ (qs : List (Ai × Ag)) (l l1 : List Kn), Bfs.inner most i qs l = some l1 → l.length ≤ l1.length := by
             intro qs
             induction qs with
             | nil => intro l l1 h; cases h; exact Nat.le_refl _
             | cons q qs ih =>
              intro l l1 h
              simp only [Bfs.inner] at h
              split at h
              ·cases h
              ·refine Nat.le_trans ?_ (ih _ _ h)
               unfold Bfs.put; split
               ·exact Nat.le_refl _
               ·simp
            exact this _ _ _ hin
        exact this _ _ _ _ h
       omega)
   have e' : Cb N p (most : Int) (l.map LL, (i : Int)) (GR p m) (fun (v7 : (List AN)) => B9 N p (most : Int) j n (v7, (wI .i64 ((i : Int) + 1)))) N (l.map LL, 0) = _ := e
   rw [e', hgo]
   cases hin : Bfs.inner most i (Js p m) l with
   | none => rfl
   | some l1 =>
    rw [hin] at hfu
    obtain ⟨k1, k2⟩ := Lo hin (fun q hq => Vp hp hm hq) hA
    have := (lI.1 (k2 _ _ hx)).1
    simp only [oS] at hfu ⊢
    rw [AI (by omega)]
    exact Mm hN h20 hv hmo j n (i + 1) l1 (by omega) k1 (Bfs.inner_len _ _ _ hlm hin) (hfu.imp (fun h => ⟨h.1, by omega⟩) id)
  ·have hi' : i = l.length := by omega
   subst hi'
   rw [List.getElem?_eq_none (Nat.le_refl _)]
   rw [AE (by simp)]
def Lt (p : Ae) (m : Ag) (most n : Nat) : Option (List Kn) := Bfs.go (Js p) most n 0 [(m, -1, NQ)]
theorem Su {N : Nat} (hN : N ≤ 1000000) (h20 : 100 ≤ N) {p : Ae} (hv : BZ p = 0) {m : Ag} (hm : Co p m) (hr : BJ p m = true) {most : Nat} (hmo : most ≤ 20000) (h1 : 1 ≤ most) (hfu : most < N ∨ ∃ l', Lt p m most N = some l' ∧ l'.length < N) :
  EQ N p m (most : Int) = some (match Lt p m most N with
   | none => ([], false)
   | some l' => (l'.map LL, true)) := by
 unfold EQ
 have e := Mm hN h20 hv hmo (fun (v2 : (List AN)) => some (v2, true)) N 0 [(m, -1, NQ)] (Nat.zero_le _) (VW hm hr) h1 (hfu.imp (fun h => ⟨h, by omega⟩) id)
 have e' : B9 N p (most : Int) (fun (v2 : (List AN)) => some (v2, true)) N (([(AN.mk m ((-1)) ((Ai.mk 0 0 0)))] : List AN), 0) = _ := e
 rw [e']
 unfold Lt
 cases Bfs.go (Js p) most N 0 [(m, -1, NQ)] <;> rfl
structure ax (p : Ae) (m : Ag) (l : List Kn) (ws : List (List Ai)) : Prop where
 inv : Bfs.Inv (Js p) Nh 100 m l.length [] l ws
 ok : ∀ (k : Nat) x f s, l[k]? = some (x, f, s) → Co p x ∧ BJ p x = true
theorem XT {p : Ae} (hp : Bj p) {m : Ag} (hm : Co p m) (hr : BJ p m = true) {most n : Nat} {l : List Kn} (h : Lt p m most n = some l) : ∃ ws, ax p m l ws := by
 obtain ⟨ws, h1, h2⟩ := Bfs.inv_go (rk := Nh) (K := 100) (fun x => Co p x ∧ BJ p x = true) (fun x _ => ab hp x) (fun x hx q hq => by
  refine ⟨?_, Vp hp hx.1 hq⟩
  exact (PX hp (IZ (NV.1 hq).1).1).2) ⟨hm, hr⟩ n 0 [(m, -1, NQ)] l [[]] (Nat.zero_le _) Bfs.inv_start (fun k x f s hk => by
   have := Bfs.lt_get hk
   simp at this; subst this
   cases hk; exact ⟨hm, hr⟩) h
 exact ⟨ws, h1, h2⟩
theorem YY {p : Ae} (hp : Bj p) {m : Ag} {l : List Kn} {ws : List (List Ai)} (h : ax p m l ws) {k : Nat} {x : Ag} {f : Int} {s : Ai} {w : List Ai} (hx : l[k]? = some (x, f, s)) (hw : ws[k]? = some w) : QE p m w = some x :=
 (N0 hp).2 (Bfs.way_run h.inv (k + 1) k (Nat.lt_succ_self k) hx hw)
theorem Q1 {p : Ae} (hp : Bj p) {m x : Ag} {l : List Kn} {ws : List (List Ai)} (h : ax p m l ws) {w : List Ai} (hw : QE p m w = some x) : ∃ (k : Nat) (f : Int) (s : Ai) (u : List Ai), l[k]? = some (x, f, s) ∧ ws[k]? = some u ∧ Bfs.code Nh 100 u ≤ Bfs.code Nh 100 w :=
 Bfs.reach_node h.inv w.length rfl ((N0 hp).1 hw)
theorem SU {p : Ae} {m : Ag} {l : List Kn} {ws : List (List Ai)} (h : ax p m l ws) : ∀ (n k : Nat) {w : List Ai}, k < n → ws[k]? = some w → w.length ≤ k
 | 0, k, _, hk, _ => by omega
 | n + 1, k, w, hk, hw => by
  obtain ⟨⟨x, f, s⟩, hx⟩ := Bfs.get_ex (l := l) (k := k) (by rw [← h.inv.len]; exact Bfs.lt_get hw)
  rcases Nat.eq_zero_or_pos k with rfl | hk0
  ·rw [h.inv.root'] at hw; cases hw; exact Nat.le_refl _
  ·obtain ⟨j, y', g', t', w', e1, e2, e3, e4, e5, e6, e7⟩ := h.inv.par k _ _ _ hk0 hx
   rw [e6] at hw; cases hw
   have := SU h n j (by omega) e5
   simp; omega
def L3 (p : Ae) (l : List Kn) : Option Nat := Ep (fun i (n : Kn) => if Ko p n.1 = true then some i else none) 0 l
theorem RP {p : Ae} {l : List Kn} {k : Nat} (h : L3 p l = some k) : (∃ x f s, l[k]? = some (x, f, s) ∧ Ko p x = true) ∧ ∀ j x f s, j < k → l[j]? = some (x, f, s) → Ko p x = false := by
 have : ∀ (xs : List Kn) (i k : Nat), Ep (fun i (n : Kn) => if Ko p n.1 = true then some i else none) i xs = some (i + k) → (∃ x f s, xs[k]? = some (x, f, s) ∧ Ko p x = true) ∧ ∀ j x f s, j < k → xs[j]? = some (x, f, s) → Ko p x = false := by
  intro xs
  induction xs with
  | nil => intro i k h; cases h
  | cons n xs ih =>
   intro i k h
   rw [GW] at h
   cases hg : Ko p n.1
   ·rw [hg] at h
    simp only [Bool.false_eq_true, if_false] at h
    cases k with
    | zero =>
     exfalso
     obtain ⟨j, x, _, hj⟩ := FV h
     split at hj
     ·have := Option.some.inj hj; omega
     ·cases hj
    | succ k =>
     obtain ⟨⟨x, f, s, h1, h2⟩, h3⟩ := ih (i + 1) k (by rw [show i + 1 + k = i + (k + 1) from by omega]; exact h)
     refine ⟨⟨x, f, s, by simpa using h1, h2⟩, ?_⟩
     intro j x f s hj hx
     cases j with
     | zero => simp at hx; subst hx; exact hg
     | succ j => exact h3 j x f s (by omega) (by simpa using hx)
   ·rw [hg] at h
    simp only [if_true, Option.some.injEq] at h
    have : k = 0 := by omega
    subst this
    exact ⟨⟨n.1, n.2.1, n.2.2, rfl, hg⟩, fun j _ _ _ hj => by omega⟩
 exact this l 0 k (by rw [Nat.zero_add]; exact h)
theorem Wc {p : Ae} {l : List Kn} (h : L3 p l = none) {k : Nat} {x : Ag} {f : Int} {s : Ai} (hx : l[k]? = some (x, f, s)) : Ko p x = false := by
 have := Ge h k _ hx
 split at this
 ·cases this
 ·rename_i h; simpa using h
def Qp (p : Ae) (l : List Kn) (ws : List (List Ai)) : List Ai × Int := match L3 p l with
 | none => ([], 14)
 | some k => (ws.getD k [], 0)
def Fq (n : AH) : Kn := (n.fq, n.fg, n.ft)
def Kf (x : Ag) : List (Ag × Int) → Option Int
 | [] => none
 | e :: r => if x = e.1 then some e.2 else Kf x r
def MK (q : List (Ag × Int)) : List (ByteArray × Int) := q.map fun e => (Dh (L8 e.1), e.2)
theorem Y0 {p : Ae} (hp : Bj p) {x y : Ag} (hx : Co p x) (hy : Co p y) : (Dh (L8 x) == Dh (L8 y)) = decide (x = y) := by
 by_cases h : x = y
 ·rw [decide_eq_true h, h, Sr]
 ·rw [decide_eq_false h]
  cases hb : Dh (L8 x) == Dh (L8 y)
  ·rfl
  ·exact absurd (YX hp hx hy hb) h
theorem PR {p : Ae} (hp : Bj p) {x : Ag} (hx : Co p x) : ∀ {q : List (Ag × Int)}, (∀ e, e ∈ q → Co p e.1) → L1 (Dh (L8 x)) (MK q) = Kf x q
 | [], _ => rfl
 | e :: q, h => by
  have ih := PR hp hx (q := q) fun e he => h e (List.mem_cons_of_mem _ he)
  show (if (Dh (L8 x) == Dh (L8 e.1)) = true then some e.2 else L1 (Dh (L8 x)) (MK q)) = if x = e.1 then some e.2 else Kf x q
  rw [Y0 hp hx (h e (by simp)), ih]
  by_cases h : x = e.1
  ·rw [decide_eq_true h, if_pos rfl, if_pos h]
  ·rw [decide_eq_false h, if_neg (by simp), if_neg h]
theorem L2 (x y : Ag) (r : Int) : ∀ q : List (Ag × Int), Kf x (q ++ [(y, r)]) = match Kf x q with
  | some v => some v
  | none => if x = y then some r else none
 | [] => rfl
 | e :: q => by
  simp only [List.cons_append, Kf]
  by_cases h : x = e.1
  ·rw [if_pos h, if_pos h]
  ·rw [if_neg h, if_neg h, L2 x y r q]
theorem Xp (q : List (Ag × Int)) (x : Ag) (r : Int) : MK (q ++ [(x, r)]) = MK q ++ [(Dh (L8 x), r)] := by simp [MK]
structure Ph (p : Ae) (q : List (Ag × Int)) (l : List Kn) : Prop where
 ok : ∀ e, e ∈ q → Co p e.1
 none : ∀ x, Co p x → Kf x q = none → ∀ n, n ∈ l → n.1 ≠ x
 some : ∀ x r, Co p x → Kf x q = some r → (r = -1 ∧ BJ p x = false) ∨ ∃ (j : Nat) (f : Int) (s : Ai), r = (j : Int) ∧ l[j]? = some (x, f, s)
structure MY (p : Ae) (i : Nat) (done : List (Ai × Ag)) (pl : List AH) : Prop where
 to : ∀ (b : Nat) nd, pl[b]? = some nd → ∀ r, r ∈ nd.fa → ∃ s y, ((b < i ∧ (s, y) ∈ Js p nd.fq) ∨ (b = i ∧ (s, y) ∈ done)) ∧ ∃ (a : Nat) (f : Int) (t : Ai), r = (a : Int) ∧ (pl.map Fq)[a]? = some (y, f, t)
 of : ∀ (b : Nat) nd, pl[b]? = some nd → ∀ s y, ((b < i ∧ (s, y) ∈ Js p nd.fq) ∨ (b = i ∧ (s, y) ∈ done)) → ∃ (a : Nat) (f : Int) (t : Ai), ((a : Nat) : Int) ∈ nd.fa ∧ (pl.map Fq)[a]? = some (y, f, t)
def MF (pl : List AH) (i : Nat) (nd : AH) (r : Int) : List AH := if 0 ≤ r then pl.set i ⟨nd.fq, nd.fg, nd.ft, nd.fa ++ [r]⟩ else pl
theorem NT {pl : List AH} {i : Nat} {nd : AH} {r : Int} (h : pl[i]? = some nd) : (MF pl i nd r).map Fq = pl.map Fq := by
 unfold MF
 split
 ·apply List.ext_getElem?
  intro k
  rw [List.getElem?_map, List.getElem?_map, List.getElem?_set]
  by_cases hk : i = k
  ·subst hk
   rw [if_pos rfl, if_pos (Bfs.lt_get h), h]; rfl
  ·rw [if_neg hk]
 ·rfl
theorem Mo {pl : List AH} {i : Nat} {nd : AH} {r : Int} (h : pl[i]? = some nd) {b : Nat} {nb : AH} (hb : (MF pl i nd r)[b]? = some nb) : (b ≠ i ∧ pl[b]? = some nb) ∨ (b = i ∧ nb.fq = nd.fq ∧ nb.fg = nd.fg ∧ nb.ft = nd.ft ∧ nb.fa = if 0 ≤ r then nd.fa ++ [r] else nd.fa) := by
 unfold MF at hb
 split at hb
 ·rename_i hr
  rw [List.getElem?_set] at hb
  by_cases hk : i = b
  ·subst hk
   rw [if_pos rfl, if_pos (Bfs.lt_get h)] at hb
   cases hb
   exact .inr ⟨rfl, rfl, rfl, rfl, by rw [if_pos hr]⟩
  ·rw [if_neg hk] at hb
   exact .inl ⟨fun e => hk e.symm, hb⟩
 ·rename_i hr
  by_cases hk : b = i
  ·subst hk; rw [h] at hb; cases hb
   exact .inr ⟨rfl, rfl, rfl, rfl, by rw [if_neg hr]⟩
  ·exact .inl ⟨hk, hb⟩
theorem T5 {p : Ae} {i : Nat} {done : List (Ai × Ag)} {pl pl2 : List AH} {nd : AH} {s : Ai} {x : Ag} {a : Nat} {f : Int} {t : Ai} (h : MY p i done pl)
  (hkeep : ∀ (b : Nat) nb, pl2[b]? = some nb → pl[b]? = some nb ∨ (i < b ∧ nb.fa = [])) (hk2 : ∀ (b : Nat) n, (pl.map Fq)[b]? = some n → (pl2.map Fq)[b]? = some n) (hi : pl2[i]? = some nd) (ha : (pl2.map Fq)[a]? = some (x, f, t)) : MY p i (done ++ [(s, x)]) (MF pl2 i nd (a : Int)) := by
 constructor
 ·intro b nb hb r hr
  rw [NT hi]
  rcases Mo hi hb with ⟨h1, h2⟩ | ⟨h1, h2, h3, h4, h5⟩
  ·rcases hkeep b nb h2 with h3 | ⟨h3, h4⟩
   ·obtain ⟨s', y, g1, a', f', t', g2, g3⟩ := h.to b nb h3 r hr
    refine ⟨s', y, ?_, a', f', t', g2, hk2 _ _ g3⟩
    rcases g1 with g1 | g1
    ·exact .inl g1
    ·exact absurd g1.1 h1
   ·rw [h4] at hr; cases hr
  ·subst h1
   rw [h5, if_pos (Int.natCast_nonneg a)] at hr
   rcases List.mem_append.1 hr with hr | hr
   ·rcases hkeep b nd hi with h6 | ⟨h6, _⟩
    ·obtain ⟨s', y, g1, a', f', t', g2, g3⟩ := h.to b nd h6 r hr
     refine ⟨s', y, ?_, a', f', t', g2, hk2 _ _ g3⟩
     rcases g1 with g1 | g1
     ·exact .inl ⟨g1.1, by rw [h2]; exact g1.2⟩
     ·exact .inr ⟨rfl, List.mem_append_left _ g1.2⟩
    ·omega
   ·rw [List.mem_singleton.1 hr]
    exact ⟨s, x, .inr ⟨rfl, by simp⟩, a, f, t, rfl, ha⟩
 ·intro b nb hb s' y hs
  rw [NT hi]
  rcases Mo hi hb with ⟨h1, h2⟩ | ⟨h1, h2, h3, h4, h5⟩
  ·rcases hkeep b nb h2 with h3 | ⟨h3, h4⟩
   ·obtain ⟨a', f', t', g2, g3⟩ := h.of b nb h3 s' y (by
     rcases hs with hs | hs
     ·exact .inl hs
     ·exact absurd hs.1 h1)
    exact ⟨a', f', t', g2, hk2 _ _ g3⟩
   ·rcases hs with hs | hs <;> omega
  ·subst h1
   rw [h5, if_pos (Int.natCast_nonneg a)]
   rcases hkeep b nd hi with h6 | ⟨h6, _⟩
   ·rcases hs with hs | ⟨_, hs⟩
    ·omega
    ·rcases List.mem_append.1 hs with hs | hs
     ·obtain ⟨a', f', t', g2, g3⟩ := h.of b nd h6 s' y (.inr ⟨rfl, hs⟩)
      exact ⟨a', f', t', List.mem_append_left _ g2, hk2 _ _ g3⟩
     ·cases List.mem_singleton.1 hs
      exact ⟨a, f, t, by simp, ha⟩
   ·omega
theorem Ii {N : Nat} (hN : N ≤ 1000000) (h20 : 100 ≤ N) {p : Ae} (hv : BZ p = 0) {m : Ag} (hm : Co p m) {most i : Nat} (hmo : most ≤ 20000) {v2 : List AH × List (ByteArray × Int) × Int} (hv2 : v2.2.2 = (i : Int)) (ss : List Ai) (e0 : Int) (hss : ∀ s, s ∈ ss → s ∈ GR p m) (hsl : ss.length ≤ 1000) (j : List AH × List (ByteArray × Int) → Option (List AH × Int)) :
  ∀ (n k : Nat) (pl : List AH) (q : List (Ag × Int)) (l' : List Kn), k ≤ ss.length → ss.length - k < n → (∃ nd, pl[i]? = some nd ∧ nd.fq = m) → (∀ n, n ∈ pl.map Fq → Co p n.1 ∧ BJ p n.1 = true) → pl.length ≤ most → Ph p q (pl.map Fq) → MY p i (RK p m (ss.take k)) pl →
   (∃ nd, pl[i]? = some nd ∧ nd.fa.length ≤ k) → Bfs.inner most i (RK p m (ss.drop k)) (pl.map Fq) = some l' →
   ∃ pl' q', CY N p v2 (ss, e0) j n (pl, MK q, (k : Int)) = j (pl', MK q') ∧ pl'.map Fq = l' ∧ Ph p q' l' ∧ MY p i (RK p m ss) pl' ∧ (∀ (b : Nat) nb, pl'[b]? = some nb → b ≠ i → pl[b]? = some nb ∨ nb.fa = [])
 | 0, k, pl, q, l', _, h, _, _, _, _, _, _, _ => by omega
 | n + 1, k, pl, q, l', hk, h, hi, hA, hlm, hpl, hnx, hfl, hin => by
  obtain ⟨hp, _⟩ := DR hv
  obtain ⟨nd, hnd, hndm⟩ := hi
  obtain ⟨nd', hnd', hfl⟩ := hfl
  rw [hnd] at hnd'; cases hnd'
  by_cases h1 : k < ss.length
  ·have hs : ss[k]? = some ss[k] := by simp [h1]
   have hsm := hss _ (lM hs)
   have hstep := (IZ hsm).2
   have hxo := Mp hp hm hstep
   have hil := Bfs.lt_get hnd
   rw [CY, AM (by simp only; omega)]
   simp only [Br, hv2, A1, hnd, hs, oS]
   rw [show (Ag.mk nd.fq.fd nd.fq.fa nd.fq.fe) = m from hndm, QT N hN h20 (NH hm), if_pos (K5 hv hm)]
   simp only [oS]
   rw [hstep, bne_self_eq_false, Av, Xn N hN h20 hp hxo]
   simp only [oS]
   rw [PR hp hxo hpl.ok]
   have htk : ss.take (k + 1) = ss.take k ++ [ss[k]] := by rw [List.take_add_one, hs]; rfl
   have hgo : RK p m (ss.take (k + 1)) = if BJ p (Ba p m ss[k]).1 = true then RK p m (ss.take k) ++ [(ss[k], (Ba p m ss[k]).1)] else RK p m (ss.take k) := by
    rw [htk]; unfold RK; rw [List.filterMap_append]
    cases hr : BJ p (Ba p m ss[k]).1 <;> simp [hr]
   rw [IG hs, TX] at hin
   -- what follows when the node's number is known
   have tail : ∀ (pl2 : List AH) (q2 : List (Ag × Int)) (r : Int) (nd2 : AH), pl2[i]? = some nd2 → nd2.fq = m → nd2.fa.length ≤ k → pl2.length ≤ most →
     AY (decide (0 ≤ r)) ((A8 pl2 (i : Int)).bind fun v26 => (Ef (v26.fa.length + (([r] : List Int)).length ≤ DM)).bind fun _ => (A8 pl2 (i : Int)).bind fun v28 =>
      AY (decide ((20000 : Int) < ((pl2.set ((i : Int)).toNat (AH.mk (Ag.mk v28.fq.fd v28.fq.fa v28.fq.fe) v28.fg (Ai.mk v28.ft.ff v28.ft.fi v28.ft.fr) (v26.fa ++ ([r] : List Int)))).length : Int))) (some (([] : List AH), 3))
       (CY N p v2 (ss, e0) j n (pl2.set ((i : Int)).toNat (AH.mk (Ag.mk v28.fq.fd v28.fq.fa v28.fq.fe) v28.fg (Ai.mk v28.ft.ff v28.ft.fi v28.ft.fr) (v26.fa ++ ([r] : List Int))), MK q2, (wI .i64 ((k : Int) + 1)))))
      (AY (decide ((20000 : Int) < (pl2.length : Int))) (some (([] : List AH), 3)) (CY N p v2 (ss, e0) j n (pl2, MK q2, (wI .i64 ((k : Int) + 1))))) =
     CY N p v2 (ss, e0) j n (MF pl2 i nd2 r, MK q2, ((k + 1 : Nat) : Int)) := by
    intro pl2 q2 r nd2 h2 h3 h4 h5
    by_cases hr : 0 ≤ r
    ·rw [AM hr]
     simp only [A1, h2, oS, Int.toNat_natCast]
     rw [Au (by simp [DM]; omega), AE (by rw [List.length_set]; omega), AI (by omega)]
     unfold MF; rw [if_pos hr]
    ·rw [AE hr, AE (by omega), AI (by omega)]
     unfold MF; rw [if_neg hr]
   cases hlq : Kf (Ba p m ss[k]).1 q with
   | some r =>
    simp only [Option.isSome_some, Bool.not_true, Av, Option.getD_some]
    have ht := tail pl q r nd hnd hndm hfl hlm
    simp only [A1, hnd, oS] at ht
    rw [show (Ag.mk nd.fq.fd nd.fq.fa nd.fq.fe) = m from hndm] at ht
    rw [ht]
    rcases hpl.some _ _ hxo hlq with ⟨hr, hnr⟩ | ⟨a, f, t, hr, ha⟩
    ·subst hr
     rw [hnr, if_neg (by simp)] at hin
     rw [hnr, if_neg (by simp)] at hgo
     have hadd : MF pl i nd (-1) = pl := by unfold MF; rw [if_neg (by decide)]
     rw [hadd]
     exact Ii hN h20 hv hm hmo hv2 ss e0 hss hsl j n (k + 1) pl q l' (by omega) (by omega) ⟨nd, hnd, hndm⟩ hA hlm hpl (by rw [hgo]; exact hnx) ⟨nd, hnd, by omega⟩ hin
    ·subst hr
     have hrob : BJ p (Ba p m ss[k]).1 = true := (hA _ (lM ha)).2
     rw [hrob, if_pos rfl] at hin hgo
     have hput : Bfs.put i (pl.map Fq) (ss[k], (Ba p m ss[k]).1) = pl.map Fq := by
      unfold Bfs.put
      rw [if_pos]
      exact List.any_eq_true.2 ⟨_, lM ha, decide_eq_true rfl⟩
     simp only [Bfs.inner] at hin
     rw [hput, if_neg (by rw [List.length_map]; omega)] at hin
     have hpr := NT (r := (a : Int)) hnd
     have hnx2 := T5 (s := ss[k]) hnx (pl2 := pl) (fun b nb hb => .inl hb) (fun b n hb => hb) hnd ha
     obtain ⟨nd3, hnd3⟩ := Bfs.get_ex (l := MF pl i nd (a : Int)) (k := i) (by
      have := congrArg List.length hpr; simp only [List.length_map] at this; omega)
     obtain ⟨g1, g2⟩ | ⟨_, g2, g3, g4, g5⟩ := Mo hnd hnd3
     ·exact absurd rfl g1
     obtain ⟨pl', q', r1, r2, r3, r4, r5⟩ := Ii hN h20 hv hm hmo hv2 ss e0 hss hsl j n (k + 1) (MF pl i nd (a : Int)) q l' (by omega) (by omega) ⟨nd3, hnd3, by rw [g2]; exact hndm⟩ (by rw [hpr]; exact hA) (by have := congrArg List.length hpr; simp only [List.length_map] at this; omega)  (by rw [hpr]; exact hpl) (by rw [hgo]; exact hnx2) ⟨nd3, hnd3, by rw [g5]; split <;> (try simp only [List.length_append, List.length_singleton]) <;> omega⟩ (by rw [hpr]; exact hin)
     refine ⟨pl', q', r1, r2, r3, r4, ?_⟩
     intro b nb hb hbi
     rcases r5 b nb hb hbi with h2 | h2
     ·rcases Mo hnd h2 with ⟨_, h3⟩ | ⟨h3, _⟩
      ·exact .inl h3
      ·exact absurd h3 hbi
     ·exact .inr h2
   | none =>
    simp only [Option.isSome_none, Bool.not_false, AX]
    rw [KL N p _ hN h20 (NH hxo) (K5 hv hxo)]
    simp only [oS, bne_self_eq_false, Av]
    have hms : ∀ r, NX (Dh (L8 (Ba p m ss[k]).1)) r (MK q) = MK (q ++ [((Ba p m ss[k]).1, r)]) := fun r => by
     rw [Xp]; exact Mu _ _ (by rw [PR hp hxo hpl.ok, hlq])
    have hok2 : ∀ r e, e ∈ q ++ [((Ba p m ss[k]).1, r)] → Co p e.1 := fun r e he => by
     rcases List.mem_append.1 he with he | he
     ·exact hpl.ok e he
     ·rw [List.mem_singleton.1 he]; exact hxo
    cases hrob : BJ p (Ba p m ss[k]).1
    ·rw [Bool.not_false, AX]
     rw [hrob, if_neg (by simp)] at hin hgo
     rw [hms]
     have ht := tail pl (q ++ [((Ba p m ss[k]).1, -1)]) (-1) nd hnd hndm hfl hlm
     simp only [A1, hnd, oS] at ht
     rw [show (Ag.mk nd.fq.fd nd.fq.fa nd.fq.fe) = m from hndm] at ht
     rw [ht]
     have hadd : MF pl i nd (-1) = pl := by unfold MF; rw [if_neg (by decide)]
     rw [hadd]
     refine Ii hN h20 hv hm hmo hv2 ss e0 hss hsl j n (k + 1) pl _ l' (by omega) (by omega) ⟨nd, hnd, hndm⟩ hA hlm ⟨hok2 (-1), ?_, ?_⟩ (by rw [hgo]; exact hnx) ⟨nd, hnd, by omega⟩ hin
     ·intro x hx hq
      rw [L2] at hq
      cases hq2 : Kf x q with
      | none => exact hpl.none x hx hq2
      | some v => rw [hq2] at hq; cases hq
     ·intro x r hx hq
      rw [L2] at hq
      cases hq2 : Kf x q with
      | none =>
       rw [hq2] at hq
       simp only at hq
       split at hq
       ·rename_i he
        cases hq; left; exact ⟨rfl, by rw [he]; exact hrob⟩
       ·cases hq
      | some v => rw [hq2] at hq; cases hq; exact hpl.some x _ hx hq2
    ·rw [Bool.not_true, Av]
     rw [hrob, if_pos rfl] at hin hgo
     rw [hms]
     have hnew : ((pl.map Fq).any fun n => decide (n.1 = (Ba p m ss[k]).1)) = false := by
      rw [List.any_eq_false]
      intro n hn
      simpa using hpl.none _ hxo hlq n hn
     have hput : Bfs.put i (pl.map Fq) (ss[k], (Ba p m ss[k]).1) = (pl ++ [AH.mk (Ba p m ss[k]).1 (i : Int) ss[k] []]).map Fq := by
      unfold Bfs.put
      rw [hnew, if_neg (by simp), List.map_append]; rfl
     simp only [Bfs.inner] at hin
     rw [hput] at hin
     split at hin
     ·cases hin
     rename_i hmm
     rw [List.length_map, List.length_append, List.length_singleton] at hmm
     rw [Au (by simp [DM]; omega)]
     have hnd2 : (pl ++ [AH.mk (Ba p m ss[k]).1 (i : Int) ss[k] []])[i]? = some nd := Bfs.get_app_of hnd
     have ht := tail (pl ++ [AH.mk (Ba p m ss[k]).1 (i : Int) ss[k] []]) (q ++ [((Ba p m ss[k]).1, (pl.length : Int))]) (pl.length : Int) nd hnd2 hndm hfl (by rw [List.length_append, List.length_singleton]; omega)
     simp only [A1] at ht
     rw [ht]
     have hpr := NT (r := (pl.length : Int)) hnd2
     have hlast : ((pl ++ [AH.mk (Ba p m ss[k]).1 (i : Int) ss[k] []]).map Fq)[pl.length]? = some ((Ba p m ss[k]).1, (i : Int), ss[k]) := by
      rw [List.getElem?_map, Bfs.get_app_new]; rfl
     have hold : ∀ (b : Nat) n, (pl.map Fq)[b]? = some n → ((pl ++ [AH.mk (Ba p m ss[k]).1 (i : Int) ss[k] []]).map Fq)[b]? = some n := fun b n hb => by
      rw [List.map_append]; exact Bfs.get_app_of hb
     have hkeep : ∀ (b : Nat) nb, (pl ++ [AH.mk (Ba p m ss[k]).1 (i : Int) ss[k] []])[b]? = some nb → pl[b]? = some nb ∨ (i < b ∧ nb.fa = []) := fun b nb hb => by
      rcases Bfs.get_app hb with h2 | ⟨h2, h3⟩
      ·exact .inl h2
      ·exact .inr ⟨by omega, by rw [h3]⟩
     have hnx2 := T5 (s := ss[k]) hnx hkeep hold hnd2 hlast
     have hpl2 : Ph p (q ++ [((Ba p m ss[k]).1, (pl.length : Int))]) ((pl ++ [AH.mk (Ba p m ss[k]).1 (i : Int) ss[k] []]).map Fq) := by
      refine ⟨hok2 _, ?_, ?_⟩
      ·intro x hx hq n hn
       rw [L2] at hq
       cases hq2 : Kf x q with
       | none =>
        rw [hq2] at hq
        simp only at hq
        split at hq
        ·cases hq
        ·rename_i hne
         rw [List.map_append] at hn
         rcases List.mem_append.1 hn with hn | hn
         ·exact hpl.none x hx hq2 n hn
         ·simp at hn; subst hn
          exact fun e => hne e.symm
       | some v => rw [hq2] at hq; cases hq
      ·intro x r hx hq
       rw [L2] at hq
       cases hq2 : Kf x q with
       | none =>
        rw [hq2] at hq
        simp only at hq
        split at hq
        ·rename_i he
         cases hq
         exact .inr ⟨pl.length, _, _, rfl, by rw [he]; exact hlast⟩
        ·cases hq
       | some v =>
        rw [hq2] at hq; cases hq
        rcases hpl.some x _ hx hq2 with g | ⟨a, f, t, g1, g2⟩
        ·exact .inl g
        ·exact .inr ⟨a, f, t, g1, hold _ _ g2⟩
     obtain ⟨nd3, hnd3⟩ := Bfs.get_ex (l := MF (pl ++ [AH.mk (Ba p m ss[k]).1 (i : Int) ss[k] []]) i nd (pl.length : Int)) (k := i) (by
      have := congrArg List.length hpr; simp only [List.length_map, List.length_append, List.length_singleton] at this; omega)
     obtain ⟨g1, g2⟩ | ⟨_, g2, g3, g4, g5⟩ := Mo hnd2 hnd3
     ·exact absurd rfl g1
     obtain ⟨pl', q', r1, r2, r3, r4, r5⟩ := Ii hN h20 hv hm hmo hv2 ss e0 hss hsl j n (k + 1) (MF (pl ++ [AH.mk (Ba p m ss[k]).1 (i : Int) ss[k] []]) i nd (pl.length : Int)) _ l' (by omega) (by omega) ⟨nd3, hnd3, by rw [g2]; exact hndm⟩ (by
       rw [hpr]
       intro n hn
       rw [List.map_append] at hn
       rcases List.mem_append.1 hn with hn | hn
       ·exact hA n hn
       ·simp at hn; subst hn; exact ⟨hxo, hrob⟩) (by have := congrArg List.length hpr; simp only [List.length_map, List.length_append, List.length_singleton] at this; omega)  (by rw [hpr]; exact hpl2) (by rw [hgo]; exact hnx2) ⟨nd3, hnd3, by rw [g5]; split <;> (try simp only [List.length_append, List.length_singleton]) <;> omega⟩ (by rw [hpr]; exact hin)
     refine ⟨pl', q', r1, r2, r3, r4, ?_⟩
     intro b nb hb hbi
     rcases r5 b nb hb hbi with h2 | h2
     ·rcases Mo hnd2 h2 with ⟨_, h3⟩ | ⟨h3, _⟩
      ·rcases hkeep b nb h3 with h4 | ⟨_, h4⟩
       ·exact .inl h4
       ·exact .inr h4
      ·exact absurd h3 hbi
     ·exact .inr h2
  ·have : k = ss.length := by omega
   subst this
   rw [List.drop_eq_nil_of_le (Nat.le_refl _)] at hin
   have hin : some (pl.map Fq) = some l' := hin
   cases hin
   rw [List.take_length] at hnx
   rw [CY, AE (by simp)]
   exact ⟨pl, q, rfl, rfl, hpl, hnx, fun b nb hb _ => .inl hb⟩
theorem LD {N : Nat} (hN : N ≤ 1000000) (h20 : 100 ≤ N) {p : Ae} (hv : BZ p = 0) {most : Nat} (hmo : most ≤ 20000) (j : List AH → Option (List AH × Int)) :
  ∀ (n i : Nat) (pl : List AH) (q : List (Ag × Int)) (l' : List Kn), i ≤ pl.length → (∀ n, n ∈ pl.map Fq → Co p n.1 ∧ BJ p n.1 = true) → pl.length ≤ most → Ph p q (pl.map Fq) → MY p i [] pl → (∀ (b : Nat) nb, i ≤ b → pl[b]? = some nb → nb.fa = []) →
   Bfs.go (Js p) most n i (pl.map Fq) = some l' →
   ∃ pl', Ey N p j n (pl, MK q, (i : Int)) = j pl' ∧ pl'.map Fq = l' ∧ MY p l'.length [] pl'
 | 0, i, pl, q, l', _, _, _, _, _, _, h => by cases h
 | n + 1, i, pl, q, l', hi, hA, hlm, hpl, hnx, hem, h => by
  obtain ⟨hp, _⟩ := DR hv
  simp only [Bfs.go] at h
  rw [Ey]
  by_cases h1 : i < pl.length
  ·obtain ⟨nd, hx⟩ := Bfs.get_ex h1
   have hxl : (pl.map Fq)[i]? = some (Fq nd) := by rw [List.getElem?_map, hx]; rfl
   have hm := (hA _ (lM hxl)).1
   have hm : Co p nd.fq := hm
   rw [hxl] at h
   simp only at h
   rw [AM (by simp only; omega)]
   simp only [A1, hx, oS]
   rw [show (Ag.mk nd.fq.fd nd.fq.fa nd.fq.fe) = nd.fq from rfl, Uw N hN h20 hv hm]
   simp only [oS, bne_self_eq_false, Av]
   have hsl := Q9 hp nd.fq
   cases hin : Bfs.inner most i (Js p nd.fq) (pl.map Fq) with
   | none =>
    have hin' : Bfs.inner most i (Js p (Fq nd).1) (pl.map Fq) = none := hin
    rw [hin'] at h; cases h
   | some l1 =>
    have hin' : Bfs.inner most i (Js p (Fq nd).1) (pl.map Fq) = some l1 := hin
    rw [hin'] at h
    simp only [oS] at h
    obtain ⟨pl1, q1, e1, e2, e3, e4, e5⟩ := Ii hN h20 hv hm hmo (v2 := (pl, MK q, (i : Int))) rfl (GR p nd.fq) 0 (fun s hs => hs) (by omega) (fun (v9 : (List AH) × (List (ByteArray × Int))) =>
     Ey N p j n (v9.1, v9.2, (wI .i64 ((i : Int) + 1)))) N 0 pl q l1 (Nat.zero_le _) (by omega) ⟨nd, hx, rfl⟩ hA hlm hpl (by
      rw [List.take_zero]; exact hnx) ⟨nd, hx, by rw [hem i nd (Nat.le_refl _) hx]; exact Nat.le_refl _⟩ hin
    have e1' : CY N p (pl, MK q, (i : Int)) (GR p nd.fq, 0) (fun (v9 : (List AH) × (List (ByteArray × Int))) =>
     Ey N p j n (v9.1, v9.2, (wI .i64 ((i : Int) + 1)))) N (pl, MK q, 0) = _ := e1
    rw [e1']
    simp only
    obtain ⟨k1, k2⟩ := Lo hin (fun q hq => Vp hp hm hq) hA
    have hl1 : l1.length = pl1.length := by rw [← e2, List.length_map]
    have hil : i < pl1.length := by rw [← hl1]; exact Bfs.lt_get (k2 _ _ hxl)
    rw [AI (by have := Bfs.inner_len _ _ _ (by rw [List.length_map]; exact hlm) hin; omega)]
    refine LD hN h20 hv hmo j n (i + 1) pl1 q1 l' (by omega) (by rw [e2]; exact k1) (by rw [← hl1]; exact Bfs.inner_len _ _ _ (by rw [List.length_map]; exact hlm) hin) (by rw [e2]; exact e3) ?_ ?_ (by rw [e2]; exact h)
    ·have hmi : ∀ nb, pl1[i]? = some nb → nb.fq = nd.fq := fun nb hb => by
      have := k2 _ _ hxl
      rw [← e2, List.getElem?_map, hb] at this
      exact congrArg (fun n : Kn => n.1) (Option.some.inj this)
     constructor
     ·intro b nb hb r hr
      obtain ⟨s, y, g1, g2⟩ := e4.to b nb hb r hr
      refine ⟨s, y, .inl ?_, g2⟩
      rcases g1 with g1 | ⟨g1, g3⟩
      ·exact ⟨by omega, g1.2⟩
      ·subst g1; exact ⟨by omega, by rw [hmi nb hb]; exact g3⟩
     ·intro b nb hb s y hs
      refine e4.of b nb hb s y ?_
      rcases hs with ⟨h2, h3⟩ | ⟨_, h3⟩
      ·by_cases hbi : b < i
       ·exact .inl ⟨hbi, h3⟩
       ·have : b = i := by omega
        subst this
        exact .inr ⟨rfl, by rw [hmi nb hb] at h3; exact h3⟩
      ·cases h3
    ·intro b nb hb hb2
     rcases e5 b nb hb2 (by omega) with h2 | h2
     ·exact hem b nb (by omega) h2
     ·exact h2
  ·have hi' : i = pl.length := by omega
   subst hi'
   rw [List.getElem?_eq_none (by rw [List.length_map]; exact Nat.le_refl _)] at h
   have h : some (pl.map Fq) = some l' := h
   cases h
   rw [AE (by simp)]
   exact ⟨pl, rfl, rfl, by rw [List.length_map]; exact hnx⟩
theorem Qj {N : Nat} (hN : N ≤ 1000000) (h20 : 100 ≤ N) {p : Ae} (hv : BZ p = 0) {m : Ag} (hm : Co p m) (hr : BJ p m = true) {most : Nat} (hmo : most ≤ 20000) (h1 : 1 ≤ most) {l : List Kn} (hs : Lt p m most N = some l) :
  ∃ pl, HF N p m = some (pl, 0) ∧ pl.map Fq = l ∧ MY p l.length [] pl := by
 obtain ⟨hp, _⟩ := DR hv
 unfold HF
 rw [Xn N hN h20 hp hm]
 simp only [oS]
 obtain ⟨pl, e1, e2, e3⟩ := LD hN h20 hv hmo (fun (v3 : (List AH)) => some (v3, 0)) N 0 [AH.mk m (-1) NQ []] [(m, 0)] l (Nat.zero_le _) (VW hm hr) h1 (by
  refine ⟨fun e he => by rw [List.mem_singleton.1 he]; exact hm, ?_, ?_⟩
  ·intro x _ hq n hn
   have hn : n = (m, -1, NQ) := List.mem_singleton.1 hn
   simp only [Kf] at hq
   split at hq
   ·cases hq
   ·rename_i h; rw [hn]; exact fun e => h e.symm
  ·intro x r _ hq
   simp only [Kf] at hq
   split at hq
   ·rename_i h
    cases hq; right; exact ⟨0, -1, NQ, rfl, by rw [h]; rfl⟩
   ·cases hq) (by
  constructor
  ·intro b nb hb r hr
   have := Bfs.lt_get hb
   simp at this; subst this
   cases hb; cases hr
  ·intro b nb hb s y hs
   rcases hs with h | h
   ·omega
   ·cases h.2) (fun b nb _ hb => by
    have := Bfs.lt_get hb
    simp at this; subst this
    cases hb; rfl) hs
 refine ⟨pl, ?_, e2, e3⟩
 exact e1
theorem VC {α : Type} (xs : List α) (x y : α) : ∀ (A B : List α), ((A ++ x :: (xs ++ y :: B)).set A.length y).set (A.length + 1 + xs.length) x = A ++ y :: (xs ++ x :: B)
 | [], B => by
  rw [List.nil_append, List.length_nil, List.set_cons_zero, show 0 + 1 + xs.length = xs.length + 1 from by omega, List.set_cons_succ, List.set_append_right _ _ (Nat.le_refl _), Nat.sub_self]
  rfl
 | a :: A, B => by
  have := VC xs x y A B
  simp only [List.cons_append, List.length_cons]
  rw [List.set_cons_succ, show A.length + 1 + 1 + xs.length = (A.length + 1 + xs.length) + 1 from by omega, List.set_cons_succ, this]
theorem Tn (N : Nat) (j : List Ai → Option (List Ai)) : ∀ (n : Nat) (xs A B : List Ai), xs.length < 2 * n → A.length + xs.length ≤ 100000 →
  BC N j n (A ++ (xs ++ B), (A.length : Int), ((A.length + xs.length : Nat) : Int) - 1) = j (A ++ (xs.reverse ++ B))
 | 0, xs, A, B, h, _ => by omega
 | n + 1, xs, A, B, h, h2 => by
  rw [BC]
  rcases xs with _ | ⟨x, xs⟩
  ·rw [AE (by simp only [List.length_nil]; omega)]; rfl
  ·rcases Bfs.list_snoc xs with rfl | ⟨xs, y, rfl⟩
   ·rw [AE (by simp only [List.length_cons, List.length_nil]; omega)]; rfl
   ·simp only [List.length_cons, List.length_append, List.length_nil] at h h2
    rw [AM (by simp only [List.length_cons, List.length_append, List.length_nil]; omega)]
    have e1 : (((A.length + (x :: (xs ++ [y])).length : Nat) : Int) - 1) = ((A.length + 1 + xs.length : Nat) : Int) := by simp only [List.length_cons, List.length_append, List.length_nil]; omega
    have e2 : A ++ (x :: (xs ++ [y]) ++ B) = A ++ x :: (xs ++ y :: B) := by simp
    simp only [e1, e2, A1, Int.toNat_natCast]
    have g1 : (A ++ x :: (xs ++ y :: B))[A.length + 1 + xs.length]? = some y := by
     rw [List.getElem?_append_right (by omega), show A.length + 1 + xs.length - A.length = xs.length + 1 from by omega, List.getElem?_cons_succ, List.getElem?_append_right (Nat.le_refl _), Nat.sub_self]; rfl
    have g2 : (A ++ x :: (xs ++ y :: B))[A.length]? = some x := by
     rw [List.getElem?_append_right (Nat.le_refl _), Nat.sub_self]; rfl
    rw [g1, g2]
    simp only [oS]
    rw [List.getElem?_set, if_neg (by omega), g1]
    simp only [oS]
    rw [VC, AI (by omega), show wI .i64 (((A.length + 1 + xs.length : Nat) : Int) - 1) = (((A ++ [y]).length + xs.length : Nat) : Int) - 1 from by
     rw [DH (by omega) (by omega)]; simp only [List.length_append, List.length_singleton]]
    have := Tn N j n xs (A ++ [y]) (x :: B) (by omega) (by simp only [List.length_append, List.length_singleton]; omega)
    rw [show ((A.length + 1 : Nat) : Int) = (((A ++ [y]).length : Nat) : Int) from by simp]
    rw [show A ++ y :: (xs ++ x :: B) = (A ++ [y]) ++ (xs ++ x :: B) from by simp, this]
    simp
theorem U5 (N : Nat) (h20 : 100 ≤ N) (l : List Ai) (h : l.length < 2 * N) (h2 : l.length ≤ 100000) : BL N l = some l.reverse := by
 unfold BL
 rw [DH (by omega) (by omega)]
 have := Tn N (fun v2 => some v2) N l [] [] h (by simpa using h2)
 simp only [List.nil_append, List.append_nil, List.length_nil, Nat.zero_add] at this
 exact this
theorem ML {p : Ae} {m : Ag} {l : List Kn} {ws : List (List Ai)} (h : ax p m l ws) (N : Nat) {pl : List AH} (hpl : pl.map Fq = l) (j : List Ai → Option (List Ai)) : ∀ (n k : Nat) {w acc : List Ai}, k < n → ws[k]? = some w → acc.length + k ≤ 20000 →
  G1 N pl j n ((k : Int), acc) = j (acc ++ w.reverse)
 | 0, k, _, _, hk, _, _ => by omega
 | n + 1, k, w, acc, hk, hw, ha => by
  obtain ⟨⟨x, f, s⟩, hx⟩ := Bfs.get_ex (l := l) (k := k) (by rw [← h.inv.len]; exact Bfs.lt_get hw)
  have hx2 := hx
  rw [← hpl, List.getElem?_map] at hx2
  cases hnd : pl[k]? with
  | none => rw [hnd] at hx2; cases hx2
  | some nd =>
   rw [hnd] at hx2
   have hx2 : Fq nd = (x, f, s) := Option.some.inj hx2
   have hf : nd.fg = f := congrArg (fun n : Kn => n.2.1) hx2
   have hs : nd.ft = s := congrArg (fun n : Kn => n.2.2) hx2
   rw [G1]
   simp only [A1, hnd, oS]
   rw [hf]
   rcases Nat.eq_zero_or_pos k with rfl | hk0
   ·obtain ⟨s0, hs0⟩ := h.inv.root; rw [hs0] at hx; cases hx
    rw [h.inv.root'] at hw; cases hw
    rw [AE (by decide)]; simp
   ·obtain ⟨i, y', g', t', w', e1, e2, e3, e4, e5, e6, e7⟩ := h.inv.par k _ _ _ hk0 hx
    rw [e6] at hw; cases hw
    subst e1
    rw [AM (Int.natCast_nonneg i), Au (by simp [DM]; omega)]
    have := ML h N hpl j n i (w := w') (acc := acc ++ [Ai.mk nd.ft.ff nd.ft.fi nd.ft.fr]) (by omega) e5 (by simp; omega)
    rw [this, show (Ai.mk nd.ft.ff nd.ft.fi nd.ft.fr) = s from hs]
    simp
theorem Vx {p : Ae} {l : List Kn} {k : Nat} (h : L3 p l = some k) : k < l.length := by
 obtain ⟨⟨x, f, s, h1, _⟩, _⟩ := RP h
 exact Bfs.lt_get h1
theorem R5 {N : Nat} (hN : N ≤ 1000000) (h20 : 100 ≤ N) {p : Ae} (hv : BZ p = 0) {m : Ag} (hm : Co p m) (hr : BJ p m = true) {most : Nat} (hmo : most ≤ 20000) (h1 : 1 ≤ most) {l : List Kn} (hs : Lt p m most N = some l) (hl : l.length < N) {ws : List (List Ai)} (h : ax p m l ws) :
  GC N p m = some (Qp p l ws) := by
 obtain ⟨hp, _⟩ := DR hv
 have hl2 : l.length ≤ 20000 := Nat.le_trans (Bfs.go_len _ _ _ _ (by simpa using h1) hs) hmo
 unfold GC
 rw [KL N p m hN h20 (NH hm) (K5 hv hm), hr]
 simp only [oS, bne_self_eq_false, Av, Bool.not_true]
 obtain ⟨pl, e1, e2, e3⟩ := Qj hN h20 hv hm hr hmo h1 hs
 rw [e1]
 simp only [oS, bne_self_eq_false, Av]
 have hpll : pl.length = l.length := by rw [← e2, List.length_map]
 unfold CS
 have := DP (A3 N pl ((fun (x : AH) => FN N x p.fb p.fh p.fo p.fc)) fun _ => some (-1)) l (some (-1)) (fun i n => (if Ko p n.1 = true then some i else none).map fun (k : Nat) => (k : Int))
  (fun n i nd hnd => by
   have hi := (lI.1 hnd).1
   have hnd2 := hnd
   rw [← e2, List.getElem?_map] at hnd2
   cases hq : pl[i]? with
   | none => rw [hq] at hnd2; cases hnd2
   | some nq =>
    rw [hq] at hnd2
    have hnd2 : Fq nq = nd := Option.some.inj hnd2
    rw [A3, AM (by omega), A1, hq]
    simp only [oS]
    have hok := (h.ok _ _ _ _ (show l[i]? = some (nd.1, nd.2.1, nd.2.2) from hnd)).1
    have hM : nq.fq = nd.1 := congrArg (fun n : Kn => n.1) hnd2
    unfold FN
    simp only
    rw [show (Ae.mk p.fb p.fh p.fo p.fc) = p from rfl, show (Ag.mk nq.fq.fd nq.fq.fa nq.fq.fe) = nd.1 from hM, TH N p nd.1 hN h20 (NH hok), AI (by omega)]
    simp only [oS]
    cases hg : Ko p nd.1 <;> rfl)
  (fun n => by rw [A3, AE (by omega)]) N 0 (Nat.zero_le _) (by omega)
 have e3 : A3 N pl ((fun (x : AH) => FN N x p.fb p.fh p.fo p.fc)) (fun _ => some (-1)) N 0 = _ := this
 rw [e3, List.drop_zero, NF]
 unfold Qp
 cases hg : L3 p l with
 | none =>
  unfold L3 at hg
  rw [hg]; rfl
 | some k =>
  have hk := Vx hg
  unfold L3 at hg
  rw [hg]
  simp only [Option.map_some, Ce, oS]
  rw [AE (by omega)]
  obtain ⟨w, hw⟩ := Bfs.get_ex (l := ws) (k := k) (by rw [h.inv.len]; exact hk)
  have e4 := ML h N e2 (fun (v2 : (List Ai)) => (BL N v2).bind fun v8 => some v8) N k (w := w) (acc := []) (by omega) hw (by simp; omega)
  unfold Kp
  have hwl := SU h (k + 1) k (Nat.lt_succ_self k) hw
  rw [e4, List.nil_append, U5 N h20 _ (by rw [List.length_reverse]; omega) (by rw [List.length_reverse]; omega), List.reverse_reverse]
  simp only [oS]
  rw [lD, hw]; rfl
def Zv (p : Ae) (m : Ag) (w : List Ai) : Prop := NY p m w = true ∧ Bfs.Dig Nh 100 w ∧ ∀ u, NY p m u = true → Bfs.code Nh 100 w ≤ Bfs.code Nh 100 u
theorem Vy {p : Ae} (hp : Bj p) : ∀ {w : List Ai} {m x : Ag}, QE p m w = some x → Bfs.Dig Nh 100 w ∧ ∀ s, s ∈ w → s ∈ EU p
 | [], _, _, _ => ⟨fun s hs => (by cases hs), fun s hs => (by cases hs)⟩
 | s :: w, m, x, h => by
  simp only [QE] at h
  cases hs : Nj p m s with
  | none => rw [hs] at h; cases h
  | some z =>
   rw [hs] at h
   obtain ⟨h1, h2⟩ := Vy hp h
   have h3 := (IZ (NV.1 (Q6 hs)).1).1
   refine ⟨fun t ht => ?_, fun t ht => ?_⟩
   ·rcases List.mem_cons.1 ht with rfl | ht
    ·exact (PX hp h3).2
    ·exact h1 t ht
   ·rcases List.mem_cons.1 ht with rfl | ht
    ·exact h3
    ·exact h2 t ht
theorem Wl {p : Ae} (hp : Bj p) {m : Ag} {l : List Kn} {ws : List (List Ai)} (h : ax p m l ws) :
  ((Qp p l ws).2 = 0 ∧ Zv p m (Qp p l ws).1 ∧ (Qp p l ws).1.length ≤ l.length) ∨ (Qp p l ws = ([], 14) ∧ ∀ u, NY p m u = false) := by
 unfold Qp
 cases hg : L3 p l with
 | none =>
  right
  refine ⟨rfl, fun u => ?_⟩
  cases hu : NY p m u
  ·rfl
  ·obtain ⟨x, h1, h2⟩ := RD hu
   obtain ⟨k, f, s, w, g1, g2, g3⟩ := Q1 hp h h1
   rw [Wc hg g1] at h2; cases h2
 | some k =>
  left
  obtain ⟨⟨x, f, s, h1, h2⟩, h3⟩ := RP hg
  have hk := Vx hg
  obtain ⟨w, hw⟩ := Bfs.get_ex (l := ws) (k := k) (by rw [h.inv.len]; exact hk)
  have hwe : ws.getD k [] = w := by rw [lD, hw]; rfl
  simp only [hwe]
  have hrun := YY hp h h1 hw
  refine ⟨trivial, ⟨?_, (Vy hp hrun).1, ?_⟩, ?_⟩
  ·unfold NY; rw [hrun]; exact h2
  ·intro u hu
   obtain ⟨y, g1, g2⟩ := RD hu
   obtain ⟨k', f', s', w', e1, e2, e3⟩ := Q1 hp h g1
   refine Nat.le_trans ?_ e3
   by_cases hkk : k' < k
   ·rw [h3 k' y f' s' hkk e1] at g2; cases g2
   ·rcases Nat.lt_or_eq_of_le (Nat.le_of_not_lt hkk) with h4 | h4
    ·exact Nat.le_of_lt (h.inv.inc _ _ _ _ hw e2 h4)
    ·subst h4; rw [hw] at e2; cases e2; exact Nat.le_refl _
  ·have := SU h (k + 1) k (Nat.lt_succ_self k) hw
   omega
def TV (p : Ae) (m : Ag) (r : List Ai × Int) : Prop := (r.2 = 0 ∧ Zv p m r.1 ∧ r.1.length ≤ 120) ∨ (r = ([], 14) ∧ ∀ u, NY p m u = false)
def Oi (p : Ae) : Prop := BJ p (FY p) = false ∨ ∃ l, Lt p (FY p) 120 1000 = some l
def PC (p : Ae) (r : List Ai × Int) : Prop := (BJ p (FY p) = false ∧ r = ([], 13)) ∨ (BJ p (FY p) = true ∧ TV p (FY p) r)
theorem Qs {α : Type} [DecidableEq α] : ∀ (L S : List α), L.Nodup → (∀ x, x ∈ L → x ∈ S) → L.length ≤ S.length
 | [], S, _, _ => Nat.zero_le _
 | x :: L, S, hn, hs => by
  obtain ⟨h1, h2⟩ := List.nodup_cons.1 hn
  have hx := hs x (by simp)
  have := Qs L (S.erase x) h2 (fun y hy => by
   have hne : y ≠ x := fun e => h1 (e ▸ hy)
   exact (List.mem_erase_of_ne hne).2 (hs y (List.mem_cons_of_mem _ hy)))
  rw [List.length_erase_of_mem hx] at this
  have := List.length_pos_of_mem hx
  simp only [List.length_cons]
  omega
def LG (l : List Kn) : List Ag := l.map fun n => n.1
theorem XU {i : Nat} {l : List Kn} {q : Ai × Ag} (h : (LG l).Nodup) : (LG (Bfs.put i l q)).Nodup ∧ ∀ x, x ∈ LG (Bfs.put i l q) → x ∈ LG l ∨ x = q.2 := by
 unfold Bfs.put
 split
 ·exact ⟨h, fun x hx => .inl hx⟩
 ·rename_i hn
  unfold LG at h ⊢
  rw [List.map_append]
  refine ⟨?_, ?_⟩
  ·rw [List.nodup_append]
   refine ⟨h, by simp, ?_⟩
   intro a ha b hb
   have hb : b = q.2 := by simpa using hb
   subst hb
   intro e
   subst e
   obtain ⟨n, hn1, hn2⟩ := List.mem_map.1 ha
   exact hn (List.any_eq_true.2 ⟨n, hn1, decide_eq_true hn2⟩)
  ·intro x hx
   rcases List.mem_append.1 hx with hx | hx
   ·exact .inl hx
   ·exact .inr (by simpa using hx)
theorem OP {S : List Ag} {most i : Nat} (hS : S.length ≤ most) : ∀ (qs : List (Ai × Ag)) (l : List Kn), (LG l).Nodup → (∀ x, x ∈ LG l → x ∈ S) → (∀ q, q ∈ qs → q.2 ∈ S) →
  ∃ l', Bfs.inner most i qs l = some l' ∧ (LG l').Nodup ∧ (∀ x, x ∈ LG l' → x ∈ S) ∧ l.length ≤ l'.length
 | [], l, h1, h2, _ => ⟨l, rfl, h1, h2, Nat.le_refl _⟩
 | q :: qs, l, h1, h2, h3 => by
  obtain ⟨g1, g2⟩ := XU (i := i) (q := q) h1
  have g3 : ∀ x, x ∈ LG (Bfs.put i l q) → x ∈ S := fun x hx => (g2 x hx).elim (h2 x) fun e => by rw [e]; exact h3 q (by simp)
  have := Qs _ S g1 g3
  unfold LG at this
  rw [List.length_map] at this
  simp only [Bfs.inner]
  rw [if_neg (by omega)]
  obtain ⟨l', e1, e2, e3, e4⟩ := OP hS qs (Bfs.put i l q) g1 g3 (fun q hq => h3 q (List.mem_cons_of_mem _ hq))
  refine ⟨l', e1, e2, e3, Nat.le_trans ?_ e4⟩
  unfold Bfs.put; split
  ·exact Nat.le_refl _
  ·simp
theorem S4 {p : Ae} {S : List Ag} {most : Nat} (hS : S.length ≤ most) (hc : ∀ x, x ∈ S → ∀ q, q ∈ Js p x → q.2 ∈ S) : ∀ (n i : Nat) (l : List Kn), (LG l).Nodup → (∀ x, x ∈ LG l → x ∈ S) → i ≤ l.length → most < n + i → ∃ l', Bfs.go (Js p) most n i l = some l'
 | 0, i, l, h1, h2, hi, hn => by
  have := Qs _ S h1 h2
  unfold LG at this
  rw [List.length_map] at this
  omega
 | n + 1, i, l, h1, h2, hi, hn => by
  simp only [Bfs.go]
  cases hx : l[i]? with
  | none => exact ⟨l, rfl⟩
  | some nd =>
   have hS2 : nd.1 ∈ S := h2 _ (List.mem_map.2 ⟨nd, lM hx, rfl⟩)
   obtain ⟨l1, e1, e2, e3, e4⟩ := OP (i := i) hS (Js p nd.1) l h1 h2 (hc _ hS2)
   simp only [e1, oS]
   have := Bfs.lt_get hx
   exact S4 hS hc n (i + 1) l1 e2 e3 (by omega) (by omega)
end Go.Lift
