/- Lemmas for WavesPlansCardSaid, which YtncnphcfgojgmaaGreatDoorFinV9 proves. -/
import Derived.Test.YtncnphcfgojgmaaGreatDoorDec
import Derived.KernelRfl
import Derived.Lib.ItoaLen
namespace Go.Lift
open IntKind renaming wrap → wI
open Option renaming bind_some → oS
open List renaming getElem?_eq_some_iff → lI
theorem AX {α : Type} (xs : List α) (i : Nat) : BK xs (i : Int) = xs[i]? := by
 unfold BK; simp
theorem DN {n : Int} (h0 : -9223372036854775808 ≤ n) (h1 : n ≤ 9223372036854775807) : wI .i64 n = n := by
 simp [wI, IntKind.signed, IntKind.bits]; omega
theorem AI {i : Nat} (h : i < 1000000) : wI .i64 ((i : Int) + 1) = ((i + 1 : Nat) : Int) := by
 rw [DN (by omega) (by omega)]; simp
@[simp] theorem AA {α : Type} {a b : Option α} : AL true a b = a := rfl
@[simp] theorem An {α : Type} {a b : Option α} : AL false a b = b := rfl
theorem AC {α : Type} {p : Prop} [Decidable p] {a b : Option α} (h : p) : AL (decide p) a b = a := by simp [h]
theorem AB {α : Type} {p : Prop} [Decidable p] {a b : Option α} (h : ¬ p) : AL (decide p) a b = b := by simp [h]
def Vo (a b : Int) : Int := if a < b then -1 else if b < a then 1 else 0
def G1 : List Int → List Int → Int
 | [], [] => 0
 | [], _ :: _ => -1
 | _ :: _, [] => 1
 | a :: as1, b :: bs => if a < b then -1 else if b < a then 1 else G1 as1 bs
theorem Ti (N : Nat) (a b : Int) : D2 N a b = some (Vo a b) := by
 unfold D2 Ev Vo
 by_cases h1 : a < b <;> by_cases h2 : b < a <;> simp [h1, h2]
theorem TJ (N : Nat) (a b : Int) : C4 N a b = some (Vo a b) := by
 unfold C4 DE Vo
 by_cases h1 : a < b <;> by_cases h2 : b < a <;> simp [h1, h2]
theorem DY {α : Type} {xs : List α} {i : Nat} {x : α} (h : xs[i]? = some x) : xs.drop i = x :: xs.drop (i + 1) := by
 obtain ⟨hi, rfl⟩ := lI.1 h
 exact List.drop_eq_getElem_cons hi
theorem PH (N : Nat) (a b : List Int) (hb : a.length < 1000000) : ∀ (n i : Nat), i ≤ a.length → i ≤ b.length → a.length - i < n →
  BQ N a b (fun _ => AL (decide ((a.length : Int) < (b.length : Int))) (some (-1)) (some 0)) n (i : Int) = some (G1 (a.drop i) (b.drop i))
 | 0, i, _, _, h => by omega
 | n + 1, i, hi, hj, h => by
  unfold BQ
  by_cases h1 : i < a.length
  ·rw [AC (by omega), AX]
   have ha : a[i]? = some a[i] := by simp [h1]
   rw [ha, DY ha]
   simp only [oS]
   by_cases h2 : i < b.length
   ·rw [AB (by omega), AX]
    have hbb : b[i]? = some b[i] := by simp [h2]
    rw [hbb, DY hbb]
    simp only [oS, Ti, G1, Vo]
    rw [AI (by omega), PH N a b hb n (i + 1) (by omega) (by omega) (by omega)]
    by_cases h3 : a[i] < b[i]
    ·simp [h3]
    ·by_cases h4 : b[i] < a[i]
     ·simp [h3, h4]
     ·simp [h3, h4]
   ·rw [AC (by omega), List.drop_eq_nil_of_le (by omega : b.length ≤ i)]
    simp [G1]
  ·rw [AB (by omega), List.drop_eq_nil_of_le (by omega : a.length ≤ i)]
   by_cases h2 : a.length < b.length
   ·rw [AC (by omega)]
    have hbb : b[i]? = some b[i] := by simp [show i < b.length from by omega]
    rw [DY hbb]; simp [G1]
   ·rw [AB (by omega), List.drop_eq_nil_of_le (by omega : b.length ≤ i)]
    simp [G1]
theorem M4 (N : Nat) (a b : List Int) (hb : a.length < 1000000) : ∀ (n i : Nat), i ≤ a.length → i ≤ b.length → a.length - i < n →
  Bc N a b (fun _ => AL (decide ((a.length : Int) < (b.length : Int))) (some (-1)) (some 0)) n (i : Int) = some (G1 (a.drop i) (b.drop i))
 | 0, i, _, _, h => by omega
 | n + 1, i, hi, hj, h => by
  unfold Bc
  by_cases h1 : i < a.length
  ·rw [AC (by omega), AX]
   have ha : a[i]? = some a[i] := by simp [h1]
   rw [ha, DY ha]
   simp only [oS]
   by_cases h2 : i < b.length
   ·rw [AB (by omega), AX]
    have hbb : b[i]? = some b[i] := by simp [h2]
    rw [hbb, DY hbb]
    simp only [oS, TJ, G1, Vo]
    rw [AI (by omega), M4 N a b hb n (i + 1) (by omega) (by omega) (by omega)]
    by_cases h3 : a[i] < b[i]
    ·simp [h3]
    ·by_cases h4 : b[i] < a[i]
     ·simp [h3, h4]
     ·simp [h3, h4]
   ·rw [AC (by omega), List.drop_eq_nil_of_le (by omega : b.length ≤ i)]
    simp [G1]
  ·rw [AB (by omega), List.drop_eq_nil_of_le (by omega : a.length ≤ i)]
   by_cases h2 : a.length < b.length
   ·rw [AC (by omega)]
    have hbb : b[i]? = some b[i] := by simp [show i < b.length from by omega]
    rw [DY hbb]; simp [G1]
   ·rw [AB (by omega), List.drop_eq_nil_of_le (by omega : b.length ≤ i)]
    simp [G1]
theorem Mk {N : Nat} {a b : List Int} (h : a.length < N) (hN : N ≤ 1000000) : B8 N a b = some (G1 a b) := by
 have := PH N a b (by omega) N 0 (by omega) (by omega) (by omega)
 simpa [B8] using this
theorem Pf {N : Nat} {a b : List Int} (h : a.length < N) (hN : N ≤ 1000000) : BM N a b = some (G1 a b) := by
 have := M4 N a b (by omega) N 0 (by omega) (by omega) (by omega)
 simpa [BM] using this
theorem Nq : ∀ a : List Int, G1 a a = 0
 | [] => rfl
 | a :: as1 => by simp [G1, Nq as1]
theorem LI : ∀ a b : List Int, G1 a b = 0 → a = b
 | [], [], _ => rfl
 | [], _ :: _, h => by simp [G1] at h
 | _ :: _, [], h => by simp [G1] at h
 | a :: as1, b :: bs, h => by
  unfold G1 at h
  split at h
  ·omega
  ·split at h
   ·omega
   ·rw [LI as1 bs h, show a = b from by omega]
def TV : List Int → Int
 | [] => 0
 | x :: xs => if x = 0 then TV xs else x
theorem Xw (N : Nat) (a : List Int) (hb : a.length < 1000000) : ∀ (n i : Nat), i ≤ a.length → a.length - i < n →
  DX N a (fun _ => some 0) n (i : Int) = some (TV (a.drop i))
 | 0, i, _, h => by omega
 | n + 1, i, hi, h => by
  unfold DX
  by_cases h1 : i < a.length
  ·have ha : a[i]? = some a[i] := by simp [h1]
   rw [AC (by omega), AX, ha, DY ha]
   simp only [oS, TV]
   rw [AI (by omega), Xw N a hb n (i + 1) (by omega) (by omega)]
   by_cases h3 : a[i] = 0
   ·simp [h3]
   ·have : (a[i] != 0) = true := by simpa using h3
    simp [h3, this]
  ·rw [AB (by omega), List.drop_eq_nil_of_le (by omega : a.length ≤ i)]
   simp [TV]
theorem U9 {N : Nat} {a : List Int} (h : a.length < N) (hN : N ≤ 1000000) : FE N a = some (TV a) := by
 have := Xw N a (by omega) N 0 (by omega) (by omega)
 simpa [FE] using this
def XC (a : Ab) : Prop := a.fe.length ≤ 8 ∧ a.fa.length ≤ 8 ∧ a.fd.length ≤ 14
def PZ (a b : Ab) : Int := TV [G1 a.fe b.fe, G1 a.fa b.fa, G1 a.fd b.fd]
theorem Nl (a : Ab) : PZ a a = 0 := by unfold PZ; simp [Nq, TV]
def CC {α R : Type} (f : Nat → α → Option R) : Nat → List α → Option R
 | _, [] => none
 | i, x :: xs => match f i x with
  | some r => some r
  | none => CC f (i + 1) xs
theorem F3 {α R : Type} (f : Nat → α → Option R) (i : Nat) (x : α) (xs : List α) : CC f i (x :: xs) = match f i x with
  | some r => some r
  | none => CC f (i + 1) xs := rfl
def Bt {R : Type} (a : Option R) (b : Option R) : Option R := match a with
 | some r => some r
 | none => b
theorem Cf {α R : Type} (L : Nat → Int → Option R) (xs : List α) (j : Option R) (f : Nat → α → Option R)
  (hs : ∀ (n i : Nat) (x : α), xs[i]? = some x → L (n + 1) (i : Int) = Bt (f i x) (L n ((i + 1 : Nat) : Int))) (he : ∀ n : Nat, L (n + 1) (xs.length : Int) = j) :
  ∀ n i : Nat, i ≤ xs.length → xs.length - i < n → L n (i : Int) = Bt (CC f i (xs.drop i)) j
 | 0, i, _, h => by omega
 | n + 1, i, hi, h => by
  by_cases h1 : i < xs.length
  ·have hx : xs[i]? = some xs[i] := by simp [h1]
   rw [hs n i _ hx, DY hx, Cf L xs j f hs he n (i + 1) (by omega) (by omega)]
   rw [F3]
   cases f i xs[i] <;> rfl
  ·have : i = xs.length := by omega
   subst this
   rw [he n, List.drop_eq_nil_of_le (Nat.le_refl _)]
   rfl
theorem NE (N : Nat) (k n : Int) : De N k n = some (decide (0 ≤ k) && decide (k < n)) := by
 unfold De
 simp only [Bf]
 by_cases h : 0 ≤ k
 ·rw [AC h]; simp [h]
 ·rw [AB h]; simp [h]
theorem KH (N : Nat) (t : Ar) : AS N t = some (t.ff == 3 || t.ff == 4) := by
 unfold AS
 simp only [Bf]
 cases h : t.ff == 3 <;> simp
def sq (l : List (List Bool)) (n m : Int) : Bool := decide ((l.length : Int) = n) && l.all fun r => decide ((r.length : Int) = m)
theorem LL {α : Type} (p : α → Bool) {R : Type} (r : Nat → R) : ∀ (i : Nat) (xs : List α), (CC (fun i x => if p x then none else some (r i)) i xs).isNone = xs.all p
 | i, [] => rfl
 | i, x :: xs => by
  unfold CC
  cases h : p x <;> simp [h, LL p r (i + 1) xs]
theorem M9 (N : Nat) (l : List (List Bool)) (n m : Int) (h : n < (N : Int)) (hN : N ≤ 1000000) : CF N l n m = some (sq l n m) := by
 unfold CF sq
 by_cases h1 : (l.length : Int) = n
 ·subst h1
  simp only [bne_self_eq_false, An, decide_true, Bool.true_and]
  have := Cf (BX N l (l.length : Int) m (fun _ => some true)) l (some true) (fun _ r => if decide ((r.length : Int) = m) then none else some false)
   (fun n i x hx => by
    have hi := (lI.1 hx).1
    rw [BX, AC (by omega), AX, hx]
    simp only [oS]
    rw [AI (by omega)]
    by_cases h2 : (x.length : Int) = m
    ·simp [h2, Bt]
    ·have : ((x.length : Int) != m) = true := by simpa using h2
     simp [h2, this, Bt])
   (fun n => by rw [BX, AB (by omega)]) N 0 (by omega) (by omega)
  simp only [Int.ofNat_zero, List.drop_zero] at this
  rw [this]
  have h3 := LL (fun r : List Bool => decide ((r.length : Int) = m)) (fun _ => false) 0 l
  cases hsc : CC (fun (_ : Nat) (r : List Bool) => if decide ((r.length : Int) = m) = true then none else some false) 0 l with
  | none => rw [hsc] at h3; rw [← h3]; rfl
  | some b =>
   rw [hsc] at h3
   rw [← h3]
   have : ∀ (i : Nat) (xs : List (List Bool)) b, CC (fun (_ : Nat) (r : List Bool) => if decide ((r.length : Int) = m) = true then none else some false) i xs = some b → b = false := by
    intro i xs
    induction xs generalizing i with
    | nil => intro b hb; cases hb
    | cons x xs ih =>
     intro b hb
     unfold CC at hb
     split at hb
     ·rename_i r hr; cases hb; split at hr <;> simp at hr; exact hr
     ·exact ih _ b hb
   rw [this 0 l b hsc]; rfl
 ·have : ((l.length : Int) != n) = true := by simpa using h1
  simp [this, h1]
theorem Nt (N : Nat) (l : List (List Bool)) (n m : Int) (h : n < (N : Int)) (hN : N ≤ 1000000) : D5 N l n m = some (sq l n m) := by
 unfold D5 sq
 simp only [Bf]
 by_cases h1 : (l.length : Int) = n
 ·subst h1
  simp only [beq_self_eq_true, AA, decide_true, Bool.true_and]
  have := Cf (Bb N l (fun x => C3 N x m) (fun _ => some (-1))) l (some (-1)) (fun i r => if decide ((r.length : Int) = m) then none else some (i : Int))
   (fun n i x hx => by
    have hi := (lI.1 hx).1
    rw [Bb, AC (by omega), AX, hx]
    simp only [oS, C3]
    rw [AI (by omega)]
    by_cases h2 : (x.length : Int) = m
    ·simp [h2, Bt]
    ·have : ((x.length : Int) != m) = true := by simpa using h2
     simp [h2, this, Bt])
   (fun n => by rw [Bb, AB (by omega)]) N 0 (by omega) (by omega)
  simp only [Int.ofNat_zero, List.drop_zero] at this
  unfold Cl CE
  rw [this]
  have h3 := LL (fun r : List Bool => decide ((r.length : Int) = m)) (fun i : Nat => (i : Int)) 0 l
  cases hsc : CC (fun (i : Nat) (r : List Bool) => if decide ((r.length : Int) = m) = true then none else some (i : Int)) 0 l with
  | none => rw [hsc] at h3; rw [← h3]; rfl
  | some b =>
   rw [hsc] at h3
   rw [← h3]
   have : ∀ (i : Nat) (xs : List (List Bool)) b, CC (fun (i : Nat) (r : List Bool) => if decide ((r.length : Int) = m) = true then none else some (i : Int)) i xs = some b → 0 ≤ b := by
    intro i xs
    induction xs generalizing i with
    | nil => intro b hb; cases hb
    | cons x xs ih =>
     intro b hb
     rw [F3] at hb
     split at hb
     ·rename_i r hr
      cases hb
      split at hr
      ·cases hr
      ·cases hr; omega
     ·exact ih _ b hb
   have := this 0 l b hsc
   simp [Bt, this]
 ·have : ((l.length : Int) == n) = false := by simpa using h1
  simp [this, h1]
open List renaming mem_of_getElem? → lM
open List renaming getD_eq_getElem?_getD → lD
def Ht (l : List (List Bool)) : Option Int := CC (fun i row => if row.getD i false then none else some 1) 0 l
theorem PA {row : List Bool} {i : Nat} (h : i < row.length) : BK row (i : Int) = some (row.getD i false) := by
 rw [AX, lD]; simp [h]
theorem Tg (N : Nat) (t : Ar) (h : t.fm.length < N) (hN : N ≤ 1000000) (hsq : ∀ row, row ∈ t.fm → row.length = t.fm.length) (j : Option Int) :
  BG N t (fun _ => j) N 0 = Bt (Ht t.fm) j := by
 have := Cf (BG N t (fun _ => j)) t.fm j (fun i row => if row.getD i false then none else some 1)
  (fun n i x hx => by
   have hi := (lI.1 hx).1
   have hl := hsq x (lM hx)
   rw [BG, AC (by omega), AX, hx]
   simp only [oS]
   rw [PA (by omega), AI (by omega)]
   simp only [oS]
   cases x.getD i false <;> rfl)
  (fun n => by rw [BG, AB (by omega)]) N 0 (by omega) (by omega)
 simpa [Ht] using this
theorem Np (N : Nat) (t : Ar) (h : t.fm.length < N) (hN : N ≤ 1000000) (hsq : ∀ row, row ∈ t.fm → row.length = t.fm.length) (j : Option Int) :
  Cu N t (fun _ => j) N 0 = Bt (Ht t.fm) j := by
 have := Cf (Cu N t (fun _ => j)) t.fm j (fun i row => if row.getD i false then none else some 1)
  (fun n i x hx => by
   have hi := (lI.1 hx).1
   have hl := hsq x (lM hx)
   rw [Cu, AC (by omega), AX, hx]
   simp only [oS]
   rw [PA (by omega), AI (by omega)]
   simp only [oS]
   cases x.getD i false <;> rfl)
  (fun n => by rw [Cu, AB (by omega)]) N 0 (by omega) (by omega)
 simpa [Ht] using this
theorem LH {l : List (List Bool)} {n m : Int} (h : sq l n m = true) : (l.length : Int) = n ∧ ∀ row, row ∈ l → (row.length : Int) = m := by
 unfold sq at h
 simp only [Bool.and_eq_true, decide_eq_true_eq, List.all_eq_true] at h
 exact h
def Dh (p : Aa) (t : Ar) : Int :=
 if t.ff < 1 ∨ 4 < t.ff ∨ (t.fp = true ∧ (t.ff = 3 ∨ t.ff = 4)) then 1
 else if t.fg < 0 ∨ (p.fb.length : Int) ≤ t.fg ∨ t.fk < 0 ∨ (p.fb.length : Int) ≤ t.fk then 4
 else
  let f := p.fb.getD t.fg.toNat 0
  let g := p.fb.getD t.fk.toNat 0
  if sq t.fq f g = false then 6
  else if t.ff = 4 then (if sq t.fm f f = false then 6 else (Ht t.fm).getD 0)
  else if t.fm.length = 0 then 0 else 6
theorem DV {α : Type} {xs : List α} {i : Int} {d : α} (h0 : 0 ≤ i) (h1 : i < (xs.length : Int)) : BK xs i = some (xs.getD i.toNat d) := by
 obtain ⟨k, rfl⟩ := Int.eq_ofNat_of_zero_le h0
 rw [AX, lD, Int.toNat_natCast]
 simp [show k < xs.length from by omega]
theorem Sy {t : Ar} (A B : Option Int) (hk : ¬ (t.fp = true ∧ (t.ff = 3 ∨ t.ff = 4))) : AL t.fp (AL (t.ff == 3 || t.ff == 4) A B) B = B := by
 cases ha : t.fp
 ·rfl
 ·have : (t.ff == 3 || t.ff == 4) = false := by
   rw [Bool.or_eq_false_iff]
   constructor
   ·simp only [beq_eq_false_iff_ne]; intro h; exact hk ⟨ha, .inl h⟩
   ·simp only [beq_eq_false_iff_ne]; intro h; exact hk ⟨ha, .inr h⟩
  rw [this]; rfl
theorem IX {p : Aa} {i : Int} (hv : ∀ v, v ∈ p.fb → 1 ≤ v ∧ v ≤ 6) (h0 : 0 ≤ i) (h1 : i < (p.fb.length : Int)) : 1 ≤ p.fb.getD i.toNat 0 ∧ p.fb.getD i.toNat 0 ≤ 6 := by
 refine hv _ ?_
 rw [lD, List.getElem?_eq_getElem (by omega)]
 exact List.getElem_mem _
theorem Q8 (N : Nat) (p : Aa) (t : Ar) (hN : N ≤ 1000000) (h6 : 7 ≤ N) (hv : ∀ v, v ∈ p.fb → 1 ≤ v ∧ v ≤ 6) : DB N p t = some (Dh p t) := by
 unfold DB Dh
 simp only [Bf, KH, oS]
 by_cases k1 : t.ff < 1
 ·simp [k1]
 by_cases k2 : 4 < t.ff
 ·simp [k1, k2]
 rw [AB k1, AB k2]
 by_cases hk : t.fp = true ∧ (t.ff = 3 ∨ t.ff = 4)
 ·obtain ⟨ha, k | k⟩ := hk <;> simp [ha, k]
 rw [An, Sy _ _ hk, if_neg (fun h => h.elim k1 fun h => h.elim k2 hk)]
 by_cases f1 : t.fg < 0
 ·simp [f1]
 by_cases f2 : (p.fb.length : Int) ≤ t.fg
 ·simp [f1, f2]
 by_cases f3 : t.fk < 0
 ·simp [f1, f2, f3]
 by_cases f4 : (p.fb.length : Int) ≤ t.fk
 ·simp [f1, f2, f3, f4]
 rw [AB f1, AB f2, AB f3, if_neg (fun h => h.elim f1 fun h => h.elim f2 fun h => h.elim f3 f4)]
 have hf := IX hv (i := t.fg) (by omega) (by omega)
 rw [decide_eq_false f4, An, DV (d := 0) (by omega : 0 ≤ t.fg) (by omega), DV (d := 0) (by omega : 0 ≤ t.fk) (by omega)]
 simp only [oS]
 generalize p.fb.getD t.fg.toNat 0 = f at *
 generalize p.fb.getD t.fk.toNat 0 = g at *
 rw [M9 N t.fq f g (by omega) hN, M9 N t.fm f f (by omega) hN]
 simp only [oS]
 cases hq : sq t.fq f g
 ·rfl
 simp only [Bool.not_true, An]
 by_cases k4 : t.ff = 4
 ·have : (t.ff != 4) = false := by simp [k4]
  rw [this, An]
  simp only [k4, if_true]
  cases hr : sq t.fm f f
  ·rfl
  ·have h7 := LH hr
   simp only [Bool.not_true, An]
   rw [Tg N t (by omega) hN (fun row hm => by have := h7.2 row hm; omega)]
   cases Ht t.fm <;> simp [Bt]
 ·have : (t.ff != 4) = true := by simpa using k4
  rw [this, AA]
  simp only [k4, if_false]
  by_cases hr : t.fm.length = 0
  ·simp [hr]
  ·have : ((t.fm.length : Int) != 0) = true := bne_iff_ne.2 (by omega)
   rw [this]; simp [hr]
theorem TZ (N : Nat) (k : Int) (a : Bool) : FB N k a = some (k == 1 || (k == 2 || ((k == 3 || k == 4) && !a))) := by
 unfold FB
 simp only [Bf]
 cases h1 : k == 1 <;> cases h2 : k == 2 <;> cases h3 : k == 3 <;> cases h4 : k == 4 <;> cases a <;> rfl
theorem MD (N : Nat) (p : Aa) (t : Ar) (hN : N ≤ 1000000) (h6 : 7 ≤ N) (hv : ∀ v, v ∈ p.fb → 1 ≤ v ∧ v ≤ 6) : Fl N p t = some (Dh p t) := by
 unfold Fl Dh
 simp only [Bf, TZ, NE, oS]
 by_cases hb : t.ff < 1 ∨ 4 < t.ff ∨ (t.fp = true ∧ (t.ff = 3 ∨ t.ff = 4))
 ·have : (t.ff == 1 || (t.ff == 2 || ((t.ff == 3 || t.ff == 4) && !t.fp))) = false := by
   rcases hb with h | h | ⟨ha, h | h⟩
   ·rw [beq_eq_false_iff_ne.2 (by omega : t.ff ≠ 1), beq_eq_false_iff_ne.2 (by omega : t.ff ≠ 2), beq_eq_false_iff_ne.2 (by omega : t.ff ≠ 3), beq_eq_false_iff_ne.2 (by omega : t.ff ≠ 4)]; rfl
   ·rw [beq_eq_false_iff_ne.2 (by omega : t.ff ≠ 1), beq_eq_false_iff_ne.2 (by omega : t.ff ≠ 2), beq_eq_false_iff_ne.2 (by omega : t.ff ≠ 3), beq_eq_false_iff_ne.2 (by omega : t.ff ≠ 4)]; rfl
   ·simp [ha, h]
   ·simp [ha, h]
  rw [this, if_pos hb]; rfl
 ·have : (t.ff == 1 || (t.ff == 2 || ((t.ff == 3 || t.ff == 4) && !t.fp))) = true := by
   have hk : t.ff = 1 ∨ t.ff = 2 ∨ t.ff = 3 ∨ t.ff = 4 := by
    have h1 : ¬ t.ff < 1 := fun h => hb (.inl h)
    have h2 : ¬ 4 < t.ff := fun h => hb (.inr (.inl h))
    omega
   rcases hk with h | h | h | h
   ·simp [h]
   ·simp [h]
   ·cases ha : t.fp
    ·simp [h]
    ·exact (hb (.inr (.inr ⟨ha, .inl h⟩))).elim
   ·cases ha : t.fp
    ·simp [h]
    ·exact (hb (.inr (.inr ⟨ha, .inr h⟩))).elim
  rw [this, if_neg hb]
  simp only [Bool.not_true, An]
  by_cases f1 : t.fg < 0
  ·simp [f1, show ¬ (0 ≤ t.fg) from by omega]
  by_cases f2 : (p.fb.length : Int) ≤ t.fg
  ·simp [f2, show ¬ (t.fg < (p.fb.length : Int)) from by omega]
  by_cases f3 : t.fk < 0
  ·simp [f3, show 0 ≤ t.fg from by omega, show t.fg < (p.fb.length : Int) from by omega, show ¬ (0 ≤ t.fk) from by omega]
  by_cases f4 : (p.fb.length : Int) ≤ t.fk
  ·simp [f4, show 0 ≤ t.fg from by omega, show t.fg < (p.fb.length : Int) from by omega, show ¬ (t.fk < (p.fb.length : Int)) from by omega]
  rw [if_neg (fun h => h.elim f1 fun h => h.elim f2 fun h => h.elim f3 f4)]
  have hf := IX hv (i := t.fg) (by omega) (by omega)
  have hg := IX hv (i := t.fk) (by omega) (by omega)
  rw [decide_eq_true (by omega : 0 ≤ t.fg), decide_eq_true (by omega : t.fg < (p.fb.length : Int)), decide_eq_true (by omega : 0 ≤ t.fk), decide_eq_true (by omega : t.fk < (p.fb.length : Int)), DV (d := 0) (by omega : 0 ≤ t.fg) (by omega), DV (d := 0) (by omega : 0 ≤ t.fk) (by omega)]
  simp only [Bool.and_self, Bool.not_true, An, oS]
  generalize p.fb.getD t.fg.toNat 0 = f at *
  generalize p.fb.getD t.fk.toNat 0 = g at *
  rw [Nt N t.fq f g (by omega) hN, Nt N t.fm f f (by omega) hN]
  simp only [oS]
  cases hq : sq t.fq f g
  ·rfl
  simp only [Bool.not_true, An]
  by_cases k4 : t.ff = 4
  ·simp only [k4, beq_self_eq_true, AA, if_true]
   cases hr : sq t.fm f f
   ·rfl
   ·have h7 := LH hr
    simp only [Bool.not_true, An]
    rw [Np N t (by omega) hN (fun row hm => by have := h7.2 row hm; omega)]
    cases Ht t.fm <;> simp [Bt]
  ·have : (t.ff == 4) = false := beq_eq_false_iff_ne.2 k4
   rw [this, An]
   simp only [k4, if_false, Bool.not_false, AA]
   by_cases hr : t.fm.length = 0
   ·rw [Np N t (by omega) hN (fun row hm => by rw [List.eq_nil_of_length_eq_zero hr] at hm; cases hm), List.eq_nil_of_length_eq_zero hr]
    simp [Ht, CC, Bt]
   ·rw [decide_eq_true (by omega : 0 < (t.fm.length : Int))]
    simp [hr]
def EU (p : Aa) (i : Nat) (v : Int) : Option Int :=
 if v < 1 ∨ 6 < v ∨ p.fi.getD i 0 < 0 ∨ v ≤ p.fi.getD i 0 ∨ p.fo.getD i 0 < 0 ∨ v ≤ p.fo.getD i 0 then some 7 else none
def KE (p : Aa) (_ : Nat) (t : Ar) : Option Int := if Dh p t = 0 then none else some (Dh p t)
def Bp (p : Aa) : Int :=
 if 6 < p.fb.length ∨ 12 < p.fc.length then 3
 else if p.fi.length ≠ p.fb.length ∨ p.fo.length ≠ p.fb.length then 6
 else ((Bt (CC (EU p) 0 p.fb) (CC (KE p) 0 p.fc)).getD 0)
theorem Eu {α R : Type} {f : Nat → α → Option R} : ∀ {i : Nat} {xs : List α}, CC f i xs = none → ∀ j x, xs[j]? = some x → f (i + j) x = none
 | _, [], _, j, x, hx => by simp at hx
 | i, y :: ys, h, j, x, hx => by
  rw [F3] at h
  split at h
  ·cases h
  ·rename_i h0
   cases j with
   | zero => simp at hx; subst hx; exact h0
   | succ j =>
    have := Eu h j x (by simpa using hx)
    rwa [show i + 1 + j = i + (j + 1) from by omega] at this
theorem Mc {p : Aa} (h : CC (EU p) 0 p.fb = none) : ∀ v, v ∈ p.fb → 1 ≤ v ∧ v ≤ 6 := by
 intro v hv
 obtain ⟨i, hi⟩ := List.mem_iff_getElem?.1 hv
 have := Eu h i v hi
 unfold EU at this
 split at this
 ·cases this
 ·rename_i hn
  constructor
  ·exact Int.not_lt.1 fun h => hn (.inl h)
  ·exact Int.not_lt.1 fun h => hn (.inr (.inl h))
theorem Cq {α : Type} {xs : List α} {i : Nat} {d : α} (h : i < xs.length) : BK xs (i : Int) = some (xs.getD i d) := by
 rw [AX, lD]; simp [h]
theorem PT (N : Nat) (p : Aa) (hN : N ≤ 1000000) (h1 : p.fb.length < N) (h2 : p.fi.length = p.fb.length) (h3 : p.fo.length = p.fb.length) (j : Option Int) :
  A2 N p (fun _ => j) N 0 = Bt (CC (EU p) 0 p.fb) j := by
 have := Cf (A2 N p (fun _ => j)) p.fb j (EU p)
  (fun n i x hx => by
   have hi := (lI.1 hx).1
   rw [A2, AC (by omega), AX, hx]
   simp only [oS, Bf]
   rw [Cq (d := 0) (by omega), Cq (d := 0) (by omega), AI (by omega)]
   simp only [oS]
   unfold EU
   generalize p.fi.getD i 0 = a
   generalize p.fo.getD i 0 = b
   by_cases k1 : x < 1 <;> by_cases k2 : 6 < x <;> by_cases k3 : a < 0 <;> by_cases k4 : x ≤ a <;> by_cases k5 : b < 0 <;> by_cases k6 : x ≤ b <;> simp [k1, k2, k3, k4, k5, k6, Bt])
  (fun n => by rw [A2, AB (by omega)]) N 0 (by omega) (by omega)
 simpa using this
theorem Oj (N : Nat) (p : Aa) (hN : N ≤ 1000000) (h1 : p.fb.length < N) (h2 : p.fi.length = p.fb.length) (h3 : p.fo.length = p.fb.length) (j : Option Int) :
  BD N p (fun _ => j) N 0 = Bt (CC (EU p) 0 p.fb) j := by
 have := Cf (BD N p (fun _ => j)) p.fb j (EU p)
  (fun n i x hx => by
   have hi := (lI.1 hx).1
   rw [BD, AC (by omega), AX, hx]
   simp only [oS, Bf, NE]
   rw [Cq (d := 0) (by omega), Cq (d := 0) (by omega), AI (by omega)]
   simp only [oS]
   unfold EU
   generalize p.fi.getD i 0 = a
   generalize p.fo.getD i 0 = b
   have e1 : decide (0 ≤ a) = !decide (a < 0) := by rw [← decide_not]; congr 1; simp
   have e2 : decide (a < x) = !decide (x ≤ a) := by rw [← decide_not]; congr 1; simp
   have e3 : decide (0 ≤ b) = !decide (b < 0) := by rw [← decide_not]; congr 1; simp
   have e4 : decide (b < x) = !decide (x ≤ b) := by rw [← decide_not]; congr 1; simp
   rw [e1, e2, e3, e4]
   by_cases k1 : x < 1 <;> by_cases k2 : 6 < x <;> by_cases k3 : a < 0 <;> by_cases k4 : x ≤ a <;> by_cases k5 : b < 0 <;> by_cases k6 : x ≤ b <;> simp [k1, k2, k3, k4, k5, k6, Bt])
  (fun n => by rw [BD, AB (by omega)]) N 0 (by omega) (by omega)
 simpa using this
theorem Rz (N : Nat) (p : Aa) (hN : N ≤ 1000000) (h6 : 7 ≤ N) (h1 : p.fc.length < N) (hv : ∀ v, v ∈ p.fb → 1 ≤ v ∧ v ≤ 6) (j : Option Int) :
  AZ N p (fun _ => j) N 0 = Bt (CC (KE p) 0 p.fc) j := by
 have := Cf (AZ N p (fun _ => j)) p.fc j (KE p)
  (fun n i x hx => by
   have hi := (lI.1 hx).1
   rw [AZ, AC (by omega), AX, hx]
   simp only [oS]
   rw [Q8 N p x hN h6 hv, AI (by omega)]
   simp only [oS]
   unfold KE
   by_cases k : Dh p x = 0
   ·simp [k, Bt]
   ·rw [bne_iff_ne.2 k, if_neg k]; rfl)
  (fun n => by rw [AZ, AB (by omega)]) N 0 (by omega) (by omega)
 simpa using this
theorem PN (N : Nat) (p : Aa) (hN : N ≤ 1000000) (h6 : 7 ≤ N) (h1 : p.fc.length < N) (hv : ∀ v, v ∈ p.fb → 1 ≤ v ∧ v ≤ 6) (j : Option Int) :
  Bu N p (fun _ => j) N 0 = Bt (CC (KE p) 0 p.fc) j := by
 have := Cf (Bu N p (fun _ => j)) p.fc j (KE p)
  (fun n i x hx => by
   have hi := (lI.1 hx).1
   rw [Bu, AC (by omega), AX, hx]
   simp only [oS]
   rw [MD N p x hN h6 hv, AI (by omega)]
   simp only [oS]
   unfold KE
   by_cases k : Dh p x = 0
   ·simp [k, Bt]
   ·rw [bne_iff_ne.2 k, if_neg k]; rfl)
  (fun n => by rw [Bu, AB (by omega)]) N 0 (by omega) (by omega)
 simpa using this
theorem My (N : Nat) (p : Aa) (hN : N ≤ 1000000) (h : 20 ≤ N) : BY N p = some (Bp p) := by
 unfold BY Bp
 simp only [Bf]
 by_cases k1 : 6 < p.fb.length
 ·rw [AC (by omega)]; simp [k1]
 rw [AB (by omega)]
 by_cases k2 : 12 < p.fc.length
 ·rw [decide_eq_true (by omega : (12 : Int) < (p.fc.length : Int))]; simp [k2]
 rw [decide_eq_false (by omega : ¬ (12 : Int) < (p.fc.length : Int)), An, if_neg (by omega)]
 by_cases k3 : p.fi.length = p.fb.length
 ·by_cases k4 : p.fo.length = p.fb.length
  ·rw [k3, k4]
   simp only [bne_self_eq_false, An, ne_eq, not_true_eq_false, or_self, if_false]
   rw [PT N p hN (by omega) k3 k4]
   cases hs : CC (EU p) 0 p.fb with
   | some r => rfl
   | none =>
    simp only [Bt]
    rw [Rz N p hN (by omega) (by omega) (Mc hs)]
    cases CC (KE p) 0 p.fc <;> rfl
  ·have : ((p.fo.length : Int) != (p.fb.length : Int)) = true := bne_iff_ne.2 (by omega)
   rw [this, k3]; simp [k4]
 ·have : ((p.fi.length : Int) != (p.fb.length : Int)) = true := bne_iff_ne.2 (by omega)
  rw [this]; simp [k3]
theorem KB (N : Nat) (p : Aa) (hN : N ≤ 1000000) (h : 20 ≤ N) : Ch N p = some (Bp p) := by
 unfold Ch Bp
 simp only [Bf]
 by_cases k1 : 6 < p.fb.length
 ·rw [AC (by omega)]; simp [k1]
 rw [AB (by omega)]
 by_cases k2 : 12 < p.fc.length
 ·rw [decide_eq_true (by omega : (12 : Int) < (p.fc.length : Int))]; simp [k2]
 rw [decide_eq_false (by omega : ¬ (12 : Int) < (p.fc.length : Int)), An, if_neg (by omega)]
 by_cases k3 : p.fi.length = p.fb.length
 ·by_cases k4 : p.fo.length = p.fb.length
  ·rw [k3, k4]
   simp only [bne_self_eq_false, An, ne_eq, not_true_eq_false, or_self, if_false]
   rw [Oj N p hN (by omega) k3 k4]
   cases hs : CC (EU p) 0 p.fb with
   | some r => rfl
   | none =>
    simp only [Bt]
    rw [PN N p hN (by omega) (by omega) (Mc hs)]
    cases CC (KE p) 0 p.fc <;> rfl
  ·have : ((p.fo.length : Int) != (p.fb.length : Int)) = true := bne_iff_ne.2 (by omega)
   rw [this, k3]; simp [k4]
 ·have : ((p.fi.length : Int) != (p.fb.length : Int)) = true := bne_iff_ne.2 (by omega)
  rw [this]; simp [k3]
theorem Hw {n : Int} (h : Ju n) : 0 ≤ n ∧ n ≤ 255 := by
 unfold Ju at h
 simpa [Lit.wf, IntKind.min, IntKind.max, IntKind.signed, IntKind.bits] using h
theorem M1 : ∀ k : Fin 256, Cz .u8 0 (k.val : Int) = 0 := by decide +kernel
theorem MY : ∀ k : Fin 256, Cz .u8 (k.val : Int) 0 = (k.val : Int) := by decide +kernel
theorem RM {n : Int} (h : Ju n) : Cz .u8 0 n = 0 := by
 have := Hw h
 obtain ⟨k, rfl⟩ := Int.eq_ofNat_of_zero_le this.1
 exact M1 ⟨k, by omega⟩
theorem SI {n : Int} (h : Ju n) : Cz .u8 n 0 = n := by
 have := Hw h
 obtain ⟨k, rfl⟩ := Int.eq_ofNat_of_zero_le this.1
 exact MY ⟨k, by omega⟩
theorem DJ {α R : Type} {f : Nat → α → Option R} : ∀ {i : Nat} {xs : List α} {r : R}, CC f i xs = some r → ∃ j x, xs[j]? = some x ∧ f (i + j) x = some r
 | _, [], _, h => by cases h
 | i, y :: ys, r, h => by
  rw [F3] at h
  split at h
  ·rename_i r' h0
   cases h
   exact ⟨0, y, rfl, h0⟩
  ·obtain ⟨j, x, h1, h2⟩ := DJ h
   exact ⟨j + 1, x, by simpa using h1, by rwa [show i + (j + 1) = i + 1 + j from by omega]⟩
structure Ci (p : Aa) : Prop where
 nv : p.fb.length ≤ 6
 nt : p.fc.length ≤ 12
 now : p.fi.length = p.fb.length
 tgt : p.fo.length = p.fb.length
 ver : ∀ v, v ∈ p.fb → 1 ≤ v ∧ v ≤ 6
 tab : ∀ t, t ∈ p.fc → Dh p t = 0
theorem PU (l : List (List Bool)) : (Ht l).getD 0 = 0 ∨ (Ht l).getD 0 = 1 := by
 cases h : Ht l with
 | none => exact .inl rfl
 | some r =>
  obtain ⟨j, x, _, h⟩ := DJ h
  split at h
  ·cases h
  ·cases h; exact .inr rfl
theorem Ox (p : Aa) (t : Ar) : Dh p t = 0 ∨ Dh p t = 1 ∨ Dh p t = 4 ∨ Dh p t = 6 := by
 unfold Dh
 split
 ·exact .inr (.inl rfl)
 split
 ·exact .inr (.inr (.inl rfl))
 simp only
 split
 ·exact .inr (.inr (.inr rfl))
 split
 ·split
  ·exact .inr (.inr (.inr rfl))
  ·rcases PU t.fm with h | h
   ·exact .inl h
   ·exact .inr (.inl h)
 ·split
  ·exact .inl rfl
  ·exact .inr (.inr (.inr rfl))
theorem Gg (p : Aa) : (Bp p = 0 ∧ Ci p) ∨ (Bp p = 1 ∨ Bp p = 3 ∨ Bp p = 4 ∨ Bp p = 6 ∨ Bp p = 7) := by
 unfold Bp
 split
 ·simp
 rename_i k1
 split
 ·simp
 rename_i k2
 cases hs : CC (EU p) 0 p.fb with
 | some r =>
  obtain ⟨j, x, _, h⟩ := DJ hs
  unfold EU at h
  split at h
  ·cases h; simp [Bt]
  ·cases h
 | none =>
  cases ht : CC (KE p) 0 p.fc with
  | some r =>
   obtain ⟨j, t, _, h⟩ := DJ ht
   unfold KE at h
   split at h
   ·cases h
   ·rename_i hne
    cases h
    simp only [Bt, Option.getD_some]
    right
    rcases Ox p t with h | h | h | h
    ·exact (hne h).elim
    ·exact .inl h
    ·exact .inr (.inr (.inl h))
    ·exact .inr (.inr (.inr (.inl h)))
  | none =>
   left
   refine ⟨rfl, by omega, by omega, by omega, by omega, Mc hs, fun t hm => ?_⟩
   obtain ⟨j, hj⟩ := List.mem_iff_getElem?.1 hm
   have := Eu ht j t hj
   unfold KE at this
   split at this
   ·assumption
   ·cases this
def FG (m : Ab) (s : Nat) : Int :=
 if 0 ≤ m.fa.getD s 0 then ME .u8 (C0 .u8 1 (m.fe.getD s 0)) (C0 .u8 1 (m.fa.getD s 0)) else C0 .u8 1 (m.fe.getD s 0)
def JO (m : Ab) (i : Nat) (v : Int) : Option Int :=
 if m.fe.getD i 0 < 0 ∨ v ≤ m.fe.getD i 0 ∨ m.fa.getD i 0 < -1 ∨ v ≤ m.fa.getD i 0 then some 7
 else if m.fe.getD i 0 = m.fa.getD i 0 then some 1 else none
def Bz (t : Ar) : Bool := t.ff == 3 || t.ff == 4
def SY (p : Aa) (t : Ar) : Int := wI .u8 (C0 .u8 1 (p.fb.getD t.fg.toNat 0) - 1)
def HY (p : Aa) (m : Ab) (i : Nat) (t : Ar) : Option Int :=
 if Bz t = true then (if Cz .u8 (FG m t.fg.toNat) (m.fd.getD i 0) ≠ 0 ∨ Cz .u8 (m.fd.getD i 0) (SY p t) ≠ 0 then some 1 else none)
 else if m.fd.getD i 0 ≠ 0 then some 1 else none
def Do (p : Aa) (m : Ab) : Int :=
 if Bp p ≠ 0 then Bp p
 else if m.fe.length ≠ p.fb.length ∨ m.fa.length ≠ p.fb.length ∨ m.fd.length ≠ p.fc.length then 6
 else (Bt (CC (JO m) 0 p.fb) (CC (HY p m) 0 p.fc)).getD 0
theorem HN {p : Aa} {t : Ar} (h : Dh p t = 0) : 0 ≤ t.fg ∧ t.fg < (p.fb.length : Int) ∧ 0 ≤ t.fk ∧ t.fk < (p.fb.length : Int) := by
 unfold Dh at h
 split at h
 ·cases h
 ·split at h
  ·cases h
  ·omega
theorem J0 (N : Nat) (m : Ab) (s : Int) (h0 : 0 ≤ s) (h1 : s < (m.fe.length : Int)) (h2 : s < (m.fa.length : Int)) (hb : 0 ≤ m.fe.getD s.toNat 0) : D0 N m s = some (FG m s.toNat) := by
 unfold D0 FG
 rw [DV (d := 0) h0 h1, DV (d := 0) h0 h2]
 simp only [oS, Bf]
 rw [show Dl (0 ≤ m.fe.getD s.toNat 0) = some () from by unfold Dl; rw [if_pos hb]]
 simp only [oS]
 by_cases h : 0 ≤ m.fa.getD s.toNat 0
 ·rw [AC h, if_pos h, show Dl (0 ≤ m.fa.getD s.toNat 0) = some () from by unfold Dl; rw [if_pos h]]; rfl
 ·rw [AB h, if_neg h]
theorem Iw (N : Nat) (m : Ab) (s : Int) (h0 : 0 ≤ s) (h1 : s < (m.fe.length : Int)) (h2 : s < (m.fa.length : Int)) (hb : 0 ≤ m.fe.getD s.toNat 0) : BA N m s = some (FG m s.toNat) := by
 unfold BA FG
 rw [DV (d := 0) h0 h1, DV (d := 0) h0 h2]
 simp only [oS, Bf]
 rw [show Dl (0 ≤ m.fe.getD s.toNat 0) = some () from by unfold Dl; rw [if_pos hb]]
 simp only [oS]
 by_cases h : 0 ≤ m.fa.getD s.toNat 0
 ·rw [AC h, if_pos h, show Dl (0 ≤ m.fa.getD s.toNat 0) = some () from by unfold Dl; rw [if_pos h]]; rfl
 ·rw [AB h, if_neg h]
theorem N6 (N : Nat) (p : Aa) (m : Ab) (hN : N ≤ 1000000) (h1 : p.fb.length < N) (h2 : m.fe.length = p.fb.length) (h3 : m.fa.length = p.fb.length) (j : Option Int) :
  Dc N p m (fun _ => j) N 0 = Bt (CC (JO m) 0 p.fb) j := by
 have := Cf (Dc N p m (fun _ => j)) p.fb j (JO m)
  (fun n i x hx => by
   have hi := (lI.1 hx).1
   rw [Dc, AC (by omega), AX, hx]
   simp only [oS, Bf]
   rw [Cq (d := 0) (by omega), Cq (d := 0) (by omega), AI (by omega)]
   simp only [oS]
   unfold JO
   generalize m.fe.getD i 0 = a
   generalize m.fa.getD i 0 = b
   by_cases k7 : a = b
   ·subst k7
    by_cases k3 : a < 0 <;> by_cases k4 : x ≤ a <;> by_cases k5 : a < -1 <;> simp [k3, k4, k5, Bt]
   ·have k8 : (a == b) = false := beq_eq_false_iff_ne.2 k7
    by_cases k3 : a < 0 <;> by_cases k4 : x ≤ a <;> by_cases k5 : b < -1 <;> by_cases k6 : x ≤ b <;> simp [k3, k4, k5, k6, k7, k8, Bt])
  (fun n => by rw [Dc, AB (by omega)]) N 0 (by omega) (by omega)
 simpa using this
theorem Oi (N : Nat) (p : Aa) (m : Ab) (hN : N ≤ 1000000) (h1 : p.fb.length < N) (h2 : m.fe.length = p.fb.length) (h3 : m.fa.length = p.fb.length) (j : Option Int) :
  BL N p m (fun _ => j) N 0 = Bt (CC (JO m) 0 p.fb) j := by
 have := Cf (BL N p m (fun _ => j)) p.fb j (JO m)
  (fun n i x hx => by
   have hi := (lI.1 hx).1
   rw [BL, AC (by omega), show BK p.fb (i : Int) = some x from by rw [AX, hx]]
   simp only [oS, Bf]
   rw [Cq (d := 0) (by omega), Cq (d := 0) (by omega), AI (by omega)]
   simp only [oS]
   unfold JO
   generalize m.fe.getD i 0 = a
   generalize m.fa.getD i 0 = b
   by_cases k7 : a = b
   ·subst k7
    by_cases k3 : a < 0 <;> by_cases k4 : x ≤ a <;> by_cases k5 : a < -1 <;> simp [k3, k4, k5, Bt]
   ·have k8 : (a == b) = false := beq_eq_false_iff_ne.2 k7
    by_cases k3 : a < 0 <;> by_cases k4 : x ≤ a <;> by_cases k5 : b < -1 <;> by_cases k6 : x ≤ b <;> simp [k3, k4, k5, k6, k7, k8, Bt])
  (fun n => by rw [BL, AB (by omega)]) N 0 (by omega) (by omega)
 simpa using this
structure MixServ (p : Aa) (m : Ab) : Prop where
 base : m.fe.length = p.fb.length
 next : m.fa.length = p.fb.length
 held : m.fd.length = p.fc.length
 b0 : ∀ i, i < p.fb.length → 0 ≤ m.fe.getD i 0 ∧ m.fe.getD i 0 < p.fb.getD i 0
 n0 : ∀ i, i < p.fb.length → -1 ≤ m.fa.getD i 0 ∧ m.fa.getD i 0 < p.fb.getD i 0
 ne : ∀ i, i < p.fb.length → m.fe.getD i 0 ≠ m.fa.getD i 0
theorem NM {p : Aa} {m : Ab} (h2 : m.fe.length = p.fb.length) (h3 : m.fa.length = p.fb.length) (h4 : m.fd.length = p.fc.length) (h : CC (JO m) 0 p.fb = none) : MixServ p m := by
 have key : ∀ i, i < p.fb.length → ¬ (m.fe.getD i 0 < 0 ∨ p.fb.getD i 0 ≤ m.fe.getD i 0 ∨ m.fa.getD i 0 < -1 ∨ p.fb.getD i 0 ≤ m.fa.getD i 0) ∧ ¬ m.fe.getD i 0 = m.fa.getD i 0 := by
  intro i hi
  have hx : p.fb[i]? = some (p.fb.getD i 0) := by rw [lD]; simp [hi]
  have := Eu h i _ hx
  rw [Nat.zero_add] at this
  unfold JO at this
  split at this
  ·cases this
  ·split at this
   ·cases this
   ·rename_i k1 k2; exact ⟨k1, k2⟩
 exact ⟨h2, h3, h4, fun i hi => by have := (key i hi).1; omega, fun i hi => by have := (key i hi).1; omega, fun i hi => (key i hi).2⟩
theorem OJ {m : Ab} (hw : Ka Ju m.fd) {i : Nat} (h : i < m.fd.length) : Ju (m.fd.getD i 0) := by
 refine hw _ ?_
 rw [lD, List.getElem?_eq_getElem h]
 exact List.getElem_mem _
theorem H7 (N : Nat) (t : Ar) : Ei N t = some (Bz t) := by
 unfold Ei Bz
 simp only [Bf]
 cases h : t.ff == 3 <;> simp
theorem FH (N : Nat) (t : Ar) : AS N t = some (Bz t) := KH N t
theorem Qe (N : Nat) (p : Aa) (m : Ab) (hN : N ≤ 1000000) (h1 : p.fc.length < N) (hp : Ci p) (hm : MixServ p m) (hw : Ka Ju m.fd) (j : Option Int) :
  CS N p m (fun _ => j) N 0 = Bt (CC (HY p m) 0 p.fc) j := by
 have := Cf (CS N p m (fun _ => j)) p.fc j (HY p m)
  (fun n i x hx => by
   have hi := (lI.1 hx).1
   have hin := HN (hp.tab x (lM hx))
   have hheld := OJ hw (show i < m.fd.length from by rw [hm.held]; exact hi)
   have hv := IX hp.ver hin.1 hin.2.1
   rw [CS, AC (by omega), AX, hx]
   simp only [oS, Bf, H7]
   rw [J0 N m x.fg hin.1 (by rw [hm.base]; exact hin.2.1) (by rw [hm.next]; exact hin.2.1) (hm.b0 _ (by omega)).1, DV (d := 0) hin.1 hin.2.1, Cq (d := 0) (show i < m.fd.length from by rw [hm.held]; exact hi), AI (by omega)]
   simp only [oS]
   rw [show Dl (0 ≤ p.fb.getD x.fg.toNat 0) = some () from by unfold Dl; rw [if_pos (by omega)]]
   simp only [oS]
   unfold HY SY
   rw [RM hheld, SI hheld]
   generalize Cz .u8 (FG m x.fg.toNat) (m.fd.getD i 0) = A
   generalize Cz .u8 (m.fd.getD i 0) (wI .u8 (C0 .u8 1 (p.fb.getD x.fg.toNat 0) - 1)) = B
   generalize m.fd.getD i 0 = H
   cases Bz x
   ·simp only [An, bne_self_eq_false]
    by_cases k : H = 0
    ·simp [k, Bt]
    ·have : (H != 0) = true := bne_iff_ne.2 k
     simp [k, this, Bt]
   ·simp only [AA]
    by_cases k : A = 0
    ·by_cases k2 : B = 0
     ·simp [k, k2, Bt]
     ·have : (B != 0) = true := bne_iff_ne.2 k2
      simp [k, k2, this, Bt]
    ·have : (A != 0) = true := bne_iff_ne.2 k
     simp [k, this, Bt])
  (fun n => by rw [CS, AB (by omega)]) N 0 (by omega) (by omega)
 simpa using this
theorem Qc (N : Nat) (p : Aa) (m : Ab) (hN : N ≤ 1000000) (h1 : p.fc.length < N) (hp : Ci p) (hm : MixServ p m) (j : Option Int) :
  BE N p m (fun _ => j) N 0 = Bt (CC (HY p m) 0 p.fc) j := by
 have := Cf (BE N p m (fun _ => j)) p.fc j (HY p m)
  (fun n i x hx => by
   have hi := (lI.1 hx).1
   have hin := HN (hp.tab x (lM hx))
   have hv := IX hp.ver hin.1 hin.2.1
   rw [BE, AC (by omega), AX, hx]
   simp only [oS, Bf, FH]
   rw [Iw N m x.fg hin.1 (by rw [hm.base]; exact hin.2.1) (by rw [hm.next]; exact hin.2.1) (hm.b0 _ (by omega)).1, DV (d := 0) hin.1 hin.2.1, Cq (d := 0) (show i < m.fd.length from by rw [hm.held]; exact hi), AI (by omega)]
   simp only [oS]
   rw [show Dl (0 ≤ p.fb.getD x.fg.toNat 0) = some () from by unfold Dl; rw [if_pos (by omega)]]
   simp only [oS]
   unfold HY SY
   generalize Cz .u8 (FG m x.fg.toNat) (m.fd.getD i 0) = A
   generalize Cz .u8 (m.fd.getD i 0) (wI .u8 (C0 .u8 1 (p.fb.getD x.fg.toNat 0) - 1)) = B
   generalize m.fd.getD i 0 = H
   cases Bz x
   ·simp only [Bool.not_false, AA, An]
    by_cases k : H = 0
    ·simp [k, Bt]
    ·have : (H != 0) = true := bne_iff_ne.2 k
     simp [k, this, Bt]
   ·simp only [Bool.not_true, An, AA]
    by_cases k : A = 0
    ·by_cases k2 : B = 0
     ·simp [k, k2, Bt]
     ·have : (B != 0) = true := bne_iff_ne.2 k2
      simp [k, k2, this, Bt]
    ·have : (A != 0) = true := bne_iff_ne.2 k
     by_cases k2 : B = 0
     ·simp [k, k2, this, Bt]
     ·have h5 : (B != 0) = true := bne_iff_ne.2 k2
      simp [k, h5, Bt])
  (fun n => by rw [BE, AB (by omega)]) N 0 (by omega) (by omega)
 simpa using this
theorem Hc (N : Nat) (p : Aa) (m : Ab) (hN : N ≤ 1000000) (h : 20 ≤ N) (hw : Ka Ju m.fd) : D6 N p m = some (Do p m) := by
 unfold D6 Do
 rw [KB N p hN h]
 simp only [oS, Bf]
 by_cases k0 : Bp p = 0
 ·have hp : Ci p := by
   rcases Gg p with h | h
   ·exact h.2
   ·omega
  have hnv := hp.nv
  have hnt := hp.nt
  rw [k0]
  simp only [bne_self_eq_false, An, ne_eq, not_true_eq_false, if_false]
  by_cases k1 : m.fe.length = p.fb.length
  ·by_cases k2 : m.fa.length = p.fb.length
   ·by_cases k3 : m.fd.length = p.fc.length
    ·rw [k1, k2, k3]
     simp only [bne_self_eq_false, An, not_true_eq_false, or_self, if_false]
     rw [N6 N p m hN (by omega) k1 k2]
     cases hs : CC (JO m) 0 p.fb with
     | some r => rfl
     | none =>
      simp only [Bt]
      rw [Qe N p m hN (by omega) hp (NM k1 k2 k3 hs) hw]
      cases CC (HY p m) 0 p.fc <;> rfl
    ·have : ((m.fd.length : Int) != (p.fc.length : Int)) = true := bne_iff_ne.2 (by omega)
     rw [this, k1, k2]; simp [k3]
   ·have : ((m.fa.length : Int) != (p.fb.length : Int)) = true := bne_iff_ne.2 (by omega)
    rw [this, k1]; simp [k2]
  ·have : ((m.fe.length : Int) != (p.fb.length : Int)) = true := bne_iff_ne.2 (by omega)
   rw [this]; simp [k1]
 ·rw [bne_iff_ne.2 k0]; simp [k0]
theorem IA (N : Nat) (p : Aa) (m : Ab) (hN : N ≤ 1000000) (h : 20 ≤ N) : Cw N p m = some (Do p m) := by
 unfold Cw Do
 rw [My N p hN h]
 simp only [oS, Bf]
 by_cases k0 : Bp p = 0
 ·have hp : Ci p := by
   rcases Gg p with h | h
   ·exact h.2
   ·omega
  have hnv := hp.nv
  have hnt := hp.nt
  rw [k0]
  simp only [bne_self_eq_false, An, ne_eq, not_true_eq_false, if_false]
  by_cases k1 : m.fe.length = p.fb.length
  ·by_cases k2 : m.fa.length = p.fb.length
   ·by_cases k3 : m.fd.length = p.fc.length
    ·rw [k1, k2, k3]
     simp only [bne_self_eq_false, An, not_true_eq_false, or_self, if_false]
     rw [Oi N p m hN (by omega) k1 k2]
     cases hs : CC (JO m) 0 p.fb with
     | some r => rfl
     | none =>
      simp only [Bt]
      rw [Qc N p m hN (by omega) hp (NM k1 k2 k3 hs)]
      cases CC (HY p m) 0 p.fc <;> rfl
    ·have : ((m.fd.length : Int) != (p.fc.length : Int)) = true := bne_iff_ne.2 (by omega)
     rw [this, k1, k2]; simp [k3]
   ·have : ((m.fa.length : Int) != (p.fb.length : Int)) = true := bne_iff_ne.2 (by omega)
    rw [this, k1]; simp [k2]
  ·have : ((m.fe.length : Int) != (p.fb.length : Int)) = true := bne_iff_ne.2 (by omega)
   rw [this]; simp [k1]
 ·rw [bne_iff_ne.2 k0]; simp [k0]
@[simp] theorem A5 {α β : Type} (k : α) (f : α → β) : Bf k f = f k := rfl
@[simp] theorem SA {p : Prop} [Decidable p] (h : p) : Dl p = some () := by unfold Dl; rw [if_pos h]
theorem Ap {β : Type} {p : Prop} [Decidable p] (h : p) (f : Unit → Option β) : (Dl p).bind f = f () := by rw [SA h]; rfl
def Gy {α β : Type} (g : Nat → α → List β) : Nat → List α → List β
 | _, [] => []
 | i, x :: xs => g i x ++ Gy g (i + 1) xs
def G9 {α A : Type} (f : Nat → α → A → A) : Nat → List α → A → A
 | _, [], a => a
 | i, x :: xs, a => G9 f (i + 1) xs (f i x a)
theorem In {α β : Type} {g : Nat → α → List β} {c : Nat} : ∀ {i : Nat} {xs : List α}, (∀ j x, xs[j]? = some x → (g (i + j) x).length ≤ c) → (Gy g i xs).length ≤ c * xs.length
 | _, [], _ => by simp [Gy]
 | i, x :: xs, h => by
  have h1 := h 0 x rfl
  have h2 := In (g := g) (c := c) (i := i + 1) (xs := xs) fun j y hy => by
   have := h (j + 1) y (by simpa using hy)
   rwa [show i + (j + 1) = i + 1 + j from by omega] at this
  rw [Gy, List.length_append, List.length_cons, Nat.mul_add]
  simp only [Nat.add_zero] at h1
  omega
theorem Hk {α A S R : Type} (L : Nat → S → Option R) (mk : A → Int → S) (xs : List α) (j : A → Option R) (f : Nat → α → A → A) (I : Nat → A → Prop)
  (hs : ∀ (n i : Nat) (x : α) (a : A), xs[i]? = some x → I i a → L (n + 1) (mk a (i : Int)) = L n (mk (f i x a) ((i + 1 : Nat) : Int)) ∧ I (i + 1) (f i x a))
  (he : ∀ (n : Nat) (a : A), I xs.length a → L (n + 1) (mk a (xs.length : Int)) = j a) :
  ∀ (n i : Nat) (a : A), i ≤ xs.length → xs.length - i < n → I i a → L n (mk a (i : Int)) = j (G9 f i (xs.drop i) a) ∧ I xs.length (G9 f i (xs.drop i) a)
 | 0, i, _, _, h, _ => by omega
 | n + 1, i, a, hi, h, ha => by
  by_cases h1 : i < xs.length
  ·have hx : xs[i]? = some xs[i] := by simp [h1]
   obtain ⟨e1, e2⟩ := hs n i _ a hx ha
   rw [e1, DY hx, G9]
   exact Hk L mk xs j f I hs he n (i + 1) _ (by omega) (by omega) e2
  ·have : i = xs.length := by omega
   subst this
   rw [List.drop_eq_nil_of_le (Nat.le_refl _), G9]
   exact ⟨he n a ha, ha⟩
theorem Mm {α β : Type} (g : Nat → α → List β) : ∀ (i : Nat) (xs : List α) (acc : List β), G9 (fun i x a => a ++ g i x) i xs acc = acc ++ Gy g i xs
 | _, [], acc => by simp [G9, Gy]
 | i, x :: xs, acc => by rw [G9, Mm g (i + 1) xs, Gy, List.append_assoc]
theorem Jn {α β S R : Type} (L : Nat → S → Option R) (mk : List β → Int → S) (xs : List α) (j : List β → Option R) (g : Nat → α → List β) (c B : Nat)
  (hg : ∀ i x, xs[i]? = some x → (g i x).length ≤ c)
  (hs : ∀ (n i : Nat) (x : α) (a : List β), xs[i]? = some x → a.length + (g i x).length ≤ B → L (n + 1) (mk a (i : Int)) = L n (mk (a ++ g i x) ((i + 1 : Nat) : Int)))
  (he : ∀ (n : Nat) (a : List β), L (n + 1) (mk a (xs.length : Int)) = j a) (n : Nat) (a : List β) (hn : xs.length < n) (ha : a.length + c * xs.length ≤ B) :
  L n (mk a 0) = j (a ++ Gy g 0 xs) := by
 have := Hk L mk xs j (fun i x a => a ++ g i x) (fun i b => i ≤ xs.length ∧ b.length ≤ a.length + c * i)
  (fun n i x b hx hb => by
   have h1 := hg i x hx
   have hi := (lI.1 hx).1
   have h2 : c * (i + 1) ≤ c * xs.length := Nat.mul_le_mul_left c hi
   have h3 : c * (i + 1) = c * i + c := Nat.mul_succ c i
   refine ⟨hs n i x b hx (by have := hb.2; omega), hi, ?_⟩
   rw [List.length_append]
   have := hb.2
   omega)
  (fun n b _ => he n b) n 0 a (Nat.zero_le _) (by omega) ⟨Nat.zero_le _, by omega⟩
 have h2 := this.1
 rw [List.drop_zero, Mm] at h2
 exact h2
def CN (s : Int) (v : Nat) : Bool := s.toNat.testBit v
def Hg (m : Ab) (s v : Nat) : Bool := decide (m.fe.getD s 0 = (v : Int)) || decide (m.fa.getD s 0 = (v : Int))
theorem TO : ∀ (s : Fin 256) (v : Fin 8), Ft .u8 (EA .u8 (s.val : Int) (v.val : Int)) 1 = if CN (s.val : Int) v.val then 1 else 0 := by decide +kernel
theorem Oy {s : Int} {v : Nat} (h0 : 0 ≤ s) (h1 : s ≤ 255) (hv : v < 8) : Ft .u8 (EA .u8 s (v : Int)) 1 = if CN s v then 1 else 0 := by
 obtain ⟨k, rfl⟩ := Int.eq_ofNat_of_zero_le h0
 exact TO ⟨k, by omega⟩ ⟨v, hv⟩
theorem Pk {s : Int} {v : Nat} (h0 : 0 ≤ s) (h1 : s ≤ 255) (hv : v < 8) : (Ft .u8 (EA .u8 s (v : Int)) 1 == 0) = !CN s v := by
 rw [Oy h0 h1 hv]; cases CN s v <;> rfl
theorem Pz {s : Int} {v : Nat} (h0 : 0 ≤ s) (h1 : s ≤ 255) (hv : v < 8) : (Ft .u8 (EA .u8 s (v : Int)) 1 == 1) = CN s v := by
 rw [Oy h0 h1 hv]; cases CN s v <;> rfl
theorem IK {s : Int} {v : Nat} (h1 : s ≤ 255) (hv : 8 ≤ v) : CN s v = false := by
 unfold CN
 apply Nat.testBit_lt_two_pow
 have : (2 : Nat) ^ 8 ≤ 2 ^ v := Nat.pow_le_pow_right (by omega) hv
 omega
theorem IJ : ∀ (b : Fin 8) (v : Fin 8), CN (C0 .u8 1 (b.val : Int)) v.val = decide (b.val = v.val) ∧ 0 ≤ C0 .u8 1 (b.val : Int) ∧ C0 .u8 1 (b.val : Int) ≤ 255 := by decide +kernel
theorem TM : ∀ (b n : Fin 8) (v : Fin 8), CN (ME .u8 (C0 .u8 1 (b.val : Int)) (C0 .u8 1 (n.val : Int))) v.val = (decide (b.val = v.val) || decide (n.val = v.val))
  ∧ 0 ≤ ME .u8 (C0 .u8 1 (b.val : Int)) (C0 .u8 1 (n.val : Int)) ∧ ME .u8 (C0 .u8 1 (b.val : Int)) (C0 .u8 1 (n.val : Int)) ≤ 255 := by decide +kernel
theorem R2 {m : Ab} {s : Nat} (hb0 : 0 ≤ m.fe.getD s 0) (hb1 : m.fe.getD s 0 < 8) (hn1 : m.fa.getD s 0 < 8) :
  (∀ v, CN (FG m s) v = Hg m s v) ∧ 0 ≤ FG m s ∧ FG m s ≤ 255 := by
 unfold FG Hg
 obtain ⟨b, hb⟩ := Int.eq_ofNat_of_zero_le hb0
 rw [hb] at hb1 ⊢
 by_cases h : 0 ≤ m.fa.getD s 0
 ·obtain ⟨n, hn⟩ := Int.eq_ofNat_of_zero_le h
  rw [hn] at hn1 ⊢
  rw [if_pos (by omega)]
  have h1 := TM ⟨b, by omega⟩ ⟨n, by omega⟩
  refine ⟨fun v => ?_, (h1 0).2⟩
  by_cases hv : v < 8
  ·rw [(h1 ⟨v, hv⟩).1]
   simp only [Int.ofNat_inj]
  ·rw [IK (h1 0).2.2 (by omega)]
   simp; omega
 ·rw [if_neg h]
  have h1 := IJ ⟨b, by omega⟩
  refine ⟨fun v => ?_, (h1 0).2⟩
  have h3 : decide (m.fa.getD s 0 = (v : Int)) = false := decide_eq_false (by omega)
  rw [h3, Bool.or_false]
  by_cases hv : v < 8
  ·rw [(h1 ⟨v, hv⟩).1]
   simp only [Int.ofNat_inj]
  ·rw [IK (h1 0).2.2 (by omega)]
   simp; omega
theorem RA {a : Nat} (h : a < 256) : (BitVec.ofInt 8 (a : Int)).toNat = a := by
 simp; omega
theorem Mh {a b : Int} (ha : 0 ≤ a ∧ a ≤ 255) (hb : 0 ≤ b ∧ b ≤ 255) : Cz .u8 a b = 0 ↔ ∀ v, CN a v = true → CN b v = true := by
 obtain ⟨a, rfl⟩ := Int.eq_ofNat_of_zero_le ha.1
 obtain ⟨b, rfl⟩ := Int.eq_ofNat_of_zero_le hb.1
 have hA := RA (a := a) (by omega)
 have hB := RA (a := b) (by omega)
 unfold Cz CN
 simp only [IntKind.bits, Int.toNat_natCast]
 have hx : ∀ x : BitVec 8, wI .u8 (x.toNat : Int) = (x.toNat : Int) := by
  intro x
  have := x.isLt
  simp [wI, IntKind.signed, IntKind.bits]
  omega
 rw [hx]
 constructor
 ·intro h v hv
  have h0 : (BitVec.ofInt 8 (a : Int) &&& ~~~BitVec.ofInt 8 (b : Int)) = (BitVec.ofNat 8 0) := by
   apply BitVec.eq_of_toNat_eq
   simp only [BitVec.toNat_ofNat, Nat.zero_mod]
   exact Int.ofNat_inj.1 h
  by_cases hv8 : v < 8
  ·have h1 : (BitVec.ofInt 8 (a : Int) &&& ~~~BitVec.ofInt 8 (b : Int)).getLsbD v = false := by rw [h0]; simp
   rw [BitVec.getLsbD_and, BitVec.getLsbD_not] at h1
   have e1 : (BitVec.ofInt 8 (a : Int)).getLsbD v = a.testBit v := by unfold BitVec.getLsbD; rw [hA]
   have e2 : (BitVec.ofInt 8 (b : Int)).getLsbD v = b.testBit v := by unfold BitVec.getLsbD; rw [hB]
   rw [e1, e2, hv] at h1
   simpa [hv8] using h1
  ·have := IK (s := (a : Int)) (v := v) (by omega) (by omega)
   unfold CN at this
   rw [Int.toNat_natCast, hv] at this
   cases this
 ·intro h
  have h0 : (BitVec.ofInt 8 (a : Int) &&& ~~~BitVec.ofInt 8 (b : Int)) = (BitVec.ofNat 8 0) := by
   apply BitVec.eq_of_getLsbD_eq
   intro i hi
   rw [BitVec.getLsbD_and, BitVec.getLsbD_not]
   have e1 : (BitVec.ofInt 8 (a : Int)).getLsbD i = a.testBit i := by unfold BitVec.getLsbD; rw [hA]
   have e2 : (BitVec.ofInt 8 (b : Int)).getLsbD i = b.testBit i := by unfold BitVec.getLsbD; rw [hB]
   rw [e1, e2]
   have := h i
   cases h3 : a.testBit i
   ·simp
   ·rw [this h3]; simp
  have h2 : ∀ x : BitVec 8, x = (BitVec.ofNat 8 0) → (x.toNat : Int) = 0 := fun x hx => by rw [hx]; rfl
  exact h2 _ h0
theorem TB : ∀ n : Fin 9, (∀ v : Fin 8, CN (wI .u8 (C0 .u8 1 (n.val : Int) - 1)) v.val = decide (v.val < n.val)) ∧ 0 ≤ wI .u8 (C0 .u8 1 (n.val : Int) - 1) ∧ wI .u8 (C0 .u8 1 (n.val : Int) - 1) ≤ 255 := by decide +kernel
theorem TN {n : Int} (h0 : 0 ≤ n) (h1 : n ≤ 8) : (∀ v, CN (wI .u8 (C0 .u8 1 n - 1)) v = decide ((v : Int) < n)) ∧ 0 ≤ wI .u8 (C0 .u8 1 n - 1) ∧ wI .u8 (C0 .u8 1 n - 1) ≤ 255 := by
 obtain ⟨n, rfl⟩ := Int.eq_ofNat_of_zero_le h0
 have h := TB ⟨n, by omega⟩
 refine ⟨fun v => ?_, h.2⟩
 by_cases hv : v < 8
 ·rw [h.1 ⟨v, hv⟩]; simp
 ·rw [IK h.2.2 (by omega)]
  symm; apply decide_eq_false; omega
structure Dm (p : Aa) (m : Ab) : Prop extends MixServ p m where
 range : ∀ i, i < p.fc.length → 0 ≤ m.fd.getD i 0 ∧ m.fd.getD i 0 ≤ 255
 low : ∀ i t, p.fc[i]? = some t → Bz t = true → ∀ v, Hg m t.fg.toNat v = true → CN (m.fd.getD i 0) v = true
 high : ∀ i t, p.fc[i]? = some t → Bz t = true → ∀ v, CN (m.fd.getD i 0) v = true → (v : Int) < p.fb.getD t.fg.toNat 0
 none : ∀ i t, p.fc[i]? = some t → Bz t = false → m.fd.getD i 0 = 0
theorem H4 {p : Aa} (hp : Ci p) {i : Nat} (hi : i < p.fb.length) : 1 ≤ p.fb.getD i 0 ∧ p.fb.getD i 0 ≤ 6 := by
 have := IX (i := (i : Int)) hp.ver (by omega) (by omega)
 simpa using this
theorem GQ {p : Aa} {m : Ab} (hp : Ci p) (hm : MixServ p m) {s : Nat} (hs : s < p.fb.length) :
  (∀ v, CN (FG m s) v = Hg m s v) ∧ 0 ≤ FG m s ∧ FG m s ≤ 255 := by
 have h1 := hm.b0 s hs
 have h2 := hm.n0 s hs
 have h3 := H4 hp hs
 exact R2 h1.1 (by omega) (by omega)
theorem PM {p : Aa} {m : Ab} (hp : Ci p) (hm : MixServ p m) {i : Nat} {t : Ar} (ht : p.fc[i]? = some t) (hr : 0 ≤ m.fd.getD i 0 ∧ m.fd.getD i 0 ≤ 255) :
  HY p m i t = none ↔ ((Bz t = true → (∀ v, Hg m t.fg.toNat v = true → CN (m.fd.getD i 0) v = true) ∧ (∀ v, CN (m.fd.getD i 0) v = true → (v : Int) < p.fb.getD t.fg.toNat 0)) ∧ (Bz t = false → m.fd.getD i 0 = 0)) := by
 have hin := HN (hp.tab t (lM ht))
 have hrun := GQ hp hm (s := t.fg.toNat) (by omega)
 have hver := H4 hp (i := t.fg.toNat) (by omega)
 have hall := TN (n := p.fb.getD t.fg.toNat 0) (by omega) (by omega)
 unfold HY SY
 have e1 := Mh hrun.2 hr
 have e2 := Mh hr hall.2
 cases hst : Bz t
 ·simp
 ·simp only [if_true, true_implies, Bool.true_eq_false, false_implies, and_true, ite_eq_right_iff, reduceCtorEq, imp_false, not_or, Decidable.not_not]
  rw [e1, e2]
  simp only [hrun.1, hall.1, decide_eq_true_eq]
theorem HO {p : Aa} {m : Ab} (hw : Ka Ju m.fd) (h : Do p m = 0) : Ci p ∧ Dm p m := by
 unfold Do at h
 split at h
 ·rename_i k; exact (k h).elim
 ·rename_i k0
  have hp : Ci p := by
   rcases Gg p with h | h
   ·exact h.2
   ·omega
  split at h
  ·cases h
  ·rename_i k1
   have b1 : m.fe.length = p.fb.length := Decidable.not_not.1 fun h => k1 (.inl h)
   have b2 : m.fa.length = p.fb.length := Decidable.not_not.1 fun h => k1 (.inr (.inl h))
   have b3 : m.fd.length = p.fc.length := Decidable.not_not.1 fun h => k1 (.inr (.inr h))
   cases hs : CC (JO m) 0 p.fb with
   | some r =>
    obtain ⟨j, x, _, he⟩ := DJ hs
    rw [hs] at h
    unfold JO at he
    simp only [Bt, Option.getD_some] at h
    split at he
    ·cases he; cases h
    ·split at he
     ·cases he; cases h
     ·cases he
   | none =>
    have hm := NM b1 b2 b3 hs
    rw [hs] at h
    simp only [Bt] at h
    cases ht : CC (HY p m) 0 p.fc with
    | some r =>
     obtain ⟨j, x, _, he⟩ := DJ ht
     rw [ht] at h
     simp only [Option.getD_some] at h
     subst h
     unfold HY at he
     split at he
     ·split at he <;> cases he
     ·split at he <;> cases he
    | none =>
     have hr : ∀ i, i < p.fc.length → 0 ≤ m.fd.getD i 0 ∧ m.fd.getD i 0 ≤ 255 := fun i hi => Hw (OJ hw (by omega))
     have key : ∀ i t, p.fc[i]? = some t → _ := fun i t hi => (PM hp hm hi (hr i (lI.1 hi).1)).1 (by have := Eu ht i t hi; rwa [Nat.zero_add] at this)
     exact ⟨hp, hm, hr, fun i t hi hst => ((key i t hi).1 hst).1, fun i t hi hst => ((key i t hi).1 hst).2, fun i t hi hst => (key i t hi).2 hst⟩
theorem D9 {α R : Type} {f : Nat → α → Option R} : ∀ {i : Nat} {xs : List α}, (∀ j x, xs[j]? = some x → f (i + j) x = none) → CC f i xs = none
 | _, [], _ => rfl
 | i, y :: ys, h => by
  rw [F3, show f i y = none from h 0 y rfl]
  exact D9 fun j x hx => by
   have := h (j + 1) x (by simpa using hx)
   rwa [show i + (j + 1) = i + 1 + j from by omega] at this
theorem OF {p : Aa} (hp : Ci p) (hr : ∀ i, i < p.fb.length → 0 ≤ p.fi.getD i 0 ∧ p.fi.getD i 0 < p.fb.getD i 0 ∧ 0 ≤ p.fo.getD i 0 ∧ p.fo.getD i 0 < p.fb.getD i 0) : Bp p = 0 := by
 have := hp.nv
 have := hp.nt
 have := hp.now
 have := hp.tgt
 unfold Bp
 rw [if_neg (by omega), if_neg (by omega)]
 have h1 : CC (EU p) 0 p.fb = none := D9 fun j x hx => by
  have hj := (lI.1 hx).1
  have h1 := hr j hj
  have h2 := H4 hp hj
  have e : p.fb.getD j 0 = x := by rw [lD, hx]; rfl
  rw [e] at h1 h2
  unfold EU
  rw [Nat.zero_add, if_neg (by omega)]
 have h2 : CC (KE p) 0 p.fc = none := D9 fun j x hx => by
  unfold KE
  rw [if_pos (hp.tab x (lM hx))]
 rw [h1, h2]; rfl
theorem Eg {p : Aa} (h : Bp p = 0) : Ci p ∧ ∀ i, i < p.fb.length → 0 ≤ p.fi.getD i 0 ∧ p.fi.getD i 0 < p.fb.getD i 0 ∧ 0 ≤ p.fo.getD i 0 ∧ p.fo.getD i 0 < p.fb.getD i 0 := by
 have hp : Ci p := by
  rcases Gg p with h | h
  ·exact h.2
  ·omega
 refine ⟨hp, fun i hi => ?_⟩
 have h1 := hp.nv
 have h2 := hp.nt
 have h3 := hp.now
 have h4 := hp.tgt
 unfold Bp at h
 rw [if_neg (by omega), if_neg (by omega)] at h
 cases hs : CC (EU p) 0 p.fb with
 | some r =>
  obtain ⟨j, x, _, he⟩ := DJ hs
  rw [hs] at h
  unfold EU at he
  split at he
  ·cases he; cases h
  ·cases he
 | none =>
  have hx : p.fb[i]? = some (p.fb.getD i 0) := by rw [lD]; simp [hi]
  have := Eu hs i _ hx
  rw [Nat.zero_add] at this
  unfold EU at this
  split at this
  ·cases this
  ·rename_i hn; omega
theorem Fn {p : Aa} {m : Ab} (hv : Bp p = 0) (hm : Dm p m) : Do p m = 0 := by
 obtain ⟨hp, _⟩ := Eg hv
 unfold Do
 rw [hv, if_neg (by simp), if_neg (by have := hm.base; have := hm.next; have := hm.held; omega)]
 have h1 : CC (JO m) 0 p.fb = none := D9 fun j x hx => by
  have hj := (lI.1 hx).1
  have e : p.fb.getD j 0 = x := by rw [lD, hx]; rfl
  have h1 := hm.b0 j hj
  have h2 := hm.n0 j hj
  have h3 := hm.ne j hj
  rw [e] at h1 h2
  unfold JO
  rw [Nat.zero_add, if_neg (by omega), if_neg h3]
 have h2 : CC (HY p m) 0 p.fc = none := D9 fun j x hx => by
  have hj := (lI.1 hx).1
  rw [Nat.zero_add]
  exact (PM hp hm.toMixServ hx (hm.range j hj)).2 ⟨fun hst => ⟨hm.low j x hx hst, hm.high j x hx hst⟩, fun hst => hm.none j x hx hst⟩
 rw [h1, h2]; rfl
def L9 {α : Type} (g : Nat → α → Bool) : Nat → List α → Bool
 | _, [] => false
 | i, x :: xs => g i x || L9 g (i + 1) xs
theorem JM {α β : Type} (g : Nat → α → List β) (h : Nat → α → Bool) : ∀ (i : Nat) (xs : List α) (a : List β) (b : Bool),
  G9 (fun i x (s : List β × Bool) => (s.1 ++ g i x, s.2 || h i x)) i xs (a, b) = (a ++ Gy g i xs, b || L9 h i xs)
 | _, [], a, b => by simp [G9, Gy, L9]
 | i, x :: xs, a, b => by rw [G9, JM g h, Gy, L9, List.append_assoc, Bool.or_assoc]
def gC (i u : Nat) (m : Ab) (t : Ar) (v : Nat) (ok : Bool) : List Af :=
 if Hg m t.fk.toNat v && (!ok && !t.fp) then [⟨(i : Int), (u : Int), (v : Int)⟩] else []
def hC (m : Ab) (t : Ar) (v : Nat) (ok : Bool) : Bool := Hg m t.fk.toNat v && ok
def IG (i : Nat) (m : Ab) (t : Ar) (u : Nat) (row : List Bool) : List Af :=
 Gy (gC i u m t) 0 row ++ if t.fp && !L9 (hC m t) 0 row then [⟨(i : Int), (u : Int), -1⟩] else []
def Q6 (m : Ab) (i : Nat) (t : Ar) (u : Nat) : Bool := if Bz t then CN (m.fd.getD i 0) u else Hg m t.fg.toNat u
def Ir (m : Ab) (i : Nat) (t : Ar) : List Af := Gy (fun u row => if Q6 m i t u then IG i m t u row else []) 0 t.fq
def Ho (p : Aa) (m : Ab) : List Af := Gy (Ir m) 0 p.fc
structure L6 (p : Aa) (t : Ar) : Prop where
 kind : 1 ≤ t.ff ∧ t.ff ≤ 4
 aware : t.fp = true → Bz t = false
 from0 : 0 ≤ t.fg ∧ t.fg < (p.fb.length : Int)
 to0 : 0 ≤ t.fk ∧ t.fk < (p.fb.length : Int)
 okL : (t.fq.length : Int) = p.fb.getD t.fg.toNat 0
 okR : ∀ row, row ∈ t.fq → (row.length : Int) = p.fb.getD t.fk.toNat 0
 reL : t.ff = 4 → (t.fm.length : Int) = p.fb.getD t.fg.toNat 0
 reR : ∀ row, row ∈ t.fm → (row.length : Int) = p.fb.getD t.fg.toNat 0
 reD : t.ff = 4 → Ht t.fm = none
 reN : t.ff ≠ 4 → t.fm = []
theorem KN {p : Aa} {t : Ar} (h : Dh p t = 0) : L6 p t := by
 unfold Dh at h
 split at h
 ·cases h
 rename_i h1
 split at h
 ·cases h
 rename_i h2
 simp only at h
 split at h
 ·cases h
 rename_i h3
 have h3 : sq t.fq (p.fb.getD t.fg.toNat 0) (p.fb.getD t.fk.toNat 0) = true := by simpa using h3
 have h3 := LH h3
 have ha : t.fp = true → Bz t = false := by
  intro ha
  unfold Bz
  rw [Bool.or_eq_false_iff, beq_eq_false_iff_ne, beq_eq_false_iff_ne]
  exact ⟨fun hk => h1 (.inr (.inr ⟨ha, .inl hk⟩)), fun hk => h1 (.inr (.inr ⟨ha, .inr hk⟩))⟩
 split at h
 ·rename_i h4
  split at h
  ·cases h
  rename_i h5
  have h5 : sq t.fm (p.fb.getD t.fg.toNat 0) (p.fb.getD t.fg.toNat 0) = true := by simpa using h5
  have h5 := LH h5
  refine ⟨by omega, ha, by omega, by omega, h3.1, h3.2, fun _ => h5.1, h5.2, fun _ => ?_, fun h => (h h4).elim⟩
  cases hd : Ht t.fm with
  | none => rfl
  | some r =>
   obtain ⟨j, x, _, hx⟩ := DJ hd
   rw [hd] at h
   split at hx
   ·cases hx
   ·cases hx; cases h
 ·rename_i h4
  split at h
  ·rename_i h5
   have h5 := List.eq_nil_of_length_eq_zero h5
   refine ⟨by omega, ha, by omega, by omega, h3.1, h3.2, fun h => (h4 h).elim, fun row hr => ?_, fun h => (h4 h).elim, fun _ => h5⟩
   rw [h5] at hr; cases hr
  ·cases h
theorem Jl {R : Type} (b : Bool) (acc : List Af) (x : Af) (j : List Af → Option R) (h : acc.length + 1 ≤ Dx) :
  AL b ((Dl (acc.length + ([x] : List Af).length ≤ Dx)).bind fun _ => j (acc ++ [x])) (j acc) = j (acc ++ if b then [x] else []) := by
 cases b
 ·simp
 ·rw [AA, Ap (by simpa using h)]; rfl
theorem Pn (N : Nat) (m : Ab) (t : Ar) (i u : Nat) (row : List Bool) (R : Int) (b1 b2 acc : List Af) (j : List Af × Bool → Option (List Af))
  (hN : N ≤ 1000000) (h8 : 8 ≤ N) (hrow : row.length ≤ 6) (hacc : acc.length + 6 ≤ Dx) (hR0 : 0 ≤ R) (hR1 : R ≤ 255) (hRb : ∀ v, CN R v = Hg m t.fk.toNat v) :
  BF N (b1, (i : Int)) t R (b2, (u : Int)) row j N (acc, false, 0) = j (acc ++ Gy (gC i u m t) 0 row, L9 (hC m t) 0 row) := by
 have := Hk (A := List Af × Bool) (BF N (b1, (i : Int)) t R (b2, (u : Int)) row j) (fun a k => (a.1, a.2, k)) row (fun a => j a) (fun v ok s => (s.1 ++ gC i u m t v ok, s.2 || hC m t v ok))
  (fun v a => v ≤ row.length ∧ a.1.length ≤ acc.length + v)
  (fun n v ok a hx ha => by
   have hv := (lI.1 hx).1
   obtain ⟨c, f⟩ := a
   simp only at ha
   refine ⟨?_, by omega, ?_⟩
   ·rw [BF]
    simp only [A5]
    rw [AC (by omega), AX, hx]
    simp only [oS]
    rw [Ap (by omega), Pk hR0 hR1 (by omega), hRb, AI (by omega), Jl _ _ _ (fun l => BF N (b1, (i : Int)) t R (b2, (u : Int)) row j n (l, true, ((v + 1 : Nat) : Int))) (by omega)]
    unfold gC hC
    rw [Jl _ _ _ (fun l => BF N (b1, (i : Int)) t R (b2, (u : Int)) row j n (l, ok, ((v + 1 : Nat) : Int))) (by omega)]
    cases Hg m t.fk.toNat v
    ·simp
    ·cases ok <;> cases f <;> cases t.fp <;> simp
   ·simp only [gC, List.length_append]
    split <;> simp <;> omega)
  (fun n a _ => by
   rw [BF]
   simp only [A5]
   rw [AB (by omega)]) N 0 (acc, false) (by omega) (by omega) ⟨by omega, by simp⟩
 have h2 := this.1
 rw [List.drop_zero, JM, Bool.false_or] at h2
 exact h2
theorem LG {p : Aa} {t : Ar} (hp : Ci p) (ht : L6 p t) : t.fq.length ≤ 6 ∧ ∀ row, row ∈ t.fq → row.length ≤ 6 := by
 have h1 := IX hp.ver ht.from0.1 ht.from0.2
 have h2 := IX hp.ver ht.to0.1 ht.to0.2
 have h3 := ht.okL
 exact ⟨by omega, fun row hr => by have := ht.okR row hr; omega⟩
theorem P9 (i u : Nat) (m : Ab) (t : Ar) (v : Nat) (ok : Bool) : (gC i u m t v ok).length ≤ 1 := by
 unfold gC; split <;> simp
theorem Qh (i : Nat) (m : Ab) (t : Ar) (u : Nat) (row : List Bool) (h : row.length ≤ 6) : (IG i m t u row).length ≤ 7 := by
 unfold IG
 rw [List.length_append]
 have := In (g := gC i u m t) (c := 1) (i := 0) (xs := row) (fun j x _ => P9 _ _ _ _ _ _)
 split <;> simp <;> omega
theorem Qg (i : Nat) (m : Ab) (t : Ar) (u : Nat) (row : List Bool) (h : row.length ≤ 6) : (if Q6 m i t u = true then IG i m t u row else []).length ≤ 7 := by
 have := Qh i m t u row h
 split <;> simp <;> omega
theorem Lg {p : Aa} {t : Ar} (hp : Ci p) (ht : L6 p t) (i : Nat) (m : Ab) : (Ir m i t).length ≤ 42 := by
 have h1 := LG hp ht
 have := In (g := fun u row => if Q6 m i t u = true then IG i m t u row else []) (c := 7) (i := 0) (xs := t.fq) (fun j x hx => Qg i m t _ x (h1.2 x (lM hx)))
 unfold Ir
 omega
theorem Kx (N : Nat) (p : Aa) (m : Ab) (t : Ar) (i : Nat) (W R : Int) (b1 acc : List Af) (j : List Af → Option (List Af))
  (hN : N ≤ 1000000) (h8 : 8 ≤ N) (hp : Ci p) (ht : L6 p t) (hacc : acc.length + 42 ≤ 10000) (hR0 : 0 ≤ R) (hR1 : R ≤ 255) (hRb : ∀ v, CN R v = Hg m t.fk.toNat v) (hW0 : 0 ≤ W) (hW1 : W ≤ 255) (hWb : ∀ v, CN W v = Q6 m i t v) :
  BR N (b1, (i : Int)) t R W j N (acc, 0) = j (acc ++ Ir m i t) := by
 have hl := LG hp ht
 exact Jn (BR N (b1, (i : Int)) t R W j) (fun a k => (a, k)) t.fq j (fun u row => if Q6 m i t u then IG i m t u row else []) 7 10000
  (fun u row hx => Qg i m t u row (hl.2 row (lM hx)))
  (fun n u row a hx ha => by
   have hu := (lI.1 hx).1
   have hrow := hl.2 row (lM hx)
   rw [BR]
   simp only [A5]
   rw [AC (by omega), Ap (by omega), Pk hW0 hW1 (by omega), hWb, AX, hx]
   simp only [oS]
   rw [Pn N m t i u row R b1 a a _ hN h8 hrow (by unfold Dx; omega) hR0 hR1 hRb, AI (by omega)]
   cases hw : Q6 m i t u
   ·simp
   ·simp only [Bool.not_true, An, if_true, IG]
    have h1 := In (g := gC i u m t) (c := 1) (i := 0) (xs := row) (fun j x _ => P9 _ _ _ _ _ _)
    have := Jl (R := List Af) (t.fp && !L9 (hC m t) 0 row) (a ++ Gy (gC i u m t) 0 row) ⟨(i : Int), (u : Int), -1⟩ (fun l => BR N (b1, (i : Int)) t R W j n (l, ((u + 1 : Nat) : Int))) (by rw [List.length_append]; unfold Dx; rw [hw, if_pos rfl] at ha; omega)
    rw [← List.append_assoc, ← this]
    cases t.fp <;> cases L9 (hC m t) 0 row <;> rfl)
  (fun n a => by
   rw [BR]
   simp only [A5]
   rw [AB (by omega)]) N acc (by omega) (by omega)
theorem OS (N : Nat) (p : Aa) (m : Ab) (t : Ar) (i u : Nat) (row : List Bool) (b1 b2 acc : List Af) (j : List Af × Bool → Option (List Af))
  (hN : N ≤ 1000000) (h8 : 8 ≤ N) (hp : Ci p) (hm : MixServ p m) (ht : L6 p t) (hu : t.fq[u]? = some row) (hacc : acc.length + 6 ≤ Dx) :
  Ba N p m (b1, (i : Int)) t (b2, (u : Int)) j N (acc, false, 0) = j (acc ++ Gy (gC i u m t) 0 row, L9 (hC m t) 0 row) := by
 have hrow := (LG hp ht).2 row (lM hu)
 have hR := GQ hp hm (s := t.fk.toNat) (by have := ht.to0; omega)
 have hlen := ht.okR row (lM hu)
 have hto := ht.to0
 have := Hk (A := List Af × Bool) (Ba N p m (b1, (i : Int)) t (b2, (u : Int)) j) (fun a k => (a.1, a.2, k)) row (fun a => j a) (fun v ok s => (s.1 ++ gC i u m t v ok, s.2 || hC m t v ok))
  (fun v a => v ≤ row.length ∧ a.1.length ≤ acc.length + v)
  (fun n v ok a hx ha => by
   have hv := (lI.1 hx).1
   obtain ⟨c, f⟩ := a
   simp only at ha
   refine ⟨?_, by omega, ?_⟩
   ·rw [Ba]
    simp only [A5]
    rw [DV (d := 0) hto.1 hto.2, Iw N m t.fk hto.1 (by rw [hm.base]; exact hto.2) (by rw [hm.next]; exact hto.2) (hm.b0 _ (by omega)).1, AX, hu]
    simp only [oS]
    unfold BW
    rw [AC (by omega), AX, hx, Ap (by omega), Pz hR.2.1 hR.2.2 (by omega), hR.1]
    simp only [oS]
    rw [AI (by omega), Jl _ _ _ (fun l => Ba N p m (b1, (i : Int)) t (b2, (u : Int)) j n (l, true, ((v + 1 : Nat) : Int))) (by omega)]
    unfold gC hC
    rw [Jl _ _ _ (fun l => Ba N p m (b1, (i : Int)) t (b2, (u : Int)) j n (l, ok, ((v + 1 : Nat) : Int))) (by omega)]
    cases Hg m t.fk.toNat v
    ·simp
    ·cases ok <;> cases f <;> cases t.fp <;> simp
   ·simp only [gC, List.length_append]
    split <;> simp <;> omega)
  (fun n a _ => by
   rw [Ba]
   simp only [A5]
   rw [DV (d := 0) hto.1 hto.2]
   simp only [oS]
   rw [AB (by omega)]) N 0 (acc, false) (by omega) (by omega) ⟨by omega, by simp⟩
 have h2 := this.1
 rw [List.drop_zero, JM, Bool.false_or] at h2
 exact h2
theorem Ke (N : Nat) (p : Aa) (m : Ab) (t : Ar) (i : Nat) (W : Int) (b1 acc : List Af) (j : List Af → Option (List Af))
  (hN : N ≤ 1000000) (h8 : 8 ≤ N) (hp : Ci p) (hm : MixServ p m) (ht : L6 p t) (hacc : acc.length + 42 ≤ 10000) (hW0 : 0 ≤ W) (hW1 : W ≤ 255) (hWb : ∀ v, CN W v = Q6 m i t v) :
  Bj N p m (b1, (i : Int)) t W j N (acc, 0) = j (acc ++ Ir m i t) := by
 have hl := LG hp ht
 have hfr := ht.from0
 have hok := ht.okL
 exact Jn (Bj N p m (b1, (i : Int)) t W j) (fun a k => (a, k)) t.fq j (fun u row => if Q6 m i t u then IG i m t u row else []) 7 10000
  (fun u row hx => Qg i m t u row (hl.2 row (lM hx)))
  (fun n u row a hx ha => by
   have hu := (lI.1 hx).1
   have hrow := hl.2 row (lM hx)
   rw [Bj]
   simp only [A5]
   rw [DV (d := 0) hfr.1 hfr.2]
   simp only [oS]
   unfold BW
   rw [AC (by omega), Ap (by omega), Pz hW0 hW1 (by omega), hWb]
   simp only [oS]
   rw [OS N p m t i u row b1 a a _ hN h8 hp hm ht hx (by unfold Dx; omega), AI (by omega)]
   cases hw : Q6 m i t u
   ·simp
   ·simp only [Bool.not_true, An, if_true, IG]
    have h1 := In (g := gC i u m t) (c := 1) (i := 0) (xs := row) (fun j x _ => P9 _ _ _ _ _ _)
    have := Jl (R := List Af) (t.fp && !L9 (hC m t) 0 row) (a ++ Gy (gC i u m t) 0 row) ⟨(i : Int), (u : Int), -1⟩ (fun l => Bj N p m (b1, (i : Int)) t W j n (l, ((u + 1 : Nat) : Int))) (by rw [List.length_append]; unfold Dx; rw [hw, if_pos rfl] at ha; omega)
    rw [← List.append_assoc, ← this]
    cases t.fp <;> cases L9 (hC m t) 0 row <;> rfl)
  (fun n a => by
   rw [Bj]
   simp only [A5]
   rw [DV (d := 0) hfr.1 hfr.2]
   simp only [oS]
   rw [AB (by omega)]) N acc (by omega) (by omega)
theorem K7 (N : Nat) (p : Aa) (m : Ab) (hN : N ≤ 1000000) (h20 : 20 ≤ N) (hp : Ci p) (hm : Dm p m) : Eo N p m = some (Ho p m) := by
 unfold Eo
 have hnt := hp.nt
 rw [Jn (CD N p m _) (fun a k => (a, k)) p.fc some (Ir m) 42 9000
  (fun i t hx => Lg hp (KN (hp.tab t (lM hx))) i m)
  (fun n i t a hx ha => by
   have hi := (lI.1 hx).1
   have ht := KN (hp.tab t (lM hx))
   have hto := ht.to0
   have hfr := ht.from0
   have hR := GQ hp hm.toMixServ (s := t.fk.toNat) (by omega)
   have hF := GQ hp hm.toMixServ (s := t.fg.toNat) (by omega)
   have hH := hm.range i hi
   rw [CD]
   simp only [A5]
   rw [AC (by omega), AX, hx]
   simp only [oS, H7]
   rw [J0 N m t.fg hfr.1 (by rw [hm.base]; exact hfr.2) (by rw [hm.next]; exact hfr.2) (hm.b0 _ (by omega)).1, J0 N m t.fk hto.1 (by rw [hm.base]; exact hto.2) (by rw [hm.next]; exact hto.2) (hm.b0 _ (by omega)).1, Cq (d := 0) (by rw [hm.held]; exact hi), AI (by omega)]
   simp only [oS]
   cases hs : Bz t
   ·rw [An, Kx N p m t i _ _ a a _ hN (by omega) hp ht (by omega) hR.2.1 hR.2.2 hR.1 hF.2.1 hF.2.2 (fun v => by unfold Q6; rw [hs, hF.1]; rfl)]
   ·rw [AA, Kx N p m t i _ _ a a _ hN (by omega) hp ht (by omega) hR.2.1 hR.2.2 hR.1 hH.1 hH.2 (fun v => by unfold Q6; rw [hs]; rfl)])
  (fun n a => by
   rw [CD]
   simp only [A5]
   rw [AB (by omega)]) N [] (by omega) (by simp; omega)]
 rfl
theorem KX (N : Nat) (p : Aa) (m : Ab) (hN : N ≤ 1000000) (h20 : 20 ≤ N) (hp : Ci p) (hm : Dm p m) : DG N p m = some (Ho p m) := by
 unfold DG
 have hnt := hp.nt
 rw [Jn (B0 N p m _) (fun a k => (a, k)) p.fc some (Ir m) 42 9000
  (fun i t hx => Lg hp (KN (hp.tab t (lM hx))) i m)
  (fun n i t a hx ha => by
   have hi := (lI.1 hx).1
   have ht := KN (hp.tab t (lM hx))
   have hto := ht.to0
   have hfr := ht.from0
   have hF := GQ hp hm.toMixServ (s := t.fg.toNat) (by omega)
   have hH := hm.range i hi
   rw [B0]
   simp only [A5]
   rw [AC (by omega), AX, hx]
   simp only [oS, FH]
   rw [Iw N m t.fg hfr.1 (by rw [hm.base]; exact hfr.2) (by rw [hm.next]; exact hfr.2) (hm.b0 _ (by omega)).1, Cq (d := 0) (by rw [hm.held]; exact hi), AI (by omega)]
   simp only [oS]
   cases hs : Bz t
   ·rw [An, Ke N p m t i _ a a _ hN (by omega) hp hm.toMixServ ht (by omega) hF.2.1 hF.2.2 (fun v => by unfold Q6; rw [hs, hF.1]; rfl)]
   ·rw [AA, Ke N p m t i _ a a _ hN (by omega) hp hm.toMixServ ht (by omega) hH.1 hH.2 (fun v => by unfold Q6; rw [hs]; rfl)])
  (fun n a => by
   rw [B0]
   simp only [A5]
   rw [AB (by omega)]) N [] (by omega) (by simp; omega)]
 rfl
theorem E2 {A S R : Type} (L : Nat → S → Option R) (mk : A → Int → S) (len : Nat) (j : A → Option R) (I : Nat → A → Prop)
  (hs : ∀ (n i : Nat) (a : A), i < len → I i a → ∃ a', L (n + 1) (mk a (i : Int)) = L n (mk a' ((i + 1 : Nat) : Int)) ∧ I (i + 1) a')
  (he : ∀ (n : Nat) (a : A), I len a → L (n + 1) (mk a (len : Int)) = j a) :
  ∀ (n i : Nat) (a : A), i ≤ len → len - i < n → I i a → ∃ a', L n (mk a (i : Int)) = j a' ∧ I len a'
 | 0, i, _, _, h, _ => by omega
 | n + 1, i, a, hi, h, ha => by
  by_cases h1 : i < len
  ·obtain ⟨a', e1, e2⟩ := hs n i a h1 ha
   rw [e1]
   exact E2 L mk len j I hs he n (i + 1) _ (by omega) (by omega) e2
  ·have : i = len := by omega
   subst this
   exact ⟨a, he n a ha, ha⟩
theorem H2 {α : Type} {xs ys : List α} {i : Nat} {d : α} (h : i < xs.length) : (xs ++ ys).getD i d = xs.getD i d := by
 rw [lD, lD, List.getElem?_append_left h]
theorem HR {α : Type} {xs : List α} {y : α} {i : Nat} {d : α} (h : i = xs.length) : (xs ++ [y]).getD i d = y := by
 subst h; rw [lD, List.getElem?_append_right (Nat.le_refl _)]; simp
theorem Mu {α : Type} {P : Nat → α → Prop} {xs : List α} {y : α} {d : α} {n : Nat} (hn : xs.length = n) (h : ∀ k, k < n → P k (xs.getD k d)) (hy : P n y) : ∀ k, k < n + 1 → P k ((xs ++ [y]).getD k d) := by
 intro k hk
 by_cases h1 : k < n
 ·rw [H2 (by omega)]; exact h k h1
 ·have : k = n := by omega
  subst this
  rw [HR hn.symm]; exact hy
theorem QM {l : List Int} (hw : Ka Ju l) (i : Nat) : 0 ≤ l.getD i 0 ∧ l.getD i 0 ≤ 255 := by
 by_cases h : i < l.length
 ·have : l.getD i 0 ∈ l := by rw [lD, List.getElem?_eq_getElem h]; exact List.getElem_mem _
  exact Hw (hw _ this)
 ·rw [lD, List.getElem?_eq_none (by omega)]
  exact ⟨by decide, by decide⟩
theorem Nu (N : Nat) {l : List Int} (hw : Ka Ju l) (i : Nat) : C9 N l (i : Int) = some (l.getD i 0) := by
 unfold C9
 have h2 := QM hw i
 by_cases h : i < l.length
 ·rw [AC (by omega), Cq (d := 0) h]
  simp only [oS]
  rw [DN (by omega) (by omega)]
 ·rw [AB (by omega), lD, List.getElem?_eq_none (by omega)]; rfl
theorem GJ {a n : Int} (ha : 0 ≤ a) (hn : 0 < n) : 0 ≤ Int.tmod a n ∧ Int.tmod a n < n := ⟨Int.tmod_nonneg n ha, Int.tmod_lt_of_pos a hn⟩
theorem Uo {l : List (List Bool)} {n m : Int} (h1 : (l.length : Int) = n) (h2 : ∀ row, row ∈ l → (row.length : Int) = m) : sq l n m = true := by
 unfold sq
 simp only [Bool.and_eq_true, decide_eq_true_eq, List.all_eq_true]
 exact ⟨h1, h2⟩
theorem U1 {p : Aa} {t : Ar} (h : L6 p t) : Dh p t = 0 := by
 have hk := h.kind
 have hf := h.from0
 have ht := h.to0
 unfold Dh
 rw [if_neg, if_neg (by omega)]
 ·simp only [Uo h.okL h.okR]
  rw [if_neg (by simp)]
  by_cases h4 : t.ff = 4
  ·rw [if_pos h4, Uo (h.reL h4) h.reR, if_neg (by simp), h.reD h4]; rfl
  ·rw [if_neg h4, h.reN h4]; rfl
 ·rintro (h1 | h1 | ⟨h1, h2⟩)
  ·omega
  ·omega
  ·have := h.aware h1
   unfold Bz at this
   rw [Bool.or_eq_false_iff, beq_eq_false_iff_ne, beq_eq_false_iff_ne] at this
   omega
theorem Sm (N : Nat) (m bad : Int) (diag : Bool) (i : Nat) (acc : List (List Bool)) {_R : Type} (j : List Bool → Option (List (List Bool))) (hN : N ≤ 1000000) (h20 : 20 ≤ N) (hm : 0 ≤ m ∧ m ≤ 6) (hi : i < 6) :
  ∃ row, BU N m bad diag (acc, (i : Int)) j N ([], 0) = j row ∧ (row.length : Int) = m ∧ (diag = true → (i : Int) < m → row.getD i false = true) := by
 obtain ⟨M, rfl⟩ := Int.eq_ofNat_of_zero_le hm.1
 obtain ⟨row, e, h1, h2⟩ := E2 (A := List Bool) (BU N (M : Int) bad diag (acc, (i : Int)) j) (fun a k => (a, k)) M j
  (fun k a => a.length = k ∧ ∀ q, q < k → diag = true → q = i → a.getD q false = true)
  (fun n k a hk ha => by
   refine ⟨a ++ [(diag && decide (i = k)) || (Int.tmod (EA .u16 bad ((3 * i + k : Nat) : Int)) 2 == 0)], ?_, by simp [ha.1], Mu (P := fun q y => diag = true → q = i → y = true) ha.1 ha.2 (fun h1 h2 => by simp [h1, h2])⟩
   rw [BU]
   simp only [A5]
   rw [AC (by omega), AI (by omega), DN (n := 3 * (i : Int)) (by omega) (by omega), DN (n := 3 * (i : Int) + (k : Int)) (by omega) (by omega)]
   have l1 : ∀ y : Bool, a.length + ([y] : List Bool).length ≤ Dx := by intro y; rw [ha.1]; unfold Dx; simp; omega
   simp only [Ap (l1 _), Ap (show (0 : Int) ≤ 3 * (i : Int) + (k : Int) by omega)]
   have e1 : ((3 * i + k : Nat) : Int) = 3 * (i : Int) + (k : Int) := by omega
   rw [e1]
   have e2 : (((i : Nat) : Int) == ((k : Nat) : Int)) = decide (i = k) := by
    by_cases h : i = k
    ·simp [h]
    ·rw [decide_eq_false h]; exact beq_eq_false_iff_ne.2 (by omega)
   rw [e2]
   cases diag <;> cases decide (i = k) <;> rfl)
  (fun n a _ => by
   rw [BU]
   simp only [A5]
   rw [AB (by omega)]) N 0 [] (Nat.zero_le _) (by omega) ⟨rfl, fun q hq => by omega⟩
 exact ⟨row, e, by omega, fun hd hlt => h2 i (by omega) hd rfl⟩
theorem Qq (N : Nat) (n m bad : Int) (diag : Bool) (hN : N ≤ 1000000) (h20 : 20 ≤ N) (hn : 0 ≤ n ∧ n ≤ 6) (hm : 0 ≤ m ∧ m ≤ 6) :
  ∃ l, Db N n m bad diag = some l ∧ (l.length : Int) = n ∧ (∀ row, row ∈ l → (row.length : Int) = m) ∧ (diag = true → n = m → Ht l = none) := by
 obtain ⟨M, rfl⟩ := Int.eq_ofNat_of_zero_le hn.1
 unfold Db
 obtain ⟨l, e, h1, h2⟩ := E2 (A := List (List Bool)) (BS N (M : Int) m bad diag (fun v => some v)) (fun a k => (a, k)) M some
  (fun k a => a.length = k ∧ ∀ q, q < k → (((a.getD q []).length : Nat) : Int) = m ∧ (diag = true → (q : Int) < m → (a.getD q []).getD q false = true))
  (fun n k a hk ha => by
   obtain ⟨row, e, h1, h2⟩ := Sm (_R := Unit) N m bad diag k a (fun (v5 : List Bool) =>
    (Dl (a.length + (([v5] : List (List Bool))).length ≤ Dx)).bind fun _ =>
    BS N (M : Int) m bad diag (fun v => some v) n (a ++ (([v5] : List (List Bool))), (wI .i64 ((k : Int) + 1)))) hN h20 hm (by omega)
   refine ⟨a ++ [row], ?_, by simp [ha.1], Mu (P := fun q y => ((y.length : Nat) : Int) = m ∧ (diag = true → (q : Int) < m → y.getD q false = true)) ha.1 ha.2 ⟨h1, h2⟩⟩
   rw [BS]
   simp only
   rw [AC (by omega), e, Ap (by rw [ha.1]; unfold Dx; simp; omega), AI (by omega)])
  (fun n a _ => by
   rw [BS]
   simp only
   rw [AB (by omega)]) N 0 [] (Nat.zero_le _) (by omega) ⟨rfl, fun q hq => by omega⟩
 have key : ∀ q row, l[q]? = some row → l.getD q [] = row := fun q row hq => by rw [lD, hq]; rfl
 refine ⟨l, e, by omega, fun row hr => ?_, fun hd hnm => ?_⟩
 ·obtain ⟨q, hq⟩ := List.mem_iff_getElem?.1 hr
  have := (h2 q (by have := (lI.1 hq).1; omega)).1
  rwa [key q row hq] at this
 ·unfold Ht
  refine D9 fun q row hq => ?_
  have hlt := (lI.1 hq).1
  have := (h2 q (by omega)).2 hd (by omega)
  rw [key q row hq] at this
  rw [Nat.zero_add, this]; rfl
structure Ul (p : Aa) : Prop where
 valid : Bp p = 0
 nv : p.fb.length ≤ 3
 nt : p.fc.length ≤ 4
 v3 : ∀ v, v ∈ p.fb → v ≤ 3
theorem QY {p q : Aa} (h : p.fb = q.fb) (t : Ar) : Dh p t = Dh q t := by
 unfold Dh; rw [h]
theorem W8 (N : Nat) (d : BP) (hN : N ≤ 1000000) (h20 : 20 ≤ N) (hw : EY d) : ∃ p ok, Eb N d = some (p, ok) ∧ (ok = true → Ul p) := by
 obtain ⟨w1, w2, w3, w4, _⟩ := hw
 unfold Eb
 simp only [A5]
 by_cases k1 : 3 < d.fb.length
 ·rw [AC (by omega)]; exact ⟨_, false, rfl, fun h => by cases h⟩
 by_cases k2 : 4 < d.fr.length
 ·rw [AB (by omega), decide_eq_true (by omega : (4 : Int) < (d.fr.length : Int))]; exact ⟨_, false, rfl, fun h => by cases h⟩
 rw [AB (by omega), decide_eq_false (by omega : ¬ (4 : Int) < (d.fr.length : Int)), An]
 obtain ⟨⟨vs, ns, ts⟩, e, h1, h2, h3, h4⟩ := E2 (A := List Int × List Int × List Int) (B7 N d fun v5 => Bd N d v5 (fun v16 => some (Aa.mk v5.1 v5.2.1 v5.2.2 v16, true)) N ([], 0)) (fun a k => (a.1, a.2.1, a.2.2, k)) d.fb.length
  (fun v5 => Bd N d v5 (fun v16 => some (Aa.mk v5.1 v5.2.1 v5.2.2 v16, true)) N ([], 0))
  (fun i a => a.1.length = i ∧ a.2.1.length = i ∧ a.2.2.length = i ∧ (∀ k, k < i → (1 ≤ a.1.getD k 0 ∧ a.1.getD k 0 ≤ 3) ∧ (0 ≤ a.2.1.getD k 0 ∧ a.2.1.getD k 0 < a.1.getD k 0) ∧ (0 ≤ a.2.2.getD k 0 ∧ a.2.2.getD k 0 < a.1.getD k 0)))
  (fun n i a hi ha => by
   obtain ⟨vs, ns, ts⟩ := a
   obtain ⟨h1, h2, h3, h4⟩ := ha
   simp only at h1 h2 h3 h4
   have hv := QM w1 i
   have hb := QM w2 i
   have hk := QM w3 i
   have hm := GJ (n := 3) hv.1 (by omega)
   obtain ⟨v, hvd⟩ : ∃ v, v = 1 + Int.tmod (d.fb.getD i 0) 3 := ⟨_, rfl⟩
   have m1 := GJ (n := v) hb.1 (by omega)
   have m2 := GJ (n := v) hk.1 (by omega)
   refine ⟨(vs ++ [v], ns ++ [Int.tmod (d.fi.getD i 0) v], ts ++ [Int.tmod (d.fo.getD i 0) v]), ?_, by simp [h1], by simp [h2], by simp [h3], ?_⟩
   ·rw [B7]
    simp only
    rw [AC (by omega), Cq (d := 0) hi, Nu N w2, Nu N w3]
    simp only [oS]
    rw [DN (n := Int.tmod _ _) (by omega) (by omega), DN (n := 1 + _) (by omega) (by omega), ← hvd, AI (by omega)]
    have l1 : ∀ y : Int, vs.length + ([y] : List Int).length ≤ Dx := by intro y; rw [h1]; unfold Dx; simp; omega
    have l2 : ∀ y : Int, ns.length + ([y] : List Int).length ≤ Dx := by intro y; rw [h2]; unfold Dx; simp; omega
    have l3 : ∀ y : Int, ts.length + ([y] : List Int).length ≤ Dx := by intro y; rw [h3]; unfold Dx; simp; omega
    simp only [Ap (l1 _), Ap (l2 _), Ap (l3 _), Ap (show v ≠ 0 by omega)]
   ·intro k hk
    simp only
    by_cases hki : k < i
    ·rw [H2 (by omega), H2 (by omega), H2 (by omega)]; exact h4 k hki
    ·have : k = i := by omega
     subst this
     rw [HR h1.symm, HR h2.symm, HR h3.symm]
     omega)
  (fun n a _ => by
   rw [B7]
   simp only
   rw [AB (by omega)]) N 0 ([], [], []) (Nat.zero_le _) (by omega) ⟨rfl, rfl, rfl, fun k hk => by omega⟩
 simp only at h1 h2 h3 h4
 have e' : B7 N d (fun v5 => Bd N d v5 (fun v16 => some (Aa.mk v5.1 v5.2.1 v5.2.2 v16, true)) N ([], 0)) N ([], [], [], 0) = _ := e
 rw [e']
 have hvs : ∀ v, v ∈ vs → 1 ≤ v ∧ v ≤ 3 := by
  intro v hv
  obtain ⟨q, hq⟩ := List.mem_iff_getElem?.1 hv
  have := (h4 q (by have := (lI.1 hq).1; omega)).1
  rwa [lD, hq] at this
 have fin : ∀ LE : List Ar, LE.length ≤ 4 → (∀ t, t ∈ LE → Dh ⟨vs, ns, ts, []⟩ t = 0) → Ul ⟨vs, ns, ts, LE⟩ := by
  intro LE ht h
  have hp : Ci ⟨vs, ns, ts, LE⟩ := ⟨show vs.length ≤ 6 by omega, show LE.length ≤ 12 by omega, show ns.length = vs.length by omega, show ts.length = vs.length by omega, fun v hv => by have := hvs v hv; omega, fun t ht => by rw [← h t ht]; exact QY rfl t⟩
  exact ⟨OF hp fun i hi => by have := h4 i (by have : i < vs.length := hi; omega); simp only; omega, show vs.length ≤ 3 by omega, ht, fun v hv => (hvs v hv).2⟩
 by_cases k3 : vs.length = 0
 ·refine ⟨_, true, ?_, fun _ => fin [] (by simp) (fun t ht => by cases ht)⟩
  obtain ⟨M, rfl⟩ : ∃ M, N = M + 1 := ⟨N - 1, by omega⟩
  rw [Bd]
  simp only [A5]
  rw [k3]
  by_cases k4 : (0 : Int) < (d.fr.length : Int)
  ·rw [AC k4]; rfl
  ·rw [AB k4]; rfl
 obtain ⟨LE, e2, g1, g2⟩ := E2 (A := List Ar) (Bd N d (vs, ns, ts) (fun v16 => some (Aa.mk vs ns ts v16, true))) (fun a k => (a, k)) d.fr.length (fun v16 => some (Aa.mk vs ns ts v16, true))
  (fun i a => a.length = i ∧ ∀ t, t ∈ a → Dh ⟨vs, ns, ts, []⟩ t = 0)
  (fun n i a hi ha => by
   have hx : d.fr[i]? = some d.fr[i] := by simp [hi]
   generalize d.fr[i] = l at hx
   obtain ⟨u1, u2, u3, _, u5, u6, _⟩ := w4 l (lM hx)
   have u1 := Hw u1
   have u2 := Hw u2
   have u3 := Hw u3
   have mk := GJ (n := 4) u1.1 (by omega)
   have hL : (0 : Int) < (vs.length : Int) := by omega
   have mf := GJ (n := (vs.length : Int)) u2.1 hL
   have mt := GJ (n := (vs.length : Int)) u3.1 hL
   rw [Bd]
   simp only [A5]
   rw [AC (by omega), decide_eq_true hL, AA, AX, hx]
   simp only [oS]
   rw [Ap (by omega), Ap (by omega), DN (n := l.fg) (by omega) (by omega), DN (n := l.fk) (by omega) (by omega), DN (n := Int.tmod l.ff 4) (by omega) (by omega), DN (n := 1 + _) (by omega) (by omega), AI (by omega)]
   simp only [KH, oS]
   rw [DV (d := 0) mf.1 mf.2, DV (d := 0) mt.1 mt.2]
   simp only [oS]
   have hA : ∀ q : Int, 0 ≤ q → q < (vs.length : Int) → 1 ≤ vs.getD q.toNat 0 ∧ vs.getD q.toNat 0 ≤ 3 := fun q h0 h1 => (h4 q.toNat (by omega)).1
   have hf := hA _ mf.1 mf.2
   have ht := hA _ mt.1 mt.2
   obtain ⟨A, eA, a1, a2, _⟩ := Qq N (vs.getD (Int.tmod l.fg (vs.length : Int)).toNat 0) (vs.getD (Int.tmod l.fk (vs.length : Int)).toNat 0) l.ft false hN h20 (by omega) (by omega)
   obtain ⟨B, eB, b1, b2, b3⟩ := Qq N (vs.getD (Int.tmod l.fg (vs.length : Int)).toNat 0) (vs.getD (Int.tmod l.fg (vs.length : Int)).toNat 0) l.fu true hN h20 (by omega) (by omega)
   rw [eA, eB]
   simp only [oS]
   have l1 : ∀ y : Ar, a.length + ([y] : List Ar).length ≤ Dx := by intro y; rw [ha.1]; unfold Dx; simp; omega
   simp only [Ap (l1 _)]
   obtain ⟨kd, hkd⟩ : ∃ kd, kd = 1 + Int.tmod l.ff 4 := ⟨_, rfl⟩
   rw [← hkd]
   have fin2 : ∀ (aw : Bool) (re : List (List Bool)), (aw = true → (kd == 3 || kd == 4) = false) → ((kd = 4 → re = B) ∧ (kd ≠ 4 → re = [])) →
     Dh ⟨vs, ns, ts, []⟩ (Ar.mk kd (Int.tmod l.fg (vs.length : Int)) (Int.tmod l.fk (vs.length : Int)) aw A re) = 0 := by
    intro aw re haw hre
    refine U1 ⟨show 1 ≤ kd ∧ kd ≤ 4 by omega, haw, mf, mt, a1, a2, fun h => by rw [hre.1 h]; exact b1, fun row hr => ?_, fun h => by rw [hre.1 h]; exact b3 rfl rfl, fun h => hre.2 h⟩
    by_cases h4 : kd = 4
    ·simp only at hr; rw [hre.1 h4] at hr; exact b2 row hr
    ·simp only at hr; rw [hre.2 h4] at hr; cases hr
   have app : ∀ t, Dh ⟨vs, ns, ts, []⟩ t = 0 → (a ++ [t]).length = i + 1 ∧ ∀ t', t' ∈ a ++ [t] → Dh ⟨vs, ns, ts, []⟩ t' = 0 := by
    intro t ht
    refine ⟨by simp [ha.1], fun t' ht' => ?_⟩
    rcases List.mem_append.1 ht' with h | h
    ·exact ha.2 t' h
    ·rw [List.mem_singleton.1 h]; exact ht
   by_cases h4 : kd = 4
   ·have e4 : (kd == 4) = true := beq_iff_eq.2 h4
    have hre : (kd = 4 → B = B) ∧ (kd ≠ 4 → B = []) := ⟨fun _ => rfl, fun h => (h h4).elim⟩
    rw [e4]
    simp only [AA, Bool.or_true, Bool.not_true]
    cases l.fp
    ·exact ⟨_, rfl, app _ (fin2 false B (fun h => by cases h) hre)⟩
    ·exact ⟨_, rfl, app _ (fin2 false B (fun h => by cases h) hre)⟩
   ·have e4 : (kd == 4) = false := beq_eq_false_iff_ne.2 h4
    have hre : (kd = 4 → ([] : List (List Bool)) = B) ∧ (kd ≠ 4 → ([] : List (List Bool)) = []) := ⟨fun h => (h4 h).elim, fun _ => rfl⟩
    rw [e4]
    simp only [An, Bool.or_false]
    cases l.fp
    ·exact ⟨_, rfl, app _ (fin2 false [] (fun h => by cases h) hre)⟩
    ·cases e3 : kd == 3
     ·exact ⟨_, rfl, app _ (fin2 true [] (fun _ => by rw [e3, e4]; rfl) hre)⟩
     ·exact ⟨_, rfl, app _ (fin2 false [] (fun h => by cases h) hre)⟩)
  (fun n a _ => by
   rw [Bd]
   simp only [A5]
   rw [AB (by omega), An]) N 0 [] (Nat.zero_le _) (by omega) ⟨rfl, fun t ht => by cases ht⟩
 exact ⟨_, true, e2, fun _ => fin LE (by omega) g2⟩
def Hh : List Int → Nat → Nat
 | [], _ => 0
 | _, 0 => 0
 | n :: ns, q + 1 => (if 0 ≤ n then 1 else 0) + Hh ns q
theorem HI (l : List Int) : Hh l 0 = 0 := by cases l <;> rfl
theorem Gb : ∀ (l : List Int) (q : Nat), q < l.length → Hh l (q + 1) = Hh l q + if 0 ≤ l.getD q 0 then 1 else 0
 | [], q, h => by simp at h
 | n :: ns, 0, _ => by simp [Hh, HI]
 | n :: ns, q + 1, h => by
  rw [Hh, Gb ns q (by simpa using h), Hh, List.getD_cons_succ, Nat.add_assoc]
theorem Ml (l : List Int) {a b : Nat} (h : a ≤ b) (hb : b ≤ l.length) : Hh l a ≤ Hh l b := by
 induction b with
 | zero => rw [Nat.le_zero.1 h]; exact Nat.le_refl _
 | succ b ih =>
  by_cases h1 : a = b + 1
  ·rw [h1]; exact Nat.le_refl _
  ·have := ih (by omega) (by omega)
   rw [Gb l b (by omega)]; omega
theorem I9 (l : List Int) : ∀ q, q ≤ l.length → Hh l q ≤ q
 | 0, _ => by rw [HI]; exact Nat.le_refl _
 | q + 1, h => by
  have := I9 l q (by omega)
  rw [Gb l q h]
  split <;> omega
def KW (l : List Int) (k q : Nat) : Int := if 0 ≤ l.getD q 0 ∧ k.testBit (Hh l q) = true then -1 else l.getD q 0
def SR (l : List Int) (k : Nat) : List Int := (List.range l.length).map (KW l k)
def UE (m : Ab) (k : Nat) : Ab := ⟨m.fe, SR m.fa k, m.fd⟩
def EX (m : Ab) : List Ab := (List.range (2 ^ Hh m.fa m.fa.length)).map (UE m)
theorem Kb (l : List Int) (k : Nat) : (SR l k).length = l.length := by simp [SR]
theorem Od (l : List Int) (k q : Nat) (h : q < l.length) : (SR l k).getD q 0 = KW l k q := by
 unfold SR; rw [lD, List.getElem?_map, List.getElem?_range h]; rfl
theorem FD {l1 l2 : List Int} (h1 : l1.length = l2.length) (h : ∀ q, q < l1.length → l1.getD q 0 = l2.getD q 0) : l1 = l2 := by
 apply List.ext_getElem h1
 intro q h2 h3
 have := h q h2
 rw [lD, lD, List.getElem?_eq_getElem h2, List.getElem?_eq_getElem h3] at this
 exact this
theorem Qo : ∀ (k : Fin 64) (b : Fin 7), Ft .i64 (EA .i64 (k.val : Int) (b.val : Int)) 1 = (if k.val.testBit b.val then 1 else 0) ∧ Int.tmod (EA .i64 (k.val : Int) (b.val : Int)) 2 = (if k.val.testBit b.val then 1 else 0) := by decide +kernel
theorem Tf : ∀ n : Fin 7, C0 .i64 1 (n.val : Int) = ((2 ^ n.val : Nat) : Int) := by decide +kernel
structure MJ (m x : Ab) : Prop where
 base : x.fe = m.fe
 held : x.fd = m.fd
 len : x.fa.length = m.fa.length
 next : ∀ q, q < m.fa.length → x.fa.getD q 0 = m.fa.getD q 0 ∨ (0 ≤ m.fa.getD q 0 ∧ x.fa.getD q 0 = -1)
theorem MJ.refl (m : Ab) : MJ m m := ⟨rfl, rfl, rfl, fun _ _ => .inl rfl⟩
theorem MJ.trans {a b c : Ab} (h1 : MJ a b) (h2 : MJ b c) : MJ a c :=
 ⟨h2.base.trans h1.base, h2.held.trans h1.held, h2.len.trans h1.len, fun q hq => by
  have e1 := h1.next q hq
  have e2 := h2.next q (by rw [h1.len]; exact hq)
  omega⟩
theorem SK (m : Ab) (k : Nat) : MJ m (UE m k) :=
 ⟨rfl, rfl, Kb _ _, fun q hq => by
  show (SR m.fa k).getD q 0 = _ ∨ _ ∧ (SR m.fa k).getD q 0 = _
  rw [Od _ _ _ hq]; unfold KW
  split
  ·rename_i h; exact .inr ⟨h.1, rfl⟩
  ·exact .inl rfl⟩
theorem Qs : ∀ (l x : List Int), x.length = l.length → (∀ q, q < l.length → x.getD q 0 = l.getD q 0 ∨ (0 ≤ l.getD q 0 ∧ x.getD q 0 = -1)) → ∃ k, k < 2 ^ Hh l l.length ∧ ∀ q, q < l.length → x.getD q 0 = KW l k q
 | [], x, h, _ => ⟨0, by simp [Hh], fun q hq => by simp at hq⟩
 | n :: ns, [], h, _ => by simp at h
 | n :: ns, y :: ys, h, hq => by
  obtain ⟨k, hk, hk2⟩ := Qs ns ys (by simpa using h) (fun q hq' => by have := hq (q + 1) (by simpa using hq'); simpa using this)
  have h0 := hq 0 (by simp)
  simp only [List.getD_cons_zero] at h0
  by_cases hn : 0 ≤ n
  ·refine ⟨2 * k + if y = n then 0 else 1, ?_, ?_⟩
   ·rw [List.length_cons, Hh, if_pos hn, Nat.pow_add]
    split <;> omega
   ·intro q hq'
    cases q with
    | zero =>
     simp only [List.getD_cons_zero, KW, HI]
     by_cases hy : y = n
     ·simp [hy]
     ·rw [if_neg hy, if_pos ⟨hn, by simp⟩]; omega
    | succ q =>
     have := hk2 q (by simpa using hq')
     simp only [List.getD_cons_succ, KW, Hh, if_pos hn] at this ⊢
     rw [this, Nat.add_comm 1, Nat.testBit_succ]
     have : (2 * k + if y = n then 0 else 1) / 2 = k := by split <;> omega
     rw [this]
  ·refine ⟨k, ?_, ?_⟩
   ·rw [List.length_cons, Hh, if_neg hn, Nat.zero_add]; exact hk
   ·intro q hq'
    cases q with
    | zero =>
     simp only [List.getD_cons_zero, KW, HI]
     rw [if_neg (fun h => hn h.1)]
     omega
    | succ q =>
     have := hk2 q (by simpa using hq')
     simp only [List.getD_cons_succ, KW, Hh, if_neg hn, Nat.zero_add] at this ⊢
     exact this
theorem Mo {m x : Ab} : x ∈ EX m ↔ MJ m x := by
 unfold EX
 rw [List.mem_map]
 constructor
 ·rintro ⟨k, _, rfl⟩; exact SK m k
 ·intro h
  obtain ⟨k, hk, hq⟩ := Qs m.fa x.fa h.len h.next
  refine ⟨k, List.mem_range.2 hk, ?_⟩
  have : SR m.fa k = x.fa := FD (by rw [Kb, h.len]) fun q hq' => by
   rw [Kb] at hq'
   rw [Od _ _ _ hq', hq q hq']
  unfold UE
  rw [this, ← h.base, ← h.held]
theorem UB {m x : Ab} (h : MJ m x) {s : Nat} (hs : s < m.fa.length) {v : Nat} (hv : Hg x s v = true) : Hg m s v = true := by
 unfold Hg at hv ⊢
 rw [h.base] at hv
 have := h.next s hs
 simp only [Bool.or_eq_true, decide_eq_true_eq] at hv ⊢
 omega
theorem Ua {p : Aa} {m x : Ab} (hp : Ci p) (hm : Dm p m) (h : MJ m x) : Dm p x := by
 refine ⟨⟨by rw [h.base]; exact hm.base, by rw [h.len]; exact hm.next, by rw [h.held]; exact hm.held, fun i hi => by rw [h.base]; exact hm.b0 i hi, fun i hi => ?_, fun i hi => ?_⟩, fun i hi => by rw [h.held]; exact hm.range i hi, fun i t ht hs v hv => ?_, fun i t ht hs v hv => ?_, fun i t ht hs => by rw [h.held]; exact hm.none i t ht hs⟩
 ·have h1 := hm.n0 i hi
  have h2 := h.next i (by rw [hm.next]; exact hi)
  have h3 := H4 hp hi
  omega
 ·have h1 := hm.ne i hi
  have h2 := h.next i (by rw [hm.next]; exact hi)
  have h3 := hm.b0 i hi
  rw [h.base]
  omega
 ·have hin := (KN (hp.tab t (lM ht))).from0
  rw [h.held]
  exact hm.low i t ht hs v (UB h (by rw [hm.next]; omega) hv)
 ·rw [h.held] at hv
  exact hm.high i t ht hs v hv
theorem Id (N : Nat) (l : List Int) (h : l.length ≤ Dx) : Br N l = some l := by
 unfold Br
 rw [Ap (by simpa using h)]; rfl
theorem Nf (N : Nat) (l : List Int) (h : l.length ≤ Dx) : Bx N l = some l := by
 unfold Bx
 rw [Ap (by simpa using h)]; rfl
theorem HP {l : List Int} {i q : Nat} {y : Int} (hi : i < l.length) : (l.set i y).getD q 0 = if q = i then y else l.getD q 0 := by
 rw [lD, lD, List.getElem?_set]
 by_cases h : i = q
 ·subst h; simp [hi]
 ·rw [if_neg h, if_neg (fun e => h e.symm)]
theorem Tp {l : List Int} {a b : Nat} (ha : a < l.length) (hb : b < l.length) (h1 : 0 ≤ l.getD a 0) (h2 : 0 ≤ l.getD b 0) (h : Hh l a = Hh l b) : a = b := by
 rcases Nat.lt_trichotomy a b with h3 | h3 | h3
 ·have := Ml l (a := a + 1) (b := b) h3 (by omega)
  rw [Gb l a ha, if_pos h1] at this; omega
 ·exact h3
 ·have := Ml l (a := b + 1) (b := a) h3 (by omega)
  rw [Gb l b hb, if_pos h2] at this; omega
structure Sj (l : List Int) (o : List Int) : Prop where
 len : o.length = Hh l l.length
 at_ : ∀ b, b < o.length → ∃ i : Nat, o.getD b 0 = (i : Int) ∧ i < l.length ∧ 0 ≤ l.getD i 0 ∧ Hh l i = b
theorem Pw (N : Nat) (l o : List Int) (k : Nat) (acc : List Ab) (hN : N ≤ 1000000) (h20 : 20 ≤ N) (hl : l.length ≤ 6) (ho : Sj l o) (hk : k < 64) (j : List Int → Option (List Ab × Int)) :
  Cm N o (acc, (k : Int)) j N (l, 0) = j (SR l k) := by
 have hol := I9 l l.length (Nat.le_refl _)
 have hoL := ho.len
 obtain ⟨x, e, h1, h2⟩ := E2 (A := List Int) (Cm N o (acc, (k : Int)) j) (fun a k => (a, k)) o.length j
  (fun b a => a.length = l.length ∧ ∀ q, q < l.length → a.getD q 0 = if 0 ≤ l.getD q 0 ∧ Hh l q < b ∧ k.testBit (Hh l q) = true then -1 else l.getD q 0)
  (fun n b a hb ha => by
   obtain ⟨i, hi1, hi2, hi3, hi4⟩ := ho.at_ b hb
   have hbit := Qo ⟨k, hk⟩ ⟨b, by omega⟩
   rw [Cm]
   simp only [A5]
   rw [AC (by omega), Cq (d := 0) hb]
   simp only [oS]
   rw [Ap (by omega), hi1, hbit.1, Cq (d := 0) (show i < a.length by rw [ha.1]; exact hi2), AI (by omega)]
   simp only [oS, Int.toNat_natCast]
   cases hkb : k.testBit b
   ·refine ⟨a, rfl, ha.1, fun q hq => ?_⟩
    rw [ha.2 q hq]
    by_cases hqb : Hh l q = b
    ·rw [hqb, hkb]; simp
    ·by_cases h3 : Hh l q < b
     ·have : Hh l q < b + 1 := by omega
      simp [h3, this]
     ·have : ¬ Hh l q < b + 1 := by omega
      simp [h3, this]
   ·refine ⟨a.set i (-1), rfl, by simp [ha.1], fun q hq => ?_⟩
    rw [HP (by rw [ha.1]; exact hi2), ha.2 q hq]
    by_cases hqi : q = i
    ·subst hqi
     rw [if_pos rfl, if_pos ⟨hi3, by omega, by rw [hi4]; exact hkb⟩]
    ·rw [if_neg hqi]
     by_cases h0 : 0 ≤ l.getD q 0
     ·have hne : Hh l q ≠ b := fun h => hqi (Tp hq hi2 h0 hi3 (by omega))
      by_cases h3 : Hh l q < b
      ·have : Hh l q < b + 1 := by omega
       simp [h3, this]
      ·have : ¬ Hh l q < b + 1 := by omega
       simp [h3, this]
     ·rw [if_neg (fun h => h0 h.1), if_neg (fun h => h0 h.1)])
  (fun n a _ => by
   rw [Cm]
   simp only [A5]
   rw [AB (by omega)]) N 0 l (Nat.zero_le _) (by omega) ⟨rfl, fun q hq => by simp⟩
 have e' : Cm N o (acc, (k : Int)) j N (l, 0) = j x := e
 rw [e']
 congr 1
 refine FD (by rw [Kb, h1]) fun q hq => ?_
 rw [h1] at hq
 rw [h2 q hq, Od _ _ _ hq, KW]
 by_cases h0 : 0 ≤ l.getD q 0
 ·have h3 := Ml l (a := q + 1) (b := l.length) hq (Nat.le_refl _)
  rw [Gb l q hq, if_pos h0] at h3
  have : Hh l q < o.length := by omega
  simp [this]
 ·rw [if_neg (fun h => h0 h.1), if_neg (fun h => h0 h.1)]
theorem PJ (N : Nat) (m : Ab) (k : Nat) (acc : List Ab) (hN : N ≤ 1000000) (h20 : 20 ≤ N) (hl : m.fa.length ≤ 6) (hk : k < 64) (j : List Int → Option (List Ab)) :
  BB N m (acc, (k : Int)) j N (m.fa, 0, 0) = j (SR m.fa k) := by
 obtain ⟨⟨x, pl⟩, e, h1, h2, h3⟩ := E2 (A := List Int × Nat) (BB N m (acc, (k : Int)) j) (fun a k => (a.1, (a.2 : Int), k)) m.fa.length (fun a => j a.1)
  (fun i a => a.2 = Hh m.fa i ∧ a.1.length = m.fa.length ∧ ∀ q, q < m.fa.length → a.1.getD q 0 = if q < i then KW m.fa k q else m.fa.getD q 0)
  (fun n i a hi ha => by
   obtain ⟨a, pl⟩ := a
   obtain ⟨a1, a2, a3⟩ := ha
   simp only at a1 a2 a3
   have hple := I9 m.fa i (by omega)
   have hbit := Qo ⟨k, hk⟩ ⟨pl, by omega⟩
   have hs := Gb m.fa i hi
   rw [BB]
   simp only [A5]
   rw [AC (by omega), Cq (d := 0) hi]
   simp only [oS]
   rw [AI (by omega)]
   by_cases h0 : m.fa.getD i 0 < 0
   ·rw [AC h0]
    refine ⟨(a, pl), rfl, by simp only; rw [hs, if_neg (by omega), a1]; rfl, a2, fun q hq => ?_⟩
    simp only
    rw [a3 q hq]
    by_cases hqi : q = i
    ·subst hqi
     rw [if_neg (by omega), if_pos (by omega), KW, if_neg (by omega)]
    ·by_cases h4 : q < i
     ·rw [if_pos h4, if_pos (by omega)]
     ·rw [if_neg h4, if_neg (by omega)]
   ·rw [AB h0, Ap (by omega), Cq (d := 0) (show i < a.length by omega), hbit.2, AI (by omega)]
    simp only [oS, Int.toNat_natCast]
    cases hkb : k.testBit pl
    ·refine ⟨(a, pl + 1), rfl, by simp only; rw [hs, if_pos (by omega), a1], a2, fun q hq => ?_⟩
     simp only
     rw [a3 q hq]
     by_cases hqi : q = i
     ·subst hqi
      rw [if_neg (by omega), if_pos (by omega), KW, ← a1, hkb]; simp
     ·by_cases h4 : q < i
      ·rw [if_pos h4, if_pos (by omega)]
      ·rw [if_neg h4, if_neg (by omega)]
    ·refine ⟨(a.set i (-1), pl + 1), rfl, by simp only; rw [hs, if_pos (by omega), a1], by simp [a2], fun q hq => ?_⟩
     simp only
     rw [HP (by omega), a3 q hq]
     by_cases hqi : q = i
     ·subst hqi
      rw [if_pos rfl, if_pos (by omega), KW, ← a1, if_pos ⟨by omega, hkb⟩]
     ·rw [if_neg hqi]
      by_cases h4 : q < i
      ·rw [if_pos h4, if_pos (by omega)]
      ·rw [if_neg h4, if_neg (by omega)])
  (fun n a _ => by
   rw [BB]
   simp only [A5]
   rw [AB (by omega)]) N 0 (m.fa, 0) (Nat.zero_le _) (by omega) ⟨(HI _).symm, rfl, fun q hq => by simp⟩
 have e' : BB N m (acc, (k : Int)) j N (m.fa, 0, 0) = j x := e
 rw [e']
 congr 1
 simp only at h2 h3
 refine FD (by rw [Kb, h2]) fun q hq => ?_
 rw [h2] at hq
 rw [h3 q hq, if_pos hq, Od _ _ _ hq]
theorem Ru (N : Nat) (m : Ab) (hN : N ≤ 1000000) (h20 : 20 ≤ N) (hl : m.fa.length ≤ 6) (j : List Int → Option (List Ab × Int)) :
  ∃ o, CU N m j N ([], 0) = j o ∧ Sj m.fa o := by
 obtain ⟨o, e, h1, h2⟩ := E2 (A := List Int) (CU N m j) (fun a k => (a, k)) m.fa.length j
  (fun i o => o.length = Hh m.fa i ∧ ∀ b, b < o.length → ∃ q : Nat, o.getD b 0 = (q : Int) ∧ q < m.fa.length ∧ 0 ≤ m.fa.getD q 0 ∧ Hh m.fa q = b)
  (fun n i o hi ho => by
   have hple := I9 m.fa i (by omega)
   have hs := Gb m.fa i hi
   rw [CU]
   simp only [A5]
   rw [AC (by omega), Cq (d := 0) hi]
   simp only [oS]
   rw [AI (by omega)]
   by_cases h0 : 0 ≤ m.fa.getD i 0
   ·rw [AC h0, Ap (by rw [ho.1]; unfold Dx; simp; omega)]
    refine ⟨o ++ [(i : Int)], rfl, by rw [hs, if_pos h0, ← ho.1]; simp, ?_⟩
    rw [List.length_append]
    exact Mu (P := fun b y => ∃ q : Nat, y = (q : Int) ∧ q < m.fa.length ∧ 0 ≤ m.fa.getD q 0 ∧ Hh m.fa q = b) rfl ho.2 ⟨i, rfl, hi, h0, ho.1.symm⟩
   ·rw [AB h0]
    exact ⟨o, rfl, by rw [hs, if_neg h0, ho.1]; rfl, ho.2⟩)
  (fun n a _ => by
   rw [CU]
   simp only [A5]
   rw [AB (by omega)]) N 0 [] (Nat.zero_le _) (by omega) ⟨(HI _).symm, fun b hb => by simp at hb⟩
 exact ⟨o, e, h1, h2⟩
theorem JS {n : Nat} (h : n ≤ 6) : 2 ^ n ≤ 64 := Nat.pow_le_pow_right (n := 2) (by omega) h
theorem LK {n : Nat} (h : n ≤ 6) : C0 .i64 1 (n : Int) = ((2 ^ n : Nat) : Int) := Tf ⟨n, by omega⟩
theorem Jf {β : Type} (f : Nat → β) (n : Nat) : (List.range (n + 1)).map f = (List.range n).map f ++ [f n] := by
 rw [List.range_succ, List.map_append]; rfl
theorem MU (N : Nat) (p : Aa) (m : Ab) (hN : N ≤ 1000000) (h20 : 100 ≤ N) (hw : Ka Ju m.fd) (hv : Do p m = 0) : FC N p m = some (EX m, 0) := by
 obtain ⟨hp, hm⟩ := HO hw hv
 have hnv := hp.nv
 have hnt := hp.nt
 have hl : m.fa.length ≤ 6 := by rw [hm.next]; omega
 unfold FC
 rw [Hc N p m hN (by omega) hw, hv]
 simp only [oS, bne_self_eq_false, An]
 obtain ⟨o, e, ho⟩ := Ru N m hN (by omega) hl (fun (v4 : (List Int)) =>
   (Dl (0 ≤ (v4.length : Int))).bind fun _ =>
   Cn N m v4 (fun (v12 : (List Ab)) =>
    some (v12, 0)) N (([] : List Ab), 0))
 rw [e, Ap (by omega)]
 have hoL := ho.len
 have hol := I9 m.fa m.fa.length (Nat.le_refl _)
 have hpow := JS (show Hh m.fa m.fa.length ≤ 6 by omega)
 obtain ⟨a, e2, h1⟩ := E2 (A := List Ab) (Cn N m o fun v12 => some (v12, 0)) (fun a k => (a, k)) (2 ^ Hh m.fa m.fa.length) (fun v12 => some (v12, 0))
  (fun i a => a = (List.range i).map (UE m))
  (fun n i a hi ha => by
   refine ⟨a ++ [UE m i], ?_, by rw [Jf, ha]⟩
   have hal : a.length = i := by rw [ha]; simp
   rw [Cn]
   rw [hoL, LK (n := Hh m.fa m.fa.length) (by omega), AC (by omega), Id N m.fe (by have := hm.base; unfold Dx; omega), Id N m.fa (by unfold Dx; omega), Nf N m.fd (by have := hm.held; unfold Dx; omega)]
   simp only [oS]
   rw [Pw N m.fa o i a hN (by omega) hl ho (by omega), Ap (by rw [hal]; unfold Dx; simp; omega), AI (by omega)]
   rfl)
  (fun n a _ => by
   rw [Cn]
   rw [hoL, LK (n := Hh m.fa m.fa.length) (by omega), AB (by simp)]) N 0 [] (Nat.zero_le _) (by omega) rfl
 have e2' : Cn N m o (fun v12 => some (v12, 0)) N ([], 0) = some (a, 0) := e2
 rw [e2', h1]; rfl
theorem P5 (N : Nat) (m : Ab) (h1 : m.fe.length ≤ Dx) (h2 : m.fa.length ≤ Dx) (h3 : m.fd.length ≤ Dx) : Dj N m = some m := by
 unfold Dj
 rw [Ap (by simpa using h1), Ap (by simpa using h2), Ap (by simpa using h3)]; rfl
theorem Ql (N : Nat) (m : Ab) (hN : N ≤ 1000000) (h20 : 100 ≤ N) (h1 : m.fe.length ≤ 100) (hl : m.fa.length ≤ 6) (h3 : m.fd.length ≤ 100) : Dq N m = some (EX m) := by
 unfold Dq
 obtain ⟨c, e, hc⟩ := E2 (A := Nat) (BZ N m (fun (v2 : Int) =>
  Be N m v2 (fun (v8 : (List Ab)) => some v8) N (([] : List Ab), 0))) (fun a k => ((a : Int), k)) m.fa.length (fun a => Be N m (a : Int) (fun (v8 : (List Ab)) => some v8) N (([] : List Ab), 0))
  (fun i a => a = Hh m.fa i)
  (fun n i a hi ha => by
   have hple := I9 m.fa i (by omega)
   have hs := Gb m.fa i hi
   rw [BZ]
   simp only [A5]
   rw [AC (by omega), Cq (d := 0) hi]
   simp only [oS]
   rw [AI (by omega), AI (by omega)]
   by_cases h0 : 0 ≤ m.fa.getD i 0
   ·rw [AC h0]
    exact ⟨a + 1, rfl, by rw [hs, if_pos h0, ha]⟩
   ·rw [AB h0]
    exact ⟨a, rfl, by rw [hs, if_neg h0, ha]; rfl⟩)
  (fun n a _ => by
   rw [BZ]
   simp only [A5]
   rw [AB (by omega)]) N 0 0 (Nat.zero_le _) (by omega) (HI _).symm
 have e' : BZ N m (fun (v2 : Int) => Be N m v2 (fun (v8 : (List Ab)) => some v8) N (([] : List Ab), 0)) N (0, 0) = _ := e
 rw [e', hc]
 have hol := I9 m.fa m.fa.length (Nat.le_refl _)
 have hpow := JS (show Hh m.fa m.fa.length ≤ 6 by omega)
 obtain ⟨a, e2, h1⟩ := E2 (A := List Ab) (Be N m (Hh m.fa m.fa.length : Int) fun v8 => some v8) (fun a k => (a, k)) (2 ^ Hh m.fa m.fa.length) some
  (fun i a => a = (List.range i).map (UE m))
  (fun n i a hi ha => by
   refine ⟨a ++ [UE m i], ?_, by rw [Jf, ha]⟩
   have hal : a.length = i := by rw [ha]; simp
   rw [Be]
   rw [Ap (by omega), LK (n := Hh m.fa m.fa.length) (by omega), AC (by omega), P5 N m (by unfold Dx; omega) (by unfold Dx; omega) (by unfold Dx; omega)]
   simp only [oS]
   rw [PJ N m i a hN (by omega) hl (by omega), Ap (by rw [hal]; unfold Dx; simp; omega), AI (by omega)]
   rfl)
  (fun n a _ => by
   rw [Be]
   rw [Ap (by omega), LK (n := Hh m.fa m.fa.length) (by omega), AB (by simp)]) N 0 [] (Nat.zero_le _) (by omega) rfl
 have e2' : Be N m (Hh m.fa m.fa.length : Int) (fun v8 => some v8) N ([], 0) = some a := e2
 rw [e2', h1]; rfl
theorem PX (N : Nat) (p : Aa) (m : Ab) (hN : N ≤ 1000000) (h20 : 100 ≤ N) (hp : Ci p) (hm : Dm p m) : Dq N m = some (EX m) := by
 have := hp.nv
 have := hp.nt
 exact Ql N m hN h20 (by rw [hm.base]; omega) (by rw [hm.next]; omega) (by rw [hm.held]; omega)
theorem IM {p : Aa} {m : Ab} (hm : Dm p m) : Ka Ju m.fd := by
 intro x hx
 obtain ⟨q, hq⟩ := List.mem_iff_getElem?.1 hx
 have h1 := (lI.1 hq).1
 have := hm.range q (by rw [← hm.held]; exact h1)
 rw [lD, hq] at this
 unfold Ju
 simp only [Option.getD_some] at this
 simp [Lit.wf, IntKind.min, IntKind.max, IntKind.signed, IntKind.bits]
 omega
def JW (p : Aa) (x : Ab) : Option (Ab × Af) := match Ho p x with
 | [] => none
 | c :: _ => some (x, c)
def GE (p : Aa) (m : Ab) : Option (Ab × Af) := CC (fun _ x => JW p x) 0 (EX m)
def EB : Ab := ⟨[], [], []⟩
def J5 : Af := ⟨0, 0, 0⟩
def ID (p : Aa) (m : Ab) : Ab × Af × Int := match GE p m with
 | some (x, c) => (x, c, 0)
 | none => (EB, J5, 15)
def D4 (p : Aa) (m : Ab) : Bool := (GE p m).isNone
theorem LU {m : Ab} (hl : m.fa.length ≤ 6) : (EX m).length ≤ 64 := by
 unfold EX
 have hol := I9 m.fa m.fa.length (Nat.le_refl _)
 have hpow := JS (show Hh m.fa m.fa.length ≤ 6 by omega)
 simpa using hpow
theorem MC {α R R' : Type} (f : Nat → α → Option R) (g : R → R') : ∀ (i : Nat) (xs : List α), CC (fun i x => (f i x).map g) i xs = (CC f i xs).map g
 | _, [] => rfl
 | i, x :: xs => by
  rw [F3, F3]
  cases f i x
  ·exact MC f g (i + 1) xs
  ·rfl
theorem IF (N : Nat) (p : Aa) (m : Ab) (hN : N ≤ 1000000) (h20 : 100 ≤ N) (hw : Ka Ju m.fd) (hv : Do p m = 0) : ED N p m = some (ID p m) := by
 obtain ⟨hp, hm⟩ := HO hw hv
 have hnv := hp.nv
 unfold ED
 rw [MU N p m hN h20 hw hv]
 simp only [oS, bne_self_eq_false, An]
 have hal := LU (m := m) (by rw [hm.next]; omega)
 have := Cf (DO N p (EX m, 0) fun _ => some (EB, J5, 15)) (EX m) (some (EB, J5, 15)) (fun _ x => (JW p x).map fun y => (y.1, y.2, 0))
  (fun n i x hx => by
   have hi := (lI.1 hx).1
   have hx2 := Ua hp hm (Mo.1 (lM hx))
   rw [DO, AC (by simp only; omega)]
   simp only [AX, hx, oS]
   rw [K7 N p x hN (by omega) hp hx2, AI (by omega)]
   simp only [oS, JW]
   cases Ho p x with
   | nil => rfl
   | cons c cs => rw [AC (by simp only [List.length_cons]; omega)]; rfl)
  (fun n => by rw [DO, AB (by simp)]) N 0 (Nat.zero_le _) (by omega)
 rw [List.drop_zero, MC] at this
 exact this.trans (by
  unfold ID GE
  cases CC (fun _ x => JW p x) 0 (EX m) <;> rfl)
theorem Kj (N : Nat) (p : Aa) (m : Ab) (hN : N ≤ 1000000) (h20 : 100 ≤ N) (hw : Ka Ju m.fd) (hv : Do p m = 0) : Dz N p m = some (ID p m) := by
 obtain ⟨hp, hm⟩ := HO hw hv
 have hnv := hp.nv
 unfold Dz D3
 rw [IA N p m hN (by omega), hv, PX N p m hN h20 hp hm]
 simp only [oS, bne_self_eq_false, An]
 have hal := LU (m := m) (by rw [hm.next]; omega)
 have := Cf (B1 N p (EX m, 0) fun _ => some (EB, J5, 15)) (EX m) (some (EB, J5, 15)) (fun _ x => (JW p x).map fun y => (y.1, y.2, 0))
  (fun n i x hx => by
   have hi := (lI.1 hx).1
   have hx2 := Ua hp hm (Mo.1 (lM hx))
   rw [B1, AC (by simp only; omega)]
   simp only [AX, hx, oS]
   rw [KX N p x hN (by omega) hp hx2, AI (by omega)]
   simp only [oS, JW]
   cases Ho p x with
   | nil => rfl
   | cons c cs => rw [AC (by simp only [List.length_cons]; omega)]; rfl)
  (fun n => by rw [B1, AB (by simp)]) N 0 (Nat.zero_le _) (by omega)
 rw [List.drop_zero, MC] at this
 exact this.trans (by
  unfold ID GE
  cases CC (fun _ x => JW p x) 0 (EX m) <;> rfl)
theorem JB (N : Nat) (p : Aa) (m : Ab) (hN : N ≤ 1000000) (h20 : 100 ≤ N) (hw : Ka Ju m.fd) (hv : Do p m = 0) : Eh N p m = some (D4 p m, 0) := by
 unfold Eh
 rw [IF N p m hN h20 hw hv]
 unfold D4 ID
 cases GE p m <;> rfl
theorem PL {α R : Type} {f : Nat → α → Option R} {i : Nat} {xs : List α} : (CC f i xs).isNone = true ↔ ∀ j x, xs[j]? = some x → f (i + j) x = none := by
 constructor
 ·intro h
  exact Eu (Option.isNone_iff_eq_none.1 h)
 ·intro h
  rw [D9 h]; rfl
theorem OB (N : Nat) (a b : List Int) (hN : N ≤ 1000000) (h : a.length < N) : CQ N a b = some (a == b) := by
 unfold CQ
 by_cases hl : a.length = b.length
 ·rw [hl, bne_self_eq_false, An]
  have := Cf (BH N a b fun _ => some true) a (some true) (fun i x => if x = b.getD i 0 then none else some false)
   (fun n i x hx => by
    have hi := (lI.1 hx).1
    rw [BH, AC (by omega), AX, hx, Cq (d := 0) (by omega)]
    simp only [oS]
    rw [AI (by omega)]
    by_cases h : x = b.getD i 0
    ·rw [if_pos h, h, bne_self_eq_false]; rfl
    ·rw [if_neg h, bne_iff_ne.2 h]; rfl)
   (fun n => by rw [BH, AB (by simp)]) N 0 (Nat.zero_le _) (by omega)
  refine this.trans ?_
  rw [List.drop_zero]
  cases hs : CC (fun i x => if x = b.getD i 0 then none else some false) 0 a with
  | none =>
   have : a = b := FD hl fun q hq => by
    have hx : a[q]? = some (a.getD q 0) := by rw [lD]; simp [hq]
    have := Eu hs q _ hx
    rw [Nat.zero_add] at this
    split at this
    ·assumption
    ·cases this
   rw [this, beq_self_eq_true]; rfl
  | some r =>
   obtain ⟨j, x, hx, hf⟩ := DJ hs
   rw [Nat.zero_add] at hf
   split at hf
   ·cases hf
   ·rename_i hne
    cases hf
    have : (a == b) = false := beq_eq_false_iff_ne.2 fun e => hne (by rw [← e, lD, hx]; rfl)
    rw [this]; rfl
 ·have h1 : ((a.length : Int) != (b.length : Int)) = true := bne_iff_ne.2 (by omega)
  have h2 : (a == b) = false := beq_eq_false_iff_ne.2 fun e => hl (by rw [e])
  rw [h1, h2]; rfl
theorem N9 (N : Nat) (a : List Int) (f : Int → Option Bool) (g : Int → Bool) (hN : N ≤ 1000000) (h : a.length < N) (hf : ∀ x, x ∈ a → f x = some (g x)) : B2 N a f = some (a.any g) := by
 unfold B2 CX
 have := Cf (A4 N a f fun _ => some (-1)) a (some (-1)) (fun i x => if g x then some (i : Int) else none)
  (fun n i x hx => by
   have hi := (lI.1 hx).1
   rw [A4, AC (by omega), AX, hx]
   simp only [oS]
   rw [hf x (lM hx), AI (by omega)]
   simp only [oS]
   cases g x <;> rfl)
  (fun n => by rw [A4, AB (by simp)]) N 0 (Nat.zero_le _) (by omega)
 have e : A4 N a f (fun _ => some (-1)) N 0 = _ := this
 rw [e, List.drop_zero]
 cases hs : CC (fun i x => if g x then some (i : Int) else none) 0 a with
 | none =>
  have : a.any g = false := by
   rw [List.any_eq_false]
   intro x hx
   obtain ⟨j, hj⟩ := List.mem_iff_getElem?.1 hx
   have := Eu hs j x hj
   intro hg
   rw [hg] at this; cases this
  rw [this]; rfl
 | some r =>
  obtain ⟨j, x, hx, hf⟩ := DJ hs
  split at hf
  ·rename_i hg
   cases hf
   have : a.any g = true := List.any_eq_true.2 ⟨x, lM hx, hg⟩
   rw [this]
   simp only [Bt, oS]
   rw [decide_eq_true (by omega)]
  ·cases hf
def JD (p : Aa) (m : Ab) : Bool := Do p m == 0 && (m.fe == p.fo && m.fa.all (fun n => decide (n < 0)))
theorem O5 (N : Nat) (p : Aa) (m : Ab) (hN : N ≤ 1000000) (h20 : 100 ≤ N) (hw : Ka Ju m.fd) : Fa N p m = some (JD p m) := by
 unfold Fa JD
 rw [Hc N p m hN (by omega) hw]
 simp only [A5, oS]
 by_cases hv : Do p m = 0
 ·obtain ⟨hp, hm⟩ := HO hw hv
  have := hp.nv
  rw [hv, OB N _ _ hN (by rw [hm.base]; omega), N9 N m.fa (fun x => FR N x) (fun n => decide (0 ≤ n)) hN (by rw [hm.next]; omega) (fun x _ => rfl)]
  simp only [oS, beq_self_eq_true, AA, Bool.true_and]
  have : m.fa.all (fun n => decide (n < 0)) = !m.fa.any (fun n => decide (0 ≤ n)) := by
   rw [List.not_any_eq_all_not]
   congr 1; funext n
   by_cases h : 0 ≤ n
   ·rw [decide_eq_true h, decide_eq_false (by omega)]; rfl
   ·rw [decide_eq_false h, decide_eq_true (by omega)]; rfl
  rw [this]
  cases m.fe == p.fo <;> simp
 ·rw [beq_eq_false_iff_ne.2 hv]; rfl
theorem PG (N : Nat) (p : Aa) (m : Ab) (hN : N ≤ 1000000) (h20 : 100 ≤ N) (hw : Ka Ju m.fd) : Da N p m = some (JD p m) := by
 unfold Da JD
 rw [IA N p m hN (by omega)]
 simp only [oS]
 by_cases hv : Do p m = 0
 ·obtain ⟨hp, hm⟩ := HO hw hv
  have h1 := hp.nv
  have h2 := hp.tgt
  have h3 := hm.base
  have h4 := hm.next
  rw [hv]
  simp only [bne_self_eq_false, An, beq_self_eq_true, Bool.true_and]
  have := Cf (Cb N p m fun _ => some true) m.fe (some true) (fun i x => if 0 ≤ m.fa.getD i 0 ∨ x ≠ p.fo.getD i 0 then some false else none)
   (fun n i x hx => by
    have hi := (lI.1 hx).1
    rw [Cb, AC (by omega)]
    simp only [A5]
    rw [show BK m.fe (i : Int) = some x from by rw [AX, hx], Cq (d := 0) (by omega), Cq (d := 0) (by omega)]
    simp only [oS]
    rw [AI (by omega)]
    by_cases k1 : 0 ≤ m.fa.getD i 0
    ·rw [AC k1, if_pos (.inl k1)]; rfl
    ·rw [AB k1]
     by_cases k2 : x = p.fo.getD i 0
     ·rw [if_neg (fun h => h.elim k1 (fun h => h k2)), k2, bne_self_eq_false]; rfl
     ·rw [if_pos (.inr k2), bne_iff_ne.2 k2]; rfl)
   (fun n => by rw [Cb, AB (by simp)]) N 0 (Nat.zero_le _) (by omega)
  refine this.trans ?_
  rw [List.drop_zero]
  cases hs : CC (fun i x => if 0 ≤ m.fa.getD i 0 ∨ x ≠ p.fo.getD i 0 then some false else none) 0 m.fe with
  | none =>
   have key : ∀ q, q < m.fe.length → m.fe.getD q 0 = p.fo.getD q 0 ∧ ¬ 0 ≤ m.fa.getD q 0 := by
    intro q hq
    have hx : m.fe[q]? = some (m.fe.getD q 0) := by rw [lD]; simp [hq]
    have := Eu hs q _ hx
    rw [Nat.zero_add] at this
    split at this
    ·cases this
    ·rename_i h; exact ⟨Decidable.not_not.1 fun h' => h (.inr h'), fun h' => h (.inl h')⟩
   have e1 : m.fe = p.fo := FD (by omega) fun q hq => (key q hq).1
   have e2 : m.fa.all (fun n => decide (n < 0)) = true := by
    rw [List.all_eq_true]
    intro n hn
    obtain ⟨q, hq⟩ := List.mem_iff_getElem?.1 hn
    have hl := (lI.1 hq).1
    have := (key q (by omega)).2
    rw [lD, hq] at this
    simp only [Option.getD_some] at this
    simp only [decide_eq_true_eq]
    omega
   rw [e2, e1]; simp [Bt]
  | some r =>
   obtain ⟨j, x, hx, hf⟩ := DJ hs
   rw [Nat.zero_add] at hf
   have hj := (lI.1 hx).1
   split at hf
   ·rename_i h
    cases hf
    have : (m.fe == p.fo && m.fa.all (fun n => decide (n < 0))) = false := by
     rw [Bool.and_eq_false_iff]
     rcases h with h | h
     ·right
      rw [List.all_eq_false]
      refine ⟨m.fa.getD j 0, ?_, ?_⟩
      ·rw [lD, List.getElem?_eq_getElem (by omega)]; exact List.getElem_mem _
      ·simp only [decide_eq_true_eq]; omega
     ·left
      exact beq_eq_false_iff_ne.2 fun e => h (by rw [← e, lD, hx]; rfl)
    rw [this]; rfl
   ·cases hf
 ·rw [bne_iff_ne.2 hv, beq_eq_false_iff_ne.2 hv]; rfl
open Go
structure Xz (x y : Ar) : Prop where
 k : y.ff = x.ff
 f : y.fg = x.fg
 t : y.fk = x.fk
 a : y.fp = x.fp
 r : y.fm = x.fm
 l : y.fq.length = x.fq.length
 o : ∀ (u : Nat) (row : List Bool), x.fq[u]? = some row → ∃ row', y.fq[u]? = some row' ∧ row'.length = row.length ∧ ∀ v : Nat, row[v]? = some true → row'[v]? = some true
theorem Xz.st {x y : Ar} (h : Xz x y) : Bz y = Bz x := by unfold Bz; rw [h.k]
structure Vm (p : Aa) (m x : Ab) : Prop where
 base : m.fe = x.fe
 next : m.fa = x.fa
 held : ∀ i, i < p.fc.length → ∀ v, CN (m.fd.getD i 0) v = true → CN (x.fd.getD i 0) v = true
theorem Vm.refl (p : Aa) (m : Ab) : Vm p m m := ⟨rfl, rfl, fun _ _ _ h => h⟩
theorem Vm.trans {p : Aa} {a b c : Ab} (h : Vm p a b) (g : Vm p b c) : Vm p a c := ⟨h.base.trans g.base, h.next.trans g.next, fun i hi v hv => g.held i hi v (h.held i hi v hv)⟩
def EC (p : Aa) (t : Ar) : Int := if Bz t = true then C0 .u8 1 (p.fi.getD t.fg.toNat 0) else 0
def Dt (p : Aa) : Ab := ⟨p.fi, List.replicate p.fi.length (-1), p.fc.map (EC p)⟩
theorem Q4 (N : Nat) (h : 100 ≤ N) (n : Nat) (hn : n ≤ 6) : Dy N [(-1)] (n : Int) = some (List.replicate n (-1)) := by
 obtain ⟨k, rfl⟩ : ∃ k, N = k + 100 := ⟨N - 100, by omega⟩
 have : n = 0 ∨ n = 1 ∨ n = 2 ∨ n = 3 ∨ n = 4 ∨ n = 5 ∨ n = 6 := by omega
 rcases this with rfl | rfl | rfl | rfl | rfl | rfl | rfl
 all_goals (show _ = _; kernel_rfl)
theorem Pr (T : List Int) (i : Nat) (hi : i < T.length) : (T.take i ++ List.replicate (T.length - i) 0).set i (T.getD i 0) = T.take (i + 1) ++ List.replicate (T.length - (i + 1)) 0 := by
 have hl : (T.take i).length = i := by simp; omega
 rw [List.set_append_right _ _ (by omega), hl, Nat.sub_self, show T.length - i = (T.length - (i + 1)) + 1 from by omega, List.replicate_succ, List.set_cons_zero, List.take_add_one, List.append_assoc]
 have : T[i]? = some (T.getD i 0) := by rw [lD]; simp [hi]
 rw [this]; rfl
theorem Rh (T : List Int) (i : Nat) (hi : i < T.length) (h0 : T.getD i 0 = 0) : T.take i ++ List.replicate (T.length - i) 0 = T.take (i + 1) ++ List.replicate (T.length - (i + 1)) 0 := by
 rw [← Pr T i hi, h0, List.set_append_right _ _ (by rw [List.length_take]; omega)]
 congr 1
 have hl : (T.take i).length = i := by simp; omega
 rw [hl, Nat.sub_self, show T.length - i = (T.length - (i + 1)) + 1 from by omega, List.replicate_succ, List.set_cons_zero]
theorem Qj {p : Aa} (hv : Bp p = 0) {t : Ar} (ht : t ∈ p.fc) : 0 ≤ t.fg ∧ t.fg.toNat < p.fi.length ∧ 0 ≤ p.fi.getD t.fg.toNat 0 ∧ p.fi.getD t.fg.toNat 0 < 6 ∧ p.fi.getD t.fg.toNat 0 < p.fb.getD t.fg.toNat 0 ∧ t.fg.toNat < p.fb.length := by
 obtain ⟨hp, hr⟩ := Eg hv
 have h1 := HN (hp.tab t ht)
 have h2 := hr t.fg.toNat (by omega)
 have h3 := H4 hp (i := t.fg.toNat) (by omega)
 have := hp.now
 refine ⟨h1.1, by omega, h2.1, by omega, h2.2.1, by omega⟩
theorem Ig {p : Aa} {i : Nat} {t : Ar} (ht : p.fc[i]? = some t) : (p.fc.map (EC p)).getD i 0 = EC p t := by
 rw [lD, List.getElem?_map, ht]; rfl
theorem Ko (N : Nat) (p : Aa) (hN : N ≤ 1000000) (h20 : 100 ≤ N) : EG N p = some (if Bp p = 0 then Dt p else ⟨[], [], []⟩, Bp p) := by
 unfold EG
 rw [KB N p hN (by omega)]
 simp only [oS]
 by_cases hv : Bp p = 0
 ·rw [if_pos hv, hv]
  obtain ⟨hp, _⟩ := Eg hv
  have hnv := hp.nv
  have hnt := hp.nt
  have hnow := hp.now
  rw [bne_self_eq_false, An, Id N _ (by simp only [Dx]; omega)]
  simp only [oS]
  rw [Q4 N h20 _ (by omega)]
  simp only [oS]
  rw [Ap (by simp only [Dx]; omega)]
  obtain ⟨a', e, ha⟩ := E2 (Dd N p fun v7 => some (Ab.mk p.fi (List.replicate p.fi.length (-1)) v7, 0)) (fun a i => (a, i)) p.fc.length (fun v7 => some (Ab.mk p.fi (List.replicate p.fi.length (-1)) v7, 0))
   (fun i a => a = (p.fc.map (EC p)).take i ++ List.replicate ((p.fc.map (EC p)).length - i) 0)
   (fun n i a hi ha => by
    have hx : p.fc[i]? = some p.fc[i] := by simp [hi]
    have hm : p.fc[i] ∈ p.fc := List.getElem_mem hi
    obtain ⟨n1, n2, n3, n4, _⟩ := Qj hv hm
    rw [Dd, AC (by simp only; omega)]
    simp only [A5, AX, hx, oS, H7, AI (show i < 1000000 by omega)]
    have hal : i < (p.fc.map (EC p)).length := by simpa using hi
    cases hs : Bz p.fc[i]
    ·rw [An]
     refine ⟨a, rfl, ?_⟩
     rw [ha]
     exact Rh _ _ hal (by rw [Ig hx]; unfold EC; rw [hs]; rfl)
    ·rw [AA]
     have e1 : BK p.fi p.fc[i].fg = some (p.fi.getD p.fc[i].fg.toNat 0) := by
      obtain ⟨q, hq⟩ := Int.eq_ofNat_of_zero_le n1
      rw [hq]; exact Cq (by rw [hq] at n2; simpa using n2)
     rw [e1]
     simp only [oS]
     rw [Ap n3]
     have hl : i < a.length := by rw [ha]; simp; omega
     have e2 : a[i]? = some a[i] := by simp [hl]
     rw [e2]
     simp only [oS]
     refine ⟨_, rfl, ?_⟩
     rw [← Pr _ _ hal, Ig hx, ha]
     unfold EC; rw [hs]; rfl)
   (fun n a ha => by rw [Dd, AB (by simp)]) N 0 (List.replicate p.fc.length 0) (Nat.zero_le _) (by omega) (by simp)
  have e' : Dd N p (fun v7 => some (Ab.mk p.fi (List.replicate p.fi.length (-1)) v7, 0)) N (List.replicate ((p.fc.length : Int)).toNat (0 : Int), 0) = _ := e
  rw [e', ha]
  have e5 : (p.fc.map (EC p)).take p.fc.length = p.fc.map (EC p) := List.take_of_length_le (by simp)
  simp [Dt, e5]
 ·rw [if_neg hv, bne_iff_ne.2 hv, AA]
theorem Ob (N : Nat) (p : Aa) (hN : N ≤ 1000000) (h20 : 100 ≤ N) : CO N p = some (if Bp p = 0 then Dt p else ⟨[], [], []⟩, Bp p) := by
 unfold CO
 rw [My N p hN (by omega)]
 simp only [oS]
 by_cases hv : Bp p = 0
 ·rw [if_pos hv, hv]
  obtain ⟨hp, _⟩ := Eg hv
  have hnv := hp.nv
  have hnt := hp.nt
  have hnow := hp.now
  rw [bne_self_eq_false, An]
  obtain ⟨a', e, ha⟩ := E2 (BJ N p fun v4 => A3 N p (fun v10 => some (Ab.mk v4.1 v4.2 v10, 0)) N (([] : List Int), 0)) (fun a i => (a.1, a.2, i)) p.fb.length (fun v4 => A3 N p (fun v10 => some (Ab.mk v4.1 v4.2 v10, 0)) N (([] : List Int), 0))
   (fun i a => a = (p.fi.take i, List.replicate i (-1)))
   (fun n i a hi ha => by
    subst ha
    rw [BJ, AC (by simp only; omega)]
    have hx : p.fi[i]? = some p.fi[i] := by simp [show i < p.fi.length from by omega]
    simp only [AX, hx, oS, AI (show i < 1000000 by omega)]
    rw [Ap (by simp [Dx]; omega), Ap (by simp [Dx]; omega)]
    refine ⟨(p.fi.take i ++ [p.fi[i]], List.replicate i (-1) ++ [-1]), rfl, ?_⟩
    rw [List.take_add_one, hx, List.replicate_succ']; rfl)
   (fun n a ha => by rw [BJ, AB (by simp)]) N 0 ([], []) (Nat.zero_le _) (by omega) rfl
  have e' : BJ N p (fun v4 => A3 N p (fun v10 => some (Ab.mk v4.1 v4.2 v10, 0)) N (([] : List Int), 0)) N (([] : List Int), ([] : List Int), 0) = _ := e
  rw [e', ha]
  simp only
  obtain ⟨b', e2, hb⟩ := E2 (A3 N p fun v10 => some (Ab.mk (p.fi.take p.fb.length) (List.replicate p.fb.length (-1)) v10, 0)) (fun a i => (a, i)) p.fc.length (fun v10 => some (Ab.mk (p.fi.take p.fb.length) (List.replicate p.fb.length (-1)) v10, 0))
   (fun i a => a = (p.fc.map (EC p)).take i)
   (fun n i a hi ha => by
    subst ha
    have hx : p.fc[i]? = some p.fc[i] := by simp [hi]
    have hm : p.fc[i] ∈ p.fc := List.getElem_mem hi
    obtain ⟨n1, n2, n3, n4, _⟩ := Qj hv hm
    rw [A3, AC (by simp only; omega)]
    simp only [A5, AX, hx, oS, FH, AI (show i < 1000000 by omega)]
    have hT : (p.fc.map (EC p))[i]? = some (EC p p.fc[i]) := by rw [List.getElem?_map, hx]; rfl
    have hlen : ((p.fc.map (EC p)).take i).length + 1 ≤ Dx := by simp [Dx]; omega
    cases hs : Bz p.fc[i]
    ·rw [An, Ap (by simpa using hlen)]
     refine ⟨_, rfl, ?_⟩
     rw [List.take_add_one, hT]
     unfold EC; rw [hs]; rfl
    ·rw [AA]
     have e1 : BK p.fi p.fc[i].fg = some (p.fi.getD p.fc[i].fg.toNat 0) := by
      obtain ⟨q, hq⟩ := Int.eq_ofNat_of_zero_le n1
      rw [hq]; exact Cq (by rw [hq] at n2; simpa using n2)
     rw [e1]
     simp only [oS]
     rw [Ap n3, Ap (by simpa using hlen)]
     refine ⟨_, rfl, ?_⟩
     rw [List.take_add_one, hT]
     unfold EC; rw [hs]; rfl)
   (fun n a ha => by rw [A3, AB (by simp)]) N 0 [] (Nat.zero_le _) (by omega) rfl
  have e3 : A3 N p (fun v10 => some (Ab.mk (p.fi.take p.fb.length) (List.replicate p.fb.length (-1)) v10, 0)) N (([] : List Int), 0) = _ := e2
  rw [e3, hb]
  simp only [Dt, ← hnow, List.take_length]
  rw [show p.fc.length = (p.fc.map (EC p)).length from by simp, List.take_length]
 ·rw [if_neg hv, bne_iff_ne.2 hv, AA]
theorem Ku {p : Aa} (hv : Bp p = 0) : Dm p (Dt p) := by
 obtain ⟨hp, hr⟩ := Eg hv
 have hnow := hp.now
 have hnx : ∀ i, i < p.fb.length → (List.replicate p.fi.length (-1 : Int)).getD i 0 = -1 := fun i hi => by
  rw [lD, List.getElem?_replicate, if_pos (by omega)]; rfl
 have hone : ∀ (i : Nat) (t : Ar), p.fc[i]? = some t → ∃ b : Nat, b < 6 ∧ p.fi.getD t.fg.toNat 0 = (b : Int) ∧ (b : Int) < p.fb.getD t.fg.toNat 0 ∧ t.fg.toNat < p.fb.length := fun i t ht => by
  obtain ⟨n1, n2, n3, n4, n5, n6⟩ := Qj hv (lM ht)
  obtain ⟨b, hb⟩ := Int.eq_ofNat_of_zero_le n3
  exact ⟨b, by omega, hb, by omega, n6⟩
 have hbit : ∀ b : Nat, b < 8 → ∀ v, CN (C0 .u8 1 (b : Int)) v = decide (b = v) := fun b hb v => by
  by_cases h : v < 8
  ·exact (IJ ⟨b, hb⟩ ⟨v, h⟩).1
  ·rw [IK (IJ ⟨b, hb⟩ ⟨0, by omega⟩).2.2 (by omega)]
   symm; apply decide_eq_false; omega
 refine { base := hnow, next := by simp [Dt, hnow], held := by simp [Dt], b0 := fun i hi => ⟨(hr i hi).1, (hr i hi).2.1⟩, n0 := fun i hi => ?_, ne := fun i hi => ?_, range := fun i hi => ?_, low := fun i t ht hs v hv' => ?_, high := fun i t ht hs v hb => ?_, none := fun i t ht hs => ?_ }
 ·show -1 ≤ (List.replicate p.fi.length (-1 : Int)).getD i 0 ∧ (List.replicate p.fi.length (-1 : Int)).getD i 0 < _
  rw [hnx i hi]
  have := H4 hp hi
  omega
 ·show p.fi.getD i 0 ≠ (List.replicate p.fi.length (-1 : Int)).getD i 0
  rw [hnx i hi]
  have := hr i hi
  omega
 ·have hx : p.fc[i]? = some p.fc[i] := by simp [hi]
  show 0 ≤ (p.fc.map (EC p)).getD i 0 ∧ (p.fc.map (EC p)).getD i 0 ≤ 255
  rw [Ig hx]
  unfold EC
  split
  ·obtain ⟨b, h1, h2, _⟩ := hone i _ hx
   rw [h2]
   exact (IJ ⟨b, by omega⟩ ⟨0, by omega⟩).2
  ·omega
 ·show CN ((p.fc.map (EC p)).getD i 0) v = true
  obtain ⟨b, h1, h2, h3, h4⟩ := hone i t ht
  rw [Ig ht]
  unfold EC
  rw [if_pos hs, h2, hbit b (by omega)]
  unfold Hg at hv'
  have h5 : (Dt p).fe.getD t.fg.toNat 0 = (b : Int) := h2
  have h6 : (Dt p).fa.getD t.fg.toNat 0 = -1 := hnx _ h4
  rw [h5, h6, Bool.or_eq_true, decide_eq_true_iff, decide_eq_true_iff] at hv'
  apply decide_eq_true; omega
 ·have hb : CN ((p.fc.map (EC p)).getD i 0) v = true := hb
  obtain ⟨b, h1, h2, h3, h4⟩ := hone i t ht
  rw [Ig ht] at hb
  unfold EC at hb
  rw [if_pos hs, h2, hbit b (by omega), decide_eq_true_iff] at hb
  omega
 ·show (p.fc.map (EC p)).getD i 0 = 0
  rw [Ig ht]; unfold EC; rw [hs]; rfl
theorem Ln {p : Aa} (hv : Bp p = 0) : Do p (Dt p) = 0 := Fn hv (Ku hv)
theorem Lc (x : BitVec 8) : wI .u8 (x.toNat : Int) = (x.toNat : Int) := by
 have := x.isLt
 simp [wI, IntKind.signed, IntKind.bits]
 omega
theorem Pq (x : BitVec 8) : 0 ≤ (x.toNat : Int) ∧ (x.toNat : Int) ≤ 255 := by
 have := x.isLt
 omega
theorem R0 (x : BitVec 8) (v : Nat) : CN (x.toNat : Int) v = x.getLsbD v := by
 unfold CN; rw [Int.toNat_natCast]; rfl
theorem OG {a : Int} (ha : 0 ≤ a ∧ a ≤ 255) (v : Nat) : (BitVec.ofInt 8 a).getLsbD v = CN a v := by
 obtain ⟨a, rfl⟩ := Int.eq_ofNat_of_zero_le ha.1
 unfold BitVec.getLsbD CN
 rw [RA (by omega), Int.toNat_natCast]
theorem Qb {a b : Int} (ha : 0 ≤ a ∧ a ≤ 255) (hb : 0 ≤ b ∧ b ≤ 255) : (∀ v, CN (Cz .u8 a b) v = (CN a v && !CN b v)) ∧ 0 ≤ Cz .u8 a b ∧ Cz .u8 a b ≤ 255 := by
 have e : Cz .u8 a b = ((BitVec.ofInt 8 a &&& ~~~BitVec.ofInt 8 b).toNat : Int) := Lc (BitVec.ofInt 8 a &&& ~~~BitVec.ofInt 8 b)
 rw [e]
 refine ⟨fun v => ?_, Pq _⟩
 rw [R0, BitVec.getLsbD_and, BitVec.getLsbD_not, OG ha, OG hb]
 by_cases h : v < 8
 ·simp [h]
 ·rw [IK ha.2 (by omega)]; simp
theorem PO {a b : Int} (ha : 0 ≤ a ∧ a ≤ 255) (hb : 0 ≤ b ∧ b ≤ 255) : (∀ v, CN (ME .u8 a b) v = (CN a v || CN b v)) ∧ 0 ≤ ME .u8 a b ∧ ME .u8 a b ≤ 255 := by
 have e : ME .u8 a b = ((BitVec.ofInt 8 a ||| BitVec.ofInt 8 b).toNat : Int) := Lc (BitVec.ofInt 8 a ||| BitVec.ofInt 8 b)
 rw [e]
 refine ⟨fun v => ?_, Pq _⟩
 rw [R0, BitVec.getLsbD_or, OG ha, OG hb]
theorem TX {b : Nat} (hb : b < 8) : (∀ v, CN (C0 .u8 1 (b : Int)) v = decide (b = v)) ∧ 0 ≤ C0 .u8 1 (b : Int) ∧ C0 .u8 1 (b : Int) ≤ 255 := by
 refine ⟨fun v => ?_, (IJ ⟨b, hb⟩ ⟨0, by omega⟩).2⟩
 by_cases h : v < 8
 ·exact (IJ ⟨b, hb⟩ ⟨v, h⟩).1
 ·rw [IK (IJ ⟨b, hb⟩ ⟨0, by omega⟩).2.2 (by omega)]
  symm; apply decide_eq_false; omega
theorem SE (N : Nat) {s : Int} {v : Nat} (hs : 0 ≤ s ∧ s ≤ 255) (hv : v < 8) : BW N s (v : Int) = some (CN s v) := by
 unfold BW
 rw [Ap (by omega), Oy hs.1 hs.2 hv]
 cases CN s v <;> rfl
def Um (v : Nat) : Nat := ((List.range 8).find? fun u => v.testBit u).getD 8
def V1 (v : Nat) : Nat := ((List.range 8).filter fun u => v.testBit u).length
theorem UG : ∀ v : Fin 256, Cp 0 (v.val : Int) = some (Um v.val : Int) := by decide +kernel
theorem V2 (N : Nat) {v : Nat} (h : v < 256) : Cp N (v : Int) = some (Um v : Int) := UG ⟨v, h⟩
theorem S1 : ∀ v : Fin 256, v.val ≠ 0 → Um v.val < 8 ∧ CN (v.val : Int) (Um v.val) = true ∧ 0 ≤ Ft .u8 (v.val : Int) (wI .u8 ((v.val : Int) - 1)) ∧ Ft .u8 (v.val : Int) (wI .u8 ((v.val : Int) - 1)) ≤ 255 ∧
  V1 (Ft .u8 (v.val : Int) (wI .u8 ((v.val : Int) - 1))).toNat + 1 = V1 v.val ∧
  ∀ u : Fin 8, CN (Ft .u8 (v.val : Int) (wI .u8 ((v.val : Int) - 1))) u.val = (CN (v.val : Int) u.val && decide (u.val ≠ Um v.val)) := by decide +kernel
theorem Wj (v : Nat) : V1 v ≤ 8 := by
 have := List.length_filter_le (fun u => v.testBit u) (List.range 8)
 simpa [V1] using this
theorem PC (N : Nat) (t : Ar) (b : Int) (rw_ : Nat → Bool) : ∀ (k n v : Nat), V1 v ≤ k → k < n → v < 256 →
  (∀ u, u < 8 → CN (v : Int) u = true → ∃ row, BK t.fm (u : Int) = some row ∧ BK row b = some (rw_ u)) →
  CG N t b (fun _ => some true) n (v : Int) = some ((List.range 8).all fun u => !CN (v : Int) u || rw_ u)
 | k, 0, v, _, h, _, _ => by omega
 | k, n + 1, v, hk, hn, hv, hr => by
  rw [CG]
  by_cases h0 : v = 0
  ·subst h0
   have : (((0 : Nat) : Int) != 0) = false := rfl
   rw [this, An]
   congr 1
  ·have h1 : ((v : Int) != 0) = true := bne_iff_ne.2 (by omega)
   obtain ⟨l1, l2, l3, l4, l5, l6⟩ := S1 ⟨v, hv⟩ h0
   simp only at l1 l2 l3 l4 l5 l6
   obtain ⟨row, e1, e2⟩ := hr _ l1 l2
   rw [h1, AA, V2 N hv]
   simp only [oS, e1, e2]
   obtain ⟨w, hw⟩ := Int.eq_ofNat_of_zero_le l3
   rw [hw] at l4 l5 l6 ⊢
   rw [Int.toNat_natCast] at l5
   cases hq : rw_ (Um v)
   ·rw [Bool.not_false, AA]
    congr 1
    symm
    rw [List.all_eq_false]
    exact ⟨Um v, by simpa using l1, by rw [l2, hq]; simp⟩
   ·rw [Bool.not_true, An]
    match k, hk with
    | 0, hk => exfalso; omega
    | k + 1, hk =>
    rw [PC N t b rw_ k n w (by omega) (by omega) (by omega) (fun u hu hb => hr u hu (by have := l6 ⟨u, hu⟩; simp only at this; rw [hb] at this; simpa using (Bool.and_eq_true_iff.1 this.symm).1))]
    congr 1
    rw [Bool.eq_iff_iff, List.all_eq_true, List.all_eq_true]
    refine ⟨fun h u hu => ?_, fun h u hu => ?_⟩
    ·have hu8 : u < 8 := by simpa using hu
     have h3 := h u hu
     have h4 := l6 ⟨u, hu8⟩
     simp only at h4
     rw [h4] at h3
     by_cases e : u = Um v
     ·rw [e, hq]; simp
     ·simpa [e] using h3
    ·have hu8 : u < 8 := by simpa using hu
     have h3 := h u hu
     have h4 := l6 ⟨u, hu8⟩
     simp only at h4
     rw [h4]
     cases hb : CN (v : Int) u
     ·simp
     ·rw [hb] at h3; simp at h3; simp [h3]
theorem O7 (N : Nat) (m : Ab) (s : Int) (h0 : 0 ≤ s) (h1 : s < (m.fe.length : Int)) (h2 : s < (m.fa.length : Int)) (hb : 0 ≤ m.fe.getD s.toNat 0) : EM N m s = some (FG m s.toNat) := by
 unfold EM FG
 rw [DV (d := 0) h0 h1, DV (d := 0) h0 h2]
 simp only [oS, Bf]
 rw [show Dl (0 ≤ m.fe.getD s.toNat 0) = some () from by unfold Dl; rw [if_pos hb]]
 simp only [oS]
 by_cases h : 0 ≤ m.fa.getD s.toNat 0
 ·rw [AC h, if_pos h, show Dl (0 ≤ m.fa.getD s.toNat 0) = some () from by unfold Dl; rw [if_pos h]]; rfl
 ·rw [AB h, if_neg h]
theorem I1 (N : Nat) (t : Ar) : Ex N t = some (Bz t) := by
 unfold Ex Bz
 simp only [Bf]
 cases h : t.ff == 3 <;> simp
def Fu (s : Ac) : Bool := decide (1 ≤ s.ff ∧ s.ff ≤ 4 ∧ 0 ≤ s.fh ∧ 0 ≤ s.fj) && (s.ff == 1 || s.fj == 0)
def F5 (p : Aa) (s : Ac) : Bool :=
 if s.ff = 3 then decide (s.fh < (p.fc.length : Int)) else decide (s.fh < (p.fb.length : Int)) && (s.ff != 1 || decide (s.fj < p.fb.getD s.fh.toNat 0))
theorem JH (N : Nat) (s : Ac) : ES N s = some (Fu s) := by
 unfold ES Fu MZ
 simp only [Bf]
 by_cases h1 : (if s.fj < s.fh then s.fj else s.fh) < 0
 ·rw [AC h1, AA, decide_eq_false (by split at h1 <;> omega)]; rfl
 ·rw [AB h1]
  by_cases h2 : s.ff < 1
  ·rw [AC h2, AA, decide_eq_false (by omega)]; rfl
  ·rw [AB h2]
   by_cases h3 : 4 < s.ff
   ·rw [decide_eq_true h3, AA, decide_eq_false (by omega)]; rfl
   ·rw [decide_eq_false h3, An, decide_eq_true (by split at h1 <;> omega), Bool.true_and]
    cases h4 : s.ff == 1 <;> simp
theorem NZ (N : Nat) (s : Ac) : DC N s = some (Fu s) := by
 unfold DC Fu
 simp only [Bf]
 by_cases h1 : 1 ≤ s.ff
 ·rw [AC h1]
  by_cases h2 : s.ff ≤ 4
  ·rw [AC h2]
   by_cases h3 : 0 ≤ s.fh
   ·rw [AC h3]
    by_cases h4 : 0 ≤ s.fj
    ·rw [AC h4, decide_eq_true (by omega), Bool.true_and]
     cases h5 : s.ff == 1 <;> simp
    ·rw [AB h4, decide_eq_false (by omega)]; rfl
   ·rw [AB h3, decide_eq_false (by omega)]; rfl
  ·rw [AB h2, decide_eq_false (by omega)]; rfl
 ·rw [AB h1, decide_eq_false (by omega)]; rfl
theorem Mz (N : Nat) (p : Aa) (s : Ac) (hv : Fu s = true) : Fj N p s = some (F5 p s) := by
 have h0 : 0 ≤ s.fh := by
  unfold Fu at hv
  rw [Bool.and_eq_true, decide_eq_true_iff] at hv
  exact hv.1.2.2.1
 unfold Fj F5
 simp only [Bf]
 by_cases h1 : s.ff = 3
 ·rw [if_pos h1, beq_iff_eq.2 h1, AA]
 ·rw [if_neg h1, beq_eq_false_iff_ne.2 h1, An]
  by_cases h2 : s.fh < (p.fb.length : Int)
  ·rw [AC h2, decide_eq_true h2, Bool.true_and]
   cases h3 : s.ff != 1
   ·rw [An, DV (d := 0) h0 h2, Bool.false_or]; rfl
   ·rw [AA]; rfl
  ·rw [AB h2, decide_eq_false h2]; rfl
def QI (s : Ac) (t : Ar) : Bool := t.fg == s.fh && Bz t
def Rp (s : Ac) (i : Nat) (t : Ar) (a : List Int) : List Int := if QI s t = true then a.set i (ME .u8 (a.getD i 0) (C0 .u8 1 s.fj)) else a
def HA (p : Aa) (s : Ac) (held : List Int) : List Int := G9 (Rp s) 0 p.fc held
theorem LC {_R : Type} (N : Nat) (p : Aa) (s : Ac) (held : List Int) (hv : 0 ≤ s.fj) (hl : held.length = p.fc.length) (h12 : p.fc.length < N) (hN : N ≤ 1000000) (j : List Int → Option (Bool × List Int × List Int)) :
  CM N p s j N (held, 0) = j (HA p s held) ∧ (HA p s held).length = p.fc.length := by
 have := Hk (CM N p s j) (fun a i => (a, i)) p.fc j (Rp s) (fun i a => a.length = p.fc.length)
  (fun n i x a hx ha => by
   have hi := (lI.1 hx).1
   rw [CM, AC (by simp only; omega)]
   simp only [A5, AX, hx, oS, I1, AI (show i < 1000000 by omega)]
   have e2 : a[i]? = some (a.getD i 0) := by rw [lD]; simp [show i < a.length from by omega]
   unfold Rp QI
   cases h1 : x.fg == s.fh
   ·rw [An, An, Bool.false_and, if_neg (by simp)]; exact ⟨rfl, ha⟩
   ·rw [AA, Bool.true_and]
    cases h2 : Bz x
    ·rw [An, if_neg (by simp)]; exact ⟨rfl, ha⟩
    ·rw [AA, e2, if_pos rfl]
     simp only [oS]
     rw [Ap hv]
     exact ⟨rfl, by simpa using ha⟩)
  (fun n a ha => by rw [CM, AB (by simp)]) N 0 held (Nat.zero_le _) (by omega) hl
 rw [List.drop_zero] at this
 exact this
theorem LN (N : Nat) (p : Aa) (s : Ac) (held : List Int) (hv : 0 ≤ s.fj) (hl : held.length = p.fc.length) (h12 : p.fc.length < N) (hN : N ≤ 1000000) (j : List Int → Option (Ab × Bool)) :
  BC N p s j N (held, 0) = j (HA p s held) := by
 have := Hk (BC N p s j) (fun a i => (a, i)) p.fc j (Rp s) (fun i a => a.length = p.fc.length)
  (fun n i x a hx ha => by
   have hi := (lI.1 hx).1
   rw [BC, AC (by simp only; omega)]
   simp only [A5, AX, hx, oS, FH, AI (show i < 1000000 by omega)]
   have e2 : a[i]? = some (a.getD i 0) := by rw [lD]; simp [show i < a.length from by omega]
   unfold Rp QI
   cases h1 : x.fg == s.fh
   ·rw [An, An, Bool.false_and, if_neg (by simp)]; exact ⟨rfl, ha⟩
   ·rw [AA, Bool.true_and]
    cases h2 : Bz x
    ·rw [An, if_neg (by simp)]; exact ⟨rfl, ha⟩
    ·rw [AA, e2, if_pos rfl]
     simp only [oS]
     rw [Ap hv]
     exact ⟨rfl, by simpa using ha⟩)
  (fun n a ha => by rw [BC, AB (by simp)]) N 0 held (Nat.zero_le _) (by omega) hl
 rw [List.drop_zero] at this
 exact this.1
def JE (m : Ab) (t : Ar) (u : Nat) : Bool := (t.fm.getD u []).getD (m.fe.getD t.fg.toNat 0).toNat false
def LT (m : Ab) (i : Nat) (t : Ar) (u : Nat) : Bool := CN (m.fd.getD i 0) u && !Hg m t.fg.toNat u
def GZ (_p : Aa) (m : Ab) (i : Nat) (t : Ar) : Bool := t.ff == 4 && (List.range 8).any fun u => LT m i t u && !JE m t u
def Fw (p : Aa) (m : Ab) (s : Ac) : Option Ab :=
 let i := s.fh.toNat
 if s.ff = 1 then (if 0 ≤ m.fa.getD i 0 ∨ m.fe.getD i 0 = s.fj then none else some ⟨m.fe, m.fa.set i s.fj, HA p s m.fd⟩)
 else if s.ff = 3 then match p.fc[i]? with
  | none => none
  | some t => if Bz t = false ∨ m.fd.getD i 0 = FG m t.fg.toNat ∨ GZ p m i t = true then none else some ⟨m.fe, m.fa, m.fd.set i (FG m t.fg.toNat)⟩
 else if m.fa.getD i 0 < 0 then none
 else some ⟨if s.ff = 2 then m.fe.set i (m.fa.getD i 0) else m.fe, m.fa.set i (-1), m.fd⟩
def CY (p : Aa) (m : Ab) (s : Ac) : Ab × Int :=
 if Fu s = false then (EB, 1) else if F5 p s = false then (EB, 4) else match Fw p m s with
  | none => (EB, 11)
  | some x => (x, 0)
end Go.Lift
namespace Go.Lift
open Option renaming bind_some → oS
open List renaming mem_of_getElem? → lM
open List renaming getElem?_eq_some_iff → lI
open List renaming getD_eq_getElem?_getD → lD
open Go
section clear
variable {p : Aa} {m : Ab} {i : Nat} {t : Ar}
theorem RB (hp : Ci p) (hm : Dm p m) (ht : p.fc[i]? = some t) (hs : Bz t = true) {u : Nat} (h : CN (m.fd.getD i 0) u = true) : (u : Int) < p.fb.getD t.fg.toNat 0 ∧ u < 6 ∧ t.fg.toNat < p.fb.length := by
 have h1 := hm.high i t ht hs u h
 have hin := HN (hp.tab t (lM ht))
 have h2 := H4 hp (i := t.fg.toNat) (by omega)
 exact ⟨h1, by omega, by omega⟩
theorem SG (hp : Ci p) (hm : Dm p m) (ht : p.fc[i]? = some t) (hs : Bz t = true) (h4 : t.ff = 4) {u : Nat} (h : CN (m.fd.getD i 0) u = true) :
  BK t.fm (u : Int) = some (t.fm.getD u []) ∧ BK (t.fm.getD u []) (m.fe.getD t.fg.toNat 0) = some (JE m t u) := by
 have hT := KN (hp.tab t (lM ht))
 obtain ⟨h1, h2, h3⟩ := RB hp hm ht hs h
 have hl := hT.reL h4
 have e : t.fm[u]? = some (t.fm.getD u []) := by rw [lD]; simp [show u < t.fm.length from by omega]
 have hr := hT.reR _ (lM e)
 have hb := hm.b0 t.fg.toNat h3
 refine ⟨by rw [AX, e], ?_⟩
 unfold JE
 obtain ⟨b, hb'⟩ := Int.eq_ofNat_of_zero_le hb.1
 rw [hb'] at hb ⊢
 rw [Int.toNat_natCast]
 exact Cq (by omega)
theorem MR (N : Nat) (hN : N ≤ 1000000) (h20 : 100 ≤ N) (hp : Ci p) (hm : Dm p m) (ht : p.fc[i]? = some t) :
  FF N p m (i : Int) = some (if Bz t = false ∨ m.fd.getD i 0 = FG m t.fg.toNat ∨ GZ p m i t = true then (false, m.fd) else (true, m.fd.set i (FG m t.fg.toNat))) := by
 have hi := (lI.1 ht).1
 have hin := HN (hp.tab t (lM ht))
 have hb := hm.base
 have hnx := hm.next
 have hh := hm.held
 have hr := GQ hp hm.toMixServ (s := t.fg.toNat) (by omega)
 have hrg := hm.range i hi
 have eh : BK m.fd (i : Int) = some (m.fd.getD i 0) := Cq (by omega)
 unfold FF
 simp only [A5, AX, ht, oS, I1]
 have eh' : m.fd[i]? = some (m.fd.getD i 0) := by rw [← AX, eh]
 cases hs : Bz t
 ·rw [Bool.not_false, AA, if_pos (.inl rfl)]
 ·rw [Bool.not_true, An, O7 N m _ hin.1 (by omega) (by omega) (hm.b0 _ (by omega)).1]
  simp only [oS, eh']
  by_cases h1 : m.fd.getD i 0 = FG m t.fg.toNat
  ·rw [beq_iff_eq.2 h1, AA, AA, if_pos (.inr (.inl h1))]
  ·rw [beq_eq_false_iff_ne.2 h1, An]
   by_cases h4 : t.ff = 4
   ·rw [beq_iff_eq.2 h4, AA, DV (d := 0) hin.1 (by omega)]
    simp only [oS]
    obtain ⟨a1, a2, a3⟩ := Qb hrg hr.2
    obtain ⟨w, hw⟩ := Int.eq_ofNat_of_zero_le a2
    unfold EH
    rw [hw] at a1 a3 ⊢
    rw [PC N t _ (JE m t) 8 N w (Wj _) (by omega) (by omega) (fun u hu hbu => by
     have := a1 u; rw [hbu] at this
     exact ⟨_, SG hp hm ht hs h4 (Bool.and_eq_true_iff.1 this.symm).1⟩)]
    simp only [oS]
    have e : (!(List.range 8).all fun u => !CN (w : Int) u || JE m t u) = GZ p m i t := by
     unfold GZ
     rw [beq_iff_eq.2 h4, Bool.true_and, List.not_all_eq_any_not]
     congr 1
     funext u
     rw [a1 u, hr.1 u]
     unfold LT
     cases CN (m.fd.getD i 0) u <;> cases Hg m t.fg.toNat u <;> cases JE m t u <;> rfl
    rw [e]
    cases hst : GZ p m i t
    ·rw [An, if_neg (by rintro (h | h | h); cases h; exact h1 h; cases h)]; rfl
    ·rw [AA, if_pos (.inr (.inr rfl))]
   ·have e : GZ p m i t = false := by unfold GZ; rw [beq_eq_false_iff_ne.2 h4]; rfl
    rw [beq_eq_false_iff_ne.2 h4, An, An, e, if_neg (by rintro (h | h | h); cases h; exact h1 h; cases h)]; rfl
theorem Mx (N : Nat) (hN : N ≤ 1000000) (h20 : 100 ≤ N) (hp : Ci p) (hm : Dm p m) (ht : p.fc[i]? = some t) (hs : Bz t = true) (s : Ac) (hsi : s.fh = (i : Int)) (j : Option (Ab × Bool)) :
  Bi N p m s t (FG m t.fg.toNat) (fun _ => j) N 0 = if GZ p m i t = true then some (EB, false) else j := by
 have hi := (lI.1 ht).1
 have hin := HN (hp.tab t (lM ht))
 have hb := hm.base
 have hh := hm.held
 have hr := GQ hp hm.toMixServ (s := t.fg.toNat) (by omega)
 have hrg := hm.range i hi
 have hver := H4 hp (i := t.fg.toNat) (by omega)
 obtain ⟨nv, hnv⟩ := Int.eq_ofNat_of_zero_le (show 0 ≤ p.fb.getD t.fg.toNat 0 by omega)
 have eh' : m.fd[i]? = some (m.fd.getD i 0) := by rw [lD]; simp [show i < m.fd.length from by omega]
 have := Cf (Bi N p m s t (FG m t.fg.toNat) fun _ => j) (List.range nv) j (fun u _ => if (LT m i t u && (t.ff == 4 && !JE m t u)) = true then some (EB, false) else none)
  (fun n u x hx => by
   have hu : u < nv := by
    have := (lI.1 hx).1
    simpa using this
   rw [Bi, DV (d := 0) hin.1 (by omega), hnv]
   simp only [oS]
   rw [AC (by omega)]
   simp only [A5, hsi, AX, eh', oS]
   rw [SE N hrg (by omega), AI (by omega)]
   simp only [oS]
   cases h1 : CN (m.fd.getD i 0) u
   ·have e : LT m i t u = false := by unfold LT; rw [h1]; rfl
    rw [An, An, An, e]; rfl
   ·rw [AA, SE N hr.2 (by omega), hr.1 u]
    simp only [oS]
    have e : LT m i t u = !Hg m t.fg.toNat u := by unfold LT; rw [h1]; rfl
    rw [← e]
    cases h2 : LT m i t u
    ·rw [An, An]; rfl
    ·rw [AA]
     by_cases h4 : t.ff = 4
     ·obtain ⟨e1, e2⟩ := SG hp hm ht hs h4 h1
      rw [AX] at e1
      rw [beq_iff_eq.2 h4, AA, e1, DV (d := 0) hin.1 (by omega)]
      simp only [oS]
      rw [e2]
      simp only [oS]
      cases JE m t u <;> rfl
     ·rw [beq_eq_false_iff_ne.2 h4, An, An]; rfl)
  (fun n => by
   rw [Bi, DV (d := 0) hin.1 (by omega), hnv]
   simp only [oS, List.length_range]
   rw [AB (by omega)]) N 0 (Nat.zero_le _) (by simp; omega)
 have e0 : Bi N p m s t (FG m t.fg.toNat) (fun _ => j) N 0 = _ := this
 rw [e0, List.drop_zero]
 by_cases hst : GZ p m i t = true
 ·rw [if_pos hst]
  unfold GZ at hst
  rw [Bool.and_eq_true, List.any_eq_true] at hst
  obtain ⟨h4, u, hu, h5⟩ := hst
  rw [Bool.and_eq_true] at h5
  have h6 : CN (m.fd.getD i 0) u = true := by have := h5.1; unfold LT at this; exact (Bool.and_eq_true_iff.1 this).1
  have h7 := RB hp hm ht hs h6
  cases hsc : CC (fun u (_ : Nat) => if (LT m i t u && (t.ff == 4 && !JE m t u)) = true then some (EB, false) else none) 0 (List.range nv) with
  | some r =>
   obtain ⟨q, x, hx, hf⟩ := DJ hsc
   split at hf
   ·cases hf; rfl
   ·cases hf
  | none =>
   exfalso
   have hx : (List.range nv)[u]? = some u := List.getElem?_range (by omega)
   have := Eu hsc u u hx
   rw [Nat.zero_add, h5.1, h4, h5.2] at this
   cases this
 ·rw [if_neg hst]
  have : CC (fun u (_ : Nat) => if (LT m i t u && (t.ff == 4 && !JE m t u)) = true then some (EB, false) else none) 0 (List.range nv) = none := D9 fun q x hx => by
   rw [Nat.zero_add]
   split
   ·rename_i h5
    exfalso; apply hst
    rw [Bool.and_eq_true, Bool.and_eq_true] at h5
    unfold GZ
    rw [h5.2.1, Bool.true_and, List.any_eq_true]
    have hq : q < nv := by
     have := (lI.1 hx).1
     simpa using this
    exact ⟨q, List.mem_range.2 (by omega), by rw [h5.1, h5.2.2]; rfl⟩
   ·rfl
  rw [this]; rfl
end clear
end Go.Lift
namespace Go.Lift
open Option renaming bind_some → oS
open List renaming mem_of_getElem? → lM
open Go
theorem Ik {s : Ac} (h : Fu s = true) : 1 ≤ s.ff ∧ s.ff ≤ 4 ∧ 0 ≤ s.fh ∧ 0 ≤ s.fj ∧ (s.ff ≠ 1 → s.fj = 0) := by
 unfold Fu at h
 rw [Bool.and_eq_true, decide_eq_true_iff, Bool.or_eq_true, beq_iff_eq, beq_iff_eq] at h
 exact ⟨h.1.1, h.1.2.1, h.1.2.2.1, h.1.2.2.2, fun hk => h.2.elim (fun e => (hk e).elim) id⟩
theorem KR {p : Aa} {s : Ac} (h : F5 p s = true) : (s.ff = 3 → s.fh < (p.fc.length : Int)) ∧ (s.ff ≠ 3 → s.fh < (p.fb.length : Int)) ∧ (s.ff = 1 → s.fj < p.fb.getD s.fh.toNat 0) := by
 unfold F5 at h
 split at h
 ·rename_i hk
  rw [decide_eq_true_iff] at h
  exact ⟨fun _ => h, fun hn => (hn hk).elim, fun h1 => by omega⟩
 ·rename_i hk
  rw [Bool.and_eq_true, decide_eq_true_iff, Bool.or_eq_true, decide_eq_true_iff, bne_iff_ne] at h
  exact ⟨fun h3 => (hk h3).elim, fun _ => h.1, fun h1 => h.2.elim (fun hn => (hn h1).elim) id⟩
theorem QW (N : Nat) {p : Aa} {m : Ab} (hp : Ci p) (hm : Dm p m) : Fe N m = some m := by
 have hnv := hp.nv
 have hnt := hp.nt
 have h1 := hm.base
 have h2 := hm.next
 have h3 := hm.held
 unfold Fe
 rw [Id N _ (by simp only [Dx]; omega), Id N _ (by simp only [Dx]; omega), Nf N _ (by simp only [Dx]; omega)]
 rfl
theorem M2 (N : Nat) (hN : N ≤ 1000000) (h20 : 100 ≤ N) {p : Aa} {m : Ab} (hp : Ci p) (hm : Dm p m) {s : Ac} (hv : Fu s = true) (hx : F5 p s = true) :
  ∃ o, FA N p m s = some (o, (Fw p m s).isSome) ∧ ∀ x, Fw p m s = some x → o = x := by
 obtain ⟨k1, k4, i0, v0, vk⟩ := Ik hv
 obtain ⟨x3, xn, x1⟩ := KR hx
 have hnv := hp.nv
 have hnt := hp.nt
 have hb := hm.base
 have hn := hm.next
 have hh := hm.held
 obtain ⟨i, hi⟩ := Int.eq_ofNat_of_zero_le i0
 unfold FA Fw
 rw [QW N hp hm]
 simp only [oS, A5]
 by_cases hk1 : s.ff = 1
 ·have hi1 : (i : Int) < p.fb.length := by have := xn (by omega); omega
  rw [beq_iff_eq.2 hk1, AA, if_pos hk1]
  unfold GM
  simp only [A5, hi, Int.toNat_natCast]
  rw [Cq (d := 0) (show i < m.fa.length by omega)]
  simp only [oS]
  by_cases c1 : 0 ≤ m.fa.getD i 0
  ·rw [AC c1, AA, if_pos (.inl c1)]
   exact ⟨_, rfl, fun x hx => by cases hx⟩
  ·rw [AB c1, Cq (d := 0) (show i < m.fe.length by omega)]
   simp only [oS]
   by_cases c2 : m.fe.getD i 0 = s.fj
   ·rw [beq_iff_eq.2 c2, AA, if_pos (.inr c2)]
    exact ⟨_, rfl, fun x hx => by cases hx⟩
   ·rw [beq_eq_false_iff_ne.2 c2, An, (LC (_R := Unit) N p s m.fd v0 hh (by omega) hN _).1, if_neg (by rintro (h | h); exact c1 h; exact c2 h)]
    exact ⟨_, rfl, fun x hx => by cases hx; rfl⟩
 ·rw [beq_eq_false_iff_ne.2 hk1, An, if_neg hk1]
  by_cases hk3 : s.ff = 3
  ·have hi3 : i < p.fc.length := by have := x3 hk3; omega
   have ht : p.fc[i]? = some p.fc[i] := by simp [hi3]
   rw [beq_iff_eq.2 hk3, AA, if_pos hk3, hi, MR N hN h20 hp hm ht]
   simp only [oS, Int.toNat_natCast, ht]
   split
   ·exact ⟨_, rfl, fun x hx => by cases hx⟩
   ·exact ⟨_, rfl, fun x hx => by cases hx; rfl⟩
  ·have hi1 : (i : Int) < p.fb.length := by have := xn hk3; omega
   rw [beq_eq_false_iff_ne.2 hk3, An, if_neg hk3, hi, Cq (d := 0) (show i < m.fa.length by omega)]
   simp only [oS, Int.toNat_natCast]
   by_cases c1 : m.fa.getD i 0 < 0
   ·rw [AC c1, if_pos c1]
    exact ⟨_, rfl, fun x hx => by cases hx⟩
   ·rw [AB c1, if_neg c1]
    by_cases hk2 : s.ff = 2
    ·rw [beq_iff_eq.2 hk2, AA, Cq (d := 0) (show i < m.fe.length by omega), if_pos hk2]
     exact ⟨_, rfl, fun x hx => by cases hx; rfl⟩
    ·rw [beq_eq_false_iff_ne.2 hk2, An, if_neg hk2]
     exact ⟨_, rfl, fun x hx => by cases hx; rfl⟩
theorem MO (N : Nat) (hN : N ≤ 1000000) (h20 : 100 ≤ N) {p : Aa} {m : Ab} (hp : Ci p) (hm : Dm p m) (s : Ac) : FJ N p m s = some (CY p m s) := by
 unfold FJ CY
 rw [JH]
 simp only [oS]
 cases hv : Fu s
 ·rw [Bool.not_false, AA, if_pos rfl]; rfl
 ·rw [Bool.not_true, An, if_neg (by simp), Mz N p s hv]
  simp only [oS]
  cases hx : F5 p s
  ·rw [Bool.not_false, AA, if_pos rfl]; rfl
  ·rw [Bool.not_true, An, if_neg (by simp)]
   obtain ⟨o, e, ho⟩ := M2 N hN h20 hp hm hv hx
   rw [e]
   simp only [oS]
   cases ha : Fw p m s with
   | none => rfl
   | some x => rw [ho x ha]; rfl
theorem Oq (N : Nat) (hN : N ≤ 1000000) (h20 : 100 ≤ N) {p : Aa} {m : Ab} (hp : Ci p) (hm : Dm p m) {s : Ac} (hv : Fu s = true) (hx : F5 p s = true) :
  CP N p m s = some (match Fw p m s with | none => (EB, false) | some x => (x, true)) := by
 obtain ⟨k1, k4, i0, v0, vk⟩ := Ik hv
 obtain ⟨x3, xn, x1⟩ := KR hx
 have hnv := hp.nv
 have hnt := hp.nt
 have hb := hm.base
 have hn := hm.next
 have hh := hm.held
 obtain ⟨i, hi⟩ := Int.eq_ofNat_of_zero_le i0
 unfold CP Fw
 rw [Ap (by simp [Dx]; omega), Ap (by simp [Dx]; omega), Ap (by simp [Dx]; omega)]
 simp only [A5, List.nil_append]
 by_cases hk1 : s.ff = 1
 ·have hi1 : (i : Int) < p.fb.length := by have := xn (by omega); omega
  rw [beq_iff_eq.2 hk1, AA, if_pos hk1]
  simp only [hi, Int.toNat_natCast]
  rw [Cq (d := 0) (show i < m.fa.length by omega)]
  simp only [oS]
  by_cases c1 : 0 ≤ m.fa.getD i 0
  ·rw [AC c1, AA, if_pos (.inl c1)]; rfl
  ·rw [AB c1, Cq (d := 0) (show i < m.fe.length by omega)]
   simp only [oS]
   by_cases c2 : m.fe.getD i 0 = s.fj
   ·rw [beq_iff_eq.2 c2.symm, AA, if_pos (.inr c2)]; rfl
   ·rw [beq_eq_false_iff_ne.2 (fun h => c2 h.symm), An, LN N p s m.fd v0 hh (by omega) hN _, if_neg (by rintro (h | h); exact c1 h; exact c2 h)]
 ·rw [beq_eq_false_iff_ne.2 hk1, An, if_neg hk1]
  by_cases hk3 : s.ff = 3
  ·have hi3 : i < p.fc.length := by have := x3 hk3; omega
   have ht : p.fc[i]? = some p.fc[i] := by simp [hi3]
   have hin := HN (hp.tab _ (lM ht))
   have eh' : BK m.fd (i : Int) = some (m.fd.getD i 0) := Cq (by omega)
   rw [beq_eq_false_iff_ne.2 (show s.ff ≠ 2 by omega), An, beq_iff_eq.2 hk3, AA, if_pos hk3, hi, AX, ht]
   simp only [oS, FH, Int.toNat_natCast, ht]
   cases hs : Bz p.fc[i]
   ·rw [Bool.not_false, AA, if_pos (.inl rfl)]; rfl
   ·rw [Bool.not_true, An, Iw N m _ hin.1 (by omega) (by omega) (hm.b0 _ (by omega)).1, eh']
    simp only [oS]
    by_cases h1 : m.fd.getD i 0 = FG m (p.fc[i]).fg.toNat
    ·rw [beq_iff_eq.2 h1, AA, if_pos (.inr (.inl h1))]; rfl
    ·rw [beq_eq_false_iff_ne.2 h1, An]
     rw [Mx N hN h20 hp hm ht hs s hi]
     cases hst : GZ p m i p.fc[i]
     ·rw [if_neg (by simp), if_neg (by rintro (h | h | h); cases h; exact h1 h; cases h)]
     ·rw [if_pos rfl, if_pos (.inr (.inr rfl))]
  ·have hi1 : (i : Int) < p.fb.length := by have := xn hk3; omega
   rw [if_neg hk3, hi, Cq (d := 0) (show i < m.fa.length by omega)]
   simp only [oS, Int.toNat_natCast]
   by_cases hk2 : s.ff = 2
   ·rw [beq_iff_eq.2 hk2, AA, if_pos hk2]
    by_cases c1 : m.fa.getD i 0 < 0
    ·rw [AC c1, if_pos c1]; rfl
    ·rw [AB c1, if_neg c1, Cq (d := 0) (show i < m.fe.length by omega)]; rfl
   ·rw [beq_eq_false_iff_ne.2 hk2, An, beq_eq_false_iff_ne.2 hk3, An, if_neg hk2]
    by_cases c1 : m.fa.getD i 0 < 0
    ·rw [AC c1, if_pos c1]; rfl
    ·rw [AB c1, if_neg c1]
end Go.Lift
namespace Go.Lift
open Option renaming bind_some → oS
open List renaming mem_of_getElem? → lM
open List renaming getElem?_eq_some_iff → lI
open Go
theorem Pg (s : Ac) : ∀ (xs : List Ar) (i : Nat) (a : List Int), i + xs.length ≤ a.length → (G9 (Rp s) i xs a).length = a.length ∧ ∀ q, (G9 (Rp s) i xs a).getD q 0 = match (if i ≤ q then xs[q - i]? else none) with
  | some t => if QI s t = true then ME .u8 (a.getD q 0) (C0 .u8 1 s.fj) else a.getD q 0
  | none => a.getD q 0
 | [], i, a, _ => by
  refine ⟨rfl, fun q => ?_⟩
  split
  ·rename_i h; split at h
   ·simp at h
   ·cases h
  ·rfl
 | x :: xs, i, a, hl => by
  have hl' : i + (xs.length + 1) ≤ a.length := by simpa using hl
  have ha : (Rp s i x a).length = a.length := by unfold Rp; split <;> simp
  obtain ⟨ih1, ih2⟩ := Pg s xs (i + 1) (Rp s i x a) (by omega)
  refine ⟨by rw [G9, ih1, ha], fun q => ?_⟩
  rw [G9, ih2 q]
  have hu : (Rp s i x a).getD q 0 = if q = i ∧ QI s x = true then ME .u8 (a.getD q 0) (C0 .u8 1 s.fj) else a.getD q 0 := by
   unfold Rp
   by_cases hc : QI s x = true
   ·rw [if_pos hc, HP (by omega)]
    by_cases hq : q = i
    ·subst hq; rw [if_pos rfl, if_pos ⟨rfl, hc⟩]
    ·rw [if_neg hq, if_neg (fun h => hq h.1)]
   ·rw [if_neg hc, if_neg (fun h => hc h.2)]
  by_cases h1 : i + 1 ≤ q
  ·rw [if_pos h1, if_pos (show i ≤ q by omega), hu, if_neg (by omega)]
   rw [show (x :: xs)[q - i]? = xs[q - (i + 1)]? from by rw [show q - i = (q - (i + 1)) + 1 from by omega, List.getElem?_cons_succ]]
  ·rw [if_neg h1]
   by_cases h2 : q = i
   ·subst h2
    rw [if_pos (Nat.le_refl _), Nat.sub_self, hu]
    simp
   ·rw [if_neg (show ¬ i ≤ q by omega), hu, if_neg (by omega)]
theorem Rn {p : Aa} {s : Ac} {held : List Int} (hl : held.length = p.fc.length) : (HA p s held).length = p.fc.length ∧ ∀ q t, p.fc[q]? = some t → (HA p s held).getD q 0 = if QI s t = true then ME .u8 (held.getD q 0) (C0 .u8 1 s.fj) else held.getD q 0 := by
 obtain ⟨h1, h2⟩ := Pg s p.fc 0 held (by omega)
 refine ⟨h1.trans hl, fun q t ht => ?_⟩
 have := h2 q
 rw [if_pos (Nat.zero_le _), Nat.sub_zero, ht] at this
 exact this
theorem LM {m : Ab} {s v : Nat} : Hg m s v = true ↔ m.fe.getD s 0 = (v : Int) ∨ m.fa.getD s 0 = (v : Int) := by
 unfold Hg; rw [Bool.or_eq_true, decide_eq_true_iff, decide_eq_true_iff]
theorem O6 {p : Aa} {m x : Ab} (hp : Ci p) (hm : Dm p m) {s : Ac} (hv : Fu s = true) (hx : F5 p s = true) (h : Fw p m s = some x) : Dm p x := by
 obtain ⟨k1, k4, i0, v0, vk⟩ := Ik hv
 obtain ⟨x3, xn, x1⟩ := KR hx
 obtain ⟨i, hi⟩ := Int.eq_ofNat_of_zero_le i0
 have hb := hm.base
 have hn := hm.next
 have hh := hm.held
 unfold Fw at h
 simp only [hi, Int.toNat_natCast] at h
 rw [hi, Int.toNat_natCast] at x1
 split at h
 ·rename_i hk1
  have hi1 : i < p.fb.length := by have := xn (by omega); omega
  have hx1 := x1 hk1
  have hvi := H4 hp hi1
  split at h
  ·cases h
  rename_i hc
  cases h
  obtain ⟨u1, u2⟩ := Rn (s := s) hh
  obtain ⟨b, hbv⟩ := Int.eq_ofNat_of_zero_le v0
  have hob := TX (b := b) (by omega)
  have hN : ∀ q, (m.fa.set i s.fj).getD q 0 = if q = i then s.fj else m.fa.getD q 0 := fun q => HP (by omega)
  refine { base := hb, next := by simpa using hn, held := u1, b0 := hm.b0, n0 := fun q hq => ?_, ne := fun q hq => ?_, range := fun q hq => ?_, low := fun q t ht hs v hr => ?_, high := fun q t ht hs v hbit => ?_, none := fun q t ht hs => ?_ }
  ·show -1 ≤ (m.fa.set i s.fj).getD q 0 ∧ (m.fa.set i s.fj).getD q 0 < _
   rw [hN q]
   split
   ·rename_i e; subst e; omega
   ·exact hm.n0 q hq
  ·show m.fe.getD q 0 ≠ (m.fa.set i s.fj).getD q 0
   rw [hN q]
   split
   ·rename_i e; subst e; exact fun h => hc (.inr h)
   ·exact hm.ne q hq
  ·have ht : p.fc[q]? = some p.fc[q] := by simp [hq]
   show 0 ≤ (HA p s m.fd).getD q 0 ∧ (HA p s m.fd).getD q 0 ≤ 255
   rw [u2 q _ ht, hbv]
   split
   ·exact (PO (hm.range q hq) hob.2).2
   ·exact hm.range q hq
  ·have hq := (lI.1 ht).1
   show CN ((HA p s m.fd).getD q 0) v = true
   have hin := HN (hp.tab t (lM ht))
   rw [LM] at hr
   have hr : m.fe.getD t.fg.toNat 0 = (v : Int) ∨ (m.fa.set i s.fj).getD t.fg.toNat 0 = (v : Int) := hr
   rw [hN] at hr
   rw [u2 q t ht, hbv]
   have hlow := hm.low q t ht hs v
   rw [LM] at hlow
   by_cases hf : t.fg.toNat = i
   ·have hup : QI s t = true := by unfold QI; rw [hs, Bool.and_true, beq_iff_eq, hi]; omega
    rw [if_pos hup, (PO (hm.range q hq) hob.2).1, hob.1 v, Bool.or_eq_true, decide_eq_true_iff]
    rw [if_pos hf] at hr
    rcases hr with h | h
    ·exact .inl (hlow (.inl h))
    ·right; omega
   ·rw [if_neg hf] at hr
    have hup : QI s t = false := by unfold QI; rw [hs, Bool.and_true, beq_eq_false_iff_ne, hi]; omega
    rw [hup, if_neg (by simp)]
    exact hlow hr
  ·have hq := (lI.1 ht).1
   have hbit : CN ((HA p s m.fd).getD q 0) v = true := hbit
   have hin := HN (hp.tab t (lM ht))
   rw [u2 q t ht, hbv] at hbit
   split at hbit
   ·rename_i hup
    rw [(PO (hm.range q hq) hob.2).1, hob.1 v, Bool.or_eq_true, decide_eq_true_iff] at hbit
    rcases hbit with h | h
    ·exact hm.high q t ht hs v h
    ·unfold QI at hup
     rw [hs, Bool.and_true, beq_iff_eq, hi] at hup
     rw [hup, Int.toNat_natCast]; omega
   ·exact hm.high q t ht hs v hbit
  ·show (HA p s m.fd).getD q 0 = 0
   have hup : QI s t = false := by unfold QI; rw [hs, Bool.and_false]
   rw [u2 q t ht, hup, if_neg (by simp)]
   exact hm.none q t ht hs
 ·rename_i hk1
  split at h
  ·rename_i hk3
   have hi3 : i < p.fc.length := by have := x3 hk3; omega
   have ht0 : p.fc[i]? = some p.fc[i] := by simp [hi3]
   rw [ht0] at h
   simp only at h
   split at h
   ·cases h
   rename_i hc
   cases h
   have hin0 := HN (hp.tab _ (lM ht0))
   have hr0 := GQ hp hm.toMixServ (s := (p.fc[i]).fg.toNat) (by omega)
   have hs0 : Bz p.fc[i] = true := by
    cases hs : Bz p.fc[i]
    ·exact (hc (.inl hs)).elim
    ·rfl
   have hH : ∀ q, (m.fd.set i (FG m (p.fc[i]).fg.toNat)).getD q 0 = if q = i then FG m (p.fc[i]).fg.toNat else m.fd.getD q 0 := fun q => HP (by omega)
   refine { base := hb, next := hn, held := by simpa using hh, b0 := hm.b0, n0 := hm.n0, ne := hm.ne, range := fun q hq => ?_, low := fun q t ht hs v hr => ?_, high := fun q t ht hs v hbit => ?_, none := fun q t ht hs => ?_ }
   ·show 0 ≤ (m.fd.set i (FG m (p.fc[i]).fg.toNat)).getD q 0 ∧ (m.fd.set i (FG m (p.fc[i]).fg.toNat)).getD q 0 ≤ 255
    rw [hH q]
    split
    ·exact hr0.2
    ·exact hm.range q hq
   ·show CN ((m.fd.set i (FG m (p.fc[i]).fg.toNat)).getD q 0) v = true
    have hr : Hg m t.fg.toNat v = true := hr
    rw [hH q]
    split
    ·rename_i e; subst e
     rw [ht0] at ht; cases ht
     rw [hr0.1]; exact hr
    ·exact hm.low q t ht hs v hr
   ·have hbit : CN ((m.fd.set i (FG m (p.fc[i]).fg.toNat)).getD q 0) v = true := hbit
    rw [hH q] at hbit
    split at hbit
    ·rename_i e; subst e
     rw [ht0] at ht; cases ht
     rw [hr0.1] at hbit
     exact hm.high q _ ht0 hs0 v (hm.low q _ ht0 hs0 v hbit)
    ·exact hm.high q t ht hs v hbit
   ·show (m.fd.set i (FG m (p.fc[i]).fg.toNat)).getD q 0 = 0
    rw [hH q, if_neg (fun e => by subst e; rw [ht0] at ht; cases ht; rw [hs0] at hs; cases hs)]
    exact hm.none q t ht hs
  ·rename_i hk3
   have hi1 : i < p.fb.length := by have := xn hk3; omega
   have hvi := H4 hp hi1
   split at h
   ·cases h
   rename_i hc
   cases h
   have hN : ∀ q, (m.fa.set i (-1)).getD q 0 = if q = i then -1 else m.fa.getD q 0 := fun q => HP (by omega)
   have hB : ∀ q, (if s.ff = 2 then m.fe.set i (m.fa.getD i 0) else m.fe).getD q 0 = if s.ff = 2 ∧ q = i then m.fa.getD i 0 else m.fe.getD q 0 := fun q => by
    by_cases hk2 : s.ff = 2
    ·rw [if_pos hk2, HP (by omega)]
     by_cases e : q = i
     ·rw [if_pos e, if_pos ⟨hk2, e⟩]
     ·rw [if_neg e, if_neg (fun h => e h.2)]
    ·rw [if_neg hk2, if_neg (fun h => hk2 h.1)]
   have hrun : ∀ q v, Hg ⟨if s.ff = 2 then m.fe.set i (m.fa.getD i 0) else m.fe, m.fa.set i (-1), m.fd⟩ q v = true → Hg m q v = true := fun q v hr => by
    rw [LM] at hr ⊢
    simp only [hN q, hB q] at hr
    by_cases e : q = i
    ·subst e
     rw [if_pos rfl] at hr
     by_cases hk2 : s.ff = 2
     ·rw [if_pos ⟨hk2, rfl⟩] at hr; omega
     ·rw [if_neg (fun h => hk2 h.1)] at hr; omega
    ·rw [if_neg e, if_neg (fun h => e h.2)] at hr; exact hr
   refine { base := by simp only; split <;> simp [hb], next := by simpa using hn, held := hh, b0 := fun q hq => ?_, n0 := fun q hq => ?_, ne := fun q hq => ?_, range := hm.range, low := fun q t ht hs v hr => hm.low q t ht hs v (hrun _ _ hr), high := hm.high, none := hm.none }
   ·simp only [hB q]
    split
    ·rename_i e; obtain ⟨_, e⟩ := e; subst e
     have := hm.n0 q hq
     omega
    ·exact hm.b0 q hq
   ·simp only [hN q]
    split
    ·rename_i e; subst e; omega
    ·exact hm.n0 q hq
   ·simp only [hB q, hN q]
    have h1 := hm.b0 q hq
    by_cases e : q = i
    ·rw [if_pos e]
     split
     ·rename_i e2; obtain ⟨_, e2⟩ := e2; subst e2; omega
     ·omega
    ·rw [if_neg e, if_neg (fun h => e h.2)]; exact hm.ne q hq
theorem NO (N : Nat) (hN : N ≤ 1000000) (h20 : 100 ≤ N) {p : Aa} {m : Ab} (hw : Ka Ju m.fd) (s : Ac) : DF N p m s = some (if Do p m = 0 then CY p m s else (EB, Do p m)) := by
 unfold DF CY
 rw [IA N p m hN (by omega)]
 simp only [oS, A5]
 by_cases hval : Do p m = 0
 ·obtain ⟨hp, hm⟩ := HO hw hval
  rw [if_pos hval, hval, bne_self_eq_false, An, NZ]
  simp only [oS]
  cases hv : Fu s
  ·rw [Bool.not_false, AA, if_pos rfl]; rfl
  ·rw [Bool.not_true, An, if_neg (by simp)]
   obtain ⟨k1, k4, i0, v0, vk⟩ := Ik hv
   have key : ∀ b : Bool, F5 p s = b → (if b = false then (EB, (4 : Int)) else match Fw p m s with | none => (EB, 11) | some x => (x, 0)) = (if b = false then (EB, (4 : Int)) else match Fw p m s with | none => (EB, 11) | some x => (x, 0)) := fun _ _ => rfl
   have tail : F5 p s = true → ((CP N p m s).bind fun v15 => AL (!v15.2) (some (Ab.mk [] [] [], (11 : Int))) (some (v15.1, 0))) = some (match Fw p m s with | none => (EB, 11) | some x => (x, 0)) := fun hx => by
    rw [Oq N hN h20 hp hm hv hx]
    cases Fw p m s <;> rfl
   have zz : (Ab.mk [] [] [], (4 : Int)) = (EB, 4) := rfl
   by_cases hk3 : s.ff = 3
   ·rw [beq_iff_eq.2 hk3, AA, show (s.ff != 3) = false from by rw [hk3]; rfl]
    have hX : F5 p s = decide (s.fh < (p.fc.length : Int)) := by unfold F5; rw [if_pos hk3]
    by_cases c : (p.fc.length : Int) ≤ s.fh
    ·rw [AC c, AA, hX, decide_eq_false (by omega), if_pos rfl]; rfl
    ·have hx : F5 p s = true := by rw [hX, decide_eq_true (by omega)]
     rw [AB c, An, An, beq_eq_false_iff_ne.2 (show s.ff ≠ 1 by omega), An, An, hx, if_neg (by simp)]
     exact tail hx
   ·rw [beq_eq_false_iff_ne.2 hk3, An, bne_iff_ne.2 hk3, AA]
    have hX : F5 p s = (decide (s.fh < (p.fb.length : Int)) && (s.ff != 1 || decide (s.fj < p.fb.getD s.fh.toNat 0))) := by unfold F5; rw [if_neg hk3]
    by_cases c : (p.fb.length : Int) ≤ s.fh
    ·rw [decide_eq_true c, AA, hX, decide_eq_false (show ¬ s.fh < (p.fb.length : Int) by omega), Bool.false_and, if_pos rfl]; rfl
    ·rw [decide_eq_false c, An]
     by_cases hk1 : s.ff = 1
     ·rw [beq_iff_eq.2 hk1, AA, DV (d := 0) i0 (by omega)]
      simp only [oS]
      by_cases c2 : p.fb.getD s.fh.toNat 0 ≤ s.fj
      ·rw [decide_eq_true c2, AA, hX, decide_eq_false (show ¬ s.fj < p.fb.getD s.fh.toNat 0 by omega), show (s.ff != 1) = false from by rw [hk1]; rfl, Bool.false_or, Bool.and_false, if_pos rfl]; rfl
      ·have hx : F5 p s = true := by rw [hX, decide_eq_true (by omega), decide_eq_true (by omega), Bool.or_true]; rfl
       rw [decide_eq_false c2, An, hx, if_neg (by simp)]
       exact tail hx
     ·have hx : F5 p s = true := by rw [hX, decide_eq_true (by omega), bne_iff_ne.2 hk1]; rfl
      rw [beq_eq_false_iff_ne.2 hk1, An, An, hx, if_neg (by simp)]
      exact tail hx
 ·rw [if_neg hval, bne_iff_ne.2 hval, AA]; rfl
theorem JG (N : Nat) (hN : N ≤ 1000000) (h20 : 100 ≤ N) {p : Aa} {m : Ab} (hw : Ka Ju m.fd) (s : Ac) : ER N p m s = some (if Do p m = 0 then CY p m s else (EB, Do p m)) := by
 unfold ER
 rw [Hc N p m hN (by omega) hw]
 simp only [oS]
 by_cases hval : Do p m = 0
 ·obtain ⟨hp, hm⟩ := HO hw hval
  rw [if_pos hval, hval, bne_self_eq_false, An, MO N hN h20 hp hm s]; rfl
 ·rw [if_neg hval, bne_iff_ne.2 hval, AA]; rfl
theorem Jm {p : Aa} {m : Ab} (hp : Ci p) (hm : Dm p m) {s : Ac} (h : (CY p m s).2 = 0) : Dm p (CY p m s).1 := by
 unfold CY at h ⊢
 split at h
 ·cases h
 rename_i h1
 rw [if_neg h1]
 split at h
 ·cases h
 rename_i h2
 rw [if_neg h2]
 cases ha : Fw p m s with
 | none => rw [ha] at h; cases h
 | some x => exact O6 hp hm (by simpa using h1) (by simpa using h2) ha
end Go.Lift
namespace Go.Lift
open IntKind renaming wrap → wI
open Option renaming bind_some → oS
open Go
def HG (p : Aa) (total : Nat) : List Ac → Nat → Ab → Int × Ab × Af × Int
 | [], _, m => if JD p m = true then (0, EB, J5, 15) else ((total : Int), EB, J5, 14)
 | s :: l, i, m => if (CY p m s).2 ≠ 0 ∨ s.ff = 4 then ((i : Int), EB, J5, 0) else match GE p (CY p m s).1 with
  | some (x, c) => ((i : Int), x, c, 0)
  | none => HG p total l (i + 1) (CY p m s).1
def Nn (p : Aa) (l : List Ac) : Int × Ab × Af × Int :=
 if Bp p ≠ 0 then (0, EB, J5, Bp p) else match GE p (Dt p) with
  | some (x, c) => (-1, x, c, 0)
  | none => HG p l.length l 0 (Dt p)
section
variable {N : Nat} {p : Aa} {l : List Ac}
theorem Jb (hN : N ≤ 1000000) (h20 : 100 ≤ N) (hv : Bp p = 0) (hl : l.length ≤ 1000) : ∀ (n i : Nat) (m : Ab), i ≤ l.length → l.length - i < n → Dm p m →
  Dw N p l (fun v6 => (Fa N p v6).bind fun v15 => AL (!v15) (some ((l.length : Int), (Ab.mk ([] : List Int) ([] : List Int) ([] : List Int)), (Af.mk 0 0 0), 14)) (some (0, (Ab.mk ([] : List Int) ([] : List Int) ([] : List Int)), (Af.mk 0 0 0), 15))) n (m, (i : Int)) = some (HG p l.length (l.drop i) i m)
 | 0, i, m, _, h, _ => by omega
 | n + 1, i, m, hi, h, hm => by
  obtain ⟨hp, _⟩ := Eg hv
  have hval := Fn hv hm
  rw [Dw]
  by_cases hlt : i < l.length
  ·have hx : l[i]? = some l[i] := by simp [hlt]
   rw [AC (by simp only; omega), DY hx, HG]
   simp only [A5, AX, hx, oS, AI (show i < 1000000 by omega)]
   rw [JG N hN h20 (IM hm), if_pos hval]
   simp only [oS]
   by_cases h1 : (CY p m l[i]).2 = 0
   ·rw [h1, bne_self_eq_false, An]
    by_cases h2 : l[i].ff = 4
    ·rw [beq_iff_eq.2 h2, AA, if_pos (.inr h2)]; rfl
    ·have hm' := Jm hp hm h1
     rw [beq_eq_false_iff_ne.2 h2, An, if_neg (by rintro (h | h); exact h rfl; exact h2 h), IF N p _ hN h20 (IM hm') (Fn hv hm')]
     unfold ID
     simp only [oS]
     cases hb : GE p (CY p m l[i]).1 with
     | some y => rfl
     | none =>
      have e : ((15 : Int) == 0) = false := rfl
      simp only
      rw [e, An]
      exact Jb hN h20 hv hl n (i + 1) _ (by omega) (by omega) hm'
   ·rw [bne_iff_ne.2 h1, AA, AA, if_pos (.inl h1)]; rfl
  ·have hd : l.drop i = [] := List.drop_eq_nil_of_le (by omega)
   rw [AB (by simp only; omega), hd, HG, O5 N p m hN h20 (IM hm)]
   simp only [oS]
   cases JD p m <;> rfl
theorem JF (hN : N ≤ 1000000) (h20 : 100 ≤ N) (hv : Bp p = 0) (hl : l.length ≤ 1000) : ∀ (n i : Nat) (m : Ab), i ≤ l.length → l.length - i < n → Dm p m →
  BO N p l (fun v4 => (Da N p v4).bind fun v16 => AL (!v16) (some ((l.length : Int), (Ab.mk ([] : List Int) ([] : List Int) ([] : List Int)), (Af.mk 0 0 0), 14)) (some (0, (Ab.mk ([] : List Int) ([] : List Int) ([] : List Int)), (Af.mk 0 0 0), 15))) n (m.fe, m.fa, m.fd, (i : Int)) = some (HG p l.length (l.drop i) i m)
 | 0, i, m, _, h, _ => by omega
 | n + 1, i, m, hi, h, hm => by
  obtain ⟨hp, _⟩ := Eg hv
  have hval := Fn hv hm
  rw [BO]
  by_cases hlt : i < l.length
  ·have hx : l[i]? = some l[i] := by simp [hlt]
   rw [AC (by simp only; omega), DY hx, HG]
   simp only [A5, AX, hx, oS, AI (show i < 1000000 by omega)]
   rw [AC (by omega), NO N hN h20 (IM hm), if_pos hval]
   simp only [oS]
   by_cases h1 : (CY p m l[i]).2 = 0
   ·rw [h1, bne_self_eq_false, An]
    by_cases h2 : l[i].ff = 4
    ·rw [beq_iff_eq.2 h2, AA, if_pos (.inr h2)]; rfl
    ·have hm' := Jm hp hm h1
     rw [beq_eq_false_iff_ne.2 h2, An, if_neg (by rintro (h | h); exact h rfl; exact h2 h), Kj N p _ hN h20 (IM hm') (Fn hv hm')]
     unfold ID
     simp only [oS]
     cases hb : GE p (CY p m l[i]).1 with
     | some y => rfl
     | none =>
      have e : ((15 : Int) == 0) = false := rfl
      simp only
      rw [e, An]
      exact JF hN h20 hv hl n (i + 1) _ (by omega) (by omega) hm'
   ·rw [bne_iff_ne.2 h1, AA, AA, if_pos (.inl h1)]; rfl
  ·have hd : l.drop i = [] := List.drop_eq_nil_of_le (by omega)
   rw [AB (by simp only; omega), hd, HG, PG N p _ hN h20 (IM hm)]
   simp only [oS]
   cases JD p m <;> rfl
theorem Oa (hN : N ≤ 1000000) (h20 : 100 ≤ N) (hl : l.length ≤ 1000) (hln : l.length < N) : EN N p l = some (Nn p l) := by
 unfold EN Nn
 rw [Ko N p hN h20]
 simp only [oS]
 by_cases hv : Bp p = 0
 ·have hm := Ku hv
  rw [if_pos hv, hv, bne_self_eq_false, An, if_neg (by simp), IF N p _ hN h20 (IM hm) (Ln hv)]
  unfold ID
  simp only [oS]
  cases hb : GE p (Dt p) with
  | some y => rfl
  | none =>
   have e : ((15 : Int) == 0) = false := rfl
   simp only
   rw [e, An]
   have := Jb (N := N) (p := p) (l := l) hN h20 hv hl N 0 (Dt p) (Nat.zero_le _) (by omega) hm
   rw [List.drop_zero] at this
   exact this
 ·rw [if_neg hv, bne_iff_ne.2 hv, AA, if_pos hv]; rfl
theorem Px (hN : N ≤ 1000000) (h20 : 100 ≤ N) (hl : l.length ≤ 1000) (hln : l.length + 1 < N) : C6 N p l = some (Nn p l) := by
 unfold C6 Nn
 rw [Ob N p hN h20]
 simp only [oS]
 by_cases hv : Bp p = 0
 ·have hm := Ku hv
  rw [if_pos hv, hv, bne_self_eq_false, An, if_neg (by simp)]
  obtain ⟨k, rfl⟩ : ∃ k, N = k + 1 := ⟨N - 1, by omega⟩
  rw [BO, AC (by simp only; omega)]
  simp only [A5]
  rw [AB (by omega), Kj (k + 1) p _ hN h20 (IM hm) (Ln hv)]
  unfold ID
  simp only [oS]
  cases hb : GE p (Dt p) with
  | some y => rfl
  | none =>
   have e : ((15 : Int) == 0) = false := rfl
   simp only
   rw [e, An, show wI .i64 ((-1 : Int) + 1) = ((0 : Nat) : Int) from by decide +kernel]
   have := JF (N := k + 1) (p := p) (l := l) hN h20 hv hl k 0 (Dt p) (Nat.zero_le _) (by omega) hm
   rw [List.drop_zero] at this
   exact this
 ·rw [if_neg hv, bne_iff_ne.2 hv, AA, if_pos hv]; rfl
def Hq (p : Aa) (l : List Ac) : Bool := (Nn p l).2.2.2 == 15
theorem MF (hN : N ≤ 1000000) (h20 : 100 ≤ N) (hl : l.length ≤ 1000) (hln : l.length < N) : FP N p l = some (Hq p l) := by
 unfold FP
 rw [Oa hN h20 hl hln]; rfl
theorem Of (hN : N ≤ 1000000) (h20 : 100 ≤ N) (hl : l.length ≤ 1000) (hln : l.length + 1 < N) : CR N p l = some (Hq p l) := by
 unfold CR
 rw [Px hN h20 hl hln]; rfl
end
end Go.Lift
namespace Go.Lift
open Go
theorem Sc {α : Type} (l : List α) (i : Nat) : l.eraseIdx i = l.take i ++ l.drop (i + 1) := List.eraseIdx_eq_take_drop_succ ..
theorem Rm (N : Nat) (l : List Ac) (i : Nat) (hi : i < l.length) (hl : l.length ≤ 1000) : ∃ X, BI N l (i : Int) (((i + 1 : Nat) : Int)) = some (l.length - 1, X) ∧ X.take (l.length - 1) = l.eraseIdx i ∧ l.length - 1 ≤ X.length := by
 unfold BI
 have e1 : ((l.drop (i + 1)).take (l.length - (i + 1))) = l.drop (i + 1) := List.take_of_length_le (by simp)
 have e2 : i + (l.drop (i + 1)).length = l.length - 1 := by simp; omega
 have e3 : (Gq l (0 + i) (l.drop (i + 1))).length = l.length := FY (by simp; omega)
 have e4 : ((i : Int) + ((l.drop (i + 1)).length : Int)).toNat = l.length - 1 := by omega
 simp only [Int.toNat_natCast, e1, e2, e4, e3]
 rw [Ap ⟨by omega, by omega, by omega, by omega, by omega, Nat.le_refl _⟩, beq_eq_false_iff_ne.2 (show (i : Int) ≠ ((i + 1 : Nat) : Int) by omega), An,
  Ap ⟨by omega, by omega, by omega⟩, Ap ⟨by omega, by omega, Nat.le_refl _⟩, Ap (by omega), Ap ⟨by omega, by omega, by omega, Nat.le_refl _⟩]
 refine ⟨_, rfl, ?_, ?_⟩
 ·rw [Sc]
  unfold Gq
  rw [Nat.zero_add, List.append_assoc]
  have h1 : (l.take i ++ l.drop (i + 1) ++ l.drop (i + (l.drop (i + 1)).length)).take (l.length - 1) = l.take i ++ l.drop (i + 1) := by
   have : (l.take i ++ l.drop (i + 1)).length = l.length - 1 := by simp; omega
   rw [List.take_append_of_le_length (by omega), List.take_of_length_le (by omega)]
  rw [h1, List.take_append_of_le_length (by simp; omega), List.take_of_length_le (by simp; omega)]
 ·rw [FY (by rw [e3, List.length_replicate]; omega), e3]; omega
theorem Ra {α : Type} {l : List α} {i : Nat} (h : i < l.length) : (l.eraseIdx i).length = l.length - 1 := List.length_eraseIdx_of_lt h
theorem HJ (N : Nat) (l : List Ac) (h : l.length ≤ Dx) : AT N l = some l := by
 unfold AT
 rw [Ap (by simpa using h)]; rfl
def JI (p : Aa) (m : Ab) (s : Ac) : Option Ab := if (CY p m s).2 = 0 ∧ s.ff ≠ 4 ∧ D4 p (CY p m s).1 = true then some (CY p m s).1 else none
def Ha (p : Aa) : Ab → List Ac → Option Ab
 | m, [] => some m
 | m, s :: l => (JI p m s).bind fun x => Ha p x l
def Kv (p : Aa) (m : Ab) (l : List Ac) : Bool := match Ha p m l with
 | some x => JD p x
 | none => false
theorem Ll (p : Aa) (total : Nat) : ∀ (l : List Ac) (i : Nat) (m : Ab), ((HG p total l i m).2.2.2 == 15) = Kv p m l
 | [], i, m => by
  rw [HG]
  unfold Kv
  rw [Ha]
  cases h : JD p m
  ·rw [if_neg (by simp)]; exact h.symm
  ·rw [if_pos rfl]; exact h.symm
 | s :: l, i, m => by
  rw [HG]
  unfold Kv Ha JI D4
  by_cases h1 : (CY p m s).2 ≠ 0 ∨ s.ff = 4
  ·rw [if_pos h1, if_neg (fun h => h1.elim (fun a => a h.1) (fun a => h.2.1 a))]; rfl
  ·rw [if_neg h1]
   have h2 : (CY p m s).2 = 0 := Decidable.byContradiction fun h => h1 (.inl h)
   have h3 : s.ff ≠ 4 := fun h => h1 (.inr h)
   cases hb : GE p (CY p m s).1 with
   | some y => rw [if_neg (fun h => by have := h.2.2; cases this)]; rfl
   | none =>
    rw [if_pos ⟨h2, h3, rfl⟩]
    exact Ll p total l (i + 1) _
theorem Ni (p : Aa) (l : List Ac) : Hq p l = (decide (Bp p = 0) && (D4 p (Dt p) && Kv p (Dt p) l)) := by
 unfold Hq Nn D4
 by_cases hv : Bp p = 0
 ·rw [if_neg (fun h => h hv), decide_eq_true hv, Bool.true_and]
  cases hb : GE p (Dt p) with
  | some y => rfl
  | none => exact Ll p l.length l 0 _
 ·rw [if_pos hv, decide_eq_false hv, Bool.false_and, beq_eq_false_iff_ne]
  rcases Gg p with h | h <;> (simp only; omega)
theorem NB {p : Aa} {m x : Ab} {s : Ac} : JI p m s = some x ↔ Fu s = true ∧ F5 p s = true ∧ Fw p m s = some x ∧ s.ff ≠ 4 ∧ D4 p x = true := by
 unfold JI CY
 cases h1 : Fu s
 ·simp
 cases h2 : F5 p s
 ·simp
 cases h3 : Fw p m s with
 | none => simp
 | some y =>
  simp only [Bool.true_eq_false, if_false, true_and, Option.some.injEq]
  constructor
  ·intro h
   split at h
   ·rename_i hc; cases h; exact ⟨rfl, hc.1, hc.2⟩
   ·cases h
  ·rintro ⟨rfl, h4, h5⟩
   rw [if_pos ⟨h4, h5⟩]
theorem R1 {p : Aa} {m x : Ab} {s : Ac} (hp : Ci p) (hm : Dm p m) (h : JI p m s = some x) : Dm p x := by
 obtain ⟨h1, h2, h3, _⟩ := NB.1 h
 exact O6 hp hm h1 h2 h3
theorem I5 (p : Aa) : ∀ (A B : List Ac) (m : Ab), Ha p m (A ++ B) = (Ha p m A).bind fun x => Ha p x B
 | [], B, m => rfl
 | s :: A, B, m => by
  rw [List.cons_append, Ha, Ha]
  cases JI p m s with
  | none => rfl
  | some x => exact I5 p A B x
theorem QD {p : Aa} (hp : Ci p) : ∀ (l : List Ac) (m x : Ab), Dm p m → Ha p m l = some x → Dm p x
 | [], m, x, hm, h => by cases h; exact hm
 | s :: l, m, x, hm, h => by
  rw [Ha] at h
  cases hs : JI p m s with
  | none => rw [hs] at h; cases h
  | some y => rw [hs] at h; exact QD hp l y x (R1 hp hm hs) h
end Go.Lift
namespace Go.Lift
namespace Bfs
section
variable {α σ : Type}
def code (rk : σ → Nat) (K : Nat) (w : List σ) : Nat := w.foldl (fun c s => c * K + rk s) 0
def WK (rk : σ → Nat) (K : Nat) (w : List σ) : Prop := ∀ s, s ∈ w → 1 ≤ rk s ∧ rk s ≤ K
theorem WK.snoc {rk : σ → Nat} {K : Nat} {w : List σ} {s : σ} (h : WK rk K w) (hs : 1 ≤ rk s ∧ rk s ≤ K) : WK rk K (w ++ [s]) := by
 intro x hx; rcases List.mem_append.1 hx with h1 | h1
 ·exact h x h1
 ·rw [List.mem_singleton.1 h1]; exact hs
abbrev Nd (α σ : Type) := α × Int × σ
def put [DecidableEq α] (i : Nat) (l : List (Nd α σ)) (q : σ × α) : List (Nd α σ) := if (l.any fun n => decide (n.1 = q.2)) = true then l else l ++ [(q.2, (i : Int), q.1)]
def RO [DecidableEq α] (most i : Nat) : List (σ × α) → List (Nd α σ) → Option (List (Nd α σ))
 | [], l => some l
 | q :: qs, l => if most < (put i l q).length then none else RO most i qs (put i l q)
def go [DecidableEq α] (nxt : α → List (σ × α)) (most : Nat) : Nat → Nat → List (Nd α σ) → Option (List (Nd α σ))
 | 0, _, _ => none
 | n + 1, i, l => match l[i]? with
  | none => some l
  | some nd => (RO most i (nxt nd.1) l).bind fun l' => go nxt most n (i + 1) l'
def run (nxt : α → List (σ × α)) (x : α) : List σ → α → Prop
 | [], y => y = x
 | s :: w, y => ∃ z, (s, z) ∈ nxt x ∧ run nxt z w y
theorem HK {nxt : α → List (σ × α)} : ∀ {u w : List σ} {x y : α}, run nxt x (u ++ w) y ↔ ∃ z, run nxt x u z ∧ run nxt z w y
 | [], w, x, y => by simp [run]
 | s :: u, w, x, y => by
  simp only [List.cons_append, run]
  constructor
  ·rintro ⟨z, h1, h2⟩
   obtain ⟨z', h3, h4⟩ := HK.1 h2
   exact ⟨z', ⟨z, h1, h3⟩, h4⟩
  ·rintro ⟨z', ⟨z, h1, h3⟩, h4⟩
   exact ⟨z, h1, HK.2 ⟨z', h3, h4⟩⟩
end
end Bfs
end Go.Lift
namespace Go.Lift
open Go
theorem PE : ∀ {l : List Int}, TV l = 0 → ∀ x, x ∈ l → x = 0
 | [], _, x, hx => by cases hx
 | y :: ys, h, x, hx => by
  unfold TV at h
  split at h
  ·rename_i hy
   rcases List.mem_cons.1 hx with rfl | hx
   ·exact hy
   ·exact PE h x hx
  ·rename_i hy; exact absurd h hy
theorem Nw {a b : Ab} (h : PZ a b = 0) : a = b := by
 have := PE h
 have h1 := LI _ _ (this (G1 a.fe b.fe) (by simp))
 have h2 := LI _ _ (this (G1 a.fa b.fa) (by simp))
 have h3 := LI _ _ (this (G1 a.fd b.fd) (by simp))
 cases a; cases b; simp only at h1 h2 h3; subst h1; subst h2; subst h3; rfl
instance W7 : DecidableEq Ab := fun a b => if h : PZ a b = 0 then isTrue (Nw h) else isFalse (fun e => h (by rw [e]; exact Nl b))
theorem RF (a b : Ab) : (PZ a b == 0) = decide (a = b) := by
 by_cases h : a = b
 ·rw [decide_eq_true h, h, Nl]; rfl
 ·rw [decide_eq_false h]
  exact beq_eq_false_iff_ne.2 fun e => h (Nw e)
end Go.Lift
namespace Go.Lift
open Option renaming bind_some → oS
open List renaming mem_of_getElem? → lM
open List renaming getElem?_eq_some_iff → lI
open Go
def E4 (p : Aa) : Ab → List Ac → Ab × Bool
 | m, [] => (m, true)
 | m, s :: l => if (CY p m s).2 = 0 ∧ D4 p (CY p m s).1 = true then E4 p (CY p m s).1 l else (EB, false)
theorem QQ {p : Aa} (hp : Ci p) : ∀ {l : List Ac} {m : Ab}, Dm p m → (E4 p m l).2 = true → Dm p (E4 p m l).1
 | [], m, hm, _ => hm
 | s :: l, m, hm, h => by
  unfold E4 at h ⊢
  by_cases hc : (CY p m s).2 = 0 ∧ D4 p (CY p m s).1 = true
  ·rw [if_pos hc] at h ⊢
   exact QQ hp (Jm hp hm hc.1) h
  ·rw [if_neg hc] at h; cases h
section
variable {N : Nat} {p : Aa} {l : List Ac}
theorem M6 (hN : N ≤ 1000000) (h20 : 100 ≤ N) (hv : Bp p = 0) (hl : l.length ≤ 1000) : ∀ (n i : Nat) (m : Ab), i ≤ l.length → l.length - i < n → Dm p m →
  C7 N p l (fun v2 => some (v2, true)) n (m.fe, m.fa, m.fd, (i : Int)) = some (E4 p m (l.drop i))
 | 0, i, m, _, h, _ => by omega
 | n + 1, i, m, hi, h, hm => by
  obtain ⟨hp, _⟩ := Eg hv
  have hval := Fn hv hm
  rw [C7]
  by_cases hlt : i < l.length
  ·have hx : l[i]? = some l[i] := by simp [hlt]
   rw [AC (by simp only; omega), DY hx, E4]
   simp only [A5, AX, hx, oS, AI (show i < 1000000 by omega)]
   rw [JG N hN h20 (IM hm), if_pos hval]
   simp only [oS]
   by_cases h1 : (CY p m l[i]).2 = 0
   ·have hm' := Jm hp hm h1
    rw [h1, bne_self_eq_false, An, JB N p _ hN h20 (IM hm') (Fn hv hm')]
    simp only [oS, bne_self_eq_false, An]
    cases hr : D4 p (CY p m l[i]).1
    ·rw [if_neg (by simp)]; rfl
    ·rw [if_pos ⟨by simp, by simp⟩, Bool.not_true, An]
     exact M6 hN h20 hv hl n (i + 1) _ (by omega) (by omega) hm'
   ·rw [bne_iff_ne.2 h1, AA, if_neg (fun q => h1 q.1)]; rfl
  ·rw [AB (by simp only; omega), List.drop_eq_nil_of_le (by omega)]; rfl
theorem Oc (hN : N ≤ 1000000) (h20 : 100 ≤ N) (hv : Bp p = 0) (hl : l.length ≤ 1000) (hln : l.length < N) {m : Ab} (hm : Dm p m) : Cg N p m l = some (E4 p m l) := by
 unfold Cg
 have := M6 hN h20 hv hl N 0 m (Nat.zero_le _) (by omega) hm
 rwa [List.drop_zero] at this
end
def Q5 (a b : Ac) : Bool := (a.ff == b.ff) && ((a.fh == b.fh) && ((a.fj == b.fj) && true))
theorem QG (a b : Ac) : Q5 a b = true ↔ a = b := by
 cases a; cases b
 simp [Q5]
def OH (l : List Ac) (i : Nat) (s : Ac) : Bool := !Fu s || s.ff == 4 || (l.take i).any fun x => Q5 s x
def Ii (l : List Ac) (i : Nat) (s : Ac) : Option Int := if OH l i s = true then some 1 else none
def IQ (l : List Ac) : Int := if l.length < 1 ∨ 5 < l.length then 6 else (CC (Ii l) 0 l).getD 0
theorem Q3 {N : Nat} {k : Int} {w : ByteArray} (h : D8 N k = some w) : w.size ≤ 6 := by
 unfold D8 at h
 obtain ⟨v, h1, h2⟩ := bind_some h
 cases h2
 unfold BK at h1
 split at h1
 ·generalize k.toNat = i at h1
  match i, h1 with
  | 0, h1 => cases h1; decide
  | 1, h1 => cases h1; decide
  | 2, h1 => cases h1; decide
  | 3, h1 => cases h1; decide
  | 4, h1 => cases h1; decide
  | i + 5, h1 => simp at h1
 ·cases h1
def La (s : Ac) : Prop := (-9223372036854775808 ≤ s.fh ∧ s.fh ≤ 9223372036854775807) ∧ (-9223372036854775808 ≤ s.fj ∧ s.fj ≤ 9223372036854775807)
theorem NA {n : Int} (h0 : -9223372036854775808 ≤ n) (h1 : n ≤ 9223372036854775807) : ∃ r : ByteArray, Pp n = some r ∧ r.size ≤ 21 := by
 unfold Pp
 rw [if_pos ⟨h0, h1⟩]
 exact ⟨_, rfl, by show (Lib.itoa n).toArray.size ≤ 21; simpa using Lib.itoa_length_le n h0 h1⟩
theorem J7 (a b : ByteArray) : (a ++ b).size = a.size + b.size := by simp
theorem Rc {N : Nat} {k : Int} (h1 : 1 ≤ k) (h4 : k ≤ 4) : ∃ w, D8 N k = some w ∧ w.size ≤ 6 := by
 have : ∃ w, D8 N k = some w := by
  unfold D8 BK
  rw [if_pos (by omega)]
  obtain ⟨q, hq⟩ : ∃ q : Nat, k = (q : Int) := ⟨k.toNat, by omega⟩
  subst hq
  rw [Int.toNat_natCast]
  match q, h1, h4 with
  | 1, _, _ => exact ⟨_, rfl⟩
  | 2, _, _ => exact ⟨_, rfl⟩
  | 3, _, _ => exact ⟨_, rfl⟩
  | 4, _, _ => exact ⟨_, rfl⟩
 obtain ⟨w, hw⟩ := this
 exact ⟨w, hw, Q3 hw⟩
theorem Re (N : Nat) {s : Ac} (hw : La s) : ∃ t, Fd N s = some (t, if Fu s = true then 0 else 1) := by
 unfold Fd
 rw [JH]
 simp only [oS, A5]
 cases hv : Fu s
 ·exact ⟨_, rfl⟩
 ·obtain ⟨k1, k4, _⟩ := Ik hv
  obtain ⟨w, e1, l1⟩ := Rc (N := N) k1 k4
  obtain ⟨a, e2, l2⟩ := NA hw.1.1 hw.1.2
  obtain ⟨b, e3, l3⟩ := NA hw.2.1 hw.2.2
  have z1 : (⟨#[32]⟩ : ByteArray).size = 1 := rfl
  unfold FW
  rw [Bool.not_true, An, e1]
  simp only [oS]
  rw [Ap (by rw [z1]; omega), e2]
  simp only [oS]
  rw [Ap (by rw [J7, z1]; omega), e3]
  simp only [oS]
  cases s.ff == 1
  ·rw [An]; exact ⟨_, rfl⟩
  ·rw [AA, Ap (by rw [z1]; omega), Ap (by rw [J7, J7, J7, z1]; omega)]; exact ⟨_, rfl⟩
theorem LD {N : Nat} (l : List Ac) (s : Ac) (hl : l.length ≤ 1000) (hln : l.length < N) : BN N l s = some ((CC (fun i x => if Q5 s x = true then some (i : Int) else none) 0 l).getD (-1)) := by
 unfold BN
 have := Cf (AV N l s (fun _ => some (-1))) l (some (-1)) (fun i x => if Q5 s x = true then some (i : Int) else none)
  (fun n i x hx => by
   have hi := (lI.1 hx).1
   rw [AV, AC (by omega)]
   simp only [AX, hx, oS, AI (show i < 1000000 by omega)]
   show AL (Q5 s x) _ _ = _
   cases Q5 s x <;> rfl)
  (fun n => by rw [AV, AB (by omega)]) N 0 (Nat.zero_le _) (by omega)
 rw [List.drop_zero] at this
 refine this.trans ?_
 cases CC (fun i x => if Q5 s x = true then some (i : Int) else none) 0 l <;> rfl
theorem Q0 {l : List Ac} {s : Ac} : ∀ (i : Nat), decide (0 ≤ (CC (fun i x => if Q5 s x = true then some (i : Int) else none) i l).getD (-1)) = l.any fun x => Q5 s x := by
 induction l with
 | nil => intro i; rfl
 | cons x l ih =>
  intro i
  rw [F3, List.any_cons]
  cases h : Q5 s x
  ·simp only [Bool.false_or]; exact ih (i + 1)
  ·simp only [Bool.true_or, if_true]; exact decide_eq_true (by simp only [Option.getD_some]; omega)
theorem ML {N : Nat} (l : List Ac) (s : Ac) (hl : l.length ≤ 1000) (hln : l.length < N) : Bw N l s = some (l.any fun x => Q5 s x) := by
 unfold Bw
 rw [LD l s hl hln]
 simp only [oS]
 rw [Q0]
theorem T2 {N : Nat} (l : List Ac) (hln : 10 < N) (hw : ∀ s, s ∈ l → La s) : FK N l = some (IQ l) := by
 unfold FK IQ
 simp only [A5]
 by_cases h1 : (l.length : Int) < 1
 ·rw [AC h1, AA, if_pos (.inl (by omega))]
 rw [AB h1]
 by_cases h5 : (5 : Int) < (l.length : Int)
 ·rw [decide_eq_true h5, AA, if_pos (.inr (by omega))]
 rw [decide_eq_false h5, An, if_neg (by omega)]
 have := Cf (Du N l (fun _ => some 0)) l (some 0) (Ii l)
  (fun n i x hx => by
   have hi := (lI.1 hx).1
   obtain ⟨t, ht⟩ := Re N (hw x (lM hx))
   rw [Du, AC (by omega)]
   simp only [A5, AX, hx, oS, AI (show i < 1000000 by omega), ht, Int.toNat_natCast, List.drop_zero, Nat.sub_zero]
   unfold Ii OH
   cases Fu x
   ·rw [if_neg (by simp)]; rfl
   ·rw [if_pos rfl, bne_self_eq_false, An]
    cases x.ff == 4
    ·rw [An, Ap ⟨by omega, by omega, by omega⟩, ML _ x (by simp; omega) (by simp; omega)]
     simp only [oS, Bool.not_true, Bool.false_or]
     cases (l.take i).any fun y => Q5 x y <;> rfl
    ·rfl)
  (fun n => by rw [Du, AB (by omega)]) N 0 (Nat.zero_le _) (by omega)
 rw [List.drop_zero] at this
 refine this.trans ?_
 cases CC (Ii l) 0 l <;> rfl
end Go.Lift
namespace Go.Lift
open Option renaming bind_some → oS
open Go
section
variable {α β : Type}
def IN : List α → List (α × List α)
 | [] => []
 | x :: xs => (x, xs) :: (IN xs).map fun q => (q.1, x :: q.2)
def It : Nat → List α → List (List α)
 | 0, _ => [[]]
 | k + 1, l => (IN l).flatMap fun q => (It k q.2).map (q.1 :: ·)
def Lh (l : List α) : List (List α) := It l.length l
theorem NI : ∀ l : List α, (IN l).length = l.length
 | [] => rfl
 | x :: xs => by simp [IN, NI xs]
theorem Mt : ∀ {l : List α} {i : Nat} {x : α}, l[i]? = some x → (IN l)[i]? = some (x, l.eraseIdx i)
 | y :: ys, 0, x, h => by simp at h; subst h; rfl
 | y :: ys, i + 1, x, h => by
  rw [IN, List.getElem?_cons_succ, List.getElem?_map, Mt (by simpa using h)]; rfl
theorem IC : ∀ {l : List α} {q : α × List α}, q ∈ IN l → (q.1 :: q.2).Perm l
 | x :: xs, q, h => by
  rw [IN] at h
  rcases List.mem_cons.1 h with e | e
  ·subst e; exact List.Perm.refl _
  ·obtain ⟨r, hr, rfl⟩ := List.mem_map.1 e
   exact (List.Perm.swap x r.1 r.2).trans ((IC hr).cons x)
theorem Nj : ∀ {l : List α} {x : α}, x ∈ l → ∃ q, q ∈ IN l ∧ q.1 = x
 | y :: ys, x, h => by
  rcases List.mem_cons.1 h with e | e
  ·exact ⟨(y, ys), by simp [IN], e.symm⟩
  ·obtain ⟨q, h1, h2⟩ := Nj e
   exact ⟨(q.1, y :: q.2), by simp only [IN, List.mem_cons, List.mem_map]; exact .inr ⟨q, h1, rfl⟩, h2⟩
theorem JN : ∀ {k : Nat} {l x : List α}, l.length = k → (x ∈ It k l ↔ x.Perm l)
 | 0, l, x, h => by
  have := List.eq_nil_of_length_eq_zero h
  subst this
  simp [It]
 | k + 1, l, x, h => by
  simp only [It, List.mem_flatMap, List.mem_map]
  constructor
  ·rintro ⟨q, hq, z, hz, rfl⟩
   have hp := IC hq
   have hl : q.2.length = k := by have := hp.length_eq; simp at this; omega
   exact (((JN hl).1 hz).cons q.1).trans hp
  ·intro hx
   cases x with
   | nil => have := hx.length_eq; simp at this; omega
   | cons y z =>
    obtain ⟨q, hq, rfl⟩ := Nj (hx.mem_iff.1 (List.mem_cons_self : y ∈ y :: z))
    have hp := IC hq
    have hl : q.2.length = k := by have := hp.length_eq; simp at this; omega
    exact ⟨q, hq, z, (JN hl).2 ((List.perm_cons q.1).1 (hx.trans hp.symm)), rfl⟩
theorem KQ {l x : List α} : x ∈ Lh l ↔ x.Perm l := JN rfl
end
def J2 (p : Aa) (m e : Ab) (x : List Ac) : Bool := !((E4 p m x).2 && decide ((E4 p m x).1 = e))
def Tj (p : Aa) (m : Ab) (l : List Ac) : List Ac × Int :=
 if Do p m ≠ 0 then ([], Do p m) else if IQ l ≠ 0 then ([], IQ l) else
 if (D4 p m && (E4 p m l).2) = true then (match (Lh l).find? (J2 p m (E4 p m l).1) with | some x => (x, 0) | none => ([], 15)) else (l, 0)
def Lm (p : Aa) (m : Ab) (l : List Ac) : Bool × Int :=
 if Do p m ≠ 0 then (false, Do p m) else ((Tj p m l).2 == 15, 0)
theorem PW {N : Nat} (hN : N ≤ 1000000) (h20 : 100 ≤ N) {p : Aa} {a b : Ab} (hp : Ci p) (ha : Dm p a) : Ew N a b = some (PZ a b) := by
 have := hp.nv
 have := hp.nt
 have h1 : a.fe.length < N := by rw [ha.base]; omega
 have h2 : a.fa.length < N := by rw [ha.next]; omega
 have h3 : a.fd.length < N := by rw [ha.held]; omega
 unfold Ew
 rw [Mk h1 hN, Mk h2 hN, Pf h3 hN]
 simp only [oS]
 rw [U9 (by simp; omega) hN]
 rfl
theorem Sf {a b : Ab} : (PZ a b != 0) = !decide (a = b) := by rw [← RF]; rfl
section
variable {N : Nat} {p : Aa} {m e : Ab}
theorem Tw (hN : N ≤ 1000000) (h20 : 100 ≤ N) (hv : Bp p = 0) (hm : Dm p m) {x : List Ac} (hl : x.length ≤ 90) (o : Option (List Ac)) :
  Ff N x p.fb p.fi p.fo p.fc m.fe m.fa m.fd e.fe e.fa e.fd o = some (if J2 p m e x = true then (false, some x) else (true, o)) := by
 obtain ⟨hp, _⟩ := Eg hv
 unfold Ff
 show (Cg N p m x).bind _ = _
 rw [Oc hN h20 hv (by omega) (by omega) hm]
 simp only [oS, A5]
 unfold J2
 cases h : (E4 p m x).2
 ·rfl
 ·rw [Bool.not_true, An]
  show (Ew N (E4 p m x).1 e).bind _ = _
  rw [PW hN h20 hp (QQ hp hm h)]
  simp only [oS, Sf, Bool.true_and]
  cases decide ((E4 p m x).1 = e) <;> rfl
abbrev Oh (taken : List Ac) (o : Option (List Ac)) : Option (List Ac) → Bool × Option (List Ac)
 | some x => (false, some (taken ++ x))
 | none => (true, o)
theorem ND (hN : N ≤ 1000000) (h20 : 100 ≤ N) (hv : Bp p = 0) (hm : Dm p m) : ∀ (k : Nat) (rest taken : List Ac) (o : Option (List Ac)), rest.length < k → taken.length + rest.length ≤ 80 →
  CB N k taken rest p.fb p.fi p.fo p.fc m.fe m.fa m.fd e.fe e.fa e.fd o = some (Oh taken o ((Lh rest).find? fun x => J2 p m e (taken ++ x)))
 | 0, _, _, _, h, _ => by omega
 | k + 1, rest, taken, o, hk, hl => by
  rw [CB, En]
  cases hr : rest with
  | nil =>
   rw [show ((([] : List Ac).length : Int) == 0) = true from rfl, AA, Tw hN h20 hv hm (by omega)]
   simp only [Lh, It, List.length_nil, List.find?_cons, List.append_nil, List.find?_nil, oS]
   cases J2 p m e taken <;> simp [Oh]
  | cons y ys =>
   rw [← hr]
   have hlen : rest.length = ys.length + 1 := by rw [hr]; rfl
   rw [beq_eq_false_iff_ne.2 (show (rest.length : Int) ≠ 0 by omega), An]
   have key : ∀ (n i : Nat), i ≤ rest.length → rest.length - i < n →
     CV N taken rest p.fb p.fi p.fo p.fc m.fe m.fa m.fd e.fe e.fa e.fd (CB N k) (fun v4 => some (true, v4)) n (o, (i : Int)) =
      some (Oh taken o (((IN rest).drop i).findSome? fun q => ((It ys.length q.2).find? fun x => J2 p m e (taken ++ q.1 :: x)).map (q.1 :: ·))) := by
    intro n
    induction n with
    | zero => intro i _ h; omega
    | succ n ih =>
     intro i hi hn
     rw [CV]
     by_cases hlt : i < rest.length
     ·have hx : rest[i]? = some rest[i] := by simp [hlt]
      obtain ⟨X, d1, d2, _⟩ := Rm N rest i hlt (by omega)
      have d3 : rest.length - 1 ≤ X.length := by omega
      have hle : (rest.eraseIdx i).length = ys.length := by rw [Ra hlt]; omega
      rw [AC (by simp only; omega), DY (Mt hx), List.findSome?_cons]
      simp only [AX, hx, oS, AI (show i < 1000000 by omega)]
      rw [HJ N taken (by unfold Dx; omega), oS, Ap (by simp [Dx]; omega), HJ N rest (by unfold Dx; omega), oS, d1, oS]
      simp only
      rw [Ap d3, d2, ND hN h20 hv hm k _ _ o (by omega) (by simp; omega)]
      have e1 : (fun x => J2 p m e (taken ++ [rest[i]] ++ x)) = fun x => J2 p m e (taken ++ rest[i] :: x) := by
       funext x; rw [List.append_assoc]; rfl
      unfold Lh
      rw [hle, e1]
      simp only [oS]
      cases (It ys.length (rest.eraseIdx i)).find? fun x => J2 p m e (taken ++ rest[i] :: x) with
      | some z => simp [Oh]
      | none => exact ih (i + 1) (by omega) (by omega)
     ·rw [AB (by simp only; omega), List.drop_eq_nil_of_le (by rw [NI]; omega)]; rfl
   have := key N 0 (Nat.zero_le _) (by omega)
   rw [List.drop_zero] at this
   refine this.trans ?_
   congr 2
   unfold Lh
   rw [hlen, It, List.find?_flatMap]
   congr 1
   funext q
   rw [List.find?_map]
   rfl
end
end Go.Lift
namespace Go.Lift
open Option renaming bind_some → oS
open Go
theorem Sn {l : List Ac} (h : IQ l = 0) : 1 ≤ l.length ∧ l.length ≤ 5 := by
 unfold IQ at h
 split at h
 ·cases h
 ·omega
section
variable {p : Aa} {m : Ab} {l : List Ac}
theorem NW (hv : Bp p = 0) (hm : Dm p m) (hw : ∀ s, s ∈ l → La s) (hl : l.length ≤ 30) : Fo 1000 p m l = some (Tj p m l) := by
 have hval := Fn hv hm
 unfold Fo Tj
 rw [JB 1000 p m (by omega) (by omega) (IM hm) hval, if_neg (fun q => q hval)]
 simp only [oS, bne_self_eq_false, An, A5]
 rw [T2 l (by omega) hw]
 simp only [oS]
 by_cases hf : IQ l = 0
 ·rw [hf, bne_self_eq_false, An, Oc (by omega) (by omega) hv (by omega) (by omega) hm, if_neg (fun q => q rfl)]
  simp only [oS]
  have hlen := Sn hf
  cases D4 p m
  ·rw [Bool.not_false, AA, AA, HJ 1000 l (by unfold Dx; omega)]; rfl
  ·rw [Bool.not_true, An]
   cases ho : (E4 p m l).2
   ·rw [Bool.not_false, AA, HJ 1000 l (by unfold Dx; omega)]; rfl
   ·rw [Bool.not_true, An]
    simp only [Bool.and_self, if_true]
    have hs := ND (N := 1000) (e := (E4 p m l).1) (by omega) (by omega) hv hm 1000 l [] none (by omega) (by simp; omega)
    rw [show (fun x => J2 p m (E4 p m l).1 ([] ++ x)) = J2 p m (E4 p m l).1 from rfl] at hs
    unfold Gd
    rw [hs]
    simp only [oS]
    cases hq : (Lh l).find? (J2 p m (E4 p m l).1) with
    | none => rfl
    | some x =>
     have hx := (KQ.1 (List.mem_of_find?_eq_some hq)).length_eq
     cases x with
     | nil => simp at hx; omega
     | cons y ys => rfl
 ·rw [bne_iff_ne.2 hf, AA, if_pos hf]
theorem MX (hv : Bp p = 0) (hm : Dm p m) (hw : ∀ s, s ∈ l → La s) (hl : l.length ≤ 30) : DW 1000 p m l = some (Lm p m l) := by
 have hval := Fn hv hm
 unfold DW Lm
 rw [Hc 1000 p m (by omega) (by omega) (IM hm), hval, if_neg (fun q => q rfl)]
 simp only [oS, bne_self_eq_false, An]
 rw [NW hv hm hw hl]; rfl
end
theorem L1 {l : List Ac} (h : Ka IW l) : ∀ s, s ∈ l → La s := by
 intro s hs
 obtain ⟨_, h2, h3, _⟩ := h s hs
 have h2 : (Lit.int .i64 s.fh).wf = true := h2
 have h3 : (Lit.int .i64 s.fj).wf = true := h3
 simp [Lit.wf, IntKind.min, IntKind.max, IntKind.signed, IntKind.bits] at h2 h3
 exact ⟨h2, h3⟩
theorem Ok : DD 1000 = some true := by show _ = _; kernel_rfl
end Go.Lift
namespace Go.Lift
open List renaming mem_of_getElem? → lM
open List renaming getElem?_eq_some_iff → lI
open Go
def RG (l : List Ac) : Prop := (1 ≤ l.length ∧ l.length ≤ 5) ∧ (∀ s, s ∈ l → Fu s = true ∧ s.ff ≠ 4) ∧ l.Nodup
theorem K1 {l : List Ac} {i : Nat} {s : Ac} : OH l i s = false ↔ Fu s = true ∧ s.ff ≠ 4 ∧ ∀ x, x ∈ l.take i → s ≠ x := by
 unfold OH
 rw [Bool.or_eq_false_iff, Bool.or_eq_false_iff, beq_eq_false_iff_ne, List.any_eq_false]
 constructor
 ·rintro ⟨⟨h1, h2⟩, h3⟩
  exact ⟨by simpa using h1, h2, fun x hx e => h3 x hx ((QG s x).2 e)⟩
 ·rintro ⟨h1, h2, h3⟩
  exact ⟨⟨by simp [h1], h2⟩, fun x hx e => h3 x hx ((QG s x).1 e)⟩
theorem SM {l : List Ac} : IQ l = 0 ↔ RG l := by
 unfold IQ RG
 by_cases hl : l.length < 1 ∨ 5 < l.length
 ·rw [if_pos hl]
  constructor
  ·intro h; cases h
  ·rintro ⟨⟨h1, h2⟩, _⟩; omega
 rw [if_neg hl]
 have h1 : (CC (Ii l) 0 l).getD 0 = 0 ↔ (CC (Ii l) 0 l).isNone = true := by
  cases h : CC (Ii l) 0 l with
  | none => simp
  | some r =>
   obtain ⟨j, x, hx, hf⟩ := DJ h
   unfold Ii at hf
   split at hf
   ·cases hf; simp
   ·cases hf
 rw [h1, PL]
 have h2 : (∀ j x, l[j]? = some x → Ii l (0 + j) x = none) ↔ ∀ j x, l[j]? = some x → OH l j x = false := by
  constructor
  ·intro h j x hx
   have := h j x hx
   unfold Ii at this
   rw [Nat.zero_add] at this
   split at this
   ·cases this
   ·rename_i hb; simpa using hb
  ·intro h j x hx
   unfold Ii
   rw [Nat.zero_add, if_neg (by rw [h j x hx]; simp)]
 rw [h2]
 constructor
 ·intro h
  refine ⟨by omega, fun s hs => ?_, ?_⟩
  ·obtain ⟨j, hj⟩ := List.mem_iff_getElem?.1 hs
   have := K1.1 (h j s hj)
   exact ⟨this.1, this.2.1⟩
  ·unfold List.Nodup
   rw [List.pairwise_iff_getElem]
   intro i j hi hj hij e
   have := (K1.1 (h j l[j] (by simp [hj]))).2.2 l[i] (List.mem_iff_getElem?.2 ⟨i, by rw [List.getElem?_take_of_lt hij]; simp [hi]⟩)
   exact this e.symm
 ·rintro ⟨_, h3, h4⟩ j x hx
  have hm := h3 x (lM hx)
  refine K1.2 ⟨hm.1, hm.2, fun y hy e => ?_⟩
  subst e
  obtain ⟨i, hi⟩ := List.mem_iff_getElem?.1 hy
  have hij : i < j := by
   have := (lI.1 hi).1
   simp at this; omega
  rw [List.getElem?_take_of_lt hij] at hi
  unfold List.Nodup at h4
  rw [List.pairwise_iff_getElem] at h4
  obtain ⟨a1, a2⟩ := lI.1 hi
  obtain ⟨b1, b2⟩ := lI.1 hx
  exact h4 i j a1 b1 hij (a2.trans b2.symm)
theorem RI {l : List Ac} : IQ l ≠ 15 := by
 unfold IQ
 split
 ·decide
 ·cases h : CC (Ii l) 0 l with
  | none => decide
  | some r =>
   obtain ⟨j, x, hx, hf⟩ := DJ h
   unfold Ii at hf
   split at hf
   ·cases hf; decide
   ·cases hf
def SH (p : Aa) (m : Ab) (l : List Ac) : Prop := RG l ∧ D4 p m = true ∧ ∃ e, ∀ x, x.Perm l → E4 p m x = (e, true)
theorem O3 {p : Aa} {m : Ab} {l : List Ac} (hv : Do p m = 0) : (Lm p m l).1 = true ↔ SH p m l := by
 unfold Lm Tj SH
 rw [if_neg (fun q => q hv), if_neg (fun q => q hv), ← SM]
 simp only [beq_iff_eq]
 by_cases hf : IQ l = 0
 ·rw [if_neg (fun q => q hf)]
  by_cases hc : (D4 p m && (E4 p m l).2) = true
  ·rw [if_pos hc]
   rw [Bool.and_eq_true] at hc
   cases hq : (Lh l).find? (J2 p m (E4 p m l).1) with
   | some x =>
    constructor
    ·intro h; cases h
    ·rintro ⟨_, _, e, he⟩
     have h1 := List.find?_some hq
     have h2 := he x (KQ.1 (List.mem_of_find?_eq_some hq))
     have h3 := he l (List.Perm.refl _)
     unfold J2 at h1
     rw [h2, h3] at h1
     simp at h1
   | none =>
    refine ⟨fun _ => ⟨hf, hc.1, (E4 p m l).1, fun x hx => ?_⟩, fun _ => rfl⟩
    have := List.find?_eq_none.1 hq x (KQ.2 hx)
    unfold J2 at this
    simp only [Bool.not_eq_true, Bool.not_eq_false', Bool.and_eq_true, decide_eq_true_eq] at this
    exact Prod.ext this.2 this.1
  ·rw [if_neg hc]
   constructor
   ·intro h; cases h
   ·rintro ⟨_, hr, e, he⟩
    exact absurd (by rw [hr, he l (List.Perm.refl _)]; rfl) hc
 ·rw [if_pos hf]
  exact ⟨fun h => absurd h RI, fun h => absurd h.1 hf⟩
def gW : Nat → Nat → Int → Int
 | 0, _, A => A
 | c + 1, i, A => gW c (i + 1) (A * ((i + 1 : Nat) : Int))
def hW : List (List Ac) → Int → Int
 | [], A => A
 | w :: ws, A => hW ws (gW w.length 0 A)
end Go.Lift
namespace Go.Lift
open IntKind renaming wrap → wI
open Option renaming bind_some → oS
open Go
theorem LP {p : Aa} : ∀ {l : List Ac} {m x : Ab}, Ha p m l = some x → E4 p m l = (x, true)
 | [], m, x, h => by cases h; rfl
 | s :: l, m, x, h => by
  rw [Ha] at h
  obtain ⟨y, h1, h2⟩ := Option.bind_eq_some_iff.1 h
  unfold JI at h1
  split at h1
  ·rename_i hc
   cases h1
   unfold E4
   rw [if_pos ⟨hc.1, hc.2.2⟩]
   exact LP h2
  ·cases h1
theorem Pe {p : Aa} : ∀ {l : List Ac} {m x : Ab}, D4 p m = true → Ha p m l = some x → D4 p x = true
 | [], m, x, hm, h => by cases h; exact hm
 | s :: l, m, x, hm, h => by
  rw [Ha] at h
  obtain ⟨y, h1, h2⟩ := Option.bind_eq_some_iff.1 h
  unfold JI at h1
  split at h1
  ·rename_i hc
   cases h1
   exact Pe hc.2.2 h2
  ·cases h1
theorem OM {α : Type} (l : List α) (k : Nat) : (l.drop k).take (l.length - k) = l.drop k := List.take_of_length_le (by simp)
def MP (p : Aa) (m : Ab) (l : List Ac) : Nat → Nat
 | 0 => 1
 | k + 1 => if k = 0 then 1 else if (Lm p m (l.take (k + 1))).1 = true then k + 1 else MP p m l k
def KF (p : Aa) (m : Ab) (l : List Ac) : Nat := MP p m l (min 5 l.length)
theorem Jo (p : Aa) (m : Ab) (l : List Ac) : ∀ k : Nat, 1 ≤ MP p m l k ∧ (1 ≤ k → MP p m l k ≤ k) ∧ (MP p m l k = 1 ∨ (Lm p m (l.take (MP p m l k))).1 = true)
 | 0 => ⟨Nat.le_refl _, fun h => by omega, .inl rfl⟩
 | k + 1 => by
  rw [MP]
  split
  ·exact ⟨Nat.le_refl _, fun _ => by omega, .inl rfl⟩
  ·split
   ·rename_i h; exact ⟨by omega, fun _ => Nat.le_refl _, .inr h⟩
   ·obtain ⟨h1, h2, h3⟩ := Jo p m l k
    exact ⟨h1, fun _ => by have := h2 (by omega); omega, h3⟩
theorem NX {p : Aa} {m : Ab} {l : List Ac} : 1 ≤ KF p m l := (Jo p m l _).1
theorem Rw {p : Aa} {m : Ab} {l : List Ac} (h : 1 ≤ l.length) : KF p m l ≤ l.length := by
 have := (Jo p m l (min 5 l.length)).2.1 (by omega)
 unfold KF; omega
def K4 (p : Aa) : Nat → Ab → List Ac → List (List Ac)
 | 0, _, _ => []
 | n + 1, m, l => if l.length = 0 then [] else l.take (KF p m l) :: K4 p n (E4 p m (l.take (KF p m l))).1 (l.drop (KF p m l))
def Te (p : Aa) (m : Ab) (l : List Ac) : Prop := Dm p m ∧ D4 p m = true ∧ Kv p m l = true ∧ ∀ s, s ∈ l → La s
theorem Qa {p : Aa} {m : Ab} {a b : List Ac} (h : Kv p m (a ++ b) = true) : ∃ y, Ha p m a = some y ∧ Kv p y b = true := by
 unfold Kv at h
 rw [I5] at h
 cases hy : Ha p m a with
 | none => rw [hy] at h; cases h
 | some y => rw [hy] at h; exact ⟨y, rfl, h⟩
theorem NJ {p : Aa} (hv : Bp p = 0) {m : Ab} {a b : List Ac} (h : Te p m (a ++ b)) : Ha p m a = some (E4 p m a).1 ∧ (E4 p m a).2 = true ∧ Te p (E4 p m a).1 b := by
 obtain ⟨h1, h2, h3, h4⟩ := h
 obtain ⟨y, e1, e2⟩ := Qa h3
 have e3 := LP e1
 rw [e3]
 exact ⟨e1, rfl, QD (Eg hv).1 a m y h1 e1, Pe h2 e1, e2, fun s hs => h4 s (List.mem_append_right _ hs)⟩
theorem Pa {p : Aa} (hv : Bp p = 0) {m : Ab} {l : List Ac} (h : Te p m l) (k : Nat) : Te p (E4 p m (l.take k)).1 (l.drop k) := by
 rw [← List.take_append_drop k l] at h
 exact (NJ hv h).2.2
theorem RQ {p : Aa} {m : Ab} {s : Ac} (hm : D4 p m = true) {y : Ab} (h : Ha p m [s] = some y) : SH p m [s] := by
 have e := LP h
 rw [Ha] at h
 obtain ⟨x, h1, _⟩ := Option.bind_eq_some_iff.1 h
 obtain ⟨a1, _, _, a4, _⟩ := NB.1 h1
 refine ⟨⟨⟨Nat.le_refl _, by simp⟩, fun z hz => ?_, by simp⟩, hm, y, fun z hz => ?_⟩
 ·rw [List.mem_singleton] at hz; subst hz; exact ⟨a1, a4⟩
 ·rw [List.perm_singleton] at hz; subst hz; exact e
theorem Rg {p : Aa} (hv : Bp p = 0) {m : Ab} {l : List Ac} (h : Te p m l) (hl : 1 ≤ l.length) : (Lm p m (l.take (KF p m l))).1 = true := by
 rcases (Jo p m l (min 5 l.length)).2.2 with h1 | h1
 ·have h1' : KF p m l = 1 := h1
  rw [h1', O3 (Fn hv h.1)]
  cases l with
  | nil => simp at hl
  | cons s l =>
   rw [List.take_succ_cons, List.take_zero]
   exact RQ h.2.1 (NJ hv (a := [s]) (b := l) h).1
 ·exact h1
section
variable {p : Aa} {m : Ab} {l : List Ac}
theorem T7 (hv : Bp p = 0) (h : Te p m l) (hl : l.length ≤ 20) (out : List (List Ac)) (j : Int → Option (List (List Ac) × Int)) : ∀ (n k : Nat), 1 ≤ k → k ≤ l.length → k ≤ n →
  Es 1000 p (m.fe, m.fa, m.fd, l, out) j n (k : Int) = j (MP p m l k : Nat)
 | 0, k, h1, _, h3 => by omega
 | n + 1, k, h1, h2, h3 => by
  rw [Es]
  obtain ⟨q, rfl⟩ : ∃ q, k = q + 1 := ⟨k - 1, by omega⟩
  rw [MP]
  by_cases hq : q = 0
  ·subst hq; rw [AB (by omega), if_pos rfl]
  ·rw [AC (by omega), if_neg hq, Ap ⟨by omega, by omega, by simp only [Int.toNat_natCast]; exact h2⟩]
   simp only [Int.toNat_natCast, List.drop_zero, Nat.sub_zero]
   have e := MX (p := p) (m := m) (l := l.take (q + 1)) hv h.1 (fun s hs => h.2.2.2 s (List.mem_of_mem_take hs)) (by simp; omega)
   have e' : DW 1000 p (Ab.mk m.fe m.fa m.fd) (l.take (q + 1)) = _ := e
   rw [e']
   simp only [oS]
   cases hf : (Lm p m (l.take (q + 1))).1
   ·rw [An, if_neg (by simp), show wI .i64 (((q + 1 : Nat) : Int) - 1) = (q : Int) by rw [DN (by omega) (by omega)]; omega]
    exact T7 hv h hl out j n q (by omega) (by omega) (by omega)
   ·rw [AA, if_pos rfl]
theorem QH (hv : Bp p = 0) : ∀ (n : Nat) (m : Ab) (l : List Ac) (out : List (List Ac)), Te p m l → l.length ≤ 20 → l.length < n → out.length + l.length ≤ 40 →
  Ez 1000 p (fun v6 => some (v6, 0)) n (m.fe, m.fa, m.fd, l, out) = some (out ++ K4 p n m l, 0)
 | 0, _, _, _, _, _, h, _ => by omega
 | n + 1, m, l, out, h, hl, hn, ho => by
  rw [Ez, K4]
  by_cases h0 : l.length = 0
  ·rw [AB (by simp only; omega), if_pos h0, List.append_nil]
  ·rw [AC (by simp only; omega), if_neg h0]
   have e5 : MZ 5 (l.length : Int) = ((min 5 l.length : Nat) : Int) := by unfold MZ; split <;> omega
   simp only [e5]
   refine (T7 hv h hl out _ 1000 (min 5 l.length) (by omega) (by omega) (by omega)).trans ?_
   have hw : MP p m l (min 5 l.length) = KF p m l := rfl
   have hp := NX (p := p) (m := m) (l := l)
   have hq := Rw (p := p) (m := m) (l := l) (by omega)
   rw [hw]
   simp only [Int.toNat_natCast, List.drop_zero, Nat.sub_zero]
   rw [Ap ⟨by omega, by omega, hq⟩, HJ 1000 _ (by simp [Dx]; omega)]
   simp only [oS]
   rw [Ap (by simp [Dx]; omega), Ap ⟨by omega, by omega, hq⟩]
   have e := Oc (N := 1000) (l := l.take (KF p m l)) (by omega) (by omega) hv (by simp; omega) (by simp; omega) h.1
   have e' : Cg 1000 p (Ab.mk m.fe m.fa m.fd) (l.take (KF p m l)) = _ := e
   rw [e']
   simp only [oS]
   rw [Ap ⟨by omega, hq, Nat.le_refl _⟩, OM]
   refine (QH hv n _ _ _ (Pa hv h (KF p m l)) (by simp; omega) (by simp; omega) (by simp; omega)).trans ?_
   rw [List.append_assoc]; rfl
end
theorem Vb {p : Aa} {l : List Ac} (W : List (List Ac)) (j : Option (List (List Ac) × Int)) (h : Hq p l = true → j = some (W, 0)) :
  AL (!Hq p l) (some (([] : List (List Ac)), (13 : Int))) j = some (if Hq p l = true then (W, 0) else ([], 13)) := by
 cases hc : Hq p l
 ·rfl
 ·rw [Bool.not_true, An, h hc, if_pos rfl]
def WZ (p : Aa) (l : List Ac) : List (List Ac) × Int := if Hq p l = true then (K4 p 1000 (Dt p) l, 0) else ([], 13)
theorem LX {p : Aa} (hv : Bp p = 0) {l : List Ac} (hw : ∀ s, s ∈ l → La s) (h : Hq p l = true) : Te p (Dt p) l := by
 rw [Ni, decide_eq_true hv, Bool.true_and, Bool.and_eq_true] at h
 exact ⟨Ku hv, h.1, h.2, hw⟩
theorem VL {p : Aa} (hv : Bp p = 0) {l : List Ac} (hw : ∀ s, s ∈ l → La s) (hl : l.length ≤ 20) : F2 1000 p l = some (WZ p l) := by
 unfold F2 WZ
 rw [Ko 1000 p (by omega) (by omega), hv, if_pos rfl]
 simp only [oS, bne_self_eq_false, An]
 rw [MF (by omega) (by omega) (by omega) (by omega)]
 simp only [oS]
 exact Vb _ _ fun hc => (QH hv 1000 _ l [] (LX hv hw hc) hl (by omega) (by simp; omega)).trans (by rw [List.nil_append])
theorem O4 {p : Aa} : ∀ (n : Nat) (m : Ab) (l : List Ac), (K4 p n m l).length ≤ l.length ∧ ∀ w, w ∈ K4 p n m l → w.length ≤ l.length
 | 0, _, _ => ⟨Nat.zero_le _, fun _ h => by cases h⟩
 | n + 1, m, l => by
  rw [K4]
  split
  ·exact ⟨Nat.zero_le _, fun _ h => by cases h⟩
  ·have hp := NX (p := p) (m := m) (l := l)
   obtain ⟨h1, h2⟩ := O4 (p := p) n (E4 p m (l.take (KF p m l))).1 (l.drop (KF p m l))
   rw [List.length_drop] at h1
   refine ⟨by rw [List.length_cons]; omega, fun w hw => ?_⟩
   rcases List.mem_cons.1 hw with e | e
   ·subst e; simp; omega
   ·have := h2 w e; rw [List.length_drop] at this; omega
end Go.Lift
namespace Go.Lift
open IntKind renaming wrap → wI
open Option renaming bind_some → oS
open List renaming mem_of_getElem? → lM
open Go
theorem Pl {p : Aa} : ∀ {l : List Ac} {m e : Ab}, (∀ s, s ∈ l → s.ff ≠ 4) → E4 p m l = (e, true) → Ha p m l = some e
 | [], m, e, _, h => by cases h; rfl
 | s :: l, m, e, hk, h => by
  unfold E4 at h
  split at h
  ·rename_i hc
   rw [Ha]
   unfold JI
   rw [if_pos ⟨hc.1, hk s List.mem_cons_self, hc.2⟩]
   exact Pl (fun x hx => hk x (List.mem_cons_of_mem _ hx)) h
  ·cases h
theorem Q1 (l : List Ac) (k : Nat) (hk : k < l.length) : (Gq l (0 + k) ((l.drop (k + 1)).take (l.length - (k + 1)))).take (k + ((l.drop (k + 1)).take (l.length - (k + 1))).length) = l.eraseIdx k := by
 rw [OM, Nat.zero_add, List.eraseIdx_eq_take_drop_succ]
 unfold Gq
 have h1 : (l.take k ++ l.drop (k + 1)).length = k + (l.drop (k + 1)).length := by rw [List.length_append, List.length_take, Nat.min_eq_left (by omega)]
 exact List.take_left' h1
theorem Pj {N : Nat} (cs : List Int) (hc : Ka Ju cs) (j : List Ac × Int → Option Bool) : ∀ (n : Nat) (r a : List Ac) (u : Nat), r.length < n → r.length ≤ 30 → a.length + r.length ≤ 1000 → u + r.length ≤ 1000 →
  ∃ x, x.Perm r ∧ Bl N cs j n (a, (u : Int), r) = j (a ++ x, ((u + r.length : Nat) : Int))
 | 0, r, a, u, h, _, _, _ => by omega
 | n + 1, r, a, u, h, h1, h2, h3 => by
  rw [Bl]
  by_cases h0 : r.length = 0
  ·have := List.eq_nil_of_length_eq_zero h0
   subst this
   refine ⟨[], List.Perm.refl _, ?_⟩
   rw [AB (by simp), List.append_nil]; rfl
  ·rw [AC (by simp only; omega)]
   simp only [A5]
   have key : ∀ k : Nat, k < r.length → ∃ x, x.Perm r ∧
     ((BK r (k : Int)).bind fun v22 =>
      (Dl (a.length + (([v22] : List Ac)).length ≤ Dx)).bind fun _ =>
      (Dl ((0 : Int) ≤ (k : Int) ∧ 0 ≤ ((k : Int)).toNat ∧ ((k : Int)).toNat ≤ r.length)).bind fun _ =>
      (Dl ((0 : Int) ≤ (wI .i64 ((k : Int) + 1)) ∧ ((wI .i64 ((k : Int) + 1))).toNat ≤ r.length ∧ r.length ≤ r.length)).bind fun _ =>
      (Dl (((k : Int)).toNat + (((r.drop (((wI .i64 ((k : Int) + 1))).toNat)).take ((r.length - ((wI .i64 ((k : Int) + 1))).toNat)))).length ≤ r.length)).bind fun _ =>
      Bl N cs j n (a ++ (([v22] : List Ac)), (wI .i64 ((u : Int) + 1)), (Gq r (0 + (((k : Int)).toNat)) (((r.drop (((wI .i64 ((k : Int) + 1))).toNat)).take ((r.length - ((wI .i64 ((k : Int) + 1))).toNat))))).take ((((k : Int)).toNat + (((r.drop (((wI .i64 ((k : Int) + 1))).toNat)).take ((r.length - ((wI .i64 ((k : Int) + 1))).toNat)))).length)))) = j (a ++ x, ((u + r.length : Nat) : Int)) := by
    intro k hk
    have hx : r[k]? = some r[k] := by simp [hk]
    simp only [AI (show k < 1000000 by omega), AI (show u < 1000000 by omega), Int.toNat_natCast, AX, hx, oS]
    rw [Ap (by simp [Dx]; omega), Ap ⟨by omega, by omega, by omega⟩, Ap ⟨by omega, by omega, Nat.le_refl _⟩, Ap (by simp; omega), Q1 r k hk]
    have he : (r.eraseIdx k).length = r.length - 1 := by rw [List.length_eraseIdx, if_pos hk]
    obtain ⟨x, hp, e⟩ := Pj cs hc j n (r.eraseIdx k) (a ++ [r[k]]) (u + 1) (by omega) (by omega) (by simp; omega) (by omega)
    refine ⟨r[k] :: x, ?_, ?_⟩
    ·have h5 : (r[k] :: r.eraseIdx k).Perm r := IC (lM (Mt hx))
     exact (hp.cons _).trans h5
    ·rw [e, List.append_assoc, he, show u + 1 + (r.length - 1) = u + r.length by omega]; rfl
   by_cases hu : u < cs.length
   ·have hx : cs[u]? = some cs[u] := by simp [hu]
    have hm := hc _ (lM hx)
    have hb : 0 ≤ cs[u] ∧ cs[u] ≤ 255 := by
     have hm : (Lit.int .u8 cs[u]).wf = true := hm
     simp [Lit.wf, IntKind.min, IntKind.max, IntKind.signed, IntKind.bits] at hm
     omega
    rw [AC (by omega)]
    simp only [AX, hx, oS]
    rw [Ap (by omega), DN (by omega) (by omega)]
    have ht : Int.tmod cs[u] (r.length : Int) = ((cs[u].toNat % r.length : Nat) : Int) := by
     rw [Int.tmod_eq_emod_of_nonneg hb.1, Int.natCast_emod, Int.toNat_of_nonneg hb.1]
    rw [ht]
    exact key _ (Nat.mod_lt _ (by omega))
   ·rw [AB (by omega)]
    exact key 0 (by omega)
theorem M5 {N : Nat} {p : Aa} (hv : Bp p = 0) (cs : List Int) (hc : Ka Ju cs) (hN : 100 ≤ N) (W : List (List Ac) × Int) (hW : W.1.length ≤ 30) (j : List Ac → Option Bool) : ∀ (k n i : Nat) (m : Ab) (l a : List Ac) (u : Nat), Te p m l → l.length ≤ 20 → l.length < k → W.1.drop i = K4 p k m l → W.1.length - i < n → i ≤ W.1.length → Ha p (Dt p) a = some m → a.length + l.length ≤ 20 → u + l.length ≤ 20 →
  ∃ x z, Bm N cs W j n (a, (u : Int), (i : Int)) = j x ∧ Ha p (Dt p) x = some z ∧ JD p z = true ∧ x.length ≤ 20
 | 0, n, i, m, l, a, u, h, hl, hk, hd, hn, hi, hr, ha, hu => by omega
 | k + 1, 0, i, m, l, a, u, h, hl, hk, hd, hn, hi, hr, ha, hu => by omega
 | k + 1, n + 1, i, m, l, a, u, h, hl, hk, hd, hn, hi, hr, ha, hu => by
  rw [Bm]
  rw [K4] at hd
  by_cases h0 : l.length = 0
  ·rw [if_pos h0] at hd
   have : W.1.length ≤ i := by simpa using hd
   have hl0 := List.eq_nil_of_length_eq_zero h0
   subst hl0
   refine ⟨a, m, ?_, hr, h.2.2.1, by omega⟩
   rw [AB (by simp only; omega)]
  ·rw [if_neg h0] at hd
   have hlt : i < W.1.length := by
    apply Nat.lt_of_not_le; intro q
    rw [List.drop_eq_nil_of_le q] at hd; cases hd
   have hx : W.1[i]? = some (l.take (KF p m l)) := by
    have : (W.1.drop i)[0]? = some (l.take (KF p m l)) := by rw [hd]; rfl
    simpa using this
   have hd' : W.1.drop (i + 1) = K4 p k (E4 p m (l.take (KF p m l))).1 (l.drop (KF p m l)) := by
    have : (W.1.drop i).tail = (l.take (KF p m l) :: K4 p k (E4 p m (l.take (KF p m l))).1 (l.drop (KF p m l))).tail := by rw [hd]
    simpa using this
   have hp := NX (p := p) (m := m) (l := l)
   have hq := Rw (p := p) (m := m) (l := l) (by omega)
   have hwl : (l.take (KF p m l)).length = KF p m l := by simp; omega
   rw [AC (by simp only; omega)]
   simp only [AX, hx, oS]
   rw [Ap (by simp [Dx]; omega), List.nil_append]
   obtain ⟨x, hxp, e⟩ := Pj (N := N) cs hc (fun v16 => Bm N cs W j n (v16.1, v16.2, wI .i64 ((i : Int) + 1))) N (l.take (KF p m l)) a u (by omega) (by omega) (by omega) (by omega)
   have hf := (O3 (Fn hv h.1)).1 (Rg hv h (by omega))
   obtain ⟨hg, _, en, hall⟩ := hf
   have h7 := hall _ (List.Perm.refl _)
   have h8 := Pl (fun s hs => (hg.2.1 s (hxp.mem_iff.1 hs)).2) (hall x hxp)
   have h9 : (E4 p m (l.take (KF p m l))).1 = en := by rw [h7]
   have hst := Pa hv h (KF p m l)
   rw [h9] at hst hd'
   have hxl : x.length = KF p m l := by rw [hxp.length_eq, hwl]
   obtain ⟨y, z, e1, e2, e3, e4⟩ := M5 hv cs hc hN W hW j k n (i + 1) en (l.drop (KF p m l)) (a ++ x) (u + KF p m l) hst (by simp; omega) (by simp; omega) hd' (by omega) (by omega) (by rw [I5, hr]; exact h8) (by simp; omega) (by simp; omega)
   refine ⟨y, z, ?_, e2, e3, e4⟩
   refine Eq.trans e ?_
   simp only [AI (show i < 1000000 by omega), hwl]
   exact e1
theorem K6 (d : BP) (l : List Ac) (cs : List Int) (wd : EY d) (wl : Ka IW l) (wc : Ka Ju cs) : CA 1000 d l cs = some true := by
 obtain ⟨p, ok, e, h⟩ := W8 1000 d (by omega) (by omega) wd
 unfold CA
 rw [e]
 simp only [oS, A5, Ok, Bool.not_true, An]
 cases ok
 ·rfl
 have hv := (h rfl).valid
 rw [Bool.not_true, An]
 by_cases h10 : (10 : Int) < (l.length : Int)
 ·rw [decide_eq_true h10]; rfl
 rw [decide_eq_false h10, An, VL hv (L1 wl) (by omega)]
 simp only [oS]
 unfold WZ
 obtain ⟨w1, w2⟩ := O4 (p := p) 1000 (Dt p) l
 have main := fun hc => M5 (N := 1000) hv cs wc (by omega) (K4 p 1000 (Dt p) l, (0 : Int)) (by simp only; omega) (fun v11 => (CR 1000 p v11).bind fun v31 => some v31) 1000 1000 0 (Dt p) l [] 0 (LX hv (L1 wl) hc) (by omega) (by omega) List.drop_zero (by simp only; omega) (Nat.zero_le _) rfl (by simp; omega) (by omega)
 generalize K4 p 1000 (Dt p) l = W at w1 w2 main
 cases hc : Hq p l
 ·rfl
 rw [if_pos rfl]
 obtain ⟨x, z, e1, e2, e3, e4⟩ := main hc
 simp only [bne_self_eq_false, An]
 refine Eq.trans e1 ?_
 rw [Of (by omega) (by omega) (by omega) (by omega)]
 simp only [oS]
 have hs := LX hv (L1 wl) hc
 rw [Ni, decide_eq_true hv, Bool.true_and, hs.2.1, Bool.true_and]
 unfold Kv
 rw [e2]
 exact congrArg some e3
end Go.Lift
