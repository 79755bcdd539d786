/- Lemmas for UnblockMoreSaid, which YtjpgllmfenogoaaGreatFinU5 proves. -/
import Derived.Test.YtjpgllmfenogoaaGreatDec
import Derived.KernelRfl
namespace Go.Lift
open IntKind renaming wrap → wI
open Option renaming bind_some → oS
open List renaming getElem?_eq_some_iff → lI
theorem AZ {α : Type} (xs : List α) (i : Nat) : A5 xs (i : Int) = xs[i]? := by
 unfold A5; simp
theorem DL {n : Int} (h0 : -9223372036854775808 ≤ n) (h1 : n ≤ 9223372036854775807) : wI .i64 n = n := by
 simp [wI, IntKind.signed, IntKind.bits]; omega
theorem AF {i : Nat} (h : i < 1000000) : wI .i64 ((i : Int) + 1) = ((i + 1 : Nat) : Int) := by
 rw [DL (by omega) (by omega)]; simp
@[simp] theorem AU {α : Type} {a b : Option α} : AW true a b = a := rfl
@[simp] theorem Au {α : Type} {a b : Option α} : AW false a b = b := rfl
theorem AK {α : Type} {p : Prop} [Decidable p] {a b : Option α} (h : p) : AW (decide p) a b = a := by simp [h]
theorem AD {α : Type} {p : Prop} [Decidable p] {a b : Option α} (h : ¬ p) : AW (decide p) a b = b := by simp [h]
def J0 : List Int → List Int → Int
 | [], [] => 0
 | [], _ :: _ => -1
 | _ :: _, [] => 1
 | a :: as1, b :: bs => if a < b then -1 else if b < a then 1 else J0 as1 bs
theorem H8 {α : Type} {xs : List α} {i : Nat} {x : α} (h : xs[i]? = some x) : xs.drop i = x :: xs.drop (i + 1) := by
 obtain ⟨hi, rfl⟩ := lI.1 h
 exact List.drop_eq_getElem_cons hi
theorem VW (N : Nat) (a b : List Int) (hb : a.length < 1000000) : ∀ (n i : Nat), i ≤ a.length → i ≤ b.length → a.length - i < n →
  El N a b (fun _ => AW (decide ((a.length : Int) < (b.length : Int))) (some (-1)) (AW (decide ((b.length : Int) < (a.length : Int))) (some 1) (some 0))) n (i : Int) = some (J0 (a.drop i) (b.drop i))
 | 0, i, _, _, h => by omega
 | n + 1, i, hi, hj, h => by
  unfold El
  simp only [Bd]
  by_cases h1 : i < a.length
  ·rw [AK (p := (i : Int) < (a.length : Int)) (by omega)]
   have ha : a[i]? = some a[i] := by simp [h1]
   rw [H8 ha]
   by_cases h2 : i < b.length
   ·have hbb : b[i]? = some b[i] := by simp [h2]
    rw [show decide ((i : Int) < (b.length : Int)) = true from decide_eq_true (by omega), AU, AZ, AZ, ha, hbb, H8 hbb]
    simp only [oS, J0]
    rw [AF (by omega), VW N a b hb n (i + 1) (by omega) (by omega) (by omega)]
    by_cases h3 : a[i] < b[i]
    ·simp [h3]
    ·by_cases h4 : b[i] < a[i]
     ·simp [h3, h4]
     ·simp [h3, h4]
   ·rw [show decide ((i : Int) < (b.length : Int)) = false from decide_eq_false (by omega), Au, AD (by omega), AK (by omega), List.drop_eq_nil_of_le (by omega : b.length ≤ i)]
    simp [J0]
  ·rw [AD (p := (i : Int) < (a.length : Int)) (by omega), Au, List.drop_eq_nil_of_le (by omega : a.length ≤ i)]
   by_cases h2 : a.length < b.length
   ·rw [AK (by omega)]
    have hbb : b[i]? = some b[i] := by simp [show i < b.length from by omega]
    rw [H8 hbb]; simp [J0]
   ·rw [AD (by omega), AD (by omega), List.drop_eq_nil_of_le (by omega : b.length ≤ i)]
    simp [J0]
theorem QS {N : Nat} {a b : List Int} (h : a.length < N) (hN : N ≤ 1000000) : Ey N a b = some (J0 a b) := by
 have := VW N a b (by omega) N 0 (by omega) (by omega) (by omega)
 simpa [Ey] using this
theorem RJ : ∀ a : List Int, J0 a a = 0
 | [] => rfl
 | a :: as1 => by simp [J0, RJ as1]
theorem PF : ∀ a b : List Int, J0 a b = 0 → a = b
 | [], [], _ => rfl
 | [], _ :: _, h => by simp [J0] at h
 | _ :: _, [], h => by simp [J0] at h
 | a :: as1, b :: bs, h => by
  unfold J0 at h
  split at h
  ·omega
  ·split at h
   ·omega
   ·rw [PF as1 bs h, show a = b from by omega]
def bt : List Int → Int
 | [] => 0
 | x :: xs => if x = 0 then bt xs else x
theorem dM (N : Nat) (a : List Int) (hb : a.length < 1000000) (hw : Qz MN a) : ∀ (n i : Nat), i ≤ a.length → a.length - i < n →
  DH N a (fun v => some v) n (a.take i, (i : Int)) = some a
 | 0, i, _, h => by omega
 | n + 1, i, hi, h => by
  unfold DH
  by_cases h1 : i < a.length
  ·have ha : a[i]? = some a[i] := by simp [h1]
   rw [AK (by simpa using h1)]
   simp only
   rw [AZ, ha]
   have hr : wI .i64 a[i] = a[i] := by
    have := hw a[i] (List.getElem_mem h1)
    unfold MN at this
    have h2 : 0 ≤ a[i] ∧ a[i] ≤ 255 := by simpa [Lit.wf, IntKind.min, IntKind.max, IntKind.signed, IntKind.bits] using this
    exact DL (by omega) (by omega)
   simp only [oS, hr]
   have hlen : (a.take i).length + ([a[i]] : List Int).length ≤ DP := by
    simp [DP]; omega
   rw [show Eh ((a.take i).length + ([a[i]] : List Int).length ≤ DP) = some () from by unfold Eh; rw [if_pos hlen]]
   simp only [oS]
   rw [AF (by omega), show a.take i ++ [a[i]] = a.take (i + 1) from by rw [List.take_add_one, ha]; rfl]
   exact dM N a hb hw n (i + 1) (by omega) (by omega)
  ·rw [AD (by simpa using h1)]
   simp only
   rw [List.take_of_length_le (by omega)]
theorem Pi {N : Nat} {a : List Int} (h : a.length < N) (hN : N ≤ 1000000) (hw : Qz MN a) : Es N a = some a := by
 have := dM N a (by omega) hw N 0 (by omega) (by omega)
 simpa [Es] using this
def eU (a : Ag) : Prop := a.fd.length ≤ 8 ∧ a.fa.length ≤ 8 ∧ a.fe.length ≤ 14
def U8 (a b : Ag) : Int := bt [J0 a.fd b.fd, J0 a.fa b.fa, J0 a.fe b.fe]
theorem Rx (a : Ag) : U8 a a = 0 := by unfold U8; simp [RJ, bt]
def Ei {α R : Type} (f : Nat → α → Option R) : Nat → List α → Option R
 | _, [] => none
 | i, x :: xs => match f i x with
  | some r => some r
  | none => Ei f (i + 1) xs
theorem G5 {α R : Type} (f : Nat → α → Option R) (i : Nat) (x : α) (xs : List α) : Ei f i (x :: xs) = match f i x with
  | some r => some r
  | none => Ei f (i + 1) xs := rfl
def Ch {R : Type} (a : Option R) (b : Option R) : Option R := match a with
 | some r => some r
 | none => b
theorem DU {α R : Type} (L : Nat → Int → Option R) (xs : List α) (j : Option R) (f : Nat → α → Option R)
  (hs : ∀ (n i : Nat) (x : α), xs[i]? = some x → L (n + 1) (i : Int) = Ch (f i x) (L n ((i + 1 : Nat) : Int))) (he : ∀ n : Nat, L (n + 1) (xs.length : Int) = j) :
  ∀ n i : Nat, i ≤ xs.length → xs.length - i < n → L n (i : Int) = Ch (Ei f i (xs.drop i)) j
 | 0, i, _, h => by omega
 | n + 1, i, hi, h => by
  by_cases h1 : i < xs.length
  ·have hx : xs[i]? = some xs[i] := by simp [h1]
   rw [hs n i _ hx, H8 hx, DU L xs j f hs he n (i + 1) (by omega) (by omega)]
   rw [G5]
   cases f i xs[i] <;> rfl
  ·have : i = xs.length := by omega
   subst this
   rw [he n, List.drop_eq_nil_of_le (Nat.le_refl _)]
   rfl
theorem R9 (N : Nat) (k n : Int) : Fk N k n = some (decide (0 ≤ k) && decide (k < n)) := by
 unfold Fk
 simp only [Bd]
 by_cases h : 0 ≤ k
 ·rw [AK h]; simp [h]
 ·rw [AD h]; simp [h]
theorem OU (N : Nat) (t : Aq) : Bg N t = some (t.ff == 3 || t.ff == 4) := by
 unfold Bg
 simp only [Bd]
 cases h : t.ff == 3 <;> simp
def sq (l : List (List Bool)) (n m : Int) : Bool := decide ((l.length : Int) = n) && l.all fun r => decide ((r.length : Int) = m)
theorem P6 {α : Type} (p : α → Bool) {R : Type} (r : Nat → R) : ∀ (i : Nat) (xs : List α), (Ei (fun i x => if p x then none else some (r i)) i xs).isNone = xs.all p
 | i, [] => rfl
 | i, x :: xs => by
  unfold Ei
  cases h : p x <;> simp [h, P6 p r (i + 1) xs]
theorem R3 (N : Nat) (l : List (List Bool)) (n m : Int) (h : n < (N : Int)) (hN : N ≤ 1000000) : EI N l n m = some (sq l n m) := by
 unfold EI sq
 by_cases h1 : (l.length : Int) = n
 ·subst h1
  simp only [bne_self_eq_false, Au, decide_true, Bool.true_and]
  have := DU (Dd N l (l.length : Int) m (fun _ => some true)) l (some true) (fun _ r => if decide ((r.length : Int) = m) then none else some false)
   (fun n i x hx => by
    have hi := (lI.1 hx).1
    rw [Dd, AK (by omega), AZ, hx]
    simp only [oS]
    rw [AF (by omega)]
    by_cases h2 : (x.length : Int) = m
    ·simp [h2, Ch]
    ·have : ((x.length : Int) != m) = true := by simpa using h2
     simp [h2, this, Ch])
   (fun n => by rw [Dd, AD (by omega)]) N 0 (by omega) (by omega)
  simp only [Int.ofNat_zero, List.drop_zero] at this
  rw [this]
  have h3 := P6 (fun r : List Bool => decide ((r.length : Int) = m)) (fun _ => false) 0 l
  cases hsc : Ei (fun (_ : Nat) (r : List Bool) => if decide ((r.length : Int) = m) = true then none else some false) 0 l with
  | none => rw [hsc] at h3; rw [← h3]; rfl
  | some b =>
   rw [hsc] at h3
   rw [← h3]
   have : ∀ (i : Nat) (xs : List (List Bool)) b, Ei (fun (_ : Nat) (r : List Bool) => if decide ((r.length : Int) = m) = true then none else some false) i xs = some b → b = false := by
    intro i xs
    induction xs generalizing i with
    | nil => intro b hb; cases hb
    | cons x xs ih =>
     intro b hb
     unfold Ei at hb
     split at hb
     ·rename_i r hr; cases hb; split at hr <;> simp at hr; exact hr
     ·exact ih _ b hb
   rw [this 0 l b hsc]; rfl
 ·have : ((l.length : Int) != n) = true := by simpa using h1
  simp [this, h1]
theorem R8 (N : Nat) (l : List (List Bool)) (n m : Int) (h : n < (N : Int)) (hN : N ≤ 1000000) : GE N l n m = some (sq l n m) := by
 unfold GE sq
 simp only [Bd]
 by_cases h1 : (l.length : Int) = n
 ·subst h1
  simp only [beq_self_eq_true, AU, decide_true, Bool.true_and]
  have := DU (BK N l (fun x => Fc N x m) (fun _ => some (-1))) l (some (-1)) (fun i r => if decide ((r.length : Int) = m) then none else some (i : Int))
   (fun n i x hx => by
    have hi := (lI.1 hx).1
    rw [BK, AK (by omega), AZ, hx]
    simp only [oS, Fc]
    rw [AF (by omega)]
    by_cases h2 : (x.length : Int) = m
    ·simp [h2, Ch]
    ·have : ((x.length : Int) != m) = true := by simpa using h2
     simp [h2, this, Ch])
   (fun n => by rw [BK, AD (by omega)]) N 0 (by omega) (by omega)
  simp only [Int.ofNat_zero, List.drop_zero] at this
  unfold D1 ED
  rw [this]
  have h3 := P6 (fun r : List Bool => decide ((r.length : Int) = m)) (fun i : Nat => (i : Int)) 0 l
  cases hsc : Ei (fun (i : Nat) (r : List Bool) => if decide ((r.length : Int) = m) = true then none else some (i : Int)) 0 l with
  | none => rw [hsc] at h3; rw [← h3]; rfl
  | some b =>
   rw [hsc] at h3
   rw [← h3]
   have : ∀ (i : Nat) (xs : List (List Bool)) b, Ei (fun (i : Nat) (r : List Bool) => if decide ((r.length : Int) = m) = true then none else some (i : Int)) i xs = some b → 0 ≤ b := by
    intro i xs
    induction xs generalizing i with
    | nil => intro b hb; cases hb
    | cons x xs ih =>
     intro b hb
     rw [G5] at hb
     split at hb
     ·rename_i r hr
      cases hb
      split at hr
      ·cases hr
      ·cases hr; omega
     ·exact ih _ b hb
   have := this 0 l b hsc
   simp [Ch, this]
 ·have : ((l.length : Int) == n) = false := by simpa using h1
  simp [this, h1]
open List renaming mem_of_getElem? → lM
open List renaming getD_eq_getElem?_getD → lD
def Ko (l : List (List Bool)) : Option Int := Ei (fun i row => if row.getD i false then none else some 1) 0 l
theorem TW {row : List Bool} {i : Nat} (h : i < row.length) : A5 row (i : Int) = some (row.getD i false) := by
 rw [AZ, lD]; simp [h]
theorem ZT (N : Nat) (t : Aq) (h : t.fo.length < N) (hN : N ≤ 1000000) (hsq : ∀ row, row ∈ t.fo → row.length = t.fo.length) (j : Option Int) :
  CA N t (fun _ => j) N 0 = Ch (Ko t.fo) j := by
 have := DU (CA N t (fun _ => j)) t.fo j (fun i row => if row.getD i false then none else some 1)
  (fun n i x hx => by
   have hi := (lI.1 hx).1
   have hl := hsq x (lM hx)
   rw [CA, AK (by omega), AZ, hx]
   simp only [oS]
   rw [TW (by omega), AF (by omega)]
   simp only [oS]
   cases x.getD i false <;> rfl)
  (fun n => by rw [CA, AD (by omega)]) N 0 (by omega) (by omega)
 simpa [Ko] using this
theorem RA (N : Nat) (t : Aq) (h : t.fo.length < N) (hN : N ≤ 1000000) (hsq : ∀ row, row ∈ t.fo → row.length = t.fo.length) (j : Option Int) :
  Eg N t (fun _ => j) N 0 = Ch (Ko t.fo) j := by
 have := DU (Eg N t (fun _ => j)) t.fo j (fun i row => if row.getD i false then none else some 1)
  (fun n i x hx => by
   have hi := (lI.1 hx).1
   have hl := hsq x (lM hx)
   rw [Eg, AK (by omega), AZ, hx]
   simp only [oS]
   rw [TW (by omega), AF (by omega)]
   simp only [oS]
   cases x.getD i false <;> rfl)
  (fun n => by rw [Eg, AD (by omega)]) N 0 (by omega) (by omega)
 simpa [Ko] using this
theorem PB {l : List (List Bool)} {n m : Int} (h : sq l n m = true) : (l.length : Int) = n ∧ ∀ row, row ∈ l → (row.length : Int) = m := by
 unfold sq at h
 simp only [Bool.and_eq_true, decide_eq_true_eq, List.all_eq_true] at h
 exact h
def EM (p : Ad) (t : Aq) : Int :=
 if t.ff < 1 ∨ 4 < t.ff ∨ (t.fp = true ∧ (t.ff = 3 ∨ t.ff = 4)) then 1
 else if t.fg < 0 ∨ (p.fc.length : Int) ≤ t.fg ∨ t.fk < 0 ∨ (p.fc.length : Int) ≤ t.fk then 4
 else
  let f := p.fc.getD t.fg.toNat 0
  let g := p.fc.getD t.fk.toNat 0
  if sq t.fi f g = false then 6
  else if t.ff = 4 then (if sq t.fo f f = false then 6 else (Ko t.fo).getD 0)
  else if t.fo.length = 0 then 0 else 6
theorem Gb {α : Type} {xs : List α} {i : Int} {d : α} (h0 : 0 ≤ i) (h1 : i < (xs.length : Int)) : A5 xs i = some (xs.getD i.toNat d) := by
 obtain ⟨k, rfl⟩ := Int.eq_ofNat_of_zero_le h0
 rw [AZ, lD, Int.toNat_natCast]
 simp [show k < xs.length from by omega]
theorem X3 {t : Aq} (A B : Option Int) (hk : ¬ (t.fp = true ∧ (t.ff = 3 ∨ t.ff = 4))) : AW t.fp (AW (t.ff == 3 || t.ff == 4) A B) B = B := by
 cases ha : t.fp
 ·rfl
 ·have : (t.ff == 3 || t.ff == 4) = false := by
   rw [Bool.or_eq_false_iff]
   constructor
   ·simp only [beq_eq_false_iff_ne]; intro h; exact hk ⟨ha, .inl h⟩
   ·simp only [beq_eq_false_iff_ne]; intro h; exact hk ⟨ha, .inr h⟩
  rw [this]; rfl
theorem K3 {p : Ad} {i : Int} (hv : ∀ v, v ∈ p.fc → 1 ≤ v ∧ v ≤ 6) (h0 : 0 ≤ i) (h1 : i < (p.fc.length : Int)) : 1 ≤ p.fc.getD i.toNat 0 ∧ p.fc.getD i.toNat 0 ≤ 6 := by
 refine hv _ ?_
 rw [lD, List.getElem?_eq_getElem (by omega)]
 exact List.getElem_mem _
theorem WR (N : Nat) (p : Ad) (t : Aq) (hN : N ≤ 1000000) (h6 : 7 ≤ N) (hv : ∀ v, v ∈ p.fc → 1 ≤ v ∧ v ≤ 6) : FO N p t = some (EM p t) := by
 unfold FO EM
 simp only [Bd, OU, oS]
 by_cases k1 : t.ff < 1
 ·simp [k1]
 by_cases k2 : 4 < t.ff
 ·simp [k1, k2]
 rw [AD k1, AD k2]
 by_cases hk : t.fp = true ∧ (t.ff = 3 ∨ t.ff = 4)
 ·obtain ⟨ha, k | k⟩ := hk <;> simp [ha, k]
 rw [Au, X3 _ _ hk, if_neg (fun h => h.elim k1 fun h => h.elim k2 hk)]
 by_cases f1 : t.fg < 0
 ·simp [f1]
 by_cases f2 : (p.fc.length : Int) ≤ t.fg
 ·simp [f1, f2]
 by_cases f3 : t.fk < 0
 ·simp [f1, f2, f3]
 by_cases f4 : (p.fc.length : Int) ≤ t.fk
 ·simp [f1, f2, f3, f4]
 rw [AD f1, AD f2, AD f3, if_neg (fun h => h.elim f1 fun h => h.elim f2 fun h => h.elim f3 f4)]
 have hf := K3 hv (i := t.fg) (by omega) (by omega)
 rw [decide_eq_false f4, Au, Gb (d := 0) (by omega : 0 ≤ t.fg) (by omega), Gb (d := 0) (by omega : 0 ≤ t.fk) (by omega)]
 simp only [oS]
 generalize p.fc.getD t.fg.toNat 0 = f at *
 generalize p.fc.getD t.fk.toNat 0 = g at *
 rw [R3 N t.fi f g (by omega) hN, R3 N t.fo f f (by omega) hN]
 simp only [oS]
 cases hq : sq t.fi f g
 ·rfl
 simp only [Bool.not_true, Au]
 by_cases k4 : t.ff = 4
 ·have : (t.ff != 4) = false := by simp [k4]
  rw [this, Au]
  simp only [k4, if_true]
  cases hr : sq t.fo f f
  ·rfl
  ·have h7 := PB hr
   simp only [Bool.not_true, Au]
   rw [ZT N t (by omega) hN (fun row hm => by have := h7.2 row hm; omega)]
   cases Ko t.fo <;> simp [Ch]
 ·have : (t.ff != 4) = true := by simpa using k4
  rw [this, AU]
  simp only [k4, if_false]
  by_cases hr : t.fo.length = 0
  ·simp [hr]
  ·have : ((t.fo.length : Int) != 0) = true := bne_iff_ne.2 (by omega)
   rw [this]; simp [hr]
theorem ZP (N : Nat) (k : Int) (a : Bool) : It N k a = some (k == 1 || (k == 2 || ((k == 3 || k == 4) && !a))) := by
 unfold It
 simp only [Bd]
 cases h1 : k == 1 <;> cases h2 : k == 2 <;> cases h3 : k == 3 <;> cases h4 : k == 4 <;> cases a <;> rfl
theorem PK (N : Nat) (p : Ad) (t : Aq) (hN : N ≤ 1000000) (h6 : 7 ≤ N) (hv : ∀ v, v ∈ p.fc → 1 ≤ v ∧ v ≤ 6) : HU N p t = some (EM p t) := by
 unfold HU EM
 simp only [Bd, ZP, R9, oS]
 by_cases hb : t.ff < 1 ∨ 4 < t.ff ∨ (t.fp = true ∧ (t.ff = 3 ∨ t.ff = 4))
 ·have : (t.ff == 1 || (t.ff == 2 || ((t.ff == 3 || t.ff == 4) && !t.fp))) = false := by
   rcases hb with h | h | ⟨ha, h | h⟩
   ·rw [beq_eq_false_iff_ne.2 (by omega : t.ff ≠ 1), beq_eq_false_iff_ne.2 (by omega : t.ff ≠ 2), beq_eq_false_iff_ne.2 (by omega : t.ff ≠ 3), beq_eq_false_iff_ne.2 (by omega : t.ff ≠ 4)]; rfl
   ·rw [beq_eq_false_iff_ne.2 (by omega : t.ff ≠ 1), beq_eq_false_iff_ne.2 (by omega : t.ff ≠ 2), beq_eq_false_iff_ne.2 (by omega : t.ff ≠ 3), beq_eq_false_iff_ne.2 (by omega : t.ff ≠ 4)]; rfl
   ·simp [ha, h]
   ·simp [ha, h]
  rw [this, if_pos hb]; rfl
 ·have : (t.ff == 1 || (t.ff == 2 || ((t.ff == 3 || t.ff == 4) && !t.fp))) = true := by
   have hk : t.ff = 1 ∨ t.ff = 2 ∨ t.ff = 3 ∨ t.ff = 4 := by
    have h1 : ¬ t.ff < 1 := fun h => hb (.inl h)
    have h2 : ¬ 4 < t.ff := fun h => hb (.inr (.inl h))
    omega
   rcases hk with h | h | h | h
   ·simp [h]
   ·simp [h]
   ·cases ha : t.fp
    ·simp [h]
    ·exact (hb (.inr (.inr ⟨ha, .inl h⟩))).elim
   ·cases ha : t.fp
    ·simp [h]
    ·exact (hb (.inr (.inr ⟨ha, .inr h⟩))).elim
  rw [this, if_neg hb]
  simp only [Bool.not_true, Au]
  by_cases f1 : t.fg < 0
  ·simp [f1, show ¬ (0 ≤ t.fg) from by omega]
  by_cases f2 : (p.fc.length : Int) ≤ t.fg
  ·simp [f2, show ¬ (t.fg < (p.fc.length : Int)) from by omega]
  by_cases f3 : t.fk < 0
  ·simp [f3, show 0 ≤ t.fg from by omega, show t.fg < (p.fc.length : Int) from by omega, show ¬ (0 ≤ t.fk) from by omega]
  by_cases f4 : (p.fc.length : Int) ≤ t.fk
  ·simp [f4, show 0 ≤ t.fg from by omega, show t.fg < (p.fc.length : Int) from by omega, show ¬ (t.fk < (p.fc.length : Int)) from by omega]
  rw [if_neg (fun h => h.elim f1 fun h => h.elim f2 fun h => h.elim f3 f4)]
  have hf := K3 hv (i := t.fg) (by omega) (by omega)
  have hg := K3 hv (i := t.fk) (by omega) (by omega)
  rw [decide_eq_true (by omega : 0 ≤ t.fg), decide_eq_true (by omega : t.fg < (p.fc.length : Int)), decide_eq_true (by omega : 0 ≤ t.fk), decide_eq_true (by omega : t.fk < (p.fc.length : Int)), Gb (d := 0) (by omega : 0 ≤ t.fg) (by omega), Gb (d := 0) (by omega : 0 ≤ t.fk) (by omega)]
  simp only [Bool.and_self, Bool.not_true, Au, oS]
  generalize p.fc.getD t.fg.toNat 0 = f at *
  generalize p.fc.getD t.fk.toNat 0 = g at *
  rw [R8 N t.fi f g (by omega) hN, R8 N t.fo f f (by omega) hN]
  simp only [oS]
  cases hq : sq t.fi f g
  ·rfl
  simp only [Bool.not_true, Au]
  by_cases k4 : t.ff = 4
  ·simp only [k4, beq_self_eq_true, AU, if_true]
   cases hr : sq t.fo f f
   ·rfl
   ·have h7 := PB hr
    simp only [Bool.not_true, Au]
    rw [RA N t (by omega) hN (fun row hm => by have := h7.2 row hm; omega)]
    cases Ko t.fo <;> simp [Ch]
  ·have : (t.ff == 4) = false := beq_eq_false_iff_ne.2 k4
   rw [this, Au]
   simp only [k4, if_false, Bool.not_false, AU]
   by_cases hr : t.fo.length = 0
   ·rw [RA N t (by omega) hN (fun row hm => by rw [List.eq_nil_of_length_eq_zero hr] at hm; cases hm), List.eq_nil_of_length_eq_zero hr]
    simp [Ko, Ei, Ch]
   ·rw [decide_eq_true (by omega : 0 < (t.fo.length : Int))]
    simp [hr]
def GT (p : Ad) (i : Nat) (v : Int) : Option Int :=
 if v < 1 ∨ 6 < v ∨ p.fh.getD i 0 < 0 ∨ v ≤ p.fh.getD i 0 ∨ p.fm.getD i 0 < 0 ∨ v ≤ p.fm.getD i 0 then some 7 else none
def Mf (p : Ad) (_ : Nat) (t : Aq) : Option Int := if EM p t = 0 then none else some (EM p t)
def BG (p : Ad) : Int :=
 if 6 < p.fc.length ∨ 12 < p.fb.length then 3
 else if p.fh.length ≠ p.fc.length ∨ p.fm.length ≠ p.fc.length then 6
 else ((Ch (Ei (GT p) 0 p.fc) (Ei (Mf p) 0 p.fb)).getD 0)
theorem Gm {α R : Type} {f : Nat → α → Option R} : ∀ {i : Nat} {xs : List α}, Ei f i xs = none → ∀ j x, xs[j]? = some x → f (i + j) x = none
 | _, [], _, j, x, hx => by simp at hx
 | i, y :: ys, h, j, x, hx => by
  rw [G5] at h
  split at h
  ·cases h
  ·rename_i h0
   cases j with
   | zero => simp at hx; subst hx; exact h0
   | succ j =>
    have := Gm h j x (by simpa using hx)
    rwa [show i + 1 + j = i + (j + 1) from by omega] at this
theorem P1 {p : Ad} (h : Ei (GT p) 0 p.fc = none) : ∀ v, v ∈ p.fc → 1 ≤ v ∧ v ≤ 6 := by
 intro v hv
 obtain ⟨i, hi⟩ := List.mem_iff_getElem?.1 hv
 have := Gm h i v hi
 unfold GT at this
 split at this
 ·cases this
 ·rename_i hn
  constructor
  ·exact Int.not_lt.1 fun h => hn (.inl h)
  ·exact Int.not_lt.1 fun h => hn (.inr (.inl h))
theorem Er {α : Type} {xs : List α} {i : Nat} {d : α} (h : i < xs.length) : A5 xs (i : Int) = some (xs.getD i d) := by
 rw [AZ, lD]; simp [h]
theorem Vq (N : Nat) (p : Ad) (hN : N ≤ 1000000) (h1 : p.fc.length < N) (h2 : p.fh.length = p.fc.length) (h3 : p.fm.length = p.fc.length) (j : Option Int) :
  BC N p (fun _ => j) N 0 = Ch (Ei (GT p) 0 p.fc) j := by
 have := DU (BC N p (fun _ => j)) p.fc j (GT p)
  (fun n i x hx => by
   have hi := (lI.1 hx).1
   rw [BC, AK (by omega), AZ, hx]
   simp only [oS, Bd]
   rw [Er (d := 0) (by omega), Er (d := 0) (by omega), AF (by omega)]
   simp only [oS]
   unfold GT
   generalize p.fh.getD i 0 = a
   generalize p.fm.getD i 0 = b
   by_cases k1 : x < 1 <;> by_cases k2 : 6 < x <;> by_cases k3 : a < 0 <;> by_cases k4 : x ≤ a <;> by_cases k5 : b < 0 <;> by_cases k6 : x ≤ b <;> simp [k1, k2, k3, k4, k5, k6, Ch])
  (fun n => by rw [BC, AD (by omega)]) N 0 (by omega) (by omega)
 simpa using this
theorem S5 (N : Nat) (p : Ad) (hN : N ≤ 1000000) (h1 : p.fc.length < N) (h2 : p.fh.length = p.fc.length) (h3 : p.fm.length = p.fc.length) (j : Option Int) :
  CD N p (fun _ => j) N 0 = Ch (Ei (GT p) 0 p.fc) j := by
 have := DU (CD N p (fun _ => j)) p.fc j (GT p)
  (fun n i x hx => by
   have hi := (lI.1 hx).1
   rw [CD, AK (by omega), AZ, hx]
   simp only [oS, Bd, R9]
   rw [Er (d := 0) (by omega), Er (d := 0) (by omega), AF (by omega)]
   simp only [oS]
   unfold GT
   generalize p.fh.getD i 0 = a
   generalize p.fm.getD i 0 = b
   have e1 : decide (0 ≤ a) = !decide (a < 0) := by rw [← decide_not]; congr 1; simp
   have e2 : decide (a < x) = !decide (x ≤ a) := by rw [← decide_not]; congr 1; simp
   have e3 : decide (0 ≤ b) = !decide (b < 0) := by rw [← decide_not]; congr 1; simp
   have e4 : decide (b < x) = !decide (x ≤ b) := by rw [← decide_not]; congr 1; simp
   rw [e1, e2, e3, e4]
   by_cases k1 : x < 1 <;> by_cases k2 : 6 < x <;> by_cases k3 : a < 0 <;> by_cases k4 : x ≤ a <;> by_cases k5 : b < 0 <;> by_cases k6 : x ≤ b <;> simp [k1, k2, k3, k4, k5, k6, Ch])
  (fun n => by rw [CD, AD (by omega)]) N 0 (by omega) (by omega)
 simpa using this
theorem XO (N : Nat) (p : Ad) (hN : N ≤ 1000000) (h6 : 7 ≤ N) (h1 : p.fb.length < N) (hv : ∀ v, v ∈ p.fc → 1 ≤ v ∧ v ≤ 6) (j : Option Int) :
  Bp N p (fun _ => j) N 0 = Ch (Ei (Mf p) 0 p.fb) j := by
 have := DU (Bp N p (fun _ => j)) p.fb j (Mf p)
  (fun n i x hx => by
   have hi := (lI.1 hx).1
   rw [Bp, AK (by omega), AZ, hx]
   simp only [oS]
   rw [WR N p x hN h6 hv, AF (by omega)]
   simp only [oS]
   unfold Mf
   by_cases k : EM p x = 0
   ·simp [k, Ch]
   ·rw [bne_iff_ne.2 k, if_neg k]; rfl)
  (fun n => by rw [Bp, AD (by omega)]) N 0 (by omega) (by omega)
 simpa using this
theorem Vu (N : Nat) (p : Ad) (hN : N ≤ 1000000) (h6 : 7 ≤ N) (h1 : p.fb.length < N) (hv : ∀ v, v ∈ p.fc → 1 ≤ v ∧ v ≤ 6) (j : Option Int) :
  Ck N p (fun _ => j) N 0 = Ch (Ei (Mf p) 0 p.fb) j := by
 have := DU (Ck N p (fun _ => j)) p.fb j (Mf p)
  (fun n i x hx => by
   have hi := (lI.1 hx).1
   rw [Ck, AK (by omega), AZ, hx]
   simp only [oS]
   rw [PK N p x hN h6 hv, AF (by omega)]
   simp only [oS]
   unfold Mf
   by_cases k : EM p x = 0
   ·simp [k, Ch]
   ·rw [bne_iff_ne.2 k, if_neg k]; rfl)
  (fun n => by rw [Ck, AD (by omega)]) N 0 (by omega) (by omega)
 simpa using this
theorem LB (N : Nat) (p : Ad) (hN : N ≤ 1000000) (h : 20 ≤ N) : BY N p = some (BG p) := by
 unfold BY BG
 simp only [Bd]
 by_cases k1 : 6 < p.fc.length
 ·rw [AK (by omega)]; simp [k1]
 rw [AD (by omega)]
 by_cases k2 : 12 < p.fb.length
 ·rw [decide_eq_true (by omega : (12 : Int) < (p.fb.length : Int))]; simp [k2]
 rw [decide_eq_false (by omega : ¬ (12 : Int) < (p.fb.length : Int)), Au, if_neg (by omega)]
 by_cases k3 : p.fh.length = p.fc.length
 ·by_cases k4 : p.fm.length = p.fc.length
  ·rw [k3, k4]
   simp only [bne_self_eq_false, Au, ne_eq, not_true_eq_false, or_self, if_false]
   rw [Vq N p hN (by omega) k3 k4]
   cases hs : Ei (GT p) 0 p.fc with
   | some r => rfl
   | none =>
    simp only [Ch]
    rw [XO N p hN (by omega) (by omega) (P1 hs)]
    cases Ei (Mf p) 0 p.fb <;> rfl
  ·have : ((p.fm.length : Int) != (p.fc.length : Int)) = true := bne_iff_ne.2 (by omega)
   rw [this, k3]; simp [k4]
 ·have : ((p.fh.length : Int) != (p.fc.length : Int)) = true := bne_iff_ne.2 (by omega)
  rw [this]; simp [k3]
theorem I7 (N : Nat) (p : Ad) (hN : N ≤ 1000000) (h : 20 ≤ N) : BV N p = some (BG p) := by
 unfold BV BG
 simp only [Bd]
 by_cases k1 : 6 < p.fc.length
 ·rw [AK (by omega)]; simp [k1]
 rw [AD (by omega)]
 by_cases k2 : 12 < p.fb.length
 ·rw [decide_eq_true (by omega : (12 : Int) < (p.fb.length : Int))]; simp [k2]
 rw [decide_eq_false (by omega : ¬ (12 : Int) < (p.fb.length : Int)), Au, if_neg (by omega)]
 by_cases k3 : p.fh.length = p.fc.length
 ·by_cases k4 : p.fm.length = p.fc.length
  ·rw [k3, k4]
   simp only [bne_self_eq_false, Au, ne_eq, not_true_eq_false, or_self, if_false]
   rw [S5 N p hN (by omega) k3 k4]
   cases hs : Ei (GT p) 0 p.fc with
   | some r => rfl
   | none =>
    simp only [Ch]
    rw [Vu N p hN (by omega) (by omega) (P1 hs)]
    cases Ei (Mf p) 0 p.fb <;> rfl
  ·have : ((p.fm.length : Int) != (p.fc.length : Int)) = true := bne_iff_ne.2 (by omega)
   rw [this, k3]; simp [k4]
 ·have : ((p.fh.length : Int) != (p.fc.length : Int)) = true := bne_iff_ne.2 (by omega)
  rw [this]; simp [k3]
theorem Kw {n : Int} (h : MN n) : 0 ≤ n ∧ n ≤ 255 := by
 unfold MN at h
 simpa [Lit.wf, IntKind.min, IntKind.max, IntKind.signed, IntKind.bits] using h
theorem Q5 : ∀ k : Fin 256, Ek .u8 0 (k.val : Int) = 0 := by decide +kernel
theorem Re : ∀ k : Fin 256, Ek .u8 (k.val : Int) 0 = (k.val : Int) := by decide +kernel
theorem XR {n : Int} (h : MN n) : Ek .u8 0 n = 0 := by
 have := Kw h
 obtain ⟨k, rfl⟩ := Int.eq_ofNat_of_zero_le this.1
 exact Q5 ⟨k, by omega⟩
theorem Yn {n : Int} (h : MN n) : Ek .u8 n 0 = n := by
 have := Kw h
 obtain ⟨k, rfl⟩ := Int.eq_ofNat_of_zero_le this.1
 exact Re ⟨k, by omega⟩
theorem F2 {α R : Type} {f : Nat → α → Option R} : ∀ {i : Nat} {xs : List α} {r : R}, Ei f i xs = some r → ∃ j x, xs[j]? = some x ∧ f (i + j) x = some r
 | _, [], _, h => by cases h
 | i, y :: ys, r, h => by
  rw [G5] at h
  split at h
  ·rename_i r' h0
   cases h
   exact ⟨0, y, rfl, h0⟩
  ·obtain ⟨j, x, h1, h2⟩ := F2 h
   exact ⟨j + 1, x, by simpa using h1, by rwa [show i + (j + 1) = i + 1 + j from by omega]⟩
structure Bj (p : Ad) : Prop where
 nv : p.fc.length ≤ 6
 nt : p.fb.length ≤ 12
 now : p.fh.length = p.fc.length
 tgt : p.fm.length = p.fc.length
 ver : ∀ v, v ∈ p.fc → 1 ≤ v ∧ v ≤ 6
 tab : ∀ t, t ∈ p.fb → EM p t = 0
theorem U1 (l : List (List Bool)) : (Ko l).getD 0 = 0 ∨ (Ko l).getD 0 = 1 := by
 cases h : Ko l with
 | none => exact .inl rfl
 | some r =>
  obtain ⟨j, x, _, h⟩ := F2 h
  split at h
  ·cases h
  ·cases h; exact .inr rfl
theorem SW (p : Ad) (t : Aq) : EM p t = 0 ∨ EM p t = 1 ∨ EM p t = 4 ∨ EM p t = 6 := by
 unfold EM
 split
 ·exact .inr (.inl rfl)
 split
 ·exact .inr (.inr (.inl rfl))
 simp only
 split
 ·exact .inr (.inr (.inr rfl))
 split
 ·split
  ·exact .inr (.inr (.inr rfl))
  ·rcases U1 t.fo with h | h
   ·exact .inl h
   ·exact .inr (.inl h)
 ·split
  ·exact .inl rfl
  ·exact .inr (.inr (.inr rfl))
theorem JY (p : Ad) : (BG p = 0 ∧ Bj p) ∨ (BG p = 1 ∨ BG p = 3 ∨ BG p = 4 ∨ BG p = 6 ∨ BG p = 7) := by
 unfold BG
 split
 ·simp
 rename_i k1
 split
 ·simp
 rename_i k2
 cases hs : Ei (GT p) 0 p.fc with
 | some r =>
  obtain ⟨j, x, _, h⟩ := F2 hs
  unfold GT at h
  split at h
  ·cases h; simp [Ch]
  ·cases h
 | none =>
  cases ht : Ei (Mf p) 0 p.fb with
  | some r =>
   obtain ⟨j, t, _, h⟩ := F2 ht
   unfold Mf at h
   split at h
   ·cases h
   ·rename_i hne
    cases h
    simp only [Ch, Option.getD_some]
    right
    rcases SW p t with h | h | h | h
    ·exact (hne h).elim
    ·exact .inl h
    ·exact .inr (.inr (.inl h))
    ·exact .inr (.inr (.inr (.inl h)))
  | none =>
   left
   refine ⟨rfl, by omega, by omega, by omega, by omega, P1 hs, fun t hm => ?_⟩
   obtain ⟨j, hj⟩ := List.mem_iff_getElem?.1 hm
   have := Gm ht j t hj
   unfold Mf at this
   split at this
   ·assumption
   ·cases this
def Is (m : Ag) (s : Nat) : Int :=
 if 0 ≤ m.fa.getD s 0 then Q3 .u8 (Dw .u8 1 (m.fd.getD s 0)) (Dw .u8 1 (m.fa.getD s 0)) else Dw .u8 1 (m.fd.getD s 0)
def ND (m : Ag) (i : Nat) (v : Int) : Option Int :=
 if m.fd.getD i 0 < 0 ∨ v ≤ m.fd.getD i 0 ∨ m.fa.getD i 0 < -1 ∨ v ≤ m.fa.getD i 0 then some 7
 else if m.fd.getD i 0 = m.fa.getD i 0 then some 1 else none
def Cx (t : Aq) : Bool := t.ff == 3 || t.ff == 4
def X8 (p : Ad) (t : Aq) : Int := wI .u8 (Dw .u8 1 (p.fc.getD t.fg.toNat 0) - 1)
def Jw (p : Ad) (m : Ag) (i : Nat) (t : Aq) : Option Int :=
 if Cx t = true then (if Ek .u8 (Is m t.fg.toNat) (m.fe.getD i 0) ≠ 0 ∨ Ek .u8 (m.fe.getD i 0) (X8 p t) ≠ 0 then some 1 else none)
 else if m.fe.getD i 0 ≠ 0 then some 1 else none
def GC (p : Ad) (m : Ag) : Int :=
 if BG p ≠ 0 then BG p
 else if m.fd.length ≠ p.fc.length ∨ m.fa.length ≠ p.fc.length ∨ m.fe.length ≠ p.fb.length then 6
 else (Ch (Ei (ND m) 0 p.fc) (Ei (Jw p m) 0 p.fb)).getD 0
theorem Ke {p : Ad} {t : Aq} (h : EM p t = 0) : 0 ≤ t.fg ∧ t.fg < (p.fc.length : Int) ∧ 0 ≤ t.fk ∧ t.fk < (p.fc.length : Int) := by
 unfold EM at h
 split at h
 ·cases h
 ·split at h
  ·cases h
  ·omega
theorem Nr (N : Nat) (m : Ag) (s : Int) (h0 : 0 ≤ s) (h1 : s < (m.fd.length : Int)) (h2 : s < (m.fa.length : Int)) (hb : 0 ≤ m.fd.getD s.toNat 0) : Gr N m s = some (Is m s.toNat) := by
 unfold Gr Is
 rw [Gb (d := 0) h0 h1, Gb (d := 0) h0 h2]
 simp only [oS, Bd]
 rw [show Eh (0 ≤ m.fd.getD s.toNat 0) = some () from by unfold Eh; rw [if_pos hb]]
 simp only [oS]
 by_cases h : 0 ≤ m.fa.getD s.toNat 0
 ·rw [AK h, if_pos h, show Eh (0 ≤ m.fa.getD s.toNat 0) = some () from by unfold Eh; rw [if_pos h]]; rfl
 ·rw [AD h, if_neg h]
theorem LS (N : Nat) (m : Ag) (s : Int) (h0 : 0 ≤ s) (h1 : s < (m.fd.length : Int)) (h2 : s < (m.fa.length : Int)) (hb : 0 ≤ m.fd.getD s.toNat 0) : Ct N m s = some (Is m s.toNat) := by
 unfold Ct Is
 rw [Gb (d := 0) h0 h1, Gb (d := 0) h0 h2]
 simp only [oS, Bd]
 rw [show Eh (0 ≤ m.fd.getD s.toNat 0) = some () from by unfold Eh; rw [if_pos hb]]
 simp only [oS]
 by_cases h : 0 ≤ m.fa.getD s.toNat 0
 ·rw [AK h, if_pos h, show Eh (0 ≤ m.fa.getD s.toNat 0) = some () from by unfold Eh; rw [if_pos h]]; rfl
 ·rw [AD h, if_neg h]
theorem Th (N : Nat) (p : Ad) (m : Ag) (hN : N ≤ 1000000) (h1 : p.fc.length < N) (h2 : m.fd.length = p.fc.length) (h3 : m.fa.length = p.fc.length) (j : Option Int) :
  Fm N p m (fun _ => j) N 0 = Ch (Ei (ND m) 0 p.fc) j := by
 have := DU (Fm N p m (fun _ => j)) p.fc j (ND m)
  (fun n i x hx => by
   have hi := (lI.1 hx).1
   rw [Fm, AK (by omega), AZ, hx]
   simp only [oS, Bd]
   rw [Er (d := 0) (by omega), Er (d := 0) (by omega), AF (by omega)]
   simp only [oS]
   unfold ND
   generalize m.fd.getD i 0 = a
   generalize m.fa.getD i 0 = b
   by_cases k7 : a = b
   ·subst k7
    by_cases k3 : a < 0 <;> by_cases k4 : x ≤ a <;> by_cases k5 : a < -1 <;> simp [k3, k4, k5, Ch]
   ·have k8 : (a == b) = false := beq_eq_false_iff_ne.2 k7
    by_cases k3 : a < 0 <;> by_cases k4 : x ≤ a <;> by_cases k5 : b < -1 <;> by_cases k6 : x ≤ b <;> simp [k3, k4, k5, k6, k7, k8, Ch])
  (fun n => by rw [Fm, AD (by omega)]) N 0 (by omega) (by omega)
 simpa using this
theorem S9 (N : Nat) (p : Ad) (m : Ag) (hN : N ≤ 1000000) (h1 : p.fc.length < N) (h2 : m.fd.length = p.fc.length) (h3 : m.fa.length = p.fc.length) (j : Option Int) :
  CP N p m (fun _ => j) N 0 = Ch (Ei (ND m) 0 p.fc) j := by
 have := DU (CP N p m (fun _ => j)) p.fc j (ND m)
  (fun n i x hx => by
   have hi := (lI.1 hx).1
   rw [CP, AK (by omega), show A5 p.fc (i : Int) = some x from by rw [AZ, hx]]
   simp only [oS, Bd]
   rw [Er (d := 0) (by omega), Er (d := 0) (by omega), AF (by omega)]
   simp only [oS]
   unfold ND
   generalize m.fd.getD i 0 = a
   generalize m.fa.getD i 0 = b
   by_cases k7 : a = b
   ·subst k7
    by_cases k3 : a < 0 <;> by_cases k4 : x ≤ a <;> by_cases k5 : a < -1 <;> simp [k3, k4, k5, Ch]
   ·have k8 : (a == b) = false := beq_eq_false_iff_ne.2 k7
    by_cases k3 : a < 0 <;> by_cases k4 : x ≤ a <;> by_cases k5 : b < -1 <;> by_cases k6 : x ≤ b <;> simp [k3, k4, k5, k6, k7, k8, Ch])
  (fun n => by rw [CP, AD (by omega)]) N 0 (by omega) (by omega)
 simpa using this
structure MixServ (p : Ad) (m : Ag) : Prop where
 base : m.fd.length = p.fc.length
 next : m.fa.length = p.fc.length
 held : m.fe.length = p.fb.length
 b0 : ∀ i, i < p.fc.length → 0 ≤ m.fd.getD i 0 ∧ m.fd.getD i 0 < p.fc.getD i 0
 n0 : ∀ i, i < p.fc.length → -1 ≤ m.fa.getD i 0 ∧ m.fa.getD i 0 < p.fc.getD i 0
 ne : ∀ i, i < p.fc.length → m.fd.getD i 0 ≠ m.fa.getD i 0
theorem Tc {p : Ad} {m : Ag} (h2 : m.fd.length = p.fc.length) (h3 : m.fa.length = p.fc.length) (h4 : m.fe.length = p.fb.length) (h : Ei (ND m) 0 p.fc = none) : MixServ p m := by
 have key : ∀ i, i < p.fc.length → ¬ (m.fd.getD i 0 < 0 ∨ p.fc.getD i 0 ≤ m.fd.getD i 0 ∨ m.fa.getD i 0 < -1 ∨ p.fc.getD i 0 ≤ m.fa.getD i 0) ∧ ¬ m.fd.getD i 0 = m.fa.getD i 0 := by
  intro i hi
  have hx : p.fc[i]? = some (p.fc.getD i 0) := by rw [lD]; simp [hi]
  have := Gm h i _ hx
  rw [Nat.zero_add] at this
  unfold ND at this
  split at this
  ·cases this
  ·split at this
   ·cases this
   ·rename_i k1 k2; exact ⟨k1, k2⟩
 exact ⟨h2, h3, h4, fun i hi => by have := (key i hi).1; omega, fun i hi => by have := (key i hi).1; omega, fun i hi => (key i hi).2⟩
theorem TG {m : Ag} (hw : Qz MN m.fe) {i : Nat} (h : i < m.fe.length) : MN (m.fe.getD i 0) := by
 refine hw _ ?_
 rw [lD, List.getElem?_eq_getElem h]
 exact List.getElem_mem _
theorem K4 (N : Nat) (t : Aq) : GW N t = some (Cx t) := by
 unfold GW Cx
 simp only [Bd]
 cases h : t.ff == 3 <;> simp
theorem Iv (N : Nat) (t : Aq) : Bg N t = some (Cx t) := OU N t
theorem VJ (N : Nat) (p : Ad) (m : Ag) (hN : N ≤ 1000000) (h1 : p.fb.length < N) (hp : Bj p) (hm : MixServ p m) (hw : Qz MN m.fe) (j : Option Int) :
  EY N p m (fun _ => j) N 0 = Ch (Ei (Jw p m) 0 p.fb) j := by
 have := DU (EY N p m (fun _ => j)) p.fb j (Jw p m)
  (fun n i x hx => by
   have hi := (lI.1 hx).1
   have hin := Ke (hp.tab x (lM hx))
   have hheld := TG hw (show i < m.fe.length from by rw [hm.held]; exact hi)
   have hv := K3 hp.ver hin.1 hin.2.1
   rw [EY, AK (by omega), AZ, hx]
   simp only [oS, Bd, K4]
   rw [Nr N m x.fg hin.1 (by rw [hm.base]; exact hin.2.1) (by rw [hm.next]; exact hin.2.1) (hm.b0 _ (by omega)).1, Gb (d := 0) hin.1 hin.2.1, Er (d := 0) (show i < m.fe.length from by rw [hm.held]; exact hi), AF (by omega)]
   simp only [oS]
   rw [show Eh (0 ≤ p.fc.getD x.fg.toNat 0) = some () from by unfold Eh; rw [if_pos (by omega)]]
   simp only [oS]
   unfold Jw X8
   rw [XR hheld, Yn hheld]
   generalize Ek .u8 (Is m x.fg.toNat) (m.fe.getD i 0) = A
   generalize Ek .u8 (m.fe.getD i 0) (wI .u8 (Dw .u8 1 (p.fc.getD x.fg.toNat 0) - 1)) = B
   generalize m.fe.getD i 0 = H
   cases Cx x
   ·simp only [Au, bne_self_eq_false]
    by_cases k : H = 0
    ·simp [k, Ch]
    ·have : (H != 0) = true := bne_iff_ne.2 k
     simp [k, this, Ch]
   ·simp only [AU]
    by_cases k : A = 0
    ·by_cases k2 : B = 0
     ·simp [k, k2, Ch]
     ·have : (B != 0) = true := bne_iff_ne.2 k2
      simp [k, k2, this, Ch]
    ·have : (A != 0) = true := bne_iff_ne.2 k
     simp [k, this, Ch])
  (fun n => by rw [EY, AD (by omega)]) N 0 (by omega) (by omega)
 simpa using this
theorem VB (N : Nat) (p : Ad) (m : Ag) (hN : N ≤ 1000000) (h1 : p.fb.length < N) (hp : Bj p) (hm : MixServ p m) (j : Option Int) :
  Cz N p m (fun _ => j) N 0 = Ch (Ei (Jw p m) 0 p.fb) j := by
 have := DU (Cz N p m (fun _ => j)) p.fb j (Jw p m)
  (fun n i x hx => by
   have hi := (lI.1 hx).1
   have hin := Ke (hp.tab x (lM hx))
   have hv := K3 hp.ver hin.1 hin.2.1
   rw [Cz, AK (by omega), AZ, hx]
   simp only [oS, Bd, Iv]
   rw [LS N m x.fg hin.1 (by rw [hm.base]; exact hin.2.1) (by rw [hm.next]; exact hin.2.1) (hm.b0 _ (by omega)).1, Gb (d := 0) hin.1 hin.2.1, Er (d := 0) (show i < m.fe.length from by rw [hm.held]; exact hi), AF (by omega)]
   simp only [oS]
   rw [show Eh (0 ≤ p.fc.getD x.fg.toNat 0) = some () from by unfold Eh; rw [if_pos (by omega)]]
   simp only [oS]
   unfold Jw X8
   generalize Ek .u8 (Is m x.fg.toNat) (m.fe.getD i 0) = A
   generalize Ek .u8 (m.fe.getD i 0) (wI .u8 (Dw .u8 1 (p.fc.getD x.fg.toNat 0) - 1)) = B
   generalize m.fe.getD i 0 = H
   cases Cx x
   ·simp only [Bool.not_false, AU, Au]
    by_cases k : H = 0
    ·simp [k, Ch]
    ·have : (H != 0) = true := bne_iff_ne.2 k
     simp [k, this, Ch]
   ·simp only [Bool.not_true, Au, AU]
    by_cases k : A = 0
    ·by_cases k2 : B = 0
     ·simp [k, k2, Ch]
     ·have : (B != 0) = true := bne_iff_ne.2 k2
      simp [k, k2, this, Ch]
    ·have : (A != 0) = true := bne_iff_ne.2 k
     by_cases k2 : B = 0
     ·simp [k, k2, this, Ch]
     ·have h5 : (B != 0) = true := bne_iff_ne.2 k2
      simp [k, h5, Ch])
  (fun n => by rw [Cz, AD (by omega)]) N 0 (by omega) (by omega)
 simpa using this
theorem J2 (N : Nat) (p : Ad) (m : Ag) (hN : N ≤ 1000000) (h : 20 ≤ N) (hw : Qz MN m.fe) : GM N p m = some (GC p m) := by
 unfold GM GC
 rw [I7 N p hN h]
 simp only [oS, Bd]
 by_cases k0 : BG p = 0
 ·have hp : Bj p := by
   rcases JY p with h | h
   ·exact h.2
   ·omega
  have hnv := hp.nv
  have hnt := hp.nt
  rw [k0]
  simp only [bne_self_eq_false, Au, ne_eq, not_true_eq_false, if_false]
  by_cases k1 : m.fd.length = p.fc.length
  ·by_cases k2 : m.fa.length = p.fc.length
   ·by_cases k3 : m.fe.length = p.fb.length
    ·rw [k1, k2, k3]
     simp only [bne_self_eq_false, Au, not_true_eq_false, or_self, if_false]
     rw [Th N p m hN (by omega) k1 k2]
     cases hs : Ei (ND m) 0 p.fc with
     | some r => rfl
     | none =>
      simp only [Ch]
      rw [VJ N p m hN (by omega) hp (Tc k1 k2 k3 hs) hw]
      cases Ei (Jw p m) 0 p.fb <;> rfl
    ·have : ((m.fe.length : Int) != (p.fb.length : Int)) = true := bne_iff_ne.2 (by omega)
     rw [this, k1, k2]; simp [k3]
   ·have : ((m.fa.length : Int) != (p.fc.length : Int)) = true := bne_iff_ne.2 (by omega)
    rw [this, k1]; simp [k2]
  ·have : ((m.fd.length : Int) != (p.fc.length : Int)) = true := bne_iff_ne.2 (by omega)
   rw [this]; simp [k1]
 ·rw [bne_iff_ne.2 k0]; simp [k0]
theorem SE (N : Nat) (p : Ad) (m : Ag) (hN : N ≤ 1000000) (h : 20 ≤ N) : FK N p m = some (GC p m) := by
 unfold FK GC
 rw [LB N p hN h]
 simp only [oS, Bd]
 by_cases k0 : BG p = 0
 ·have hp : Bj p := by
   rcases JY p with h | h
   ·exact h.2
   ·omega
  have hnv := hp.nv
  have hnt := hp.nt
  rw [k0]
  simp only [bne_self_eq_false, Au, ne_eq, not_true_eq_false, if_false]
  by_cases k1 : m.fd.length = p.fc.length
  ·by_cases k2 : m.fa.length = p.fc.length
   ·by_cases k3 : m.fe.length = p.fb.length
    ·rw [k1, k2, k3]
     simp only [bne_self_eq_false, Au, not_true_eq_false, or_self, if_false]
     rw [S9 N p m hN (by omega) k1 k2]
     cases hs : Ei (ND m) 0 p.fc with
     | some r => rfl
     | none =>
      simp only [Ch]
      rw [VB N p m hN (by omega) hp (Tc k1 k2 k3 hs)]
      cases Ei (Jw p m) 0 p.fb <;> rfl
    ·have : ((m.fe.length : Int) != (p.fb.length : Int)) = true := bne_iff_ne.2 (by omega)
     rw [this, k1, k2]; simp [k3]
   ·have : ((m.fa.length : Int) != (p.fc.length : Int)) = true := bne_iff_ne.2 (by omega)
    rw [this, k1]; simp [k2]
  ·have : ((m.fd.length : Int) != (p.fc.length : Int)) = true := bne_iff_ne.2 (by omega)
   rw [this]; simp [k1]
 ·rw [bne_iff_ne.2 k0]; simp [k0]
@[simp] theorem Bn {α β : Type} (k : α) (f : α → β) : Bd k f = f k := rfl
@[simp] theorem Xs {p : Prop} [Decidable p] (h : p) : Eh p = some () := by unfold Eh; rw [if_pos h]
theorem As {β : Type} {p : Prop} [Decidable p] (h : p) (f : Unit → Option β) : (Eh p).bind f = f () := by rw [Xs h]; rfl
def BE {α β : Type} (g : Nat → α → List β) : Nat → List α → List β
 | _, [] => []
 | i, x :: xs => g i x ++ BE g (i + 1) xs
def IK {α A : Type} (f : Nat → α → A → A) : Nat → List α → A → A
 | _, [], a => a
 | i, x :: xs, a => IK f (i + 1) xs (f i x a)
theorem NM {α β : Type} (g : Nat → α → List β) : ∀ (i : Nat) (xs ys : List α), BE g i (xs ++ ys) = BE g i xs ++ BE g (i + xs.length) ys
 | i, [], ys => by simp [BE]
 | i, x :: xs, ys => by
  rw [List.cons_append, BE, BE, NM g (i + 1) xs ys, List.append_assoc, List.length_cons, Nat.add_assoc, Nat.add_comm 1]
theorem Gn {α β : Type} {g : Nat → α → List β} {y : β} : ∀ {i : Nat} {xs : List α}, y ∈ BE g i xs ↔ ∃ j x, xs[j]? = some x ∧ y ∈ g (i + j) x
 | _, [] => by simp [BE]
 | i, x :: xs => by
  rw [BE, List.mem_append, Gn]
  constructor
  ·rintro (h | ⟨j, z, hz, h⟩)
   ·exact ⟨0, x, rfl, h⟩
   ·exact ⟨j + 1, z, by simpa using hz, by rwa [show i + (j + 1) = i + 1 + j from by omega]⟩
  ·rintro ⟨j, z, hz, h⟩
   cases j with
   | zero => simp at hz; subst hz; exact .inl h
   | succ j => exact .inr ⟨j, z, by simpa using hz, by rwa [show i + 1 + j = i + (j + 1) from by omega]⟩
theorem KZ {α β : Type} {g : Nat → α → List β} {i : Nat} {xs : List α} : BE g i xs = [] ↔ ∀ j x, xs[j]? = some x → g (i + j) x = [] := by
 rw [List.eq_nil_iff_forall_not_mem]
 constructor
 ·intro h j x hx
  rw [List.eq_nil_iff_forall_not_mem]
  exact fun y hy => h y (Gn.2 ⟨j, x, hx, hy⟩)
 ·intro h y hy
  obtain ⟨j, x, hx, hm⟩ := Gn.1 hy
  rw [h j x hx] at hm; cases hm
theorem Gq {α β : Type} {g : Nat → α → List β} {c : Nat} : ∀ {i : Nat} {xs : List α}, (∀ j x, xs[j]? = some x → (g (i + j) x).length ≤ c) → (BE g i xs).length ≤ c * xs.length
 | _, [], _ => by simp [BE]
 | i, x :: xs, h => by
  have h1 := h 0 x rfl
  have h2 := Gq (g := g) (c := c) (i := i + 1) (xs := xs) fun j y hy => by
   have := h (j + 1) y (by simpa using hy)
   rwa [show i + (j + 1) = i + 1 + j from by omega] at this
  rw [BE, List.length_append, List.length_cons, Nat.mul_add]
  simp only [Nat.add_zero] at h1
  omega
theorem IM {α A S R : Type} (L : Nat → S → Option R) (mk : A → Int → S) (xs : List α) (j : A → Option R) (f : Nat → α → A → A) (I : Nat → A → Prop)
  (hs : ∀ (n i : Nat) (x : α) (a : A), xs[i]? = some x → I i a → L (n + 1) (mk a (i : Int)) = L n (mk (f i x a) ((i + 1 : Nat) : Int)) ∧ I (i + 1) (f i x a))
  (he : ∀ (n : Nat) (a : A), I xs.length a → L (n + 1) (mk a (xs.length : Int)) = j a) :
  ∀ (n i : Nat) (a : A), i ≤ xs.length → xs.length - i < n → I i a → L n (mk a (i : Int)) = j (IK f i (xs.drop i) a) ∧ I xs.length (IK f i (xs.drop i) a)
 | 0, i, _, _, h, _ => by omega
 | n + 1, i, a, hi, h, ha => by
  by_cases h1 : i < xs.length
  ·have hx : xs[i]? = some xs[i] := by simp [h1]
   obtain ⟨e1, e2⟩ := hs n i _ a hx ha
   rw [e1, H8 hx, IK]
   exact IM L mk xs j f I hs he n (i + 1) _ (by omega) (by omega) e2
  ·have : i = xs.length := by omega
   subst this
   rw [List.drop_eq_nil_of_le (Nat.le_refl _), IK]
   exact ⟨he n a ha, ha⟩
theorem PL {α β : Type} (g : Nat → α → List β) : ∀ (i : Nat) (xs : List α) (acc : List β), IK (fun i x a => a ++ g i x) i xs acc = acc ++ BE g i xs
 | _, [], acc => by simp [IK, BE]
 | i, x :: xs, acc => by rw [IK, PL g (i + 1) xs, BE, List.append_assoc]
theorem DG {α β S R : Type} (L : Nat → S → Option R) (mk : List β → Int → S) (xs : List α) (j : List β → Option R) (g : Nat → α → List β) (c B : Nat)
  (hg : ∀ i x, xs[i]? = some x → (g i x).length ≤ c)
  (hs : ∀ (n i : Nat) (x : α) (a : List β), xs[i]? = some x → a.length + (g i x).length ≤ B → L (n + 1) (mk a (i : Int)) = L n (mk (a ++ g i x) ((i + 1 : Nat) : Int)))
  (he : ∀ (n : Nat) (a : List β), L (n + 1) (mk a (xs.length : Int)) = j a) (n : Nat) (a : List β) (hn : xs.length < n) (ha : a.length + c * xs.length ≤ B) :
  L n (mk a 0) = j (a ++ BE g 0 xs) := by
 have := IM L mk xs j (fun i x a => a ++ g i x) (fun i b => i ≤ xs.length ∧ b.length ≤ a.length + c * i)
  (fun n i x b hx hb => by
   have h1 := hg i x hx
   have hi := (lI.1 hx).1
   have h2 : c * (i + 1) ≤ c * xs.length := Nat.mul_le_mul_left c hi
   have h3 : c * (i + 1) = c * i + c := Nat.mul_succ c i
   refine ⟨hs n i x b hx (by have := hb.2; omega), hi, ?_⟩
   rw [List.length_append]
   have := hb.2
   omega)
  (fun n b _ => he n b) n 0 a (Nat.zero_le _) (by omega) ⟨Nat.zero_le _, by omega⟩
 have h2 := this.1
 rw [List.drop_zero, PL] at h2
 exact h2
def EZ (s : Int) (v : Nat) : Bool := s.toNat.testBit v
def JW (m : Ag) (s v : Nat) : Bool := decide (m.fd.getD s 0 = (v : Int)) || decide (m.fa.getD s 0 = (v : Int))
theorem YO : ∀ (s : Fin 256) (v : Fin 8), Hh .u8 (FA .u8 (s.val : Int) (v.val : Int)) 1 = if EZ (s.val : Int) v.val then 1 else 0 := by decide +kernel
theorem SA {s : Int} {v : Nat} (h0 : 0 ≤ s) (h1 : s ≤ 255) (hv : v < 8) : Hh .u8 (FA .u8 s (v : Int)) 1 = if EZ s v then 1 else 0 := by
 obtain ⟨k, rfl⟩ := Int.eq_ofNat_of_zero_le h0
 exact YO ⟨k, by omega⟩ ⟨v, hv⟩
theorem TJ {s : Int} {v : Nat} (h0 : 0 ≤ s) (h1 : s ≤ 255) (hv : v < 8) : (Hh .u8 (FA .u8 s (v : Int)) 1 == 0) = !EZ s v := by
 rw [SA h0 h1 hv]; cases EZ s v <;> rfl
theorem Ty {s : Int} {v : Nat} (h0 : 0 ≤ s) (h1 : s ≤ 255) (hv : v < 8) : (Hh .u8 (FA .u8 s (v : Int)) 1 == 1) = EZ s v := by
 rw [SA h0 h1 hv]; cases EZ s v <;> rfl
theorem LL {s : Int} {v : Nat} (h1 : s ≤ 255) (hv : 8 ≤ v) : EZ s v = false := by
 unfold EZ
 apply Nat.testBit_lt_two_pow
 have : (2 : Nat) ^ 8 ≤ 2 ^ v := Nat.pow_le_pow_right (by omega) hv
 omega
theorem LM : ∀ (b : Fin 8) (v : Fin 8), EZ (Dw .u8 1 (b.val : Int)) v.val = decide (b.val = v.val) ∧ 0 ≤ Dw .u8 1 (b.val : Int) ∧ Dw .u8 1 (b.val : Int) ≤ 255 := by decide +kernel
theorem Y4 : ∀ (b n : Fin 8) (v : Fin 8), EZ (Q3 .u8 (Dw .u8 1 (b.val : Int)) (Dw .u8 1 (n.val : Int))) v.val = (decide (b.val = v.val) || decide (n.val = v.val))
  ∧ 0 ≤ Q3 .u8 (Dw .u8 1 (b.val : Int)) (Dw .u8 1 (n.val : Int)) ∧ Q3 .u8 (Dw .u8 1 (b.val : Int)) (Dw .u8 1 (n.val : Int)) ≤ 255 := by decide +kernel
theorem YE {m : Ag} {s : Nat} (hb0 : 0 ≤ m.fd.getD s 0) (hb1 : m.fd.getD s 0 < 8) (hn1 : m.fa.getD s 0 < 8) :
  (∀ v, EZ (Is m s) v = JW m s v) ∧ 0 ≤ Is m s ∧ Is m s ≤ 255 := by
 unfold Is JW
 obtain ⟨b, hb⟩ := Int.eq_ofNat_of_zero_le hb0
 rw [hb] at hb1 ⊢
 by_cases h : 0 ≤ m.fa.getD s 0
 ·obtain ⟨n, hn⟩ := Int.eq_ofNat_of_zero_le h
  rw [hn] at hn1 ⊢
  rw [if_pos (by omega)]
  have h1 := Y4 ⟨b, by omega⟩ ⟨n, by omega⟩
  refine ⟨fun v => ?_, (h1 0).2⟩
  by_cases hv : v < 8
  ·rw [(h1 ⟨v, hv⟩).1]
   simp only [Int.ofNat_inj]
  ·rw [LL (h1 0).2.2 (by omega)]
   simp; omega
 ·rw [if_neg h]
  have h1 := LM ⟨b, by omega⟩
  refine ⟨fun v => ?_, (h1 0).2⟩
  have h3 : decide (m.fa.getD s 0 = (v : Int)) = false := decide_eq_false (by omega)
  rw [h3, Bool.or_false]
  by_cases hv : v < 8
  ·rw [(h1 ⟨v, hv⟩).1]
   simp only [Int.ofNat_inj]
  ·rw [LL (h1 0).2.2 (by omega)]
   simp; omega
theorem YB {a : Nat} (h : a < 256) : (BitVec.ofInt 8 (a : Int)).toNat = a := by
 simp; omega
theorem QA {a b : Int} (ha : 0 ≤ a ∧ a ≤ 255) (hb : 0 ≤ b ∧ b ≤ 255) : Ek .u8 a b = 0 ↔ ∀ v, EZ a v = true → EZ b v = true := by
 obtain ⟨a, rfl⟩ := Int.eq_ofNat_of_zero_le ha.1
 obtain ⟨b, rfl⟩ := Int.eq_ofNat_of_zero_le hb.1
 have hA := YB (a := a) (by omega)
 have hB := YB (a := b) (by omega)
 unfold Ek EZ
 simp only [IntKind.bits, Int.toNat_natCast]
 have hx : ∀ x : BitVec 8, wI .u8 (x.toNat : Int) = (x.toNat : Int) := by
  intro x
  have := x.isLt
  simp [wI, IntKind.signed, IntKind.bits]
  omega
 rw [hx]
 constructor
 ·intro h v hv
  have h0 : (BitVec.ofInt 8 (a : Int) &&& ~~~BitVec.ofInt 8 (b : Int)) = (BitVec.ofNat 8 0) := by
   apply BitVec.eq_of_toNat_eq
   simp only [BitVec.toNat_ofNat, Nat.zero_mod]
   exact Int.ofNat_inj.1 h
  by_cases hv8 : v < 8
  ·have h1 : (BitVec.ofInt 8 (a : Int) &&& ~~~BitVec.ofInt 8 (b : Int)).getLsbD v = false := by rw [h0]; simp
   rw [BitVec.getLsbD_and, BitVec.getLsbD_not] at h1
   have e1 : (BitVec.ofInt 8 (a : Int)).getLsbD v = a.testBit v := by unfold BitVec.getLsbD; rw [hA]
   have e2 : (BitVec.ofInt 8 (b : Int)).getLsbD v = b.testBit v := by unfold BitVec.getLsbD; rw [hB]
   rw [e1, e2, hv] at h1
   simpa [hv8] using h1
  ·have := LL (s := (a : Int)) (v := v) (by omega) (by omega)
   unfold EZ at this
   rw [Int.toNat_natCast, hv] at this
   cases this
 ·intro h
  have h0 : (BitVec.ofInt 8 (a : Int) &&& ~~~BitVec.ofInt 8 (b : Int)) = (BitVec.ofNat 8 0) := by
   apply BitVec.eq_of_getLsbD_eq
   intro i hi
   rw [BitVec.getLsbD_and, BitVec.getLsbD_not]
   have e1 : (BitVec.ofInt 8 (a : Int)).getLsbD i = a.testBit i := by unfold BitVec.getLsbD; rw [hA]
   have e2 : (BitVec.ofInt 8 (b : Int)).getLsbD i = b.testBit i := by unfold BitVec.getLsbD; rw [hB]
   rw [e1, e2]
   have := h i
   cases h3 : a.testBit i
   ·simp
   ·rw [this h3]; simp
  have h2 : ∀ x : BitVec 8, x = (BitVec.ofNat 8 0) → (x.toNat : Int) = 0 := fun x hx => by rw [hx]; rfl
  exact h2 _ h0
theorem Zn : ∀ n : Fin 9, (∀ v : Fin 8, EZ (wI .u8 (Dw .u8 1 (n.val : Int) - 1)) v.val = decide (v.val < n.val)) ∧ 0 ≤ wI .u8 (Dw .u8 1 (n.val : Int) - 1) ∧ wI .u8 (Dw .u8 1 (n.val : Int) - 1) ≤ 255 := by decide +kernel
theorem ZO {n : Int} (h0 : 0 ≤ n) (h1 : n ≤ 8) : (∀ v, EZ (wI .u8 (Dw .u8 1 n - 1)) v = decide ((v : Int) < n)) ∧ 0 ≤ wI .u8 (Dw .u8 1 n - 1) ∧ wI .u8 (Dw .u8 1 n - 1) ≤ 255 := by
 obtain ⟨n, rfl⟩ := Int.eq_ofNat_of_zero_le h0
 have h := Zn ⟨n, by omega⟩
 refine ⟨fun v => ?_, h.2⟩
 by_cases hv : v < 8
 ·rw [h.1 ⟨v, hv⟩]; simp
 ·rw [LL h.2.2 (by omega)]
  symm; apply decide_eq_false; omega
structure Cs (p : Ad) (m : Ag) : Prop extends MixServ p m where
 range : ∀ i, i < p.fb.length → 0 ≤ m.fe.getD i 0 ∧ m.fe.getD i 0 ≤ 255
 low : ∀ i t, p.fb[i]? = some t → Cx t = true → ∀ v, JW m t.fg.toNat v = true → EZ (m.fe.getD i 0) v = true
 high : ∀ i t, p.fb[i]? = some t → Cx t = true → ∀ v, EZ (m.fe.getD i 0) v = true → (v : Int) < p.fc.getD t.fg.toNat 0
 none : ∀ i t, p.fb[i]? = some t → Cx t = false → m.fe.getD i 0 = 0
theorem JK {p : Ad} (hp : Bj p) {i : Nat} (hi : i < p.fc.length) : 1 ≤ p.fc.getD i 0 ∧ p.fc.getD i 0 ≤ 6 := by
 have := K3 (i := (i : Int)) hp.ver (by omega) (by omega)
 simpa using this
theorem JA {p : Ad} {m : Ag} (hp : Bj p) (hm : MixServ p m) {s : Nat} (hs : s < p.fc.length) :
  (∀ v, EZ (Is m s) v = JW m s v) ∧ 0 ≤ Is m s ∧ Is m s ≤ 255 := by
 have h1 := hm.b0 s hs
 have h2 := hm.n0 s hs
 have h3 := JK hp hs
 exact YE h1.1 (by omega) (by omega)
theorem UN {p : Ad} {m : Ag} (hp : Bj p) (hm : MixServ p m) {i : Nat} {t : Aq} (ht : p.fb[i]? = some t) (hr : 0 ≤ m.fe.getD i 0 ∧ m.fe.getD i 0 ≤ 255) :
  Jw p m i t = none ↔ ((Cx t = true → (∀ v, JW m t.fg.toNat v = true → EZ (m.fe.getD i 0) v = true) ∧ (∀ v, EZ (m.fe.getD i 0) v = true → (v : Int) < p.fc.getD t.fg.toNat 0)) ∧ (Cx t = false → m.fe.getD i 0 = 0)) := by
 have hin := Ke (hp.tab t (lM ht))
 have hrun := JA hp hm (s := t.fg.toNat) (by omega)
 have hver := JK hp (i := t.fg.toNat) (by omega)
 have hall := ZO (n := p.fc.getD t.fg.toNat 0) (by omega) (by omega)
 unfold Jw X8
 have e1 := QA hrun.2 hr
 have e2 := QA hr hall.2
 cases hst : Cx t
 ·simp
 ·simp only [if_true, true_implies, Bool.true_eq_false, false_implies, and_true, ite_eq_right_iff, reduceCtorEq, imp_false, not_or, Decidable.not_not]
  rw [e1, e2]
  simp only [hrun.1, hall.1, decide_eq_true_eq]
theorem Mq {p : Ad} {m : Ag} (hw : Qz MN m.fe) (h : GC p m = 0) : Bj p ∧ Cs p m := by
 unfold GC at h
 split at h
 ·rename_i k; exact (k h).elim
 ·rename_i k0
  have hp : Bj p := by
   rcases JY p with h | h
   ·exact h.2
   ·omega
  split at h
  ·cases h
  ·rename_i k1
   have b1 : m.fd.length = p.fc.length := Decidable.not_not.1 fun h => k1 (.inl h)
   have b2 : m.fa.length = p.fc.length := Decidable.not_not.1 fun h => k1 (.inr (.inl h))
   have b3 : m.fe.length = p.fb.length := Decidable.not_not.1 fun h => k1 (.inr (.inr h))
   cases hs : Ei (ND m) 0 p.fc with
   | some r =>
    obtain ⟨j, x, _, he⟩ := F2 hs
    rw [hs] at h
    unfold ND at he
    simp only [Ch, Option.getD_some] at h
    split at he
    ·cases he; cases h
    ·split at he
     ·cases he; cases h
     ·cases he
   | none =>
    have hm := Tc b1 b2 b3 hs
    rw [hs] at h
    simp only [Ch] at h
    cases ht : Ei (Jw p m) 0 p.fb with
    | some r =>
     obtain ⟨j, x, _, he⟩ := F2 ht
     rw [ht] at h
     simp only [Option.getD_some] at h
     subst h
     unfold Jw at he
     split at he
     ·split at he <;> cases he
     ·split at he <;> cases he
    | none =>
     have hr : ∀ i, i < p.fb.length → 0 ≤ m.fe.getD i 0 ∧ m.fe.getD i 0 ≤ 255 := fun i hi => Kw (TG hw (by omega))
     have key : ∀ i t, p.fb[i]? = some t → _ := fun i t hi => (UN hp hm hi (hr i (lI.1 hi).1)).1 (by have := Gm ht i t hi; rwa [Nat.zero_add] at this)
     exact ⟨hp, hm, hr, fun i t hi hst => ((key i t hi).1 hst).1, fun i t hi hst => ((key i t hi).1 hst).2, fun i t hi hst => (key i t hi).2 hst⟩
theorem GO {α R : Type} {f : Nat → α → Option R} : ∀ {i : Nat} {xs : List α}, (∀ j x, xs[j]? = some x → f (i + j) x = none) → Ei f i xs = none
 | _, [], _ => rfl
 | i, y :: ys, h => by
  rw [G5, show f i y = none from h 0 y rfl]
  exact GO fun j x hx => by
   have := h (j + 1) x (by simpa using hx)
   rwa [show i + (j + 1) = i + 1 + j from by omega] at this
theorem S6 {p : Ad} (hp : Bj p) (hr : ∀ i, i < p.fc.length → 0 ≤ p.fh.getD i 0 ∧ p.fh.getD i 0 < p.fc.getD i 0 ∧ 0 ≤ p.fm.getD i 0 ∧ p.fm.getD i 0 < p.fc.getD i 0) : BG p = 0 := by
 have := hp.nv
 have := hp.nt
 have := hp.now
 have := hp.tgt
 unfold BG
 rw [if_neg (by omega), if_neg (by omega)]
 have h1 : Ei (GT p) 0 p.fc = none := GO fun j x hx => by
  have hj := (lI.1 hx).1
  have h1 := hr j hj
  have h2 := JK hp hj
  have e : p.fc.getD j 0 = x := by rw [lD, hx]; rfl
  rw [e] at h1 h2
  unfold GT
  rw [Nat.zero_add, if_neg (by omega)]
 have h2 : Ei (Mf p) 0 p.fb = none := GO fun j x hx => by
  unfold Mf
  rw [if_pos (hp.tab x (lM hx))]
 rw [h1, h2]; rfl
theorem Dl {p : Ad} (h : BG p = 0) : Bj p ∧ ∀ i, i < p.fc.length → 0 ≤ p.fh.getD i 0 ∧ p.fh.getD i 0 < p.fc.getD i 0 ∧ 0 ≤ p.fm.getD i 0 ∧ p.fm.getD i 0 < p.fc.getD i 0 := by
 have hp : Bj p := by
  rcases JY p with h | h
  ·exact h.2
  ·omega
 refine ⟨hp, fun i hi => ?_⟩
 have h1 := hp.nv
 have h2 := hp.nt
 have h3 := hp.now
 have h4 := hp.tgt
 unfold BG at h
 rw [if_neg (by omega), if_neg (by omega)] at h
 cases hs : Ei (GT p) 0 p.fc with
 | some r =>
  obtain ⟨j, x, _, he⟩ := F2 hs
  rw [hs] at h
  unfold GT at he
  split at he
  ·cases he; cases h
  ·cases he
 | none =>
  have hx : p.fc[i]? = some (p.fc.getD i 0) := by rw [lD]; simp [hi]
  have := Gm hs i _ hx
  rw [Nat.zero_add] at this
  unfold GT at this
  split at this
  ·cases this
  ·rename_i hn; omega
theorem Ll {p : Ad} {m : Ag} (hv : BG p = 0) (hm : Cs p m) : GC p m = 0 := by
 obtain ⟨hp, _⟩ := Dl hv
 unfold GC
 rw [hv, if_neg (by simp), if_neg (by have := hm.base; have := hm.next; have := hm.held; omega)]
 have h1 : Ei (ND m) 0 p.fc = none := GO fun j x hx => by
  have hj := (lI.1 hx).1
  have e : p.fc.getD j 0 = x := by rw [lD, hx]; rfl
  have h1 := hm.b0 j hj
  have h2 := hm.n0 j hj
  have h3 := hm.ne j hj
  rw [e] at h1 h2
  unfold ND
  rw [Nat.zero_add, if_neg (by omega), if_neg h3]
 have h2 : Ei (Jw p m) 0 p.fb = none := GO fun j x hx => by
  have hj := (lI.1 hx).1
  rw [Nat.zero_add]
  exact (UN hp hm.toMixServ hx (hm.range j hj)).2 ⟨fun hst => ⟨hm.low j x hx hst, hm.high j x hx hst⟩, fun hst => hm.none j x hx hst⟩
 rw [h1, h2]; rfl
def MV {α : Type} (g : Nat → α → Bool) : Nat → List α → Bool
 | _, [] => false
 | i, x :: xs => g i x || MV g (i + 1) xs
theorem Qc {α : Type} {g : Nat → α → Bool} : ∀ {i : Nat} {xs : List α}, MV g i xs = true ↔ ∃ j x, xs[j]? = some x ∧ g (i + j) x = true
 | _, [] => by simp [MV]
 | i, x :: xs => by
  rw [MV, Bool.or_eq_true, Qc]
  constructor
  ·rintro (h | ⟨j, z, hz, h⟩)
   ·exact ⟨0, x, rfl, h⟩
   ·exact ⟨j + 1, z, by simpa using hz, by rwa [show i + (j + 1) = i + 1 + j from by omega]⟩
  ·rintro ⟨j, z, hz, h⟩
   cases j with
   | zero => simp at hz; subst hz; exact .inl h
   | succ j => exact .inr ⟨j, z, by simpa using hz, by rwa [show i + 1 + j = i + (j + 1) from by omega]⟩
theorem NC {α β : Type} (g : Nat → α → List β) (h : Nat → α → Bool) : ∀ (i : Nat) (xs : List α) (a : List β) (b : Bool),
  IK (fun i x (s : List β × Bool) => (s.1 ++ g i x, s.2 || h i x)) i xs (a, b) = (a ++ BE g i xs, b || MV h i xs)
 | _, [], a, b => by simp [IK, BE, MV]
 | i, x :: xs, a, b => by rw [IK, NC g h, BE, MV, List.append_assoc, Bool.or_assoc]
def gC (i u : Nat) (m : Ag) (t : Aq) (v : Nat) (ok : Bool) : List Aa :=
 if JW m t.fk.toNat v && (!ok && !t.fp) then [⟨(i : Int), (u : Int), (v : Int)⟩] else []
def hC (m : Ag) (t : Aq) (v : Nat) (ok : Bool) : Bool := JW m t.fk.toNat v && ok
def La (i : Nat) (m : Ag) (t : Aq) (u : Nat) (row : List Bool) : List Aa :=
 BE (gC i u m t) 0 row ++ if t.fp && !MV (hC m t) 0 row then [⟨(i : Int), (u : Int), -1⟩] else []
def Uj (m : Ag) (i : Nat) (t : Aq) (u : Nat) : Bool := if Cx t then EZ (m.fe.getD i 0) u else JW m t.fg.toNat u
def KI (m : Ag) (i : Nat) (t : Aq) : List Aa := BE (fun u row => if Uj m i t u then La i m t u row else []) 0 t.fi
def F7 (p : Ad) (m : Ag) : List Aa := BE (KI m) 0 p.fb
structure Ob (p : Ad) (t : Aq) : Prop where
 kind : 1 ≤ t.ff ∧ t.ff ≤ 4
 aware : t.fp = true → Cx t = false
 from0 : 0 ≤ t.fg ∧ t.fg < (p.fc.length : Int)
 to0 : 0 ≤ t.fk ∧ t.fk < (p.fc.length : Int)
 okL : (t.fi.length : Int) = p.fc.getD t.fg.toNat 0
 okR : ∀ row, row ∈ t.fi → (row.length : Int) = p.fc.getD t.fk.toNat 0
 reL : t.ff = 4 → (t.fo.length : Int) = p.fc.getD t.fg.toNat 0
 reR : ∀ row, row ∈ t.fo → (row.length : Int) = p.fc.getD t.fg.toNat 0
 reD : t.ff = 4 → Ko t.fo = none
 reN : t.ff ≠ 4 → t.fo = []
theorem Jm {p : Ad} {t : Aq} (h : EM p t = 0) : Ob p t := by
 unfold EM at h
 split at h
 ·cases h
 rename_i h1
 split at h
 ·cases h
 rename_i h2
 simp only at h
 split at h
 ·cases h
 rename_i h3
 have h3 : sq t.fi (p.fc.getD t.fg.toNat 0) (p.fc.getD t.fk.toNat 0) = true := by simpa using h3
 have h3 := PB h3
 have ha : t.fp = true → Cx t = false := by
  intro ha
  unfold Cx
  rw [Bool.or_eq_false_iff, beq_eq_false_iff_ne, beq_eq_false_iff_ne]
  exact ⟨fun hk => h1 (.inr (.inr ⟨ha, .inl hk⟩)), fun hk => h1 (.inr (.inr ⟨ha, .inr hk⟩))⟩
 split at h
 ·rename_i h4
  split at h
  ·cases h
  rename_i h5
  have h5 : sq t.fo (p.fc.getD t.fg.toNat 0) (p.fc.getD t.fg.toNat 0) = true := by simpa using h5
  have h5 := PB h5
  refine ⟨by omega, ha, by omega, by omega, h3.1, h3.2, fun _ => h5.1, h5.2, fun _ => ?_, fun h => (h h4).elim⟩
  cases hd : Ko t.fo with
  | none => rfl
  | some r =>
   obtain ⟨j, x, _, hx⟩ := F2 hd
   rw [hd] at h
   split at hx
   ·cases hx
   ·cases hx; cases h
 ·rename_i h4
  split at h
  ·rename_i h5
   have h5 := List.eq_nil_of_length_eq_zero h5
   refine ⟨by omega, ha, by omega, by omega, h3.1, h3.2, fun h => (h4 h).elim, fun row hr => ?_, fun h => (h4 h).elim, fun _ => h5⟩
   rw [h5] at hr; cases hr
  ·cases h
theorem ML {R : Type} (b : Bool) (acc : List Aa) (x : Aa) (j : List Aa → Option R) (h : acc.length + 1 ≤ DP) :
  AW b ((Eh (acc.length + ([x] : List Aa).length ≤ DP)).bind fun _ => j (acc ++ [x])) (j acc) = j (acc ++ if b then [x] else []) := by
 cases b
 ·simp
 ·rw [AU, As (by simpa using h)]; rfl
theorem Tw (N : Nat) (m : Ag) (t : Aq) (i u : Nat) (row : List Bool) (R : Int) (b1 b2 acc : List Aa) (j : List Aa × Bool → Option (List Aa))
  (hN : N ≤ 1000000) (h8 : 8 ≤ N) (hrow : row.length ≤ 6) (hacc : acc.length + 6 ≤ DP) (hR0 : 0 ≤ R) (hR1 : R ≤ 255) (hRb : ∀ v, EZ R v = JW m t.fk.toNat v) :
  Cy N (b1, (i : Int)) t R (b2, (u : Int)) row j N (acc, false, 0) = j (acc ++ BE (gC i u m t) 0 row, MV (hC m t) 0 row) := by
 have := IM (A := List Aa × Bool) (Cy N (b1, (i : Int)) t R (b2, (u : Int)) row j) (fun a k => (a.1, a.2, k)) row (fun a => j a) (fun v ok s => (s.1 ++ gC i u m t v ok, s.2 || hC m t v ok))
  (fun v a => v ≤ row.length ∧ a.1.length ≤ acc.length + v)
  (fun n v ok a hx ha => by
   have hv := (lI.1 hx).1
   obtain ⟨c, f⟩ := a
   simp only at ha
   refine ⟨?_, by omega, ?_⟩
   ·rw [Cy]
    simp only [Bn]
    rw [AK (by omega), AZ, hx]
    simp only [oS]
    rw [As (by omega), TJ hR0 hR1 (by omega), hRb, AF (by omega), ML _ _ _ (fun l => Cy N (b1, (i : Int)) t R (b2, (u : Int)) row j n (l, true, ((v + 1 : Nat) : Int))) (by omega)]
    unfold gC hC
    rw [ML _ _ _ (fun l => Cy N (b1, (i : Int)) t R (b2, (u : Int)) row j n (l, ok, ((v + 1 : Nat) : Int))) (by omega)]
    cases JW m t.fk.toNat v
    ·simp
    ·cases ok <;> cases f <;> cases t.fp <;> simp
   ·simp only [gC, List.length_append]
    split <;> simp <;> omega)
  (fun n a _ => by
   rw [Cy]
   simp only [Bn]
   rw [AD (by omega)]) N 0 (acc, false) (by omega) (by omega) ⟨by omega, by simp⟩
 have h2 := this.1
 rw [List.drop_zero, NC, Bool.false_or] at h2
 exact h2
theorem JU {p : Ad} {t : Aq} (hp : Bj p) (ht : Ob p t) : t.fi.length ≤ 6 ∧ ∀ row, row ∈ t.fi → row.length ≤ 6 := by
 have h1 := K3 hp.ver ht.from0.1 ht.from0.2
 have h2 := K3 hp.ver ht.to0.1 ht.to0.2
 have h3 := ht.okL
 exact ⟨by omega, fun row hr => by have := ht.okR row hr; omega⟩
theorem UW (i u : Nat) (m : Ag) (t : Aq) (v : Nat) (ok : Bool) : (gC i u m t v ok).length ≤ 1 := by
 unfold gC; split <;> simp
theorem VM (i : Nat) (m : Ag) (t : Aq) (u : Nat) (row : List Bool) (h : row.length ≤ 6) : (La i m t u row).length ≤ 7 := by
 unfold La
 rw [List.length_append]
 have := Gq (g := gC i u m t) (c := 1) (i := 0) (xs := row) (fun j x _ => UW _ _ _ _ _ _)
 split <;> simp <;> omega
theorem Vx (i : Nat) (m : Ag) (t : Aq) (u : Nat) (row : List Bool) (h : row.length ≤ 6) : (if Uj m i t u = true then La i m t u row else []).length ≤ 7 := by
 have := VM i m t u row h
 split <;> simp <;> omega
theorem Pd {p : Ad} {t : Aq} (hp : Bj p) (ht : Ob p t) (i : Nat) (m : Ag) : (KI m i t).length ≤ 42 := by
 have h1 := JU hp ht
 have := Gq (g := fun u row => if Uj m i t u = true then La i m t u row else []) (c := 7) (i := 0) (xs := t.fi) (fun j x hx => Vx i m t _ x (h1.2 x (lM hx)))
 unfold KI
 omega
theorem OD (N : Nat) (p : Ad) (m : Ag) (t : Aq) (i : Nat) (W R : Int) (b1 acc : List Aa) (j : List Aa → Option (List Aa))
  (hN : N ≤ 1000000) (h8 : 8 ≤ N) (hp : Bj p) (ht : Ob p t) (hacc : acc.length + 42 ≤ 10000) (hR0 : 0 ≤ R) (hR1 : R ≤ 255) (hRb : ∀ v, EZ R v = JW m t.fk.toNat v) (hW0 : 0 ≤ W) (hW1 : W ≤ 255) (hWb : ∀ v, EZ W v = Uj m i t v) :
  C6 N (b1, (i : Int)) t R W j N (acc, 0) = j (acc ++ KI m i t) := by
 have hl := JU hp ht
 exact DG (C6 N (b1, (i : Int)) t R W j) (fun a k => (a, k)) t.fi j (fun u row => if Uj m i t u then La i m t u row else []) 7 10000
  (fun u row hx => Vx i m t u row (hl.2 row (lM hx)))
  (fun n u row a hx ha => by
   have hu := (lI.1 hx).1
   have hrow := hl.2 row (lM hx)
   rw [C6]
   simp only [Bn]
   rw [AK (by omega), As (by omega), TJ hW0 hW1 (by omega), hWb, AZ, hx]
   simp only [oS]
   rw [Tw N m t i u row R b1 a a _ hN h8 hrow (by unfold DP; omega) hR0 hR1 hRb, AF (by omega)]
   cases hw : Uj m i t u
   ·simp
   ·simp only [Bool.not_true, Au, if_true, La]
    have h1 := Gq (g := gC i u m t) (c := 1) (i := 0) (xs := row) (fun j x _ => UW _ _ _ _ _ _)
    have := ML (R := List Aa) (t.fp && !MV (hC m t) 0 row) (a ++ BE (gC i u m t) 0 row) ⟨(i : Int), (u : Int), -1⟩ (fun l => C6 N (b1, (i : Int)) t R W j n (l, ((u + 1 : Nat) : Int))) (by rw [List.length_append]; unfold DP; rw [hw, if_pos rfl] at ha; omega)
    rw [← List.append_assoc, ← this]
    cases t.fp <;> cases MV (hC m t) 0 row <;> rfl)
  (fun n a => by
   rw [C6]
   simp only [Bn]
   rw [AD (by omega)]) N acc (by omega) (by omega)
theorem TN (N : Nat) (p : Ad) (m : Ag) (t : Aq) (i u : Nat) (row : List Bool) (b1 b2 acc : List Aa) (j : List Aa × Bool → Option (List Aa))
  (hN : N ≤ 1000000) (h8 : 8 ≤ N) (hp : Bj p) (hm : MixServ p m) (ht : Ob p t) (hu : t.fi[u]? = some row) (hacc : acc.length + 6 ≤ DP) :
  BH N p m (b1, (i : Int)) t (b2, (u : Int)) j N (acc, false, 0) = j (acc ++ BE (gC i u m t) 0 row, MV (hC m t) 0 row) := by
 have hrow := (JU hp ht).2 row (lM hu)
 have hR := JA hp hm (s := t.fk.toNat) (by have := ht.to0; omega)
 have hlen := ht.okR row (lM hu)
 have hto := ht.to0
 have := IM (A := List Aa × Bool) (BH N p m (b1, (i : Int)) t (b2, (u : Int)) j) (fun a k => (a.1, a.2, k)) row (fun a => j a) (fun v ok s => (s.1 ++ gC i u m t v ok, s.2 || hC m t v ok))
  (fun v a => v ≤ row.length ∧ a.1.length ≤ acc.length + v)
  (fun n v ok a hx ha => by
   have hv := (lI.1 hx).1
   obtain ⟨c, f⟩ := a
   simp only at ha
   refine ⟨?_, by omega, ?_⟩
   ·rw [BH]
    simp only [Bn]
    rw [Gb (d := 0) hto.1 hto.2, LS N m t.fk hto.1 (by rw [hm.base]; exact hto.2) (by rw [hm.next]; exact hto.2) (hm.b0 _ (by omega)).1, AZ, hu]
    simp only [oS]
    unfold Db
    rw [AK (by omega), AZ, hx, As (by omega), Ty hR.2.1 hR.2.2 (by omega), hR.1]
    simp only [oS]
    rw [AF (by omega), ML _ _ _ (fun l => BH N p m (b1, (i : Int)) t (b2, (u : Int)) j n (l, true, ((v + 1 : Nat) : Int))) (by omega)]
    unfold gC hC
    rw [ML _ _ _ (fun l => BH N p m (b1, (i : Int)) t (b2, (u : Int)) j n (l, ok, ((v + 1 : Nat) : Int))) (by omega)]
    cases JW m t.fk.toNat v
    ·simp
    ·cases ok <;> cases f <;> cases t.fp <;> simp
   ·simp only [gC, List.length_append]
    split <;> simp <;> omega)
  (fun n a _ => by
   rw [BH]
   simp only [Bn]
   rw [Gb (d := 0) hto.1 hto.2]
   simp only [oS]
   rw [AD (by omega)]) N 0 (acc, false) (by omega) (by omega) ⟨by omega, by simp⟩
 have h2 := this.1
 rw [List.drop_zero, NC, Bool.false_or] at h2
 exact h2
theorem OC (N : Nat) (p : Ad) (m : Ag) (t : Aq) (i : Nat) (W : Int) (b1 acc : List Aa) (j : List Aa → Option (List Aa))
  (hN : N ≤ 1000000) (h8 : 8 ≤ N) (hp : Bj p) (hm : MixServ p m) (ht : Ob p t) (hacc : acc.length + 42 ≤ 10000) (hW0 : 0 ≤ W) (hW1 : W ≤ 255) (hWb : ∀ v, EZ W v = Uj m i t v) :
  B6 N p m (b1, (i : Int)) t W j N (acc, 0) = j (acc ++ KI m i t) := by
 have hl := JU hp ht
 have hfr := ht.from0
 have hok := ht.okL
 exact DG (B6 N p m (b1, (i : Int)) t W j) (fun a k => (a, k)) t.fi j (fun u row => if Uj m i t u then La i m t u row else []) 7 10000
  (fun u row hx => Vx i m t u row (hl.2 row (lM hx)))
  (fun n u row a hx ha => by
   have hu := (lI.1 hx).1
   have hrow := hl.2 row (lM hx)
   rw [B6]
   simp only [Bn]
   rw [Gb (d := 0) hfr.1 hfr.2]
   simp only [oS]
   unfold Db
   rw [AK (by omega), As (by omega), Ty hW0 hW1 (by omega), hWb]
   simp only [oS]
   rw [TN N p m t i u row b1 a a _ hN h8 hp hm ht hx (by unfold DP; omega), AF (by omega)]
   cases hw : Uj m i t u
   ·simp
   ·simp only [Bool.not_true, Au, if_true, La]
    have h1 := Gq (g := gC i u m t) (c := 1) (i := 0) (xs := row) (fun j x _ => UW _ _ _ _ _ _)
    have := ML (R := List Aa) (t.fp && !MV (hC m t) 0 row) (a ++ BE (gC i u m t) 0 row) ⟨(i : Int), (u : Int), -1⟩ (fun l => B6 N p m (b1, (i : Int)) t W j n (l, ((u + 1 : Nat) : Int))) (by rw [List.length_append]; unfold DP; rw [hw, if_pos rfl] at ha; omega)
    rw [← List.append_assoc, ← this]
    cases t.fp <;> cases MV (hC m t) 0 row <;> rfl)
  (fun n a => by
   rw [B6]
   simp only [Bn]
   rw [Gb (d := 0) hfr.1 hfr.2]
   simp only [oS]
   rw [AD (by omega)]) N acc (by omega) (by omega)
theorem O2 (N : Nat) (p : Ad) (m : Ag) (hN : N ≤ 1000000) (h20 : 20 ≤ N) (hp : Bj p) (hm : Cs p m) : G8 N p m = some (F7 p m) := by
 unfold G8
 have hnt := hp.nt
 rw [DG (Ex N p m _) (fun a k => (a, k)) p.fb some (KI m) 42 9000
  (fun i t hx => Pd hp (Jm (hp.tab t (lM hx))) i m)
  (fun n i t a hx ha => by
   have hi := (lI.1 hx).1
   have ht := Jm (hp.tab t (lM hx))
   have hto := ht.to0
   have hfr := ht.from0
   have hR := JA hp hm.toMixServ (s := t.fk.toNat) (by omega)
   have hF := JA hp hm.toMixServ (s := t.fg.toNat) (by omega)
   have hH := hm.range i hi
   rw [Ex]
   simp only [Bn]
   rw [AK (by omega), AZ, hx]
   simp only [oS, K4]
   rw [Nr N m t.fg hfr.1 (by rw [hm.base]; exact hfr.2) (by rw [hm.next]; exact hfr.2) (hm.b0 _ (by omega)).1, Nr N m t.fk hto.1 (by rw [hm.base]; exact hto.2) (by rw [hm.next]; exact hto.2) (hm.b0 _ (by omega)).1, Er (d := 0) (by rw [hm.held]; exact hi), AF (by omega)]
   simp only [oS]
   cases hs : Cx t
   ·rw [Au, OD N p m t i _ _ a a _ hN (by omega) hp ht (by omega) hR.2.1 hR.2.2 hR.1 hF.2.1 hF.2.2 (fun v => by unfold Uj; rw [hs, hF.1]; rfl)]
   ·rw [AU, OD N p m t i _ _ a a _ hN (by omega) hp ht (by omega) hR.2.1 hR.2.2 hR.1 hH.1 hH.2 (fun v => by unfold Uj; rw [hs]; rfl)])
  (fun n a => by
   rw [Ex]
   simp only [Bn]
   rw [AD (by omega)]) N [] (by omega) (by simp; omega)]
 rfl
theorem OS (N : Nat) (p : Ad) (m : Ag) (hN : N ≤ 1000000) (h20 : 20 ≤ N) (hp : Bj p) (hm : Cs p m) : FQ N p m = some (F7 p m) := by
 unfold FQ
 have hnt := hp.nt
 rw [DG (Dn N p m _) (fun a k => (a, k)) p.fb some (KI m) 42 9000
  (fun i t hx => Pd hp (Jm (hp.tab t (lM hx))) i m)
  (fun n i t a hx ha => by
   have hi := (lI.1 hx).1
   have ht := Jm (hp.tab t (lM hx))
   have hto := ht.to0
   have hfr := ht.from0
   have hF := JA hp hm.toMixServ (s := t.fg.toNat) (by omega)
   have hH := hm.range i hi
   rw [Dn]
   simp only [Bn]
   rw [AK (by omega), AZ, hx]
   simp only [oS, Iv]
   rw [LS N m t.fg hfr.1 (by rw [hm.base]; exact hfr.2) (by rw [hm.next]; exact hfr.2) (hm.b0 _ (by omega)).1, Er (d := 0) (by rw [hm.held]; exact hi), AF (by omega)]
   simp only [oS]
   cases hs : Cx t
   ·rw [Au, OC N p m t i _ a a _ hN (by omega) hp hm.toMixServ ht (by omega) hF.2.1 hF.2.2 (fun v => by unfold Uj; rw [hs, hF.1]; rfl)]
   ·rw [AU, OC N p m t i _ a a _ hN (by omega) hp hm.toMixServ ht (by omega) hH.1 hH.2 (fun v => by unfold Uj; rw [hs]; rfl)])
  (fun n a => by
   rw [Dn]
   simp only [Bn]
   rw [AD (by omega)]) N [] (by omega) (by simp; omega)]
 rfl
theorem FF {A S R : Type} (L : Nat → S → Option R) (mk : A → Int → S) (len : Nat) (j : A → Option R) (I : Nat → A → Prop)
  (hs : ∀ (n i : Nat) (a : A), i < len → I i a → ∃ a', L (n + 1) (mk a (i : Int)) = L n (mk a' ((i + 1 : Nat) : Int)) ∧ I (i + 1) a')
  (he : ∀ (n : Nat) (a : A), I len a → L (n + 1) (mk a (len : Int)) = j a) :
  ∀ (n i : Nat) (a : A), i ≤ len → len - i < n → I i a → ∃ a', L n (mk a (i : Int)) = j a' ∧ I len a'
 | 0, i, _, _, h, _ => by omega
 | n + 1, i, a, hi, h, ha => by
  by_cases h1 : i < len
  ·obtain ⟨a', e1, e2⟩ := hs n i a h1 ha
   rw [e1]
   exact FF L mk len j I hs he n (i + 1) _ (by omega) (by omega) e2
  ·have : i = len := by omega
   subst this
   exact ⟨a, he n a ha, ha⟩
theorem KN {α : Type} {xs ys : List α} {i : Nat} {d : α} (h : i < xs.length) : (xs ++ ys).getD i d = xs.getD i d := by
 rw [lD, lD, List.getElem?_append_left h]
theorem KR {α : Type} {xs : List α} {y : α} {i : Nat} {d : α} (h : i = xs.length) : (xs ++ [y]).getD i d = y := by
 subst h; rw [lD, List.getElem?_append_right (Nat.le_refl _)]; simp
theorem QY {α : Type} {P : Nat → α → Prop} {xs : List α} {y : α} {d : α} {n : Nat} (hn : xs.length = n) (h : ∀ k, k < n → P k (xs.getD k d)) (hy : P n y) : ∀ k, k < n + 1 → P k ((xs ++ [y]).getD k d) := by
 intro k hk
 by_cases h1 : k < n
 ·rw [KN (by omega)]; exact h k h1
 ·have : k = n := by omega
  subst this
  rw [KR hn.symm]; exact hy
theorem Wf {l : List Int} (hw : Qz MN l) (i : Nat) : 0 ≤ l.getD i 0 ∧ l.getD i 0 ≤ 255 := by
 by_cases h : i < l.length
 ·have : l.getD i 0 ∈ l := by rw [lD, List.getElem?_eq_getElem h]; exact List.getElem_mem _
  exact Kw (hw _ this)
 ·rw [lD, List.getElem?_eq_none (by omega)]
  exact ⟨by decide, by decide⟩
theorem RP (N : Nat) {l : List Int} (hw : Qz MN l) (i : Nat) : Fg N l (i : Int) = some (l.getD i 0) := by
 unfold Fg
 have h2 := Wf hw i
 by_cases h : i < l.length
 ·rw [AK (by omega), Er (d := 0) h]
  simp only [oS]
  rw [DL (by omega) (by omega)]
 ·rw [AD (by omega), lD, List.getElem?_eq_none (by omega)]; rfl
theorem Jl {a n : Int} (ha : 0 ≤ a) (hn : 0 < n) : 0 ≤ Int.tmod a n ∧ Int.tmod a n < n := ⟨Int.tmod_nonneg n ha, Int.tmod_lt_of_pos a hn⟩
theorem ag {l : List (List Bool)} {n m : Int} (h1 : (l.length : Int) = n) (h2 : ∀ row, row ∈ l → (row.length : Int) = m) : sq l n m = true := by
 unfold sq
 simp only [Bool.and_eq_true, decide_eq_true_eq, List.all_eq_true]
 exact ⟨h1, h2⟩
theorem aG {p : Ad} {t : Aq} (h : Ob p t) : EM p t = 0 := by
 have hk := h.kind
 have hf := h.from0
 have ht := h.to0
 unfold EM
 rw [if_neg, if_neg (by omega)]
 ·simp only [ag h.okL h.okR]
  rw [if_neg (by simp)]
  by_cases h4 : t.ff = 4
  ·rw [if_pos h4, ag (h.reL h4) h.reR, if_neg (by simp), h.reD h4]; rfl
  ·rw [if_neg h4, h.reN h4]; rfl
 ·rintro (h1 | h1 | ⟨h1, h2⟩)
  ·omega
  ·omega
  ·have := h.aware h1
   unfold Cx at this
   rw [Bool.or_eq_false_iff, beq_eq_false_iff_ne, beq_eq_false_iff_ne] at this
   omega
theorem Xc (N : Nat) (m bad : Int) (diag : Bool) (i : Nat) (acc : List (List Bool)) {_R : Type} (j : List Bool → Option (List (List Bool))) (hN : N ≤ 1000000) (h20 : 20 ≤ N) (hm : 0 ≤ m ∧ m ≤ 6) (hi : i < 6) :
  ∃ row, C8 N m bad diag (acc, (i : Int)) j N ([], 0) = j row ∧ (row.length : Int) = m ∧ (diag = true → (i : Int) < m → row.getD i false = true) := by
 obtain ⟨M, rfl⟩ := Int.eq_ofNat_of_zero_le hm.1
 obtain ⟨row, e, h1, h2⟩ := FF (A := List Bool) (C8 N (M : Int) bad diag (acc, (i : Int)) j) (fun a k => (a, k)) M j
  (fun k a => a.length = k ∧ ∀ q, q < k → diag = true → q = i → a.getD q false = true)
  (fun n k a hk ha => by
   refine ⟨a ++ [(diag && decide (i = k)) || (Int.tmod (FA .u16 bad ((3 * i + k : Nat) : Int)) 2 == 0)], ?_, by simp [ha.1], QY (P := fun q y => diag = true → q = i → y = true) ha.1 ha.2 (fun h1 h2 => by simp [h1, h2])⟩
   rw [C8]
   simp only [Bn]
   rw [AK (by omega), AF (by omega), DL (n := 3 * (i : Int)) (by omega) (by omega), DL (n := 3 * (i : Int) + (k : Int)) (by omega) (by omega)]
   have l1 : ∀ y : Bool, a.length + ([y] : List Bool).length ≤ DP := by intro y; rw [ha.1]; unfold DP; simp; omega
   simp only [As (l1 _), As (show (0 : Int) ≤ 3 * (i : Int) + (k : Int) by omega)]
   have e1 : ((3 * i + k : Nat) : Int) = 3 * (i : Int) + (k : Int) := by omega
   rw [e1]
   have e2 : (((i : Nat) : Int) == ((k : Nat) : Int)) = decide (i = k) := by
    by_cases h : i = k
    ·simp [h]
    ·rw [decide_eq_false h]; exact beq_eq_false_iff_ne.2 (by omega)
   rw [e2]
   cases diag <;> cases decide (i = k) <;> rfl)
  (fun n a _ => by
   rw [C8]
   simp only [Bn]
   rw [AD (by omega)]) N 0 [] (Nat.zero_le _) (by omega) ⟨rfl, fun q hq => by omega⟩
 exact ⟨row, e, by omega, fun hd hlt => h2 i (by omega) hd rfl⟩
theorem V1 (N : Nat) (n m bad : Int) (diag : Bool) (hN : N ≤ 1000000) (h20 : 20 ≤ N) (hn : 0 ≤ n ∧ n ≤ 6) (hm : 0 ≤ m ∧ m ≤ 6) :
  ∃ l, Fi N n m bad diag = some l ∧ (l.length : Int) = n ∧ (∀ row, row ∈ l → (row.length : Int) = m) ∧ (diag = true → n = m → Ko l = none) := by
 obtain ⟨M, rfl⟩ := Int.eq_ofNat_of_zero_le hn.1
 unfold Fi
 obtain ⟨l, e, h1, h2⟩ := FF (A := List (List Bool)) (C4 N (M : Int) m bad diag (fun v => some v)) (fun a k => (a, k)) M some
  (fun k a => a.length = k ∧ ∀ q, q < k → (((a.getD q []).length : Nat) : Int) = m ∧ (diag = true → (q : Int) < m → (a.getD q []).getD q false = true))
  (fun n k a hk ha => by
   obtain ⟨row, e, h1, h2⟩ := Xc (_R := Unit) N m bad diag k a (fun (v5 : List Bool) =>
    (Eh (a.length + (([v5] : List (List Bool))).length ≤ DP)).bind fun _ =>
    C4 N (M : Int) m bad diag (fun v => some v) n (a ++ (([v5] : List (List Bool))), (wI .i64 ((k : Int) + 1)))) hN h20 hm (by omega)
   refine ⟨a ++ [row], ?_, by simp [ha.1], QY (P := fun q y => ((y.length : Nat) : Int) = m ∧ (diag = true → (q : Int) < m → y.getD q false = true)) ha.1 ha.2 ⟨h1, h2⟩⟩
   rw [C4]
   simp only
   rw [AK (by omega), e, As (by rw [ha.1]; unfold DP; simp; omega), AF (by omega)])
  (fun n a _ => by
   rw [C4]
   simp only
   rw [AD (by omega)]) N 0 [] (Nat.zero_le _) (by omega) ⟨rfl, fun q hq => by omega⟩
 have key : ∀ q row, l[q]? = some row → l.getD q [] = row := fun q row hq => by rw [lD, hq]; rfl
 refine ⟨l, e, by omega, fun row hr => ?_, fun hd hnm => ?_⟩
 ·obtain ⟨q, hq⟩ := List.mem_iff_getElem?.1 hr
  have := (h2 q (by have := (lI.1 hq).1; omega)).1
  rwa [key q row hq] at this
 ·unfold Ko
  refine GO fun q row hq => ?_
  have hlt := (lI.1 hq).1
  have := (h2 q (by omega)).2 hd (by omega)
  rw [key q row hq] at this
  rw [Nat.zero_add, this]; rfl
structure az (p : Ad) : Prop where
 valid : BG p = 0
 nv : p.fc.length ≤ 3
 nt : p.fb.length ≤ 4
 v3 : ∀ v, v ∈ p.fc → v ≤ 3
theorem W4 {p q : Ad} (h : p.fc = q.fc) (t : Aq) : EM p t = EM q t := by
 unfold EM; rw [h]
theorem d7 (N : Nat) (d : B1) (hN : N ≤ 1000000) (h20 : 20 ≤ N) (hw : GF d) : ∃ p ok, GG N d = some (p, ok) ∧ (ok = true → az p) := by
 obtain ⟨w1, w2, w3, w4, _⟩ := hw
 unfold GG
 simp only [Bn]
 by_cases k1 : 3 < d.fc.length
 ·rw [AK (by omega)]; exact ⟨_, false, rfl, fun h => by cases h⟩
 by_cases k2 : 4 < d.fA.length
 ·rw [AD (by omega), decide_eq_true (by omega : (4 : Int) < (d.fA.length : Int))]; exact ⟨_, false, rfl, fun h => by cases h⟩
 rw [AD (by omega), decide_eq_false (by omega : ¬ (4 : Int) < (d.fA.length : Int)), Au]
 obtain ⟨⟨vs, ns, ts⟩, e, h1, h2, h3, h4⟩ := FF (A := List Int × List Int × List Int) (DE N d fun v5 => BT N d v5 (fun v16 => some (Ad.mk v5.1 v5.2.1 v5.2.2 v16, true)) N ([], 0)) (fun a k => (a.1, a.2.1, a.2.2, k)) d.fc.length
  (fun v5 => BT N d v5 (fun v16 => some (Ad.mk v5.1 v5.2.1 v5.2.2 v16, true)) N ([], 0))
  (fun i a => a.1.length = i ∧ a.2.1.length = i ∧ a.2.2.length = i ∧ (∀ k, k < i → (1 ≤ a.1.getD k 0 ∧ a.1.getD k 0 ≤ 3) ∧ (0 ≤ a.2.1.getD k 0 ∧ a.2.1.getD k 0 < a.1.getD k 0) ∧ (0 ≤ a.2.2.getD k 0 ∧ a.2.2.getD k 0 < a.1.getD k 0)))
  (fun n i a hi ha => by
   obtain ⟨vs, ns, ts⟩ := a
   obtain ⟨h1, h2, h3, h4⟩ := ha
   simp only at h1 h2 h3 h4
   have hv := Wf w1 i
   have hb := Wf w2 i
   have hk := Wf w3 i
   have hm := Jl (n := 3) hv.1 (by omega)
   obtain ⟨v, hvd⟩ : ∃ v, v = 1 + Int.tmod (d.fc.getD i 0) 3 := ⟨_, rfl⟩
   have m1 := Jl (n := v) hb.1 (by omega)
   have m2 := Jl (n := v) hk.1 (by omega)
   refine ⟨(vs ++ [v], ns ++ [Int.tmod (d.fh.getD i 0) v], ts ++ [Int.tmod (d.fm.getD i 0) v]), ?_, by simp [h1], by simp [h2], by simp [h3], ?_⟩
   ·rw [DE]
    simp only
    rw [AK (by omega), Er (d := 0) hi, RP N w2, RP N w3]
    simp only [oS]
    rw [DL (n := Int.tmod _ _) (by omega) (by omega), DL (n := 1 + _) (by omega) (by omega), ← hvd, AF (by omega)]
    have l1 : ∀ y : Int, vs.length + ([y] : List Int).length ≤ DP := by intro y; rw [h1]; unfold DP; simp; omega
    have l2 : ∀ y : Int, ns.length + ([y] : List Int).length ≤ DP := by intro y; rw [h2]; unfold DP; simp; omega
    have l3 : ∀ y : Int, ts.length + ([y] : List Int).length ≤ DP := by intro y; rw [h3]; unfold DP; simp; omega
    simp only [As (l1 _), As (l2 _), As (l3 _), As (show v ≠ 0 by omega)]
   ·intro k hk
    simp only
    by_cases hki : k < i
    ·rw [KN (by omega), KN (by omega), KN (by omega)]; exact h4 k hki
    ·have : k = i := by omega
     subst this
     rw [KR h1.symm, KR h2.symm, KR h3.symm]
     omega)
  (fun n a _ => by
   rw [DE]
   simp only
   rw [AD (by omega)]) N 0 ([], [], []) (Nat.zero_le _) (by omega) ⟨rfl, rfl, rfl, fun k hk => by omega⟩
 simp only at h1 h2 h3 h4
 have e' : DE N d (fun v5 => BT N d v5 (fun v16 => some (Ad.mk v5.1 v5.2.1 v5.2.2 v16, true)) N ([], 0)) N ([], [], [], 0) = _ := e
 rw [e']
 have hvs : ∀ v, v ∈ vs → 1 ≤ v ∧ v ≤ 3 := by
  intro v hv
  obtain ⟨q, hq⟩ := List.mem_iff_getElem?.1 hv
  have := (h4 q (by have := (lI.1 hq).1; omega)).1
  rwa [lD, hq] at this
 have fin : ∀ tabs : List Aq, tabs.length ≤ 4 → (∀ t, t ∈ tabs → EM ⟨vs, ns, ts, []⟩ t = 0) → az ⟨vs, ns, ts, tabs⟩ := by
  intro tabs ht h
  have hp : Bj ⟨vs, ns, ts, tabs⟩ := ⟨show vs.length ≤ 6 by omega, show tabs.length ≤ 12 by omega, show ns.length = vs.length by omega, show ts.length = vs.length by omega, fun v hv => by have := hvs v hv; omega, fun t ht => by rw [← h t ht]; exact W4 rfl t⟩
  exact ⟨S6 hp fun i hi => by have := h4 i (by have : i < vs.length := hi; omega); simp only; omega, show vs.length ≤ 3 by omega, ht, fun v hv => (hvs v hv).2⟩
 by_cases k3 : vs.length = 0
 ·refine ⟨_, true, ?_, fun _ => fin [] (by simp) (fun t ht => by cases ht)⟩
  obtain ⟨M, rfl⟩ : ∃ M, N = M + 1 := ⟨N - 1, by omega⟩
  rw [BT]
  simp only [Bn]
  rw [k3]
  by_cases k4 : (0 : Int) < (d.fA.length : Int)
  ·rw [AK k4]; rfl
  ·rw [AD k4]; rfl
 obtain ⟨tabs, e2, g1, g2⟩ := FF (A := List Aq) (BT N d (vs, ns, ts) (fun v16 => some (Ad.mk vs ns ts v16, true))) (fun a k => (a, k)) d.fA.length (fun v16 => some (Ad.mk vs ns ts v16, true))
  (fun i a => a.length = i ∧ ∀ t, t ∈ a → EM ⟨vs, ns, ts, []⟩ t = 0)
  (fun n i a hi ha => by
   have hx : d.fA[i]? = some d.fA[i] := by simp [hi]
   generalize d.fA[i] = l at hx
   obtain ⟨u1, u2, u3, _, u5, u6, _⟩ := w4 l (lM hx)
   have u1 := Kw u1
   have u2 := Kw u2
   have u3 := Kw u3
   have mk := Jl (n := 4) u1.1 (by omega)
   have hL : (0 : Int) < (vs.length : Int) := by omega
   have mf := Jl (n := (vs.length : Int)) u2.1 hL
   have mt := Jl (n := (vs.length : Int)) u3.1 hL
   rw [BT]
   simp only [Bn]
   rw [AK (by omega), decide_eq_true hL, AU, AZ, hx]
   simp only [oS]
   rw [As (by omega), As (by omega), DL (n := l.fg) (by omega) (by omega), DL (n := l.fk) (by omega) (by omega), DL (n := Int.tmod l.ff 4) (by omega) (by omega), DL (n := 1 + _) (by omega) (by omega), AF (by omega)]
   simp only [OU, oS]
   rw [Gb (d := 0) mf.1 mf.2, Gb (d := 0) mt.1 mt.2]
   simp only [oS]
   have hA : ∀ q : Int, 0 ≤ q → q < (vs.length : Int) → 1 ≤ vs.getD q.toNat 0 ∧ vs.getD q.toNat 0 ≤ 3 := fun q h0 h1 => (h4 q.toNat (by omega)).1
   have hf := hA _ mf.1 mf.2
   have ht := hA _ mt.1 mt.2
   obtain ⟨A, eA, a1, a2, _⟩ := V1 N (vs.getD (Int.tmod l.fg (vs.length : Int)).toNat 0) (vs.getD (Int.tmod l.fk (vs.length : Int)).toNat 0) l.fB false hN h20 (by omega) (by omega)
   obtain ⟨B, eB, b1, b2, b3⟩ := V1 N (vs.getD (Int.tmod l.fg (vs.length : Int)).toNat 0) (vs.getD (Int.tmod l.fg (vs.length : Int)).toNat 0) l.fC true hN h20 (by omega) (by omega)
   rw [eA, eB]
   simp only [oS]
   have l1 : ∀ y : Aq, a.length + ([y] : List Aq).length ≤ DP := by intro y; rw [ha.1]; unfold DP; simp; omega
   simp only [As (l1 _)]
   obtain ⟨kd, hkd⟩ : ∃ kd, kd = 1 + Int.tmod l.ff 4 := ⟨_, rfl⟩
   rw [← hkd]
   have fin2 : ∀ (aw : Bool) (re : List (List Bool)), (aw = true → (kd == 3 || kd == 4) = false) → ((kd = 4 → re = B) ∧ (kd ≠ 4 → re = [])) →
     EM ⟨vs, ns, ts, []⟩ (Aq.mk kd (Int.tmod l.fg (vs.length : Int)) (Int.tmod l.fk (vs.length : Int)) aw A re) = 0 := by
    intro aw re haw hre
    refine aG ⟨show 1 ≤ kd ∧ kd ≤ 4 by omega, haw, mf, mt, a1, a2, fun h => by rw [hre.1 h]; exact b1, fun row hr => ?_, fun h => by rw [hre.1 h]; exact b3 rfl rfl, fun h => hre.2 h⟩
    by_cases h4 : kd = 4
    ·simp only at hr; rw [hre.1 h4] at hr; exact b2 row hr
    ·simp only at hr; rw [hre.2 h4] at hr; cases hr
   have app : ∀ t, EM ⟨vs, ns, ts, []⟩ t = 0 → (a ++ [t]).length = i + 1 ∧ ∀ t', t' ∈ a ++ [t] → EM ⟨vs, ns, ts, []⟩ t' = 0 := by
    intro t ht
    refine ⟨by simp [ha.1], fun t' ht' => ?_⟩
    rcases List.mem_append.1 ht' with h | h
    ·exact ha.2 t' h
    ·rw [List.mem_singleton.1 h]; exact ht
   by_cases h4 : kd = 4
   ·have e4 : (kd == 4) = true := beq_iff_eq.2 h4
    have hre : (kd = 4 → B = B) ∧ (kd ≠ 4 → B = []) := ⟨fun _ => rfl, fun h => (h h4).elim⟩
    rw [e4]
    simp only [AU, Bool.or_true, Bool.not_true]
    cases l.fp
    ·exact ⟨_, rfl, app _ (fin2 false B (fun h => by cases h) hre)⟩
    ·exact ⟨_, rfl, app _ (fin2 false B (fun h => by cases h) hre)⟩
   ·have e4 : (kd == 4) = false := beq_eq_false_iff_ne.2 h4
    have hre : (kd = 4 → ([] : List (List Bool)) = B) ∧ (kd ≠ 4 → ([] : List (List Bool)) = []) := ⟨fun h => (h4 h).elim, fun _ => rfl⟩
    rw [e4]
    simp only [Au, Bool.or_false]
    cases l.fp
    ·exact ⟨_, rfl, app _ (fin2 false [] (fun h => by cases h) hre)⟩
    ·cases e3 : kd == 3
     ·exact ⟨_, rfl, app _ (fin2 true [] (fun _ => by rw [e3, e4]; rfl) hre)⟩
     ·exact ⟨_, rfl, app _ (fin2 false [] (fun h => by cases h) hre)⟩)
  (fun n a _ => by
   rw [BT]
   simp only [Bn]
   rw [AD (by omega), Au]) N 0 [] (Nat.zero_le _) (by omega) ⟨rfl, fun t ht => by cases ht⟩
 exact ⟨_, true, e2, fun _ => fin tabs (by omega) g2⟩
def J3 : List Int → Nat → Nat
 | [], _ => 0
 | _, 0 => 0
 | n :: ns, q + 1 => (if 0 ≤ n then 1 else 0) + J3 ns q
theorem Ku (l : List Int) : J3 l 0 = 0 := by cases l <;> rfl
theorem I0 : ∀ (l : List Int) (q : Nat), q < l.length → J3 l (q + 1) = J3 l q + if 0 ≤ l.getD q 0 then 1 else 0
 | [], q, h => by simp at h
 | n :: ns, 0, _ => by simp [J3, Ku]
 | n :: ns, q + 1, h => by
  rw [J3, I0 ns q (by simpa using h), J3, List.getD_cons_succ, Nat.add_assoc]
theorem Qa (l : List Int) {a b : Nat} (h : a ≤ b) (hb : b ≤ l.length) : J3 l a ≤ J3 l b := by
 induction b with
 | zero => rw [Nat.le_zero.1 h]; exact Nat.le_refl _
 | succ b ih =>
  by_cases h1 : a = b + 1
  ·rw [h1]; exact Nat.le_refl _
  ·have := ih (by omega) (by omega)
   rw [I0 l b (by omega)]; omega
theorem MF (l : List Int) : ∀ q, q ≤ l.length → J3 l q ≤ q
 | 0, _ => by rw [Ku]; exact Nat.le_refl _
 | q + 1, h => by
  have := MF l q (by omega)
  rw [I0 l q h]
  split <;> omega
def OT (l : List Int) (k q : Nat) : Int := if 0 ≤ l.getD q 0 ∧ k.testBit (J3 l q) = true then -1 else l.getD q 0
def YL (l : List Int) (k : Nat) : List Int := (List.range l.length).map (OT l k)
def bb (m : Ag) (k : Nat) : Ag := ⟨m.fd, YL m.fa k, m.fe⟩
def HI (m : Ag) : List Ag := (List.range (2 ^ J3 m.fa m.fa.length)).map (bb m)
theorem OB (l : List Int) (k : Nat) : (YL l k).length = l.length := by simp [YL]
theorem Ss (l : List Int) (k q : Nat) (h : q < l.length) : (YL l k).getD q 0 = OT l k q := by
 unfold YL; rw [lD, List.getElem?_map, List.getElem?_range h]; rfl
theorem Hv {l1 l2 : List Int} (h1 : l1.length = l2.length) (h : ∀ q, q < l1.length → l1.getD q 0 = l2.getD q 0) : l1 = l2 := by
 apply List.ext_getElem h1
 intro q h2 h3
 have := h q h2
 rw [lD, lD, List.getElem?_eq_getElem h2, List.getElem?_eq_getElem h3] at this
 exact this
theorem Wd : ∀ (k : Fin 64) (b : Fin 7), Hh .i64 (FA .i64 (k.val : Int) (b.val : Int)) 1 = (if k.val.testBit b.val then 1 else 0) ∧ Int.tmod (FA .i64 (k.val : Int) (b.val : Int)) 2 = (if k.val.testBit b.val then 1 else 0) := by decide +kernel
theorem Zb : ∀ n : Fin 7, Dw .i64 1 (n.val : Int) = ((2 ^ n.val : Nat) : Int) := by decide +kernel
structure Rd (m x : Ag) : Prop where
 base : x.fd = m.fd
 held : x.fe = m.fe
 len : x.fa.length = m.fa.length
 next : ∀ q, q < m.fa.length → x.fa.getD q 0 = m.fa.getD q 0 ∨ (0 ≤ m.fa.getD q 0 ∧ x.fa.getD q 0 = -1)
theorem Rd.refl (m : Ag) : Rd m m := ⟨rfl, rfl, rfl, fun _ _ => .inl rfl⟩
theorem Rd.trans {a b c : Ag} (h1 : Rd a b) (h2 : Rd b c) : Rd a c :=
 ⟨h2.base.trans h1.base, h2.held.trans h1.held, h2.len.trans h1.len, fun q hq => by
  have e1 := h1.next q hq
  have e2 := h2.next q (by rw [h1.len]; exact hq)
  omega⟩
theorem YH (m : Ag) (k : Nat) : Rd m (bb m k) :=
 ⟨rfl, rfl, OB _ _, fun q hq => by
  show (YL m.fa k).getD q 0 = _ ∨ _ ∧ (YL m.fa k).getD q 0 = _
  rw [Ss _ _ _ hq]; unfold OT
  split
  ·rename_i h; exact .inr ⟨h.1, rfl⟩
  ·exact .inl rfl⟩
theorem VU : ∀ (l x : List Int), x.length = l.length → (∀ q, q < l.length → x.getD q 0 = l.getD q 0 ∨ (0 ≤ l.getD q 0 ∧ x.getD q 0 = -1)) → ∃ k, k < 2 ^ J3 l l.length ∧ ∀ q, q < l.length → x.getD q 0 = OT l k q
 | [], x, h, _ => ⟨0, by simp [J3], fun q hq => by simp at hq⟩
 | n :: ns, [], h, _ => by simp at h
 | n :: ns, y :: ys, h, hq => by
  obtain ⟨k, hk, hk2⟩ := VU ns ys (by simpa using h) (fun q hq' => by have := hq (q + 1) (by simpa using hq'); simpa using this)
  have h0 := hq 0 (by simp)
  simp only [List.getD_cons_zero] at h0
  by_cases hn : 0 ≤ n
  ·refine ⟨2 * k + if y = n then 0 else 1, ?_, ?_⟩
   ·rw [List.length_cons, J3, if_pos hn, Nat.pow_add]
    split <;> omega
   ·intro q hq'
    cases q with
    | zero =>
     simp only [List.getD_cons_zero, OT, Ku]
     by_cases hy : y = n
     ·simp [hy]
     ·rw [if_neg hy, if_pos ⟨hn, by simp⟩]; omega
    | succ q =>
     have := hk2 q (by simpa using hq')
     simp only [List.getD_cons_succ, OT, J3, if_pos hn] at this ⊢
     rw [this, Nat.add_comm 1, Nat.testBit_succ]
     have : (2 * k + if y = n then 0 else 1) / 2 = k := by split <;> omega
     rw [this]
  ·refine ⟨k, ?_, ?_⟩
   ·rw [List.length_cons, J3, if_neg hn, Nat.zero_add]; exact hk
   ·intro q hq'
    cases q with
    | zero =>
     simp only [List.getD_cons_zero, OT, Ku]
     rw [if_neg (fun h => hn h.1)]
     omega
    | succ q =>
     have := hk2 q (by simpa using hq')
     simp only [List.getD_cons_succ, OT, J3, if_neg hn, Nat.zero_add] at this ⊢
     exact this
theorem QF {m x : Ag} : x ∈ HI m ↔ Rd m x := by
 unfold HI
 rw [List.mem_map]
 constructor
 ·rintro ⟨k, _, rfl⟩; exact YH m k
 ·intro h
  obtain ⟨k, hk, hq⟩ := VU m.fa x.fa h.len h.next
  refine ⟨k, List.mem_range.2 hk, ?_⟩
  have : YL m.fa k = x.fa := Hv (by rw [OB, h.len]) fun q hq' => by
   rw [OB] at hq'
   rw [Ss _ _ _ hq', hq q hq']
  unfold bb
  rw [this, ← h.base, ← h.held]
theorem bJ {m x : Ag} (h : Rd m x) {s : Nat} (hs : s < m.fa.length) {v : Nat} (hv : JW x s v = true) : JW m s v = true := by
 unfold JW at hv ⊢
 rw [h.base] at hv
 have := h.next s hs
 simp only [Bool.or_eq_true, decide_eq_true_eq] at hv ⊢
 omega
theorem aA {p : Ad} {m x : Ag} (hp : Bj p) (hm : Cs p m) (h : Rd m x) : Cs p x := by
 refine ⟨⟨by rw [h.base]; exact hm.base, by rw [h.len]; exact hm.next, by rw [h.held]; exact hm.held, fun i hi => by rw [h.base]; exact hm.b0 i hi, fun i hi => ?_, fun i hi => ?_⟩, fun i hi => by rw [h.held]; exact hm.range i hi, fun i t ht hs v hv => ?_, fun i t ht hs v hv => ?_, fun i t ht hs => by rw [h.held]; exact hm.none i t ht hs⟩
 ·have h1 := hm.n0 i hi
  have h2 := h.next i (by rw [hm.next]; exact hi)
  have h3 := JK hp hi
  omega
 ·have h1 := hm.ne i hi
  have h2 := h.next i (by rw [hm.next]; exact hi)
  have h3 := hm.b0 i hi
  rw [h.base]
  omega
 ·have hin := (Jm (hp.tab t (lM ht))).from0
  rw [h.held]
  exact hm.low i t ht hs v (bJ h (by rw [hm.next]; omega) hv)
 ·rw [h.held] at hv
  exact hm.high i t ht hs v hv
theorem Lc (N : Nat) (l : List Int) (h : l.length ≤ DP) : A6 N l = some l := by
 unfold A6
 rw [As (by simpa using h)]; rfl
theorem RI (N : Nat) (l : List Int) (h : l.length ≤ DP) : Cr N l = some l := by
 unfold Cr
 rw [As (by simpa using h)]; rfl
theorem Kk {l : List Int} {i q : Nat} {y : Int} (hi : i < l.length) : (l.set i y).getD q 0 = if q = i then y else l.getD q 0 := by
 rw [lD, lD, List.getElem?_set]
 by_cases h : i = q
 ·subst h; simp [hi]
 ·rw [if_neg h, if_neg (fun e => h e.symm)]
theorem ZF {l : List Int} {a b : Nat} (ha : a < l.length) (hb : b < l.length) (h1 : 0 ≤ l.getD a 0) (h2 : 0 ≤ l.getD b 0) (h : J3 l a = J3 l b) : a = b := by
 rcases Nat.lt_trichotomy a b with h3 | h3 | h3
 ·have := Qa l (a := a + 1) (b := b) h3 (by omega)
  rw [I0 l a ha, if_pos h1] at this; omega
 ·exact h3
 ·have := Qa l (a := b + 1) (b := a) h3 (by omega)
  rw [I0 l b hb, if_pos h2] at this; omega
structure Xe (l : List Int) (o : List Int) : Prop where
 len : o.length = J3 l l.length
 at_ : ∀ b, b < o.length → ∃ i : Nat, o.getD b 0 = (i : Int) ∧ i < l.length ∧ 0 ≤ l.getD i 0 ∧ J3 l i = b
theorem Tt (N : Nat) (l o : List Int) (k : Nat) (acc : List Ag) (hN : N ≤ 1000000) (h20 : 20 ≤ N) (hl : l.length ≤ 6) (ho : Xe l o) (hk : k < 64) (j : List Int → Option (List Ag × Int)) :
  D2 N o (acc, (k : Int)) j N (l, 0) = j (YL l k) := by
 have hol := MF l l.length (Nat.le_refl _)
 have hoL := ho.len
 obtain ⟨x, e, h1, h2⟩ := FF (A := List Int) (D2 N o (acc, (k : Int)) j) (fun a k => (a, k)) o.length j
  (fun b a => a.length = l.length ∧ ∀ q, q < l.length → a.getD q 0 = if 0 ≤ l.getD q 0 ∧ J3 l q < b ∧ k.testBit (J3 l q) = true then -1 else l.getD q 0)
  (fun n b a hb ha => by
   obtain ⟨i, hi1, hi2, hi3, hi4⟩ := ho.at_ b hb
   have hbit := Wd ⟨k, hk⟩ ⟨b, by omega⟩
   rw [D2]
   simp only [Bn]
   rw [AK (by omega), Er (d := 0) hb]
   simp only [oS]
   rw [As (by omega), hi1, hbit.1, Er (d := 0) (show i < a.length by rw [ha.1]; exact hi2), AF (by omega)]
   simp only [oS, Int.toNat_natCast]
   cases hkb : k.testBit b
   ·refine ⟨a, rfl, ha.1, fun q hq => ?_⟩
    rw [ha.2 q hq]
    by_cases hqb : J3 l q = b
    ·rw [hqb, hkb]; simp
    ·by_cases h3 : J3 l q < b
     ·have : J3 l q < b + 1 := by omega
      simp [h3, this]
     ·have : ¬ J3 l q < b + 1 := by omega
      simp [h3, this]
   ·refine ⟨a.set i (-1), rfl, by simp [ha.1], fun q hq => ?_⟩
    rw [Kk (by rw [ha.1]; exact hi2), ha.2 q hq]
    by_cases hqi : q = i
    ·subst hqi
     rw [if_pos rfl, if_pos ⟨hi3, by omega, by rw [hi4]; exact hkb⟩]
    ·rw [if_neg hqi]
     by_cases h0 : 0 ≤ l.getD q 0
     ·have hne : J3 l q ≠ b := fun h => hqi (ZF hq hi2 h0 hi3 (by omega))
      by_cases h3 : J3 l q < b
      ·have : J3 l q < b + 1 := by omega
       simp [h3, this]
      ·have : ¬ J3 l q < b + 1 := by omega
       simp [h3, this]
     ·rw [if_neg (fun h => h0 h.1), if_neg (fun h => h0 h.1)])
  (fun n a _ => by
   rw [D2]
   simp only [Bn]
   rw [AD (by omega)]) N 0 l (Nat.zero_le _) (by omega) ⟨rfl, fun q hq => by simp⟩
 have e' : D2 N o (acc, (k : Int)) j N (l, 0) = j x := e
 rw [e']
 congr 1
 refine Hv (by rw [OB, h1]) fun q hq => ?_
 rw [h1] at hq
 rw [h2 q hq, Ss _ _ _ hq, OT]
 by_cases h0 : 0 ≤ l.getD q 0
 ·have h3 := Qa l (a := q + 1) (b := l.length) hq (Nat.le_refl _)
  rw [I0 l q hq, if_pos h0] at h3
  have : J3 l q < o.length := by omega
  simp [this]
 ·rw [if_neg (fun h => h0 h.1), if_neg (fun h => h0 h.1)]
theorem Tv (N : Nat) (m : Ag) (k : Nat) (acc : List Ag) (hN : N ≤ 1000000) (h20 : 20 ≤ N) (hl : m.fa.length ≤ 6) (hk : k < 64) (j : List Int → Option (List Ag)) :
  Cw N m (acc, (k : Int)) j N (m.fa, 0, 0) = j (YL m.fa k) := by
 obtain ⟨⟨x, pl⟩, e, h1, h2, h3⟩ := FF (A := List Int × Nat) (Cw N m (acc, (k : Int)) j) (fun a k => (a.1, (a.2 : Int), k)) m.fa.length (fun a => j a.1)
  (fun i a => a.2 = J3 m.fa i ∧ a.1.length = m.fa.length ∧ ∀ q, q < m.fa.length → a.1.getD q 0 = if q < i then OT m.fa k q else m.fa.getD q 0)
  (fun n i a hi ha => by
   obtain ⟨a, pl⟩ := a
   obtain ⟨a1, a2, a3⟩ := ha
   simp only at a1 a2 a3
   have hple := MF m.fa i (by omega)
   have hbit := Wd ⟨k, hk⟩ ⟨pl, by omega⟩
   have hs := I0 m.fa i hi
   rw [Cw]
   simp only [Bn]
   rw [AK (by omega), Er (d := 0) hi]
   simp only [oS]
   rw [AF (by omega)]
   by_cases h0 : m.fa.getD i 0 < 0
   ·rw [AK h0]
    refine ⟨(a, pl), rfl, by simp only; rw [hs, if_neg (by omega), a1]; rfl, a2, fun q hq => ?_⟩
    simp only
    rw [a3 q hq]
    by_cases hqi : q = i
    ·subst hqi
     rw [if_neg (by omega), if_pos (by omega), OT, if_neg (by omega)]
    ·by_cases h4 : q < i
     ·rw [if_pos h4, if_pos (by omega)]
     ·rw [if_neg h4, if_neg (by omega)]
   ·rw [AD h0, As (by omega), Er (d := 0) (show i < a.length by omega), hbit.2, AF (by omega)]
    simp only [oS, Int.toNat_natCast]
    cases hkb : k.testBit pl
    ·refine ⟨(a, pl + 1), rfl, by simp only; rw [hs, if_pos (by omega), a1], a2, fun q hq => ?_⟩
     simp only
     rw [a3 q hq]
     by_cases hqi : q = i
     ·subst hqi
      rw [if_neg (by omega), if_pos (by omega), OT, ← a1, hkb]; simp
     ·by_cases h4 : q < i
      ·rw [if_pos h4, if_pos (by omega)]
      ·rw [if_neg h4, if_neg (by omega)]
    ·refine ⟨(a.set i (-1), pl + 1), rfl, by simp only; rw [hs, if_pos (by omega), a1], by simp [a2], fun q hq => ?_⟩
     simp only
     rw [Kk (by omega), a3 q hq]
     by_cases hqi : q = i
     ·subst hqi
      rw [if_pos rfl, if_pos (by omega), OT, ← a1, if_pos ⟨by omega, hkb⟩]
     ·rw [if_neg hqi]
      by_cases h4 : q < i
      ·rw [if_pos h4, if_pos (by omega)]
      ·rw [if_neg h4, if_neg (by omega)])
  (fun n a _ => by
   rw [Cw]
   simp only [Bn]
   rw [AD (by omega)]) N 0 (m.fa, 0) (Nat.zero_le _) (by omega) ⟨(Ku _).symm, rfl, fun q hq => by simp⟩
 have e' : Cw N m (acc, (k : Int)) j N (m.fa, 0, 0) = j x := e
 rw [e']
 congr 1
 simp only at h2 h3
 refine Hv (by rw [OB, h2]) fun q hq => ?_
 rw [h2] at hq
 rw [h3 q hq, if_pos hq, Ss _ _ _ hq]
theorem Ym (N : Nat) (m : Ag) (hN : N ≤ 1000000) (h20 : 20 ≤ N) (hl : m.fa.length ≤ 6) (j : List Int → Option (List Ag × Int)) :
  ∃ o, E1 N m j N ([], 0) = j o ∧ Xe m.fa o := by
 obtain ⟨o, e, h1, h2⟩ := FF (A := List Int) (E1 N m j) (fun a k => (a, k)) m.fa.length j
  (fun i o => o.length = J3 m.fa i ∧ ∀ b, b < o.length → ∃ q : Nat, o.getD b 0 = (q : Int) ∧ q < m.fa.length ∧ 0 ≤ m.fa.getD q 0 ∧ J3 m.fa q = b)
  (fun n i o hi ho => by
   have hple := MF m.fa i (by omega)
   have hs := I0 m.fa i hi
   rw [E1]
   simp only [Bn]
   rw [AK (by omega), Er (d := 0) hi]
   simp only [oS]
   rw [AF (by omega)]
   by_cases h0 : 0 ≤ m.fa.getD i 0
   ·rw [AK h0, As (by rw [ho.1]; unfold DP; simp; omega)]
    refine ⟨o ++ [(i : Int)], rfl, by rw [hs, if_pos h0, ← ho.1]; simp, ?_⟩
    rw [List.length_append]
    exact QY (P := fun b y => ∃ q : Nat, y = (q : Int) ∧ q < m.fa.length ∧ 0 ≤ m.fa.getD q 0 ∧ J3 m.fa q = b) rfl ho.2 ⟨i, rfl, hi, h0, ho.1.symm⟩
   ·rw [AD h0]
    exact ⟨o, rfl, by rw [hs, if_neg h0, ho.1]; rfl, ho.2⟩)
  (fun n a _ => by
   rw [E1]
   simp only [Bn]
   rw [AD (by omega)]) N 0 [] (Nat.zero_le _) (by omega) ⟨(Ku _).symm, fun b hb => by simp at hb⟩
 exact ⟨o, e, h1, h2⟩
theorem Nt {n : Nat} (h : n ≤ 6) : 2 ^ n ≤ 64 := Nat.pow_le_pow_right (n := 2) (by omega) h
theorem PH {n : Nat} (h : n ≤ 6) : Dw .i64 1 (n : Int) = ((2 ^ n : Nat) : Int) := Zb ⟨n, by omega⟩
theorem Mg {β : Type} (f : Nat → β) (n : Nat) : (List.range (n + 1)).map f = (List.range n).map f ++ [f n] := by
 rw [List.range_succ, List.map_append]; rfl
theorem Rq (N : Nat) (p : Ad) (m : Ag) (hN : N ≤ 1000000) (h20 : 100 ≤ N) (hw : Qz MN m.fe) (hv : GC p m = 0) : Ih N p m = some (HI m, 0) := by
 obtain ⟨hp, hm⟩ := Mq hw hv
 have hnv := hp.nv
 have hnt := hp.nt
 have hl : m.fa.length ≤ 6 := by rw [hm.next]; omega
 unfold Ih
 rw [J2 N p m hN (by omega) hw, hv]
 simp only [oS, bne_self_eq_false, Au]
 obtain ⟨o, e, ho⟩ := Ym N m hN (by omega) hl (fun (v4 : (List Int)) =>
   (Eh (0 ≤ (v4.length : Int))).bind fun _ =>
   DZ N m v4 (fun (v12 : (List Ag)) =>
    some (v12, 0)) N (([] : List Ag), 0))
 rw [e, As (by omega)]
 have hoL := ho.len
 have hol := MF m.fa m.fa.length (Nat.le_refl _)
 have hpow := Nt (show J3 m.fa m.fa.length ≤ 6 by omega)
 obtain ⟨a, e2, h1⟩ := FF (A := List Ag) (DZ N m o fun v12 => some (v12, 0)) (fun a k => (a, k)) (2 ^ J3 m.fa m.fa.length) (fun v12 => some (v12, 0))
  (fun i a => a = (List.range i).map (bb m))
  (fun n i a hi ha => by
   refine ⟨a ++ [bb m i], ?_, by rw [Mg, ha]⟩
   have hal : a.length = i := by rw [ha]; simp
   rw [DZ]
   rw [hoL, PH (n := J3 m.fa m.fa.length) (by omega), AK (by omega), Lc N m.fd (by have := hm.base; unfold DP; omega), Lc N m.fa (by unfold DP; omega), RI N m.fe (by have := hm.held; unfold DP; omega)]
   simp only [oS]
   rw [Tt N m.fa o i a hN (by omega) hl ho (by omega), As (by rw [hal]; unfold DP; simp; omega), AF (by omega)]
   rfl)
  (fun n a _ => by
   rw [DZ]
   rw [hoL, PH (n := J3 m.fa m.fa.length) (by omega), AD (by simp)]) N 0 [] (Nat.zero_le _) (by omega) rfl
 have e2' : DZ N m o (fun v12 => some (v12, 0)) N ([], 0) = some (a, 0) := e2
 rw [e2', h1]; rfl
theorem Vp (N : Nat) (m : Ag) (h1 : m.fd.length ≤ DP) (h2 : m.fa.length ≤ DP) (h3 : m.fe.length ≤ DP) : Fy N m = some m := by
 unfold Fy
 rw [As (by simpa using h1), As (by simpa using h2), As (by simpa using h3)]; rfl
theorem U3 (N : Nat) (m : Ag) (hN : N ≤ 1000000) (h20 : 100 ≤ N) (h1 : m.fd.length ≤ 100) (hl : m.fa.length ≤ 6) (h3 : m.fe.length ≤ 100) : FD N m = some (HI m) := by
 unfold FD
 obtain ⟨c, e, hc⟩ := FF (A := Nat) (Dg N m (fun (v2 : Int) =>
  BU N m v2 (fun (v8 : (List Ag)) => some v8) N (([] : List Ag), 0))) (fun a k => ((a : Int), k)) m.fa.length (fun a => BU N m (a : Int) (fun (v8 : (List Ag)) => some v8) N (([] : List Ag), 0))
  (fun i a => a = J3 m.fa i)
  (fun n i a hi ha => by
   have hple := MF m.fa i (by omega)
   have hs := I0 m.fa i hi
   rw [Dg]
   simp only [Bn]
   rw [AK (by omega), Er (d := 0) hi]
   simp only [oS]
   rw [AF (by omega), AF (by omega)]
   by_cases h0 : 0 ≤ m.fa.getD i 0
   ·rw [AK h0]
    exact ⟨a + 1, rfl, by rw [hs, if_pos h0, ha]⟩
   ·rw [AD h0]
    exact ⟨a, rfl, by rw [hs, if_neg h0, ha]; rfl⟩)
  (fun n a _ => by
   rw [Dg]
   simp only [Bn]
   rw [AD (by omega)]) N 0 0 (Nat.zero_le _) (by omega) (Ku _).symm
 have e' : Dg N m (fun (v2 : Int) => BU N m v2 (fun (v8 : (List Ag)) => some v8) N (([] : List Ag), 0)) N (0, 0) = _ := e
 rw [e', hc]
 have hol := MF m.fa m.fa.length (Nat.le_refl _)
 have hpow := Nt (show J3 m.fa m.fa.length ≤ 6 by omega)
 obtain ⟨a, e2, h1⟩ := FF (A := List Ag) (BU N m (J3 m.fa m.fa.length : Int) fun v8 => some v8) (fun a k => (a, k)) (2 ^ J3 m.fa m.fa.length) some
  (fun i a => a = (List.range i).map (bb m))
  (fun n i a hi ha => by
   refine ⟨a ++ [bb m i], ?_, by rw [Mg, ha]⟩
   have hal : a.length = i := by rw [ha]; simp
   rw [BU]
   rw [As (by omega), PH (n := J3 m.fa m.fa.length) (by omega), AK (by omega), Vp N m (by unfold DP; omega) (by unfold DP; omega) (by unfold DP; omega)]
   simp only [oS]
   rw [Tv N m i a hN (by omega) hl (by omega), As (by rw [hal]; unfold DP; simp; omega), AF (by omega)]
   rfl)
  (fun n a _ => by
   rw [BU]
   rw [As (by omega), PH (n := J3 m.fa m.fa.length) (by omega), AD (by simp)]) N 0 [] (Nat.zero_le _) (by omega) rfl
 have e2' : BU N m (J3 m.fa m.fa.length : Int) (fun v8 => some v8) N ([], 0) = some a := e2
 rw [e2', h1]; rfl
theorem VC (N : Nat) (p : Ad) (m : Ag) (hN : N ≤ 1000000) (h20 : 100 ≤ N) (hp : Bj p) (hm : Cs p m) : FD N m = some (HI m) := by
 have := hp.nv
 have := hp.nt
 exact U3 N m hN h20 (by rw [hm.base]; omega) (by rw [hm.next]; omega) (by rw [hm.held]; omega)
theorem Ok {p : Ad} {m : Ag} (hm : Cs p m) : Qz MN m.fe := by
 intro x hx
 obtain ⟨q, hq⟩ := List.mem_iff_getElem?.1 hx
 have h1 := (lI.1 hq).1
 have := hm.range q (by rw [← hm.held]; exact h1)
 rw [lD, hq] at this
 unfold MN
 simp only [Option.getD_some] at this
 simp [Lit.wf, IntKind.min, IntKind.max, IntKind.signed, IntKind.bits]
 omega
def Lx (p : Ad) (x : Ag) : Option (Ag × Aa) := match F7 p x with
 | [] => none
 | c :: _ => some (x, c)
def OI (p : Ad) (m : Ag) : Option (Ag × Aa) := Ei (fun _ x => Lx p x) 0 (HI m)
def IZ : Ag := ⟨[], [], []⟩
def X6 : Aa := ⟨0, 0, 0⟩
def VA (p : Ad) (m : Ag) : Ag × Aa × Int := match OI p m with
 | some (x, c) => (x, c, 0)
 | none => (IZ, X6, 15)
def BM (p : Ad) (m : Ag) : Bool := (OI p m).isNone
theorem P8 {m : Ag} (hl : m.fa.length ≤ 6) : (HI m).length ≤ 64 := by
 unfold HI
 have hol := MF m.fa m.fa.length (Nat.le_refl _)
 have hpow := Nt (show J3 m.fa m.fa.length ≤ 6 by omega)
 simpa using hpow
theorem NV {α R R' : Type} (f : Nat → α → Option R) (g : R → R') : ∀ (i : Nat) (xs : List α), Ei (fun i x => (f i x).map g) i xs = (Ei f i xs).map g
 | _, [] => rfl
 | i, x :: xs => by
  rw [G5, G5]
  cases f i x
  ·exact NV f g (i + 1) xs
  ·rfl
theorem Sx (N : Nat) (p : Ad) (m : Ag) (hN : N ≤ 1000000) (h20 : 100 ≤ N) (hw : Qz MN m.fe) (hv : GC p m = 0) : IU N p m = some (VA p m) := by
 obtain ⟨hp, hm⟩ := Mq hw hv
 have hnv := hp.nv
 unfold IU
 rw [Rq N p m hN h20 hw hv]
 simp only [oS, bne_self_eq_false, Au]
 have hal := P8 (m := m) (by rw [hm.next]; omega)
 have := DU (F6 N p (HI m, 0) fun _ => some (IZ, X6, 15)) (HI m) (some (IZ, X6, 15)) (fun _ x => (Lx p x).map fun y => (y.1, y.2, 0))
  (fun n i x hx => by
   have hi := (lI.1 hx).1
   have hx2 := aA hp hm (QF.1 (lM hx))
   rw [F6, AK (by simp only; omega)]
   simp only [AZ, hx, oS]
   rw [O2 N p x hN (by omega) hp hx2, AF (by omega)]
   simp only [oS, Lx]
   cases F7 p x with
   | nil => rfl
   | cons c cs => rw [AK (by simp only [List.length_cons]; omega)]; rfl)
  (fun n => by rw [F6, AD (by simp)]) N 0 (Nat.zero_le _) (by omega)
 rw [List.drop_zero, NV] at this
 exact this.trans (by
  unfold VA OI
  cases Ei (fun _ x => Lx p x) 0 (HI m) <;> rfl)
theorem KV (N : Nat) (p : Ad) (m : Ag) (hN : N ≤ 1000000) (h20 : 100 ≤ N) (hw : Qz MN m.fe) (hv : GC p m = 0) : Hw N p m = some (BM p m, 0) := by
 unfold Hw
 rw [Sx N p m hN h20 hw hv]
 unfold BM VA
 cases OI p m <;> rfl
theorem Un {α R : Type} {f : Nat → α → Option R} {i : Nat} {xs : List α} : (Ei f i xs).isNone = true ↔ ∀ j x, xs[j]? = some x → f (i + j) x = none := by
 constructor
 ·intro h
  exact Gm (Option.isNone_iff_eq_none.1 h)
 ·intro h
  rw [GO h]; rfl
theorem TF {p : Ad} {x : Ag} : Lx p x = none ↔ F7 p x = [] := by
 unfold Lx
 cases F7 p x <;> simp
theorem Tq (N : Nat) (p : Ad) (m : Ag) (hN : N ≤ 1000000) (h20 : 100 ≤ N) (hp : Bj p) (hm : Cs p m) : Fw N p m = some (F7 p m).isEmpty := by
 unfold Fw
 rw [OS N p m hN (by omega) hp hm]
 simp only [oS]
 cases F7 p m with
 | nil => rfl
 | cons c cs =>
  rw [beq_eq_false_iff_ne.2 (by simp only [List.length_cons]; omega)]; rfl
theorem Na (N : Nat) (p : Ad) (m : Ag) (hN : N ≤ 1000000) (h20 : 100 ≤ N) (hp : Bj p) (hm : Cs p m) : D8 N p m = some (BM p m) := by
 have hnv := hp.nv
 unfold D8
 rw [VC N p m hN h20 hp hm]
 simp only [oS]
 have hal := P8 (m := m) (by rw [hm.next]; omega)
 have := DU (CL N p (HI m) fun _ => some true) (HI m) (some true) (fun _ x => (Lx p x).map fun _ => false)
  (fun n i x hx => by
   have hi := (lI.1 hx).1
   have hx2 := aA hp hm (QF.1 (lM hx))
   rw [CL, AK (by omega)]
   simp only [AZ, hx, oS]
   rw [Tq N p x hN h20 hp hx2, AF (by omega)]
   simp only [oS, Lx]
   cases F7 p x with
   | nil => rfl
   | cons c cs => rfl)
  (fun n => by rw [CL, AD (by simp)]) N 0 (Nat.zero_le _) (by omega)
 rw [List.drop_zero, NV] at this
 refine Eq.trans this ?_
 unfold BM OI
 cases Ei (fun _ x => Lx p x) 0 (HI m) <;> rfl
theorem Us {N : Nat} {a b : Ag} (hN : N ≤ 1000000) (h1 : a.fd.length < N) (h2 : a.fa.length < N) (h3 : a.fe.length < N) (h4 : b.fe.length < N) (wa : Qz MN a.fe) (wb : Qz MN b.fe) : Fd N a b = some (U8 a b) := by
 unfold Fd
 rw [QS h1 hN, QS h2 hN, Pi h3 hN wa, Pi h4 hN wb]
 simp only [oS]
 rw [QS h3 hN]
 unfold U8 bt
 by_cases h1 : J0 a.fd b.fd = 0
 ·simp only [h1, bt]
  by_cases h2 : J0 a.fa b.fa = 0
  ·simp only [h2]
   by_cases h3 : J0 a.fe b.fe = 0 <;> simp [h3]
  ·have : (J0 a.fa b.fa != 0) = true := by simpa using h2
   simp [h2, this]
 ·have : (J0 a.fd b.fd != 0) = true := by simpa using h1
  simp [h1, this]
theorem SP (N : Nat) (a b : List Int) (hN : N ≤ 1000000) (h : a.length < N) : E2 N a b = some (a == b) := by
 unfold E2
 by_cases hl : a.length = b.length
 ·rw [hl, bne_self_eq_false, Au]
  have := DU (CJ N a b fun _ => some true) a (some true) (fun i x => if x = b.getD i 0 then none else some false)
   (fun n i x hx => by
    have hi := (lI.1 hx).1
    rw [CJ, AK (by omega), AZ, hx, Er (d := 0) (by omega)]
    simp only [oS]
    rw [AF (by omega)]
    by_cases h : x = b.getD i 0
    ·rw [if_pos h, h, bne_self_eq_false]; rfl
    ·rw [if_neg h, bne_iff_ne.2 h]; rfl)
   (fun n => by rw [CJ, AD (by simp)]) N 0 (Nat.zero_le _) (by omega)
  refine this.trans ?_
  rw [List.drop_zero]
  cases hs : Ei (fun i x => if x = b.getD i 0 then none else some false) 0 a with
  | none =>
   have : a = b := Hv hl fun q hq => by
    have hx : a[q]? = some (a.getD q 0) := by rw [lD]; simp [hq]
    have := Gm hs q _ hx
    rw [Nat.zero_add] at this
    split at this
    ·assumption
    ·cases this
   rw [this, beq_self_eq_true]; rfl
  | some r =>
   obtain ⟨j, x, hx, hf⟩ := F2 hs
   rw [Nat.zero_add] at hf
   split at hf
   ·cases hf
   ·rename_i hne
    cases hf
    have : (a == b) = false := beq_eq_false_iff_ne.2 fun e => hne (by rw [← e, lD, hx]; rfl)
    rw [this]; rfl
 ·have h1 : ((a.length : Int) != (b.length : Int)) = true := bne_iff_ne.2 (by omega)
  have h2 : (a == b) = false := beq_eq_false_iff_ne.2 fun e => hl (by rw [e])
  rw [h1, h2]; rfl
theorem SI (N : Nat) (a : List Int) (f : Int → Option Bool) (g : Int → Bool) (hN : N ≤ 1000000) (h : a.length < N) (hf : ∀ x, x ∈ a → f x = some (g x)) : Dq N a f = some (a.any g) := by
 unfold Dq E4
 have := DU (BA N a f fun _ => some (-1)) a (some (-1)) (fun i x => if g x then some (i : Int) else none)
  (fun n i x hx => by
   have hi := (lI.1 hx).1
   rw [BA, AK (by omega), AZ, hx]
   simp only [oS]
   rw [hf x (lM hx), AF (by omega)]
   simp only [oS]
   cases g x <;> rfl)
  (fun n => by rw [BA, AD (by simp)]) N 0 (Nat.zero_le _) (by omega)
 have e : BA N a f (fun _ => some (-1)) N 0 = _ := this
 rw [e, List.drop_zero]
 cases hs : Ei (fun i x => if g x then some (i : Int) else none) 0 a with
 | none =>
  have : a.any g = false := by
   rw [List.any_eq_false]
   intro x hx
   obtain ⟨j, hj⟩ := List.mem_iff_getElem?.1 hx
   have := Gm hs j x hj
   intro hg
   rw [hg] at this; cases this
  rw [this]; rfl
 | some r =>
  obtain ⟨j, x, hx, hf⟩ := F2 hs
  split at hf
  ·rename_i hg
   cases hf
   have : a.any g = true := List.any_eq_true.2 ⟨x, lM hx, hg⟩
   rw [this]
   simp only [Ch, oS]
   rw [decide_eq_true (by omega)]
  ·cases hf
def Js (p : Ad) (m : Ag) : Bool := GC p m == 0 && (m.fd == p.fm && m.fa.all (fun n => decide (n < 0)))
theorem Uu (N : Nat) (p : Ad) (m : Ag) (hN : N ≤ 1000000) (h20 : 100 ≤ N) (hw : Qz MN m.fe) : Jv N p m = some (Js p m) := by
 unfold Jv Js
 rw [J2 N p m hN (by omega) hw]
 simp only [Bn, oS]
 by_cases hv : GC p m = 0
 ·obtain ⟨hp, hm⟩ := Mq hw hv
  have := hp.nv
  rw [hv, SP N _ _ hN (by rw [hm.base]; omega), SI N m.fa (fun x => Ij N x) (fun n => decide (0 ≤ n)) hN (by rw [hm.next]; omega) (fun x _ => rfl)]
  simp only [oS, beq_self_eq_true, AU, Bool.true_and]
  have : m.fa.all (fun n => decide (n < 0)) = !m.fa.any (fun n => decide (0 ≤ n)) := by
   rw [List.not_any_eq_all_not]
   congr 1; funext n
   by_cases h : 0 ≤ n
   ·rw [decide_eq_true h, decide_eq_false (by omega)]; rfl
   ·rw [decide_eq_false h, decide_eq_true (by omega)]; rfl
  rw [this]
  cases m.fd == p.fm <;> simp
 ·rw [beq_eq_false_iff_ne.2 hv]; rfl
open Go
def GJ (p : Ad) (t : Aq) : Int := if Cx t = true then Dw .u8 1 (p.fh.getD t.fg.toNat 0) else 0
def F4 (p : Ad) : Ag := ⟨p.fh, List.replicate p.fh.length (-1), p.fb.map (GJ p)⟩
theorem Wr (N : Nat) (h : 100 ≤ N) (n : Nat) (hn : n ≤ 6) : FH N [(-1)] (n : Int) = some (List.replicate n (-1)) := by
 obtain ⟨k, rfl⟩ : ∃ k, N = k + 100 := ⟨N - 100, by omega⟩
 have : n = 0 ∨ n = 1 ∨ n = 2 ∨ n = 3 ∨ n = 4 ∨ n = 5 ∨ n = 6 := by omega
 rcases this with rfl | rfl | rfl | rfl | rfl | rfl | rfl
 all_goals (show _ = _; kernel_rfl)
theorem TU (T : List Int) (i : Nat) (hi : i < T.length) : (T.take i ++ List.replicate (T.length - i) 0).set i (T.getD i 0) = T.take (i + 1) ++ List.replicate (T.length - (i + 1)) 0 := by
 have hl : (T.take i).length = i := by simp; omega
 rw [List.set_append_right _ _ (by omega), hl, Nat.sub_self, show T.length - i = (T.length - (i + 1)) + 1 from by omega, List.replicate_succ, List.set_cons_zero, List.take_add_one, List.append_assoc]
 have : T[i]? = some (T.getD i 0) := by rw [lD]; simp [hi]
 rw [this]; rfl
theorem Wt (T : List Int) (i : Nat) (hi : i < T.length) (h0 : T.getD i 0 = 0) : T.take i ++ List.replicate (T.length - i) 0 = T.take (i + 1) ++ List.replicate (T.length - (i + 1)) 0 := by
 rw [← TU T i hi, h0, List.set_append_right _ _ (by rw [List.length_take]; omega)]
 congr 1
 have hl : (T.take i).length = i := by simp; omega
 rw [hl, Nat.sub_self, show T.length - i = (T.length - (i + 1)) + 1 from by omega, List.replicate_succ, List.set_cons_zero]
theorem Vs {p : Ad} (hv : BG p = 0) {t : Aq} (ht : t ∈ p.fb) : 0 ≤ t.fg ∧ t.fg.toNat < p.fh.length ∧ 0 ≤ p.fh.getD t.fg.toNat 0 ∧ p.fh.getD t.fg.toNat 0 < 6 ∧ p.fh.getD t.fg.toNat 0 < p.fc.getD t.fg.toNat 0 ∧ t.fg.toNat < p.fc.length := by
 obtain ⟨hp, hr⟩ := Dl hv
 have h1 := Ke (hp.tab t ht)
 have h2 := hr t.fg.toNat (by omega)
 have h3 := JK hp (i := t.fg.toNat) (by omega)
 have := hp.now
 refine ⟨h1.1, by omega, h2.1, by omega, h2.2.1, by omega⟩
theorem Lb {p : Ad} {i : Nat} {t : Aq} (ht : p.fb[i]? = some t) : (p.fb.map (GJ p)).getD i 0 = GJ p t := by
 rw [lD, List.getElem?_map, ht]; rfl
theorem Su (N : Nat) (p : Ad) (hN : N ≤ 1000000) (h20 : 100 ≤ N) : Jb N p = some (if BG p = 0 then F4 p else ⟨[], [], []⟩, BG p) := by
 unfold Jb
 rw [I7 N p hN (by omega)]
 simp only [oS]
 by_cases hv : BG p = 0
 ·rw [if_pos hv, hv]
  obtain ⟨hp, _⟩ := Dl hv
  have hnv := hp.nv
  have hnt := hp.nt
  have hnow := hp.now
  rw [bne_self_eq_false, Au, Lc N _ (by simp only [DP]; omega)]
  simp only [oS]
  rw [Wr N h20 _ (by omega)]
  simp only [oS]
  rw [As (by simp only [DP]; omega)]
  obtain ⟨a', e, ha⟩ := FF (Fl N p fun v7 => some (Ag.mk p.fh (List.replicate p.fh.length (-1)) v7, 0)) (fun a i => (a, i)) p.fb.length (fun v7 => some (Ag.mk p.fh (List.replicate p.fh.length (-1)) v7, 0))
   (fun i a => a = (p.fb.map (GJ p)).take i ++ List.replicate ((p.fb.map (GJ p)).length - i) 0)
   (fun n i a hi ha => by
    have hx : p.fb[i]? = some p.fb[i] := by simp [hi]
    have hm : p.fb[i] ∈ p.fb := List.getElem_mem hi
    obtain ⟨n1, n2, n3, n4, _⟩ := Vs hv hm
    rw [Fl, AK (by simp only; omega)]
    simp only [Bn, AZ, hx, oS, K4, AF (show i < 1000000 by omega)]
    have hal : i < (p.fb.map (GJ p)).length := by simpa using hi
    cases hs : Cx p.fb[i]
    ·rw [Au]
     refine ⟨a, rfl, ?_⟩
     rw [ha]
     exact Wt _ _ hal (by rw [Lb hx]; unfold GJ; rw [hs]; rfl)
    ·rw [AU]
     have e1 : A5 p.fh p.fb[i].fg = some (p.fh.getD p.fb[i].fg.toNat 0) := by
      obtain ⟨q, hq⟩ := Int.eq_ofNat_of_zero_le n1
      rw [hq]; exact Er (by rw [hq] at n2; simpa using n2)
     rw [e1]
     simp only [oS]
     rw [As n3]
     have hl : i < a.length := by rw [ha]; simp; omega
     have e2 : a[i]? = some a[i] := by simp [hl]
     rw [e2]
     simp only [oS]
     refine ⟨_, rfl, ?_⟩
     rw [← TU _ _ hal, Lb hx, ha]
     unfold GJ; rw [hs]; rfl)
   (fun n a ha => by rw [Fl, AD (by simp)]) N 0 (List.replicate p.fb.length 0) (Nat.zero_le _) (by omega) (by simp)
  have e' : Fl N p (fun v7 => some (Ag.mk p.fh (List.replicate p.fh.length (-1)) v7, 0)) N (List.replicate ((p.fb.length : Int)).toNat (0 : Int), 0) = _ := e
  rw [e', ha]
  have e5 : (p.fb.map (GJ p)).take p.fb.length = p.fb.map (GJ p) := List.take_of_length_le (by simp)
  simp [F4, e5]
 ·rw [if_neg hv, bne_iff_ne.2 hv, AU]
theorem SJ (N : Nat) (p : Ad) (hN : N ≤ 1000000) (h20 : 100 ≤ N) : FV N p = some (if BG p = 0 then F4 p else ⟨[], [], []⟩, BG p) := by
 unfold FV
 rw [LB N p hN (by omega)]
 simp only [oS]
 by_cases hv : BG p = 0
 ·rw [if_pos hv, hv]
  obtain ⟨hp, _⟩ := Dl hv
  have hnv := hp.nv
  have hnt := hp.nt
  have hnow := hp.now
  rw [bne_self_eq_false, Au]
  obtain ⟨a', e, ha⟩ := FF (CT N p fun v4 => By N p (fun v10 => some (Ag.mk v4.1 v4.2 v10, 0)) N (([] : List Int), 0)) (fun a i => (a.1, a.2, i)) p.fc.length (fun v4 => By N p (fun v10 => some (Ag.mk v4.1 v4.2 v10, 0)) N (([] : List Int), 0))
   (fun i a => a = (p.fh.take i, List.replicate i (-1)))
   (fun n i a hi ha => by
    subst ha
    rw [CT, AK (by simp only; omega)]
    have hx : p.fh[i]? = some p.fh[i] := by simp [show i < p.fh.length from by omega]
    simp only [AZ, hx, oS, AF (show i < 1000000 by omega)]
    rw [As (by simp [DP]; omega), As (by simp [DP]; omega)]
    refine ⟨(p.fh.take i ++ [p.fh[i]], List.replicate i (-1) ++ [-1]), rfl, ?_⟩
    rw [List.take_add_one, hx, List.replicate_succ']; rfl)
   (fun n a ha => by rw [CT, AD (by simp)]) N 0 ([], []) (Nat.zero_le _) (by omega) rfl
  have e' : CT N p (fun v4 => By N p (fun v10 => some (Ag.mk v4.1 v4.2 v10, 0)) N (([] : List Int), 0)) N (([] : List Int), ([] : List Int), 0) = _ := e
  rw [e', ha]
  simp only
  obtain ⟨b', e2, hb⟩ := FF (By N p fun v10 => some (Ag.mk (p.fh.take p.fc.length) (List.replicate p.fc.length (-1)) v10, 0)) (fun a i => (a, i)) p.fb.length (fun v10 => some (Ag.mk (p.fh.take p.fc.length) (List.replicate p.fc.length (-1)) v10, 0))
   (fun i a => a = (p.fb.map (GJ p)).take i)
   (fun n i a hi ha => by
    subst ha
    have hx : p.fb[i]? = some p.fb[i] := by simp [hi]
    have hm : p.fb[i] ∈ p.fb := List.getElem_mem hi
    obtain ⟨n1, n2, n3, n4, _⟩ := Vs hv hm
    rw [By, AK (by simp only; omega)]
    simp only [Bn, AZ, hx, oS, Iv, AF (show i < 1000000 by omega)]
    have hT : (p.fb.map (GJ p))[i]? = some (GJ p p.fb[i]) := by rw [List.getElem?_map, hx]; rfl
    have hlen : ((p.fb.map (GJ p)).take i).length + 1 ≤ DP := by simp [DP]; omega
    cases hs : Cx p.fb[i]
    ·rw [Au, As (by simpa using hlen)]
     refine ⟨_, rfl, ?_⟩
     rw [List.take_add_one, hT]
     unfold GJ; rw [hs]; rfl
    ·rw [AU]
     have e1 : A5 p.fh p.fb[i].fg = some (p.fh.getD p.fb[i].fg.toNat 0) := by
      obtain ⟨q, hq⟩ := Int.eq_ofNat_of_zero_le n1
      rw [hq]; exact Er (by rw [hq] at n2; simpa using n2)
     rw [e1]
     simp only [oS]
     rw [As n3, As (by simpa using hlen)]
     refine ⟨_, rfl, ?_⟩
     rw [List.take_add_one, hT]
     unfold GJ; rw [hs]; rfl)
   (fun n a ha => by rw [By, AD (by simp)]) N 0 [] (Nat.zero_le _) (by omega) rfl
  have e3 : By N p (fun v10 => some (Ag.mk (p.fh.take p.fc.length) (List.replicate p.fc.length (-1)) v10, 0)) N (([] : List Int), 0) = _ := e2
  rw [e3, hb]
  simp only [F4, ← hnow, List.take_length]
  rw [show p.fb.length = (p.fb.map (GJ p)).length from by simp, List.take_length]
 ·rw [if_neg hv, bne_iff_ne.2 hv, AU]
theorem Qo {p : Ad} (hv : BG p = 0) : Cs p (F4 p) := by
 obtain ⟨hp, hr⟩ := Dl hv
 have hnow := hp.now
 have hnx : ∀ i, i < p.fc.length → (List.replicate p.fh.length (-1 : Int)).getD i 0 = -1 := fun i hi => by
  rw [lD, List.getElem?_replicate, if_pos (by omega)]; rfl
 have hone : ∀ (i : Nat) (t : Aq), p.fb[i]? = some t → ∃ b : Nat, b < 6 ∧ p.fh.getD t.fg.toNat 0 = (b : Int) ∧ (b : Int) < p.fc.getD t.fg.toNat 0 ∧ t.fg.toNat < p.fc.length := fun i t ht => by
  obtain ⟨n1, n2, n3, n4, n5, n6⟩ := Vs hv (lM ht)
  obtain ⟨b, hb⟩ := Int.eq_ofNat_of_zero_le n3
  exact ⟨b, by omega, hb, by omega, n6⟩
 have hbit : ∀ b : Nat, b < 8 → ∀ v, EZ (Dw .u8 1 (b : Int)) v = decide (b = v) := fun b hb v => by
  by_cases h : v < 8
  ·exact (LM ⟨b, hb⟩ ⟨v, h⟩).1
  ·rw [LL (LM ⟨b, hb⟩ ⟨0, by omega⟩).2.2 (by omega)]
   symm; apply decide_eq_false; omega
 refine { base := hnow, next := by simp [F4, hnow], held := by simp [F4], b0 := fun i hi => ⟨(hr i hi).1, (hr i hi).2.1⟩, n0 := fun i hi => ?_, ne := fun i hi => ?_, range := fun i hi => ?_, low := fun i t ht hs v hv' => ?_, high := fun i t ht hs v hb => ?_, none := fun i t ht hs => ?_ }
 ·show -1 ≤ (List.replicate p.fh.length (-1 : Int)).getD i 0 ∧ (List.replicate p.fh.length (-1 : Int)).getD i 0 < _
  rw [hnx i hi]
  have := JK hp hi
  omega
 ·show p.fh.getD i 0 ≠ (List.replicate p.fh.length (-1 : Int)).getD i 0
  rw [hnx i hi]
  have := hr i hi
  omega
 ·have hx : p.fb[i]? = some p.fb[i] := by simp [hi]
  show 0 ≤ (p.fb.map (GJ p)).getD i 0 ∧ (p.fb.map (GJ p)).getD i 0 ≤ 255
  rw [Lb hx]
  unfold GJ
  split
  ·obtain ⟨b, h1, h2, _⟩ := hone i _ hx
   rw [h2]
   exact (LM ⟨b, by omega⟩ ⟨0, by omega⟩).2
  ·omega
 ·show EZ ((p.fb.map (GJ p)).getD i 0) v = true
  obtain ⟨b, h1, h2, h3, h4⟩ := hone i t ht
  rw [Lb ht]
  unfold GJ
  rw [if_pos hs, h2, hbit b (by omega)]
  unfold JW at hv'
  have h5 : (F4 p).fd.getD t.fg.toNat 0 = (b : Int) := h2
  have h6 : (F4 p).fa.getD t.fg.toNat 0 = -1 := hnx _ h4
  rw [h5, h6, Bool.or_eq_true, decide_eq_true_iff, decide_eq_true_iff] at hv'
  apply decide_eq_true; omega
 ·have hb : EZ ((p.fb.map (GJ p)).getD i 0) v = true := hb
  obtain ⟨b, h1, h2, h3, h4⟩ := hone i t ht
  rw [Lb ht] at hb
  unfold GJ at hb
  rw [if_pos hs, h2, hbit b (by omega), decide_eq_true_iff] at hb
  omega
 ·show (p.fb.map (GJ p)).getD i 0 = 0
  rw [Lb ht]; unfold GJ; rw [hs]; rfl
theorem Ph (x : BitVec 8) : wI .u8 (x.toNat : Int) = (x.toNat : Int) := by
 have := x.isLt
 simp [wI, IntKind.signed, IntKind.bits]
 omega
theorem T9 (x : BitVec 8) : 0 ≤ (x.toNat : Int) ∧ (x.toNat : Int) ≤ 255 := by
 have := x.isLt
 omega
theorem XQ (x : BitVec 8) (v : Nat) : EZ (x.toNat : Int) v = x.getLsbD v := by
 unfold EZ; rw [Int.toNat_natCast]; rfl
theorem SZ {a : Int} (ha : 0 ≤ a ∧ a ≤ 255) (v : Nat) : (BitVec.ofInt 8 a).getLsbD v = EZ a v := by
 obtain ⟨a, rfl⟩ := Int.eq_ofNat_of_zero_le ha.1
 unfold BitVec.getLsbD EZ
 rw [YB (by omega), Int.toNat_natCast]
theorem VF {a b : Int} (ha : 0 ≤ a ∧ a ≤ 255) (hb : 0 ≤ b ∧ b ≤ 255) : (∀ v, EZ (Ek .u8 a b) v = (EZ a v && !EZ b v)) ∧ 0 ≤ Ek .u8 a b ∧ Ek .u8 a b ≤ 255 := by
 have e : Ek .u8 a b = ((BitVec.ofInt 8 a &&& ~~~BitVec.ofInt 8 b).toNat : Int) := Ph (BitVec.ofInt 8 a &&& ~~~BitVec.ofInt 8 b)
 rw [e]
 refine ⟨fun v => ?_, T9 _⟩
 rw [XQ, BitVec.getLsbD_and, BitVec.getLsbD_not, SZ ha, SZ hb]
 by_cases h : v < 8
 ·simp [h]
 ·rw [LL ha.2 (by omega)]; simp
theorem U2 {a b : Int} (ha : 0 ≤ a ∧ a ≤ 255) (hb : 0 ≤ b ∧ b ≤ 255) : (∀ v, EZ (Q3 .u8 a b) v = (EZ a v || EZ b v)) ∧ 0 ≤ Q3 .u8 a b ∧ Q3 .u8 a b ≤ 255 := by
 have e : Q3 .u8 a b = ((BitVec.ofInt 8 a ||| BitVec.ofInt 8 b).toNat : Int) := Ph (BitVec.ofInt 8 a ||| BitVec.ofInt 8 b)
 rw [e]
 refine ⟨fun v => ?_, T9 _⟩
 rw [XQ, BitVec.getLsbD_or, SZ ha, SZ hb]
theorem ZI {b : Nat} (hb : b < 8) : (∀ v, EZ (Dw .u8 1 (b : Int)) v = decide (b = v)) ∧ 0 ≤ Dw .u8 1 (b : Int) ∧ Dw .u8 1 (b : Int) ≤ 255 := by
 refine ⟨fun v => ?_, (LM ⟨b, hb⟩ ⟨0, by omega⟩).2⟩
 by_cases h : v < 8
 ·exact (LM ⟨b, hb⟩ ⟨v, h⟩).1
 ·rw [LL (LM ⟨b, hb⟩ ⟨0, by omega⟩).2.2 (by omega)]
  symm; apply decide_eq_false; omega
theorem Xg (N : Nat) {s : Int} {v : Nat} (hs : 0 ≤ s ∧ s ≤ 255) (hv : v < 8) : Db N s (v : Int) = some (EZ s v) := by
 unfold Db
 rw [As (by omega), SA hs.1 hs.2 hv]
 cases EZ s v <;> rfl
def ad (v : Nat) : Nat := ((List.range 8).find? fun u => v.testBit u).getD 8
def cV (v : Nat) : Nat := ((List.range 8).filter fun u => v.testBit u).length
theorem bI : ∀ v : Fin 256, D3 0 (v.val : Int) = some (ad v.val : Int) := by decide +kernel
theorem bY (N : Nat) {v : Nat} (h : v < 256) : D3 N (v : Int) = some (ad v : Int) := bI ⟨v, h⟩
theorem YR : ∀ v : Fin 256, v.val ≠ 0 → ad v.val < 8 ∧ EZ (v.val : Int) (ad v.val) = true ∧ 0 ≤ Hh .u8 (v.val : Int) (wI .u8 ((v.val : Int) - 1)) ∧ Hh .u8 (v.val : Int) (wI .u8 ((v.val : Int) - 1)) ≤ 255 ∧
  cV (Hh .u8 (v.val : Int) (wI .u8 ((v.val : Int) - 1))).toNat + 1 = cV v.val ∧
  ∀ u : Fin 8, EZ (Hh .u8 (v.val : Int) (wI .u8 ((v.val : Int) - 1))) u.val = (EZ (v.val : Int) u.val && decide (u.val ≠ ad v.val)) := by decide +kernel
theorem cJ (v : Nat) : cV v ≤ 8 := by
 have := List.length_filter_le (fun u => v.testBit u) (List.range 8)
 simpa [cV] using this
theorem UE (N : Nat) (t : Aq) (b : Int) (rw_ : Nat → Bool) : ∀ (k n v : Nat), cV v ≤ k → k < n → v < 256 →
  (∀ u, u < 8 → EZ (v : Int) u = true → ∃ row, A5 t.fo (u : Int) = some row ∧ A5 row b = some (rw_ u)) →
  EH N t b (fun _ => some true) n (v : Int) = some ((List.range 8).all fun u => !EZ (v : Int) u || rw_ u)
 | k, 0, v, _, h, _, _ => by omega
 | k, n + 1, v, hk, hn, hv, hr => by
  rw [EH]
  by_cases h0 : v = 0
  ·subst h0
   have : (((0 : Nat) : Int) != 0) = false := rfl
   rw [this, Au]
   congr 1
  ·have h1 : ((v : Int) != 0) = true := bne_iff_ne.2 (by omega)
   obtain ⟨l1, l2, l3, l4, l5, l6⟩ := YR ⟨v, hv⟩ h0
   simp only at l1 l2 l3 l4 l5 l6
   obtain ⟨row, e1, e2⟩ := hr _ l1 l2
   rw [h1, AU, bY N hv]
   simp only [oS, e1, e2]
   obtain ⟨w, hw⟩ := Int.eq_ofNat_of_zero_le l3
   rw [hw] at l4 l5 l6 ⊢
   rw [Int.toNat_natCast] at l5
   cases hq : rw_ (ad v)
   ·rw [Bool.not_false, AU]
    congr 1
    symm
    rw [List.all_eq_false]
    exact ⟨ad v, by simpa using l1, by rw [l2, hq]; simp⟩
   ·rw [Bool.not_true, Au]
    match k, hk with
    | 0, hk => exfalso; omega
    | k + 1, hk =>
    rw [UE N t b rw_ k n w (by omega) (by omega) (by omega) (fun u hu hb => hr u hu (by have := l6 ⟨u, hu⟩; simp only at this; rw [hb] at this; simpa using (Bool.and_eq_true_iff.1 this.symm).1))]
    congr 1
    rw [Bool.eq_iff_iff, List.all_eq_true, List.all_eq_true]
    refine ⟨fun h u hu => ?_, fun h u hu => ?_⟩
    ·have hu8 : u < 8 := by simpa using hu
     have h3 := h u hu
     have h4 := l6 ⟨u, hu8⟩
     simp only at h4
     rw [h4] at h3
     by_cases e : u = ad v
     ·rw [e, hq]; simp
     ·simpa [e] using h3
    ·have hu8 : u < 8 := by simpa using hu
     have h3 := h u hu
     have h4 := l6 ⟨u, hu8⟩
     simp only at h4
     rw [h4]
     cases hb : EZ (v : Int) u
     ·simp
     ·rw [hb] at h3; simp at h3; simp [h3]
theorem US (N : Nat) (m : Ag) (s : Int) (h0 : 0 ≤ s) (h1 : s < (m.fd.length : Int)) (h2 : s < (m.fa.length : Int)) (hb : 0 ≤ m.fd.getD s.toNat 0) : Hq N m s = some (Is m s.toNat) := by
 unfold Hq Is
 rw [Gb (d := 0) h0 h1, Gb (d := 0) h0 h2]
 simp only [oS, Bd]
 rw [show Eh (0 ≤ m.fd.getD s.toNat 0) = some () from by unfold Eh; rw [if_pos hb]]
 simp only [oS]
 by_cases h : 0 ≤ m.fa.getD s.toNat 0
 ·rw [AK h, if_pos h, show Eh (0 ≤ m.fa.getD s.toNat 0) = some () from by unfold Eh; rw [if_pos h]]; rfl
 ·rw [AD h, if_neg h]
theorem Ma (N : Nat) (t : Aq) : G7 N t = some (Cx t) := by
 unfold G7 Cx
 simp only [Bd]
 cases h : t.ff == 3 <;> simp
def HX (s : Ah) : Bool := decide (1 ≤ s.ff ∧ s.ff ≤ 4 ∧ 0 ≤ s.fj ∧ 0 ≤ s.fr) && (s.ff == 1 || s.fr == 0)
def GZ (p : Ad) (s : Ah) : Bool :=
 if s.ff = 3 then decide (s.fj < (p.fb.length : Int)) else decide (s.fj < (p.fc.length : Int)) && (s.ff != 1 || decide (s.fr < p.fc.getD s.fj.toNat 0))
theorem Q7 (N : Nat) (s : Ah) : In N s = some (HX s) := by
 unfold In HX XL
 simp only [Bd]
 by_cases h1 : (if s.fr < s.fj then s.fr else s.fj) < 0
 ·rw [AK h1, AU, decide_eq_false (by split at h1 <;> omega)]; rfl
 ·rw [AD h1]
  by_cases h2 : s.ff < 1
  ·rw [AK h2, AU, decide_eq_false (by omega)]; rfl
  ·rw [AD h2]
   by_cases h3 : 4 < s.ff
   ·rw [decide_eq_true h3, AU, decide_eq_false (by omega)]; rfl
   ·rw [decide_eq_false h3, Au, decide_eq_true (by split at h1 <;> omega), Bool.true_and]
    cases h4 : s.ff == 1 <;> simp
theorem SO (N : Nat) (s : Ah) : FU N s = some (HX s) := by
 unfold FU HX
 simp only [Bd]
 by_cases h1 : 1 ≤ s.ff
 ·rw [AK h1]
  by_cases h2 : s.ff ≤ 4
  ·rw [AK h2]
   by_cases h3 : 0 ≤ s.fj
   ·rw [AK h3]
    by_cases h4 : 0 ≤ s.fr
    ·rw [AK h4, decide_eq_true (by omega), Bool.true_and]
     cases h5 : s.ff == 1 <;> simp
    ·rw [AD h4, decide_eq_false (by omega)]; rfl
   ·rw [AD h3, decide_eq_false (by omega)]; rfl
  ·rw [AD h2, decide_eq_false (by omega)]; rfl
 ·rw [AD h1, decide_eq_false (by omega)]; rfl
theorem PO (N : Nat) (p : Ad) (s : Ah) (hv : HX s = true) : HV N p s = some (GZ p s) := by
 have h0 : 0 ≤ s.fj := by
  unfold HX at hv
  rw [Bool.and_eq_true, decide_eq_true_iff] at hv
  exact hv.1.2.2.1
 unfold HV GZ
 simp only [Bd]
 by_cases h1 : s.ff = 3
 ·rw [if_pos h1, beq_iff_eq.2 h1, AU]
 ·rw [if_neg h1, beq_eq_false_iff_ne.2 h1, Au]
  by_cases h2 : s.fj < (p.fc.length : Int)
  ·rw [AK h2, decide_eq_true h2, Bool.true_and]
   cases h3 : s.ff != 1
   ·rw [Au, Gb (d := 0) h0 h2, Bool.false_or]; rfl
   ·rw [AU]; rfl
  ·rw [AD h2, decide_eq_false h2]; rfl
def VG (s : Ah) (t : Aq) : Bool := t.fg == s.fj && Cx t
def TQ (s : Ah) (i : Nat) (t : Aq) (a : List Int) : List Int := if VG s t = true then a.set i (Q3 .u8 (a.getD i 0) (Dw .u8 1 s.fr)) else a
def Jc (p : Ad) (s : Ah) (held : List Int) : List Int := IK (TQ s) 0 p.fb held
theorem Ps {_R : Type} (N : Nat) (p : Ad) (s : Ah) (held : List Int) (hv : 0 ≤ s.fr) (hl : held.length = p.fb.length) (h12 : p.fb.length < N) (hN : N ≤ 1000000) (j : List Int → Option (Bool × List Int × List Int)) :
  EX N p s j N (held, 0) = j (Jc p s held) ∧ (Jc p s held).length = p.fb.length := by
 have := IM (EX N p s j) (fun a i => (a, i)) p.fb j (TQ s) (fun i a => a.length = p.fb.length)
  (fun n i x a hx ha => by
   have hi := (lI.1 hx).1
   rw [EX, AK (by simp only; omega)]
   simp only [Bn, AZ, hx, oS, Ma, AF (show i < 1000000 by omega)]
   have e2 : a[i]? = some (a.getD i 0) := by rw [lD]; simp [show i < a.length from by omega]
   unfold TQ VG
   cases h1 : x.fg == s.fj
   ·rw [Au, Au, Bool.false_and, if_neg (by simp)]; exact ⟨rfl, ha⟩
   ·rw [AU, Bool.true_and]
    cases h2 : Cx x
    ·rw [Au, if_neg (by simp)]; exact ⟨rfl, ha⟩
    ·rw [AU, e2, if_pos rfl]
     simp only [oS]
     rw [As hv]
     exact ⟨rfl, by simpa using ha⟩)
  (fun n a ha => by rw [EX, AD (by simp)]) N 0 held (Nat.zero_le _) (by omega) hl
 rw [List.drop_zero] at this
 exact this
theorem Ql (N : Nat) (p : Ad) (s : Ah) (held : List Int) (hv : 0 ≤ s.fr) (hl : held.length = p.fb.length) (h12 : p.fb.length < N) (hN : N ≤ 1000000) (j : List Int → Option (Ag × Bool)) :
  CB N p s j N (held, 0) = j (Jc p s held) := by
 have := IM (CB N p s j) (fun a i => (a, i)) p.fb j (TQ s) (fun i a => a.length = p.fb.length)
  (fun n i x a hx ha => by
   have hi := (lI.1 hx).1
   rw [CB, AK (by simp only; omega)]
   simp only [Bn, AZ, hx, oS, Iv, AF (show i < 1000000 by omega)]
   have e2 : a[i]? = some (a.getD i 0) := by rw [lD]; simp [show i < a.length from by omega]
   unfold TQ VG
   cases h1 : x.fg == s.fj
   ·rw [Au, Au, Bool.false_and, if_neg (by simp)]; exact ⟨rfl, ha⟩
   ·rw [AU, Bool.true_and]
    cases h2 : Cx x
    ·rw [Au, if_neg (by simp)]; exact ⟨rfl, ha⟩
    ·rw [AU, e2, if_pos rfl]
     simp only [oS]
     rw [As hv]
     exact ⟨rfl, by simpa using ha⟩)
  (fun n a ha => by rw [CB, AD (by simp)]) N 0 held (Nat.zero_le _) (by omega) hl
 rw [List.drop_zero] at this
 exact this.1
def MC (m : Ag) (t : Aq) (u : Nat) : Bool := (t.fo.getD u []).getD (m.fd.getD t.fg.toNat 0).toNat false
def PA (m : Ag) (i : Nat) (t : Aq) (u : Nat) : Bool := EZ (m.fe.getD i 0) u && !JW m t.fg.toNat u
def IC (_p : Ad) (m : Ag) (i : Nat) (t : Aq) : Bool := t.ff == 4 && (List.range 8).any fun u => PA m i t u && !MC m t u
def Gu (p : Ad) (m : Ag) (s : Ah) : Option Ag :=
 let i := s.fj.toNat
 if s.ff = 1 then (if 0 ≤ m.fa.getD i 0 ∨ m.fd.getD i 0 = s.fr then none else some ⟨m.fd, m.fa.set i s.fr, Jc p s m.fe⟩)
 else if s.ff = 3 then match p.fb[i]? with
  | none => none
  | some t => if Cx t = false ∨ m.fe.getD i 0 = Is m t.fg.toNat ∨ IC p m i t = true then none else some ⟨m.fd, m.fa, m.fe.set i (Is m t.fg.toNat)⟩
 else if m.fa.getD i 0 < 0 then none
 else some ⟨if s.ff = 2 then m.fd.set i (m.fa.getD i 0) else m.fd, m.fa.set i (-1), m.fe⟩
def A8 (p : Ad) (m : Ag) (s : Ah) : Ag × Int :=
 if HX s = false then (IZ, 1) else if GZ p s = false then (IZ, 4) else match Gu p m s with
  | none => (IZ, 11)
  | some x => (x, 0)
end Go.Lift
namespace Go.Lift
open Option renaming bind_some → oS
open List renaming mem_of_getElem? → lM
open List renaming getElem?_eq_some_iff → lI
open List renaming getD_eq_getElem?_getD → lD
open Go
section clear
variable {p : Ad} {m : Ag} {i : Nat} {t : Aq}
theorem Xa (hp : Bj p) (hm : Cs p m) (ht : p.fb[i]? = some t) (hs : Cx t = true) {u : Nat} (h : EZ (m.fe.getD i 0) u = true) : (u : Int) < p.fc.getD t.fg.toNat 0 ∧ u < 6 ∧ t.fg.toNat < p.fc.length := by
 have h1 := hm.high i t ht hs u h
 have hin := Ke (hp.tab t (lM ht))
 have h2 := JK hp (i := t.fg.toNat) (by omega)
 exact ⟨h1, by omega, by omega⟩
theorem Ye (hp : Bj p) (hm : Cs p m) (ht : p.fb[i]? = some t) (hs : Cx t = true) (h4 : t.ff = 4) {u : Nat} (h : EZ (m.fe.getD i 0) u = true) :
  A5 t.fo (u : Int) = some (t.fo.getD u []) ∧ A5 (t.fo.getD u []) (m.fd.getD t.fg.toNat 0) = some (MC m t u) := by
 have hT := Jm (hp.tab t (lM ht))
 obtain ⟨h1, h2, h3⟩ := Xa hp hm ht hs h
 have hl := hT.reL h4
 have e : t.fo[u]? = some (t.fo.getD u []) := by rw [lD]; simp [show u < t.fo.length from by omega]
 have hr := hT.reR _ (lM e)
 have hb := hm.b0 t.fg.toNat h3
 refine ⟨by rw [AZ, e], ?_⟩
 unfold MC
 obtain ⟨b, hb'⟩ := Int.eq_ofNat_of_zero_le hb.1
 rw [hb'] at hb ⊢
 rw [Int.toNat_natCast]
 exact Er (by omega)
theorem Rl (N : Nat) (hN : N ≤ 1000000) (h20 : 100 ≤ N) (hp : Bj p) (hm : Cs p m) (ht : p.fb[i]? = some t) :
  Ir N p m (i : Int) = some (if Cx t = false ∨ m.fe.getD i 0 = Is m t.fg.toNat ∨ IC p m i t = true then (false, m.fe) else (true, m.fe.set i (Is m t.fg.toNat))) := by
 have hi := (lI.1 ht).1
 have hin := Ke (hp.tab t (lM ht))
 have hb := hm.base
 have hnx := hm.next
 have hh := hm.held
 have hr := JA hp hm.toMixServ (s := t.fg.toNat) (by omega)
 have hrg := hm.range i hi
 have eh : A5 m.fe (i : Int) = some (m.fe.getD i 0) := Er (by omega)
 unfold Ir
 simp only [Bn, AZ, ht, oS, Ma]
 have eh' : m.fe[i]? = some (m.fe.getD i 0) := by rw [← AZ, eh]
 cases hs : Cx t
 ·rw [Bool.not_false, AU, if_pos (.inl rfl)]
 ·rw [Bool.not_true, Au, US N m _ hin.1 (by omega) (by omega) (hm.b0 _ (by omega)).1]
  simp only [oS, eh']
  by_cases h1 : m.fe.getD i 0 = Is m t.fg.toNat
  ·rw [beq_iff_eq.2 h1, AU, AU, if_pos (.inr (.inl h1))]
  ·rw [beq_eq_false_iff_ne.2 h1, Au]
   by_cases h4 : t.ff = 4
   ·rw [beq_iff_eq.2 h4, AU, Gb (d := 0) hin.1 (by omega)]
    simp only [oS]
    obtain ⟨a1, a2, a3⟩ := VF hrg hr.2
    obtain ⟨w, hw⟩ := Int.eq_ofNat_of_zero_le a2
    unfold Hm
    rw [hw] at a1 a3 ⊢
    rw [UE N t _ (MC m t) 8 N w (cJ _) (by omega) (by omega) (fun u hu hbu => by
     have := a1 u; rw [hbu] at this
     exact ⟨_, Ye hp hm ht hs h4 (Bool.and_eq_true_iff.1 this.symm).1⟩)]
    simp only [oS]
    have e : (!(List.range 8).all fun u => !EZ (w : Int) u || MC m t u) = IC p m i t := by
     unfold IC
     rw [beq_iff_eq.2 h4, Bool.true_and, List.not_all_eq_any_not]
     congr 1
     funext u
     rw [a1 u, hr.1 u]
     unfold PA
     cases EZ (m.fe.getD i 0) u <;> cases JW m t.fg.toNat u <;> cases MC m t u <;> rfl
    rw [e]
    cases hst : IC p m i t
    ·rw [Au, if_neg (by rintro (h | h | h); cases h; exact h1 h; cases h)]; rfl
    ·rw [AU, if_pos (.inr (.inr rfl))]
   ·have e : IC p m i t = false := by unfold IC; rw [beq_eq_false_iff_ne.2 h4]; rfl
    rw [beq_eq_false_iff_ne.2 h4, Au, Au, e, if_neg (by rintro (h | h | h); cases h; exact h1 h; cases h)]; rfl
theorem QQ (N : Nat) (hN : N ≤ 1000000) (h20 : 100 ≤ N) (hp : Bj p) (hm : Cs p m) (ht : p.fb[i]? = some t) (hs : Cx t = true) (s : Ah) (hsi : s.fj = (i : Int)) (j : Option (Ag × Bool)) :
  B2 N p m s t (Is m t.fg.toNat) (fun _ => j) N 0 = if IC p m i t = true then some (IZ, false) else j := by
 have hi := (lI.1 ht).1
 have hin := Ke (hp.tab t (lM ht))
 have hb := hm.base
 have hh := hm.held
 have hr := JA hp hm.toMixServ (s := t.fg.toNat) (by omega)
 have hrg := hm.range i hi
 have hver := JK hp (i := t.fg.toNat) (by omega)
 obtain ⟨nv, hnv⟩ := Int.eq_ofNat_of_zero_le (show 0 ≤ p.fc.getD t.fg.toNat 0 by omega)
 have eh' : m.fe[i]? = some (m.fe.getD i 0) := by rw [lD]; simp [show i < m.fe.length from by omega]
 have := DU (B2 N p m s t (Is m t.fg.toNat) fun _ => j) (List.range nv) j (fun u _ => if (PA m i t u && (t.ff == 4 && !MC m t u)) = true then some (IZ, false) else none)
  (fun n u x hx => by
   have hu : u < nv := by
    have := (lI.1 hx).1
    simpa using this
   rw [B2, Gb (d := 0) hin.1 (by omega), hnv]
   simp only [oS]
   rw [AK (by omega)]
   simp only [Bn, hsi, AZ, eh', oS]
   rw [Xg N hrg (by omega), AF (by omega)]
   simp only [oS]
   cases h1 : EZ (m.fe.getD i 0) u
   ·have e : PA m i t u = false := by unfold PA; rw [h1]; rfl
    rw [Au, Au, Au, e]; rfl
   ·rw [AU, Xg N hr.2 (by omega), hr.1 u]
    simp only [oS]
    have e : PA m i t u = !JW m t.fg.toNat u := by unfold PA; rw [h1]; rfl
    rw [← e]
    cases h2 : PA m i t u
    ·rw [Au, Au]; rfl
    ·rw [AU]
     by_cases h4 : t.ff = 4
     ·obtain ⟨e1, e2⟩ := Ye hp hm ht hs h4 h1
      rw [AZ] at e1
      rw [beq_iff_eq.2 h4, AU, e1, Gb (d := 0) hin.1 (by omega)]
      simp only [oS]
      rw [e2]
      simp only [oS]
      cases MC m t u <;> rfl
     ·rw [beq_eq_false_iff_ne.2 h4, Au, Au]; rfl)
  (fun n => by
   rw [B2, Gb (d := 0) hin.1 (by omega), hnv]
   simp only [oS, List.length_range]
   rw [AD (by omega)]) N 0 (Nat.zero_le _) (by simp; omega)
 have e0 : B2 N p m s t (Is m t.fg.toNat) (fun _ => j) N 0 = _ := this
 rw [e0, List.drop_zero]
 by_cases hst : IC p m i t = true
 ·rw [if_pos hst]
  unfold IC at hst
  rw [Bool.and_eq_true, List.any_eq_true] at hst
  obtain ⟨h4, u, hu, h5⟩ := hst
  rw [Bool.and_eq_true] at h5
  have h6 : EZ (m.fe.getD i 0) u = true := by have := h5.1; unfold PA at this; exact (Bool.and_eq_true_iff.1 this).1
  have h7 := Xa hp hm ht hs h6
  cases hsc : Ei (fun u (_ : Nat) => if (PA m i t u && (t.ff == 4 && !MC m t u)) = true then some (IZ, false) else none) 0 (List.range nv) with
  | some r =>
   obtain ⟨q, x, hx, hf⟩ := F2 hsc
   split at hf
   ·cases hf; rfl
   ·cases hf
  | none =>
   exfalso
   have hx : (List.range nv)[u]? = some u := List.getElem?_range (by omega)
   have := Gm hsc u u hx
   rw [Nat.zero_add, h5.1, h4, h5.2] at this
   cases this
 ·rw [if_neg hst]
  have : Ei (fun u (_ : Nat) => if (PA m i t u && (t.ff == 4 && !MC m t u)) = true then some (IZ, false) else none) 0 (List.range nv) = none := GO fun q x hx => by
   rw [Nat.zero_add]
   split
   ·rename_i h5
    exfalso; apply hst
    rw [Bool.and_eq_true, Bool.and_eq_true] at h5
    unfold IC
    rw [h5.2.1, Bool.true_and, List.any_eq_true]
    have hq : q < nv := by
     have := (lI.1 hx).1
     simpa using this
    exact ⟨q, List.mem_range.2 (by omega), by rw [h5.1, h5.2.2]; rfl⟩
   ·rfl
  rw [this]; rfl
end clear
end Go.Lift
namespace Go.Lift
open Option renaming bind_some → oS
open List renaming mem_of_getElem? → lM
open Go
theorem Jk {s : Ah} (h : HX s = true) : 1 ≤ s.ff ∧ s.ff ≤ 4 ∧ 0 ≤ s.fj ∧ 0 ≤ s.fr ∧ (s.ff ≠ 1 → s.fr = 0) := by
 unfold HX at h
 rw [Bool.and_eq_true, decide_eq_true_iff, Bool.or_eq_true, beq_iff_eq, beq_iff_eq] at h
 exact ⟨h.1.1, h.1.2.1, h.1.2.2.1, h.1.2.2.2, fun hk => h.2.elim (fun e => (hk e).elim) id⟩
theorem J5 {p : Ad} {s : Ah} (h : GZ p s = true) : (s.ff = 3 → s.fj < (p.fb.length : Int)) ∧ (s.ff ≠ 3 → s.fj < (p.fc.length : Int)) ∧ (s.ff = 1 → s.fr < p.fc.getD s.fj.toNat 0) := by
 unfold GZ at h
 split at h
 ·rename_i hk
  rw [decide_eq_true_iff] at h
  exact ⟨fun _ => h, fun hn => (hn hk).elim, fun h1 => by omega⟩
 ·rename_i hk
  rw [Bool.and_eq_true, decide_eq_true_iff, Bool.or_eq_true, decide_eq_true_iff, bne_iff_ne] at h
  exact ⟨fun h3 => (hk h3).elim, fun _ => h.1, fun h1 => h.2.elim (fun hn => (hn h1).elim) id⟩
theorem WN (N : Nat) {p : Ad} {m : Ag} (hp : Bj p) (hm : Cs p m) : HZ N m = some m := by
 have hnv := hp.nv
 have hnt := hp.nt
 have h1 := hm.base
 have h2 := hm.next
 have h3 := hm.held
 unfold HZ
 rw [Lc N _ (by simp only [DP]; omega), Lc N _ (by simp only [DP]; omega), RI N _ (by simp only [DP]; omega)]
 rfl
theorem M6 (N : Nat) (hN : N ≤ 1000000) (h20 : 100 ≤ N) {p : Ad} {m : Ag} (hp : Bj p) (hm : Cs p m) {s : Ah} (hv : HX s = true) (hx : GZ p s = true) :
  ∃ o, GU N p m s = some (o, (Gu p m s).isSome) ∧ ∀ x, Gu p m s = some x → o = x := by
 obtain ⟨k1, k4, i0, v0, vk⟩ := Jk hv
 obtain ⟨x3, xn, x1⟩ := J5 hx
 have hnv := hp.nv
 have hnt := hp.nt
 have hb := hm.base
 have hn := hm.next
 have hh := hm.held
 obtain ⟨i, hi⟩ := Int.eq_ofNat_of_zero_le i0
 unfold GU Gu
 rw [WN N hp hm]
 simp only [oS, Bn]
 by_cases hk1 : s.ff = 1
 ·have hi1 : (i : Int) < p.fc.length := by have := xn (by omega); omega
  rw [beq_iff_eq.2 hk1, AU, if_pos hk1]
  unfold Jo
  simp only [Bn, hi, Int.toNat_natCast]
  rw [Er (d := 0) (show i < m.fa.length by omega)]
  simp only [oS]
  by_cases c1 : 0 ≤ m.fa.getD i 0
  ·rw [AK c1, AU, if_pos (.inl c1)]
   exact ⟨_, rfl, fun x hx => by cases hx⟩
  ·rw [AD c1, Er (d := 0) (show i < m.fd.length by omega)]
   simp only [oS]
   by_cases c2 : m.fd.getD i 0 = s.fr
   ·rw [beq_iff_eq.2 c2, AU, if_pos (.inr c2)]
    exact ⟨_, rfl, fun x hx => by cases hx⟩
   ·rw [beq_eq_false_iff_ne.2 c2, Au, (Ps (_R := Unit) N p s m.fe v0 hh (by omega) hN _).1, if_neg (by rintro (h | h); exact c1 h; exact c2 h)]
    exact ⟨_, rfl, fun x hx => by cases hx; rfl⟩
 ·rw [beq_eq_false_iff_ne.2 hk1, Au, if_neg hk1]
  by_cases hk3 : s.ff = 3
  ·have hi3 : i < p.fb.length := by have := x3 hk3; omega
   have ht : p.fb[i]? = some p.fb[i] := by simp [hi3]
   rw [beq_iff_eq.2 hk3, AU, if_pos hk3, hi, Rl N hN h20 hp hm ht]
   simp only [oS, Int.toNat_natCast, ht]
   split
   ·exact ⟨_, rfl, fun x hx => by cases hx⟩
   ·exact ⟨_, rfl, fun x hx => by cases hx; rfl⟩
  ·have hi1 : (i : Int) < p.fc.length := by have := xn hk3; omega
   rw [beq_eq_false_iff_ne.2 hk3, Au, if_neg hk3, hi, Er (d := 0) (show i < m.fa.length by omega)]
   simp only [oS, Int.toNat_natCast]
   by_cases c1 : m.fa.getD i 0 < 0
   ·rw [AK c1, if_pos c1]
    exact ⟨_, rfl, fun x hx => by cases hx⟩
   ·rw [AD c1, if_neg c1]
    by_cases hk2 : s.ff = 2
    ·rw [beq_iff_eq.2 hk2, AU, Er (d := 0) (show i < m.fd.length by omega), if_pos hk2]
     exact ⟨_, rfl, fun x hx => by cases hx; rfl⟩
    ·rw [beq_eq_false_iff_ne.2 hk2, Au, if_neg hk2]
     exact ⟨_, rfl, fun x hx => by cases hx; rfl⟩
theorem Rc (N : Nat) (hN : N ≤ 1000000) (h20 : 100 ≤ N) {p : Ad} {m : Ag} (hp : Bj p) (hm : Cs p m) (s : Ah) : Ik N p m s = some (A8 p m s) := by
 unfold Ik A8
 rw [Q7]
 simp only [oS]
 cases hv : HX s
 ·rw [Bool.not_false, AU, if_pos rfl]; rfl
 ·rw [Bool.not_true, Au, if_neg (by simp), PO N p s hv]
  simp only [oS]
  cases hx : GZ p s
  ·rw [Bool.not_false, AU, if_pos rfl]; rfl
  ·rw [Bool.not_true, Au, if_neg (by simp)]
   obtain ⟨o, e, ho⟩ := M6 N hN h20 hp hm hv hx
   rw [e]
   simp only [oS]
   cases ha : Gu p m s with
   | none => rfl
   | some x => rw [ho x ha]; rfl
theorem NR (N : Nat) (hN : N ≤ 1000000) (h20 : 100 ≤ N) {p : Ad} {m : Ag} (hp : Bj p) (hm : Cs p m) {s : Ah} (hv : HX s = true) (hx : GZ p s = true) :
  DF N p m s = some (match Gu p m s with | none => (IZ, false) | some x => (x, true)) := by
 obtain ⟨k1, k4, i0, v0, vk⟩ := Jk hv
 obtain ⟨x3, xn, x1⟩ := J5 hx
 have hnv := hp.nv
 have hnt := hp.nt
 have hb := hm.base
 have hn := hm.next
 have hh := hm.held
 obtain ⟨i, hi⟩ := Int.eq_ofNat_of_zero_le i0
 unfold DF Gu
 rw [As (by simp [DP]; omega), As (by simp [DP]; omega), As (by simp [DP]; omega)]
 simp only [Bn, List.nil_append]
 by_cases hk1 : s.ff = 1
 ·have hi1 : (i : Int) < p.fc.length := by have := xn (by omega); omega
  rw [beq_iff_eq.2 hk1, AU, if_pos hk1]
  simp only [hi, Int.toNat_natCast]
  rw [Er (d := 0) (show i < m.fa.length by omega)]
  simp only [oS]
  by_cases c1 : 0 ≤ m.fa.getD i 0
  ·rw [AK c1, AU, if_pos (.inl c1)]; rfl
  ·rw [AD c1, Er (d := 0) (show i < m.fd.length by omega)]
   simp only [oS]
   by_cases c2 : m.fd.getD i 0 = s.fr
   ·rw [beq_iff_eq.2 c2.symm, AU, if_pos (.inr c2)]; rfl
   ·rw [beq_eq_false_iff_ne.2 (fun h => c2 h.symm), Au, Ql N p s m.fe v0 hh (by omega) hN _, if_neg (by rintro (h | h); exact c1 h; exact c2 h)]
 ·rw [beq_eq_false_iff_ne.2 hk1, Au, if_neg hk1]
  by_cases hk3 : s.ff = 3
  ·have hi3 : i < p.fb.length := by have := x3 hk3; omega
   have ht : p.fb[i]? = some p.fb[i] := by simp [hi3]
   have hin := Ke (hp.tab _ (lM ht))
   have eh' : A5 m.fe (i : Int) = some (m.fe.getD i 0) := Er (by omega)
   rw [beq_eq_false_iff_ne.2 (show s.ff ≠ 2 by omega), Au, beq_iff_eq.2 hk3, AU, if_pos hk3, hi, AZ, ht]
   simp only [oS, Iv, Int.toNat_natCast, ht]
   cases hs : Cx p.fb[i]
   ·rw [Bool.not_false, AU, if_pos (.inl rfl)]; rfl
   ·rw [Bool.not_true, Au, LS N m _ hin.1 (by omega) (by omega) (hm.b0 _ (by omega)).1, eh']
    simp only [oS]
    by_cases h1 : m.fe.getD i 0 = Is m (p.fb[i]).fg.toNat
    ·rw [beq_iff_eq.2 h1, AU, if_pos (.inr (.inl h1))]; rfl
    ·rw [beq_eq_false_iff_ne.2 h1, Au]
     rw [QQ N hN h20 hp hm ht hs s hi]
     cases hst : IC p m i p.fb[i]
     ·rw [if_neg (by simp), if_neg (by rintro (h | h | h); cases h; exact h1 h; cases h)]
     ·rw [if_pos rfl, if_pos (.inr (.inr rfl))]
  ·have hi1 : (i : Int) < p.fc.length := by have := xn hk3; omega
   rw [if_neg hk3, hi, Er (d := 0) (show i < m.fa.length by omega)]
   simp only [oS, Int.toNat_natCast]
   by_cases hk2 : s.ff = 2
   ·rw [beq_iff_eq.2 hk2, AU, if_pos hk2]
    by_cases c1 : m.fa.getD i 0 < 0
    ·rw [AK c1, if_pos c1]; rfl
    ·rw [AD c1, if_neg c1, Er (d := 0) (show i < m.fd.length by omega)]; rfl
   ·rw [beq_eq_false_iff_ne.2 hk2, Au, beq_eq_false_iff_ne.2 hk3, Au, if_neg hk2]
    by_cases c1 : m.fa.getD i 0 < 0
    ·rw [AK c1, if_pos c1]; rfl
    ·rw [AD c1, if_neg c1]
end Go.Lift
namespace Go.Lift
open Option renaming bind_some → oS
open List renaming mem_of_getElem? → lM
open List renaming getElem?_eq_some_iff → lI
open Go
theorem TO (s : Ah) : ∀ (xs : List Aq) (i : Nat) (a : List Int), i + xs.length ≤ a.length → (IK (TQ s) i xs a).length = a.length ∧ ∀ q, (IK (TQ s) i xs a).getD q 0 = match (if i ≤ q then xs[q - i]? else none) with
  | some t => if VG s t = true then Q3 .u8 (a.getD q 0) (Dw .u8 1 s.fr) else a.getD q 0
  | none => a.getD q 0
 | [], i, a, _ => by
  refine ⟨rfl, fun q => ?_⟩
  split
  ·rename_i h; split at h
   ·simp at h
   ·cases h
  ·rfl
 | x :: xs, i, a, hl => by
  have hl' : i + (xs.length + 1) ≤ a.length := by simpa using hl
  have ha : (TQ s i x a).length = a.length := by unfold TQ; split <;> simp
  obtain ⟨ih1, ih2⟩ := TO s xs (i + 1) (TQ s i x a) (by omega)
  refine ⟨by rw [IK, ih1, ha], fun q => ?_⟩
  rw [IK, ih2 q]
  have hu : (TQ s i x a).getD q 0 = if q = i ∧ VG s x = true then Q3 .u8 (a.getD q 0) (Dw .u8 1 s.fr) else a.getD q 0 := by
   unfold TQ
   by_cases hc : VG s x = true
   ·rw [if_pos hc, Kk (by omega)]
    by_cases hq : q = i
    ·subst hq; rw [if_pos rfl, if_pos ⟨rfl, hc⟩]
    ·rw [if_neg hq, if_neg (fun h => hq h.1)]
   ·rw [if_neg hc, if_neg (fun h => hc h.2)]
  by_cases h1 : i + 1 ≤ q
  ·rw [if_pos h1, if_pos (show i ≤ q by omega), hu, if_neg (by omega)]
   rw [show (x :: xs)[q - i]? = xs[q - (i + 1)]? from by rw [show q - i = (q - (i + 1)) + 1 from by omega, List.getElem?_cons_succ]]
  ·rw [if_neg h1]
   by_cases h2 : q = i
   ·subst h2
    rw [if_pos (Nat.le_refl _), Nat.sub_self, hu]
    simp
   ·rw [if_neg (show ¬ i ≤ q by omega), hu, if_neg (by omega)]
theorem WK {p : Ad} {s : Ah} {held : List Int} (hl : held.length = p.fb.length) : (Jc p s held).length = p.fb.length ∧ ∀ q t, p.fb[q]? = some t → (Jc p s held).getD q 0 = if VG s t = true then Q3 .u8 (held.getD q 0) (Dw .u8 1 s.fr) else held.getD q 0 := by
 obtain ⟨h1, h2⟩ := TO s p.fb 0 held (by omega)
 refine ⟨h1.trans hl, fun q t ht => ?_⟩
 have := h2 q
 rw [if_pos (Nat.zero_le _), Nat.sub_zero, ht] at this
 exact this
theorem Qe {m : Ag} {s v : Nat} : JW m s v = true ↔ m.fd.getD s 0 = (v : Int) ∨ m.fa.getD s 0 = (v : Int) := by
 unfold JW; rw [Bool.or_eq_true, decide_eq_true_iff, decide_eq_true_iff]
theorem Yu {p : Ad} {m x : Ag} (hp : Bj p) (hm : Cs p m) {s : Ah} (hv : HX s = true) (hx : GZ p s = true) (h : Gu p m s = some x) : Cs p x := by
 obtain ⟨k1, k4, i0, v0, vk⟩ := Jk hv
 obtain ⟨x3, xn, x1⟩ := J5 hx
 obtain ⟨i, hi⟩ := Int.eq_ofNat_of_zero_le i0
 have hb := hm.base
 have hn := hm.next
 have hh := hm.held
 unfold Gu at h
 simp only [hi, Int.toNat_natCast] at h
 rw [hi, Int.toNat_natCast] at x1
 split at h
 ·rename_i hk1
  have hi1 : i < p.fc.length := by have := xn (by omega); omega
  have hx1 := x1 hk1
  have hvi := JK hp hi1
  split at h
  ·cases h
  rename_i hc
  cases h
  obtain ⟨u1, u2⟩ := WK (s := s) hh
  obtain ⟨b, hbv⟩ := Int.eq_ofNat_of_zero_le v0
  have hob := ZI (b := b) (by omega)
  have hN : ∀ q, (m.fa.set i s.fr).getD q 0 = if q = i then s.fr else m.fa.getD q 0 := fun q => Kk (by omega)
  refine { base := hb, next := by simpa using hn, held := u1, b0 := hm.b0, n0 := fun q hq => ?_, ne := fun q hq => ?_, range := fun q hq => ?_, low := fun q t ht hs v hr => ?_, high := fun q t ht hs v hbit => ?_, none := fun q t ht hs => ?_ }
  ·show -1 ≤ (m.fa.set i s.fr).getD q 0 ∧ (m.fa.set i s.fr).getD q 0 < _
   rw [hN q]
   split
   ·rename_i e; subst e; omega
   ·exact hm.n0 q hq
  ·show m.fd.getD q 0 ≠ (m.fa.set i s.fr).getD q 0
   rw [hN q]
   split
   ·rename_i e; subst e; exact fun h => hc (.inr h)
   ·exact hm.ne q hq
  ·have ht : p.fb[q]? = some p.fb[q] := by simp [hq]
   show 0 ≤ (Jc p s m.fe).getD q 0 ∧ (Jc p s m.fe).getD q 0 ≤ 255
   rw [u2 q _ ht, hbv]
   split
   ·exact (U2 (hm.range q hq) hob.2).2
   ·exact hm.range q hq
  ·have hq := (lI.1 ht).1
   show EZ ((Jc p s m.fe).getD q 0) v = true
   have hin := Ke (hp.tab t (lM ht))
   rw [Qe] at hr
   have hr : m.fd.getD t.fg.toNat 0 = (v : Int) ∨ (m.fa.set i s.fr).getD t.fg.toNat 0 = (v : Int) := hr
   rw [hN] at hr
   rw [u2 q t ht, hbv]
   have hlow := hm.low q t ht hs v
   rw [Qe] at hlow
   by_cases hf : t.fg.toNat = i
   ·have hup : VG s t = true := by unfold VG; rw [hs, Bool.and_true, beq_iff_eq, hi]; omega
    rw [if_pos hup, (U2 (hm.range q hq) hob.2).1, hob.1 v, Bool.or_eq_true, decide_eq_true_iff]
    rw [if_pos hf] at hr
    rcases hr with h | h
    ·exact .inl (hlow (.inl h))
    ·right; omega
   ·rw [if_neg hf] at hr
    have hup : VG s t = false := by unfold VG; rw [hs, Bool.and_true, beq_eq_false_iff_ne, hi]; omega
    rw [hup, if_neg (by simp)]
    exact hlow hr
  ·have hq := (lI.1 ht).1
   have hbit : EZ ((Jc p s m.fe).getD q 0) v = true := hbit
   have hin := Ke (hp.tab t (lM ht))
   rw [u2 q t ht, hbv] at hbit
   split at hbit
   ·rename_i hup
    rw [(U2 (hm.range q hq) hob.2).1, hob.1 v, Bool.or_eq_true, decide_eq_true_iff] at hbit
    rcases hbit with h | h
    ·exact hm.high q t ht hs v h
    ·unfold VG at hup
     rw [hs, Bool.and_true, beq_iff_eq, hi] at hup
     rw [hup, Int.toNat_natCast]; omega
   ·exact hm.high q t ht hs v hbit
  ·show (Jc p s m.fe).getD q 0 = 0
   have hup : VG s t = false := by unfold VG; rw [hs, Bool.and_false]
   rw [u2 q t ht, hup, if_neg (by simp)]
   exact hm.none q t ht hs
 ·rename_i hk1
  split at h
  ·rename_i hk3
   have hi3 : i < p.fb.length := by have := x3 hk3; omega
   have ht0 : p.fb[i]? = some p.fb[i] := by simp [hi3]
   rw [ht0] at h
   simp only at h
   split at h
   ·cases h
   rename_i hc
   cases h
   have hin0 := Ke (hp.tab _ (lM ht0))
   have hr0 := JA hp hm.toMixServ (s := (p.fb[i]).fg.toNat) (by omega)
   have hs0 : Cx p.fb[i] = true := by
    cases hs : Cx p.fb[i]
    ·exact (hc (.inl hs)).elim
    ·rfl
   have hH : ∀ q, (m.fe.set i (Is m (p.fb[i]).fg.toNat)).getD q 0 = if q = i then Is m (p.fb[i]).fg.toNat else m.fe.getD q 0 := fun q => Kk (by omega)
   refine { base := hb, next := hn, held := by simpa using hh, b0 := hm.b0, n0 := hm.n0, ne := hm.ne, range := fun q hq => ?_, low := fun q t ht hs v hr => ?_, high := fun q t ht hs v hbit => ?_, none := fun q t ht hs => ?_ }
   ·show 0 ≤ (m.fe.set i (Is m (p.fb[i]).fg.toNat)).getD q 0 ∧ (m.fe.set i (Is m (p.fb[i]).fg.toNat)).getD q 0 ≤ 255
    rw [hH q]
    split
    ·exact hr0.2
    ·exact hm.range q hq
   ·show EZ ((m.fe.set i (Is m (p.fb[i]).fg.toNat)).getD q 0) v = true
    have hr : JW m t.fg.toNat v = true := hr
    rw [hH q]
    split
    ·rename_i e; subst e
     rw [ht0] at ht; cases ht
     rw [hr0.1]; exact hr
    ·exact hm.low q t ht hs v hr
   ·have hbit : EZ ((m.fe.set i (Is m (p.fb[i]).fg.toNat)).getD q 0) v = true := hbit
    rw [hH q] at hbit
    split at hbit
    ·rename_i e; subst e
     rw [ht0] at ht; cases ht
     rw [hr0.1] at hbit
     exact hm.high q _ ht0 hs0 v (hm.low q _ ht0 hs0 v hbit)
    ·exact hm.high q t ht hs v hbit
   ·show (m.fe.set i (Is m (p.fb[i]).fg.toNat)).getD q 0 = 0
    rw [hH q, if_neg (fun e => by subst e; rw [ht0] at ht; cases ht; rw [hs0] at hs; cases hs)]
    exact hm.none q t ht hs
  ·rename_i hk3
   have hi1 : i < p.fc.length := by have := xn hk3; omega
   have hvi := JK hp hi1
   split at h
   ·cases h
   rename_i hc
   cases h
   have hN : ∀ q, (m.fa.set i (-1)).getD q 0 = if q = i then -1 else m.fa.getD q 0 := fun q => Kk (by omega)
   have hB : ∀ q, (if s.ff = 2 then m.fd.set i (m.fa.getD i 0) else m.fd).getD q 0 = if s.ff = 2 ∧ q = i then m.fa.getD i 0 else m.fd.getD q 0 := fun q => by
    by_cases hk2 : s.ff = 2
    ·rw [if_pos hk2, Kk (by omega)]
     by_cases e : q = i
     ·rw [if_pos e, if_pos ⟨hk2, e⟩]
     ·rw [if_neg e, if_neg (fun h => e h.2)]
    ·rw [if_neg hk2, if_neg (fun h => hk2 h.1)]
   have hrun : ∀ q v, JW ⟨if s.ff = 2 then m.fd.set i (m.fa.getD i 0) else m.fd, m.fa.set i (-1), m.fe⟩ q v = true → JW m q v = true := fun q v hr => by
    rw [Qe] at hr ⊢
    simp only [hN q, hB q] at hr
    by_cases e : q = i
    ·subst e
     rw [if_pos rfl] at hr
     by_cases hk2 : s.ff = 2
     ·rw [if_pos ⟨hk2, rfl⟩] at hr; omega
     ·rw [if_neg (fun h => hk2 h.1)] at hr; omega
    ·rw [if_neg e, if_neg (fun h => e h.2)] at hr; exact hr
   refine { base := by simp only; split <;> simp [hb], next := by simpa using hn, held := hh, b0 := fun q hq => ?_, n0 := fun q hq => ?_, ne := fun q hq => ?_, range := hm.range, low := fun q t ht hs v hr => hm.low q t ht hs v (hrun _ _ hr), high := hm.high, none := hm.none }
   ·simp only [hB q]
    split
    ·rename_i e; obtain ⟨_, e⟩ := e; subst e
     have := hm.n0 q hq
     omega
    ·exact hm.b0 q hq
   ·simp only [hN q]
    split
    ·rename_i e; subst e; omega
    ·exact hm.n0 q hq
   ·simp only [hB q, hN q]
    have h1 := hm.b0 q hq
    by_cases e : q = i
    ·rw [if_pos e]
     split
     ·rename_i e2; obtain ⟨_, e2⟩ := e2; subst e2; omega
     ·omega
    ·rw [if_neg e, if_neg (fun h => e h.2)]; exact hm.ne q hq
theorem SQ (N : Nat) (hN : N ≤ 1000000) (h20 : 100 ≤ N) {p : Ad} {m : Ag} (hw : Qz MN m.fe) (s : Ah) : FP N p m s = some (if GC p m = 0 then A8 p m s else (IZ, GC p m)) := by
 unfold FP A8
 rw [SE N p m hN (by omega)]
 simp only [oS, Bn]
 by_cases hval : GC p m = 0
 ·obtain ⟨hp, hm⟩ := Mq hw hval
  rw [if_pos hval, hval, bne_self_eq_false, Au, SO]
  simp only [oS]
  cases hv : HX s
  ·rw [Bool.not_false, AU, if_pos rfl]; rfl
  ·rw [Bool.not_true, Au, if_neg (by simp)]
   obtain ⟨k1, k4, i0, v0, vk⟩ := Jk hv
   have key : ∀ b : Bool, GZ p s = b → (if b = false then (IZ, (4 : Int)) else match Gu p m s with | none => (IZ, 11) | some x => (x, 0)) = (if b = false then (IZ, (4 : Int)) else match Gu p m s with | none => (IZ, 11) | some x => (x, 0)) := fun _ _ => rfl
   have tail : GZ p s = true → ((DF N p m s).bind fun v15 => AW (!v15.2) (some (Ag.mk [] [] [], (11 : Int))) (some (v15.1, 0))) = some (match Gu p m s with | none => (IZ, 11) | some x => (x, 0)) := fun hx => by
    rw [NR N hN h20 hp hm hv hx]
    cases Gu p m s <;> rfl
   have zz : (Ag.mk [] [] [], (4 : Int)) = (IZ, 4) := rfl
   by_cases hk3 : s.ff = 3
   ·rw [beq_iff_eq.2 hk3, AU, show (s.ff != 3) = false from by rw [hk3]; rfl]
    have hX : GZ p s = decide (s.fj < (p.fb.length : Int)) := by unfold GZ; rw [if_pos hk3]
    by_cases c : (p.fb.length : Int) ≤ s.fj
    ·rw [AK c, AU, hX, decide_eq_false (by omega), if_pos rfl]; rfl
    ·have hx : GZ p s = true := by rw [hX, decide_eq_true (by omega)]
     rw [AD c, Au, Au, beq_eq_false_iff_ne.2 (show s.ff ≠ 1 by omega), Au, Au, hx, if_neg (by simp)]
     exact tail hx
   ·rw [beq_eq_false_iff_ne.2 hk3, Au, bne_iff_ne.2 hk3, AU]
    have hX : GZ p s = (decide (s.fj < (p.fc.length : Int)) && (s.ff != 1 || decide (s.fr < p.fc.getD s.fj.toNat 0))) := by unfold GZ; rw [if_neg hk3]
    by_cases c : (p.fc.length : Int) ≤ s.fj
    ·rw [decide_eq_true c, AU, hX, decide_eq_false (show ¬ s.fj < (p.fc.length : Int) by omega), Bool.false_and, if_pos rfl]; rfl
    ·rw [decide_eq_false c, Au]
     by_cases hk1 : s.ff = 1
     ·rw [beq_iff_eq.2 hk1, AU, Gb (d := 0) i0 (by omega)]
      simp only [oS]
      by_cases c2 : p.fc.getD s.fj.toNat 0 ≤ s.fr
      ·rw [decide_eq_true c2, AU, hX, decide_eq_false (show ¬ s.fr < p.fc.getD s.fj.toNat 0 by omega), show (s.ff != 1) = false from by rw [hk1]; rfl, Bool.false_or, Bool.and_false, if_pos rfl]; rfl
      ·have hx : GZ p s = true := by rw [hX, decide_eq_true (by omega), decide_eq_true (by omega), Bool.or_true]; rfl
       rw [decide_eq_false c2, Au, hx, if_neg (by simp)]
       exact tail hx
     ·have hx : GZ p s = true := by rw [hX, decide_eq_true (by omega), bne_iff_ne.2 hk1]; rfl
      rw [beq_eq_false_iff_ne.2 hk1, Au, Au, hx, if_neg (by simp)]
      exact tail hx
 ·rw [if_neg hval, bne_iff_ne.2 hval, AU]; rfl
theorem Ro (N : Nat) (hN : N ≤ 1000000) (h20 : 100 ≤ N) {p : Ad} {m : Ag} (hw : Qz MN m.fe) (s : Ah) : Ii N p m s = some (if GC p m = 0 then A8 p m s else (IZ, GC p m)) := by
 unfold Ii
 rw [J2 N p m hN (by omega) hw]
 simp only [oS]
 by_cases hval : GC p m = 0
 ·obtain ⟨hp, hm⟩ := Mq hw hval
  rw [if_pos hval, hval, bne_self_eq_false, Au, Rc N hN h20 hp hm s]; rfl
 ·rw [if_neg hval, bne_iff_ne.2 hval, AU]; rfl
theorem MG {p : Ad} {m : Ag} (hp : Bj p) (hm : Cs p m) {s : Ah} (h : (A8 p m s).2 = 0) : Cs p (A8 p m s).1 := by
 unfold A8 at h ⊢
 split at h
 ·cases h
 rename_i h1
 rw [if_neg h1]
 split at h
 ·cases h
 rename_i h2
 rw [if_neg h2]
 cases ha : Gu p m s with
 | none => rw [ha] at h; cases h
 | some x => exact Yu hp hm (by simpa using h1) (by simpa using h2) ha
end Go.Lift
namespace Go.Lift
open Go
section
variable {N : Nat} {p : Ad} {l : List Ah}
end
end Go.Lift
namespace Go.Lift
open Go
def LY (p : Ad) (m : Ag) (s : Ah) : Option Ag := if (A8 p m s).2 = 0 ∧ s.ff ≠ 4 ∧ BM p (A8 p m s).1 = true then some (A8 p m s).1 else none
def Ns (p : Ad) : Ag → List Ah → Option Ag
 | m, [] => some m
 | m, s :: l => (LY p m s).bind fun x => Ns p x l
def LV (p : Ad) (m : Ag) (l : List Ah) : Bool := match Ns p m l with
 | some x => Js p x
 | none => false
theorem WX {p : Ad} {m x : Ag} {s : Ah} : LY p m s = some x ↔ HX s = true ∧ GZ p s = true ∧ Gu p m s = some x ∧ s.ff ≠ 4 ∧ BM p x = true := by
 unfold LY A8
 cases h1 : HX s
 ·simp
 cases h2 : GZ p s
 ·simp
 cases h3 : Gu p m s with
 | none => simp
 | some y =>
  simp only [Bool.true_eq_false, if_false, true_and, Option.some.injEq]
  constructor
  ·intro h
   split at h
   ·rename_i hc; cases h; exact ⟨rfl, hc.1, hc.2⟩
   ·cases h
  ·rintro ⟨rfl, h4, h5⟩
   rw [if_pos ⟨h4, h5⟩]
structure bO (p : Ad) (m x : Ag) : Prop where
 base : m.fd = x.fd
 next : m.fa = x.fa
 held : ∀ i, i < p.fb.length → ∀ v, EZ (m.fe.getD i 0) v = true → EZ (x.fe.getD i 0) v = true
theorem bO.refl (p : Ad) (m : Ag) : bO p m m := ⟨rfl, rfl, fun _ _ _ h => h⟩
theorem bO.trans {p : Ad} {a b c : Ag} (h : bO p a b) (g : bO p b c) : bO p a c := ⟨h.base.trans g.base, h.next.trans g.next, fun i hi v hv => g.held i hi v (h.held i hi v hv)⟩
theorem RN {p : Ad} {m : Ag} {l : List Ah} (h : LV p m l = true) : ∃ x, Ns p m l = some x ∧ Js p x = true := by
 unfold LV at h
 cases hr : Ns p m l with
 | none => rw [hr] at h; cases h
 | some x => rw [hr] at h; exact ⟨x, rfl, h⟩
end Go.Lift
namespace Go.Lift
open IntKind renaming wrap → wI
open Option renaming bind_some → oS
open List renaming getElem?_eq_some_iff → lI
open List renaming getD_eq_getElem?_getD → lD
open Go
def HH (m : Ag) (i : Nat) (b : Int) : List Int := [wI .u8 b, wI .u8 (wI .i64 (m.fa.getD i 0 + 1))]
def ME (m : Ag) : List Int := BE (HH m) 0 m.fd ++ m.fe
theorem Xj (N : Nat) (hN : N ≤ 1000000) (h20 : 100 ≤ N) {p : Ad} {m : Ag} (hp : Bj p) (hm : Cs p m) : IP N m = some (Di (ME m)) := by
 have hnv := hp.nv
 have hnt := hp.nt
 have hb := hm.base
 have hn := hm.next
 have hh := hm.held
 unfold IP
 have e1 : wI .i64 (2 * (m.fd.length : Int)) = 2 * (m.fd.length : Int) := DL (by omega) (by omega)
 rw [e1, DL (n := 2 * (m.fd.length : Int) + (m.fe.length : Int)) (by omega) (by omega), As ⟨Int.le_refl 0, by omega, by simp only [DP]; omega⟩]
 have l1 := DG (FJ N m fun v3 => EK N m (fun v9 => some (Di v9)) N (v3, 0)) (fun a i => (a, i)) m.fd (fun v3 => EK N m (fun v9 => some (Di v9)) N (v3, 0)) (HH m) 2 100
  (fun i x hx => by simp [HH])
  (fun n i x a hx hl => by
   have hi := (lI.1 hx).1
   rw [FJ, AK (by simp only; omega)]
   simp only [AZ, hx, oS, AF (show i < 1000000 by omega)]
   have e2 : m.fa[i]? = some (m.fa.getD i 0) := by rw [lD]; simp [show i < m.fa.length by omega]
   rw [e2]
   simp only [oS]
   rw [As (by simp [DP]; simp [HH] at hl; omega)]
   rfl)
  (fun n a => by rw [FJ, AD (by simp)]) N [] (by omega) (by simp; omega)
 have l1' : FJ N m (fun v3 => EK N m (fun v9 => some (Di v9)) N (v3, 0)) N (List.replicate (0 : Int).toNat (0 : Int), 0) = _ := l1
 rw [l1', List.nil_append]
 have hfl : (BE (HH m) 0 m.fd).length ≤ 2 * m.fd.length := Gq fun j x hx => by simp [HH]
 have l2 := DG (EK N m fun v9 => some (Di v9)) (fun a i => (a, i)) m.fe (fun v9 => some (Di v9)) (fun _ x => [x]) 1 100
  (fun i x hx => by simp)
  (fun n i x a hx hl => by
   have hi := (lI.1 hx).1
   rw [EK, AK (by simp only; omega)]
   simp only [AZ, hx, oS, AF (show i < 1000000 by omega)]
   rw [As (by simp [DP]; simp at hl; omega)])
  (fun n a => by rw [EK, AD (by simp)]) N (BE (HH m) 0 m.fd) (by omega) (by omega)
 have e3 : ∀ (i : Nat) (l : List Int), BE (fun _ (x : Int) => [x]) i l = l := by
  intro i l
  induction l generalizing i with
  | nil => rfl
  | cons x l ih => rw [BE, ih]; rfl
 refine l2.trans ?_
 rw [e3]; rfl
theorem Vz (xs : List Int) : ∀ b : ByteArray, (xs.foldl (fun s n => s.push (UInt8.ofNat n.toNat)) b).data.toList = b.data.toList ++ xs.map fun n => UInt8.ofNat n.toNat := by
 induction xs with
 | nil => intro b; simp
 | cons x xs ih => intro b; rw [List.foldl_cons, ih]; simp [ByteArray.push]
theorem N7 (xs : List Int) : (Di xs).data.toList = xs.map fun n => UInt8.ofNat n.toNat := by
 unfold Di
 rw [Vz]; rfl
theorem aC {a b : Int} (ha : 0 ≤ a ∧ a ≤ 255) (hb : 0 ≤ b ∧ b ≤ 255) (h : UInt8.ofNat a.toNat = UInt8.ofNat b.toNat) : a = b := by
 have := congrArg UInt8.toNat h
 simp at this
 omega
theorem QP : ∀ {xs ys : List Int}, (∀ x, x ∈ xs → 0 ≤ x ∧ x ≤ 255) → (∀ x, x ∈ ys → 0 ≤ x ∧ x ≤ 255) → (xs.map fun n => UInt8.ofNat n.toNat) = (ys.map fun n => UInt8.ofNat n.toNat) → xs = ys
 | [], [], _, _, _ => rfl
 | [], _ :: _, _, _, h => by cases h
 | _ :: _, [], _, _, h => by cases h
 | x :: xs, y :: ys, hx, hy, h => by
  rw [List.map_cons, List.map_cons, List.cons.injEq] at h
  rw [aC (hx x (by simp)) (hy y (by simp)) h.1, QP (fun z hz => hx z (List.mem_cons_of_mem _ hz)) (fun z hz => hy z (List.mem_cons_of_mem _ hz)) h.2]
theorem TY {xs ys : List Int} (hx : ∀ x, x ∈ xs → 0 ≤ x ∧ x ≤ 255) (hy : ∀ x, x ∈ ys → 0 ≤ x ∧ x ≤ 255) (h : (Di xs == Di ys) = true) : xs = ys := by
 rw [K5, beq_iff_eq] at h
 have h := congrArg Array.toList h
 rw [N7, N7] at h
 exact QP hx hy h
theorem Td (xs : List Int) : (Di xs == Di xs) = true := by rw [K5]; simp
theorem RX {α β : Type} {g h : Nat → α → List β} {c : Nat} : ∀ {i : Nat} {xs ys : List α}, xs.length = ys.length → (∀ i x, (g i x).length = c) → (∀ i x, (h i x).length = c) → BE g i xs = BE h i ys → ∀ j x y, xs[j]? = some x → ys[j]? = some y → g (i + j) x = h (i + j) y
 | i, [], ys, _, _, _, _, j, x, y, hx, _ => by simp at hx
 | i, x :: xs, [], hl, _, _, _, _, _, _, _, _ => by simp at hl
 | i, x :: xs, y :: ys, hl, hg, hh, e, j, x', y', hx, hy => by
  rw [BE, BE] at e
  have e1 := List.append_inj e ((hg i x).trans (hh i y).symm)
  cases j with
  | zero => simp at hx hy; subst hx; subst hy; exact e1.1
  | succ j =>
   have := RX (i := i + 1) (by simpa using hl) hg hh e1.2 j x' y' (by simpa using hx) (by simpa using hy)
   rwa [show i + 1 + j = i + (j + 1) from by omega] at this
theorem RG {p : Ad} {m : Ag} (_hp : Bj p) (hm : Cs p m) : ∀ x, x ∈ ME m → 0 ≤ x ∧ x ≤ 255 := by
 intro x hx
 unfold ME at hx
 rcases List.mem_append.1 hx with h | h
 ·obtain ⟨j, b, hb, hk⟩ := Gn.1 h
  have hw : ∀ n : Int, 0 ≤ wI .u8 n ∧ wI .u8 n ≤ 255 := fun n => by
   simp [wI, IntKind.signed, IntKind.bits]; omega
  unfold HH at hk
  rcases List.mem_cons.1 hk with e | e
  ·subst e; exact hw _
  ·rcases List.mem_cons.1 e with e | e
   ·subst e; exact hw _
   ·cases e
 ·obtain ⟨j, hj⟩ := List.mem_iff_getElem?.1 h
  have hl := (lI.1 hj).1
  have := hm.range j (by rw [← hm.held]; exact hl)
  rw [lD, hj] at this
  exact this
theorem Jp {n : Int} (h : 0 ≤ n ∧ n ≤ 255) : wI .u8 n = n := by
 simp [wI, IntKind.signed, IntKind.bits]; omega
theorem ZR {p : Ad} {m x : Ag} (hp : Bj p) (hm : Cs p m) (hx : Cs p x) (h : (Di (ME m) == Di (ME x)) = true) : m = x := by
 have e := TY (RG hp hm) (RG hp hx) h
 unfold ME at e
 have hbl : m.fd.length = x.fd.length := hm.base.trans hx.base.symm
 have hfl : ∀ y : Ag, (BE (HH y) 0 y.fd).length = 2 * y.fd.length := fun y => by
  have : ∀ (i : Nat) (l : List Int), (BE (HH y) i l).length = 2 * l.length := by
   intro i l
   induction l generalizing i with
   | nil => rfl
   | cons b l ih => rw [BE, List.length_append, ih, List.length_cons]; simp [HH]; omega
  exact this 0 _
 obtain ⟨e1, e2⟩ := List.append_inj e (by rw [hfl, hfl, hbl])
 have key : ∀ j, j < p.fc.length → m.fd.getD j 0 = x.fd.getD j 0 ∧ m.fa.getD j 0 = x.fa.getD j 0 := fun j hj => by
  have h1 : m.fd[j]? = some (m.fd.getD j 0) := by rw [lD]; simp [hm.base, hj]
  have h2 : x.fd[j]? = some (x.fd.getD j 0) := by rw [lD]; simp [hx.base, hj]
  have h3 := RX (c := 2) hbl (fun _ _ => by simp [HH]) (fun _ _ => by simp [HH]) e1 j _ _ h1 h2
  rw [Nat.zero_add] at h3
  have v := JK hp hj
  have b1 := hm.b0 j hj
  have b2 := hx.b0 j hj
  have n1 := hm.n0 j hj
  have n2 := hx.n0 j hj
  unfold HH at h3
  rw [DL (n := m.fa.getD j 0 + 1) (by omega) (by omega), DL (n := x.fa.getD j 0 + 1) (by omega) (by omega), Jp (n := m.fd.getD j 0) (by omega), Jp (n := x.fd.getD j 0) (by omega), Jp (n := m.fa.getD j 0 + 1) (by omega), Jp (n := x.fa.getD j 0 + 1) (by omega), List.cons.injEq, List.cons.injEq] at h3
  exact ⟨h3.1, by omega⟩
 have hB : m.fd = x.fd := Hv hbl fun q hq => (key q (by rw [← hm.base]; exact hq)).1
 have hN : m.fa = x.fa := Hv (hm.next.trans hx.next.symm) fun q hq => (key q (by rw [← hm.next]; exact hq)).2
 cases m; cases x
 simp only at hB hN e2
 rw [hB, hN, e2]
end Go.Lift
namespace Go.Lift
open Option renaming bind_some → oS
open List renaming mem_of_getElem? → lM
open List renaming getElem?_eq_some_iff → lI
open Go
def KE (i : Nat) (n : Int) : List Ah := (List.range n.toNat).map fun v => ⟨1, (i : Int), ((v : Nat) : Int), ⟩
def EU (p : Ad) : List Ah := BE KE 0 p.fc ++ ((List.range p.fc.length).map fun i => (⟨2, ((i : Nat) : Int), 0⟩ : Ah)) ++ ((List.range p.fb.length).map fun i => (⟨3, ((i : Nat) : Int), 0⟩ : Ah))
def GY (p : Ad) (m : Ag) : List Ah := (EU p).filter fun s => (A8 p m s).2 == 0
theorem V8 {p : Ad} (hp : Bj p) : (EU p).length ≤ 54 := by
 have h1 : (BE KE 0 p.fc).length ≤ 6 * p.fc.length := Gq fun j x hx => by
  have := hp.ver x (lM hx)
  simp [KE]; omega
 have := hp.nv
 have := hp.nt
 unfold EU
 simp only [List.length_append, List.length_map, List.length_range]
 omega
theorem To (N : Nat) (hN : N ≤ 1000000) (h20 : 100 ≤ N) {p : Ad} (hp : Bj p) : Jz N p = some (EU p) := by
 have hnv := hp.nv
 have hnt := hp.nt
 unfold Jz
 have l1 := DG (Ea N p fun v2 => C7 N p (fun v10 => BN N p (fun v14 => some v14) N (v10, 0)) N (v2, 0)) (fun a i => (a, i)) p.fc (fun v2 => C7 N p (fun v10 => BN N p (fun v14 => some v14) N (v10, 0)) N (v2, 0)) KE 6 100
  (fun i x hx => by have := hp.ver x (lM hx); simp [KE]; omega)
  (fun n i x a hx hl => by
   have hi := (lI.1 hx).1
   have hx6 := hp.ver x (lM hx)
   obtain ⟨k, hk⟩ := Int.eq_ofNat_of_zero_le (show 0 ≤ x by omega)
   rw [Ea, AK (by simp only; omega)]
   simp only [AZ, hx, oS, AF (show i < 1000000 by omega)]
   subst hk
   obtain ⟨a', e, ha⟩ := FF (FT N (a, (i : Int)) (k : Int) fun v6 => Ea N p (fun v2 => C7 N p (fun v10 => BN N p (fun v14 => some v14) N (v10, 0)) N (v2, 0)) n (v6, ((i + 1 : Nat) : Int))) (fun b v => (b, v)) k (fun v6 => Ea N p (fun v2 => C7 N p (fun v10 => BN N p (fun v14 => some v14) N (v10, 0)) N (v2, 0)) n (v6, ((i + 1 : Nat) : Int)))
    (fun v b => b = a ++ (List.range v).map fun v => (⟨1, (i : Int), ((v : Nat) : Int)⟩ : Ah))
    (fun n v b hv hb => by
     subst hb
     rw [FT, AK (by simp only; omega), As (by simp [DP]; simp [KE] at hl; omega), AF (by omega)]
     exact ⟨_, rfl, by rw [List.range_succ, List.map_append, List.append_assoc]; rfl⟩)
    (fun n b hb => by rw [FT, AD (by simp)]) N 0 a (Nat.zero_le _) (by omega) (by simp)
   have e' : FT N (a, (i : Int)) (k : Int) (fun v6 => Ea N p (fun v2 => C7 N p (fun v10 => BN N p (fun v14 => some v14) N (v10, 0)) N (v2, 0)) n (v6, ((i + 1 : Nat) : Int))) N (a, 0) = _ := e
   rw [e', ha]; rfl)
  (fun n a => by rw [Ea, AD (by simp)]) N [] (by omega) (by simp; omega)
 have l1' : Ea N p (fun v2 => C7 N p (fun v10 => BN N p (fun v14 => some v14) N (v10, 0)) N (v2, 0)) N (([] : List Ah), 0) = _ := l1
 rw [l1', List.nil_append]
 have hA : (BE KE 0 p.fc).length ≤ 6 * p.fc.length := Gq fun j x hx => by
  have := hp.ver x (lM hx)
  simp [KE]; omega
 generalize hAe : BE KE 0 p.fc = A at hA
 obtain ⟨b', e2, hb⟩ := FF (C7 N p fun v10 => BN N p (fun v14 => some v14) N (v10, 0)) (fun b v => (b, v)) p.fc.length (fun v10 => BN N p (fun v14 => some v14) N (v10, 0))
  (fun v b => b = A ++ (List.range v).map fun i => (⟨2, ((i : Nat) : Int), 0⟩ : Ah))
  (fun n v b hv hb => by
   subst hb
   rw [C7, AK (by simp only; omega), As (by simp [DP]; omega), AF (by omega)]
   exact ⟨_, rfl, by rw [List.range_succ, List.map_append, List.append_assoc]; rfl⟩)
  (fun n b hb => by rw [C7, AD (by simp)]) N 0 A (Nat.zero_le _) (by omega) (by simp)
 have e2' : C7 N p (fun v10 => BN N p (fun v14 => some v14) N (v10, 0)) N (A, 0) = _ := e2
 rw [e2', hb]
 generalize hBe : A ++ (List.range p.fc.length).map (fun i => (⟨2, ((i : Nat) : Int), 0⟩ : Ah)) = B
 have hB : B.length ≤ 50 := by rw [← hBe]; simp; omega
 obtain ⟨c', e3, hc⟩ := FF (BN N p fun v14 => some v14) (fun b v => (b, v)) p.fb.length (fun v14 => some v14)
  (fun v b => b = B ++ (List.range v).map fun i => (⟨3, ((i : Nat) : Int), 0⟩ : Ah))
  (fun n v b hv hb => by
   subst hb
   rw [BN, AK (by simp only; omega), As (by simp [DP]; omega), AF (by omega)]
   exact ⟨_, rfl, by rw [List.range_succ, List.map_append, List.append_assoc]; rfl⟩)
  (fun n b hb => by rw [BN, AD (by simp)]) N 0 B (Nat.zero_le _) (by omega) (by simp)
 have e3' : BN N p (fun v14 => some v14) N (B, 0) = _ := e3
 rw [e3', hc, ← hBe, ← hAe]; rfl
end Go.Lift
namespace Go.Lift
open Option renaming bind_some → oS
open List renaming mem_of_getElem? → lM
open List renaming getElem?_eq_some_iff → lI
open List renaming getD_eq_getElem?_getD → lD
open Go
theorem OY {p : Ad} (hp : Bj p) {s : Ah} (h : s ∈ EU p) : HX s = true ∧ GZ p s = true := by
 have hnv := hp.nv
 unfold EU at h
 rcases List.mem_append.1 h with h | h
 ·rcases List.mem_append.1 h with h | h
  ·obtain ⟨j, x, hx, hk⟩ := Gn.1 h
   rw [Nat.zero_add] at hk
   unfold KE at hk
   obtain ⟨v, hv, rfl⟩ := List.mem_map.1 hk
   have hx6 := hp.ver x (lM hx)
   have hv := List.mem_range.1 hv
   have hj := (lI.1 hx).1
   refine ⟨by unfold HX; simp, ?_⟩
   unfold GZ
   have e : p.fc.getD j 0 = x := by rw [lD, hx]; rfl
   simp only
   rw [if_neg (by omega), decide_eq_true (by omega), Int.toNat_natCast, e, decide_eq_true (by omega), Bool.or_true]; rfl
  ·obtain ⟨v, hv, rfl⟩ := List.mem_map.1 h
   have hv := List.mem_range.1 hv
   refine ⟨by unfold HX; simp, ?_⟩
   unfold GZ
   simp only
   rw [if_neg (by omega), decide_eq_true (by omega)]; rfl
 ·obtain ⟨v, hv, rfl⟩ := List.mem_map.1 h
  have hv := List.mem_range.1 hv
  refine ⟨by unfold HX; simp, ?_⟩
  unfold GZ
  simp only
  rw [if_pos trivial, decide_eq_true (by omega)]
theorem XZ {p : Ad} {m : Ag} {s : Ah} (hv : HX s = true) (hx : GZ p s = true) : ((A8 p m s).2 == 0) = (Gu p m s).isSome := by
 unfold A8
 rw [hv, hx, if_neg (by simp), if_neg (by simp)]
 cases Gu p m s <;> rfl
theorem Ts (N : Nat) (hN : N ≤ 1000000) (h20 : 100 ≤ N) {p : Ad} {m : Ag} (hp : Bj p) (hm : Cs p m) {s : Ah} (h : s ∈ EU p) :
  EB N s p.fc p.fh p.fm p.fb m.fd m.fa m.fe = some (!((A8 p m s).2 == 0)) := by
 obtain ⟨hv, hx⟩ := OY hp h
 unfold EB
 obtain ⟨o, e, _⟩ := M6 N hN h20 hp hm hv hx
 have e' : GU N ⟨p.fc, p.fh, p.fm, p.fb⟩ ⟨m.fd, m.fa, m.fe⟩ s = some (o, (Gu p m s).isSome) := e
 rw [e', XZ hv hx]; rfl
theorem VO (N : Nat) (hN : N ≤ 1000000) (a : List Ah) (f : Ah → Option Bool) (g : Ah → Bool) (h : a.length < N) (hf : ∀ x, x ∈ a → f x = some (g x)) :
  Ce N a f = some ((Ei (fun i x => if g x = true then some (i : Int) else none) 0 a).getD (-1)) := by
 unfold Ce
 have := DU (A9 N a f fun _ => some (-1)) a (some (-1)) (fun i x => if g x = true then some (i : Int) else none)
  (fun n i x hx => by
   have hi := (lI.1 hx).1
   rw [A9, AK (by omega), AZ, hx]
   simp only [oS]
   rw [hf x (lM hx), AF (by omega)]
   simp only [oS]
   cases g x <;> rfl)
  (fun n => by rw [A9, AD (by simp)]) N 0 (Nat.zero_le _) (by omega)
 refine this.trans ?_
 rw [List.drop_zero]
 cases Ei (fun i x => if g x = true then some (i : Int) else none) 0 a <;> rfl
theorem Rm {α : Type} {l : List α} {i : Nat} {v : α} (h : i < l.length) : (l.set i v).take (i + 1) = l.take i ++ [v] := by
 rw [List.take_add_one, List.take_set_of_le (Nat.le_refl i)]
 congr 1
 simp [h]
theorem Ua (N : Nat) (hN : N ≤ 1000000) (a : List Ah) (f : Ah → Option Bool) (g : Ah → Bool) (h : a.length < N) (h9 : a.length ≤ 1000) (hf : ∀ x, x ∈ a → f x = some (g x)) :
  ∃ X n, B8 N a f = some (n, X) ∧ n ≤ X.length ∧ X.take n = a.filter fun x => !g x := by
 unfold B8
 rw [VO N hN a f g h hf]
 simp only [oS]
 cases hs : Ei (fun i x => if g x = true then some (i : Int) else none) 0 a with
 | none =>
  refine ⟨a, a.length, rfl, Nat.le_refl _, ?_⟩
  rw [List.take_length]
  symm
  rw [List.filter_eq_self]
  intro x hx
  obtain ⟨j, hj⟩ := List.mem_iff_getElem?.1 hx
  have := Gm hs j x hj
  cases hg : g x
  ·rfl
  ·rw [hg] at this; cases this
 | some r =>
  obtain ⟨j, x, hx, hr⟩ := F2 hs
  rw [Nat.zero_add] at hr
  split at hr
  ·rename_i hg
   cases hr
   have hj := (lI.1 hx).1
   have e0 : ((some (j : Int)).getD (-1) == (-1 : Int)) = false := beq_eq_false_iff_ne.2 (by simp only [Option.getD_some]; omega)
   rw [e0, Au]
   simp only [Option.getD_some]
   rw [AF (by omega)]
   -- what lies before the first that goes is kept
   have hpre : (a.take (j + 1)).filter (fun x => !g x) = a.take j := by
    rw [List.take_add_one, hx, List.filter_append]
    have h1 : (a.take j).filter (fun x => !g x) = a.take j := by
     rw [List.filter_eq_self]
     intro y hy
     obtain ⟨q, hq⟩ := List.mem_iff_getElem?.1 hy
     have hql := (lI.1 hq).1
     simp at hql
     rw [List.getElem?_take_of_lt (by omega)] at hq
     cases hgy : g y
     ·rfl
     ·exfalso
      have : ∀ (xs : List Ah) (i j q : Nat) (y : Ah), Ei (fun i x => if g x = true then some (i : Int) else none) i xs = some ((i + j : Nat) : Int) → q < j → xs[q]? = some y → g y = true → False := by
       intro xs
       induction xs with
       | nil => intro i j q y _ _ hq; simp at hq
       | cons z zs ih =>
        intro i j q y hs hqj hq hgy
        rw [G5] at hs
        cases hz : g z
        ·rw [hz] at hs
         cases q with
         | zero => simp at hq; subst hq; rw [hz] at hgy; cases hgy
         | succ q =>
          cases j with
          | zero => omega
          | succ j => exact ih (i + 1) j q y (by rw [show i + 1 + j = i + (j + 1) from by omega]; exact hs) (by omega) (by simpa using hq) hgy
        ·rw [hz] at hs
         have hs : (some (i : Int)) = some ((i + j : Nat) : Int) := hs
         have := Option.some.inj hs
         omega
      exact this a 0 j q y (by rw [Nat.zero_add]; exact hs) (by omega) hq hgy
    rw [h1]
    simp [hg]
   obtain ⟨b, e, hb⟩ := FF (A2 N f fun v4 => (Eh ((0 : Int) ≤ v4.2 ∧ (v4.2).toNat ≤ v4.1.length ∧ v4.1.length ≤ v4.1.length)).bind fun _ =>
     (Eh ((0 : Int) ≤ v4.2 ∧ 0 ≤ (v4.2).toNat ∧ (v4.2).toNat ≤ (HM v4.1 ((v4.2).toNat) (List.replicate ((v4.1.length - (v4.2).toNat)) ((Ah.mk 0 0 0)))).length)).bind fun _ =>
     some ((v4.2).toNat, HM v4.1 ((v4.2).toNat) (List.replicate ((v4.1.length - (v4.2).toNat)) ((Ah.mk 0 0 0)))))
    (fun (b : List Ah × Nat) i => (b.1, ((b.2 : Nat) : Int), i)) a.length (fun b => (Eh ((0 : Int) ≤ ((b.2 : Nat) : Int) ∧ (((b.2 : Nat) : Int)).toNat ≤ b.1.length ∧ b.1.length ≤ b.1.length)).bind fun _ =>
     (Eh ((0 : Int) ≤ ((b.2 : Nat) : Int) ∧ 0 ≤ (((b.2 : Nat) : Int)).toNat ∧ (((b.2 : Nat) : Int)).toNat ≤ (HM b.1 ((((b.2 : Nat) : Int)).toNat) (List.replicate ((b.1.length - (((b.2 : Nat) : Int)).toNat)) ((Ah.mk 0 0 0)))).length)).bind fun _ =>
     some ((((b.2 : Nat) : Int)).toNat, HM b.1 ((((b.2 : Nat) : Int)).toNat) (List.replicate ((b.1.length - (((b.2 : Nat) : Int)).toNat)) ((Ah.mk 0 0 0)))))
    (fun i b => b.1.length = a.length ∧ b.2 ≤ i ∧ b.1.drop i = a.drop i ∧ b.1.take b.2 = (a.take i).filter fun x => !g x)
    (fun n i b hi hb => by
     obtain ⟨b1, b2, b3, b4⟩ := hb
     rw [A2, AK (by simp only; omega)]
     have hai : a[i]? = some a[i] := by simp [hi]
     have hbi : b.1[i]? = some a[i] := by
      have := congrArg (fun l => l[0]?) b3
      simp only [List.getElem?_drop, Nat.add_zero] at this
      rw [this, hai]
     simp only [Bn, AZ, hbi, oS]
     rw [hf a[i] (List.getElem_mem hi), AF (i := i) (by omega)]
     simp only [oS]
     have hnext : b.1.drop (i + 1) = a.drop (i + 1) := by
      have := congrArg (List.drop 1) b3
      rwa [List.drop_drop, List.drop_drop] at this
     cases hgi : g a[i]
     ·rw [Bool.not_false, AU]
      have hbj : b.1[b.2]? = some b.1[b.2] := by simp [show b.2 < b.1.length from by omega]
      rw [hbj, AF (i := b.2) (by omega)]
      refine ⟨(b.1.set b.2 a[i], b.2 + 1), rfl, by simpa using b1, by simp only; omega, ?_, ?_⟩
      ·simp only
       rw [List.drop_set_of_lt (by omega), hnext]
      ·simp only
       rw [Rm (by omega), b4, List.take_add_one, hai, List.filter_append]
       simp [hgi]
     ·rw [Bool.not_true, Au]
      refine ⟨b, rfl, b1, by omega, hnext, ?_⟩
      rw [b4, List.take_add_one, hai, List.filter_append]
      simp [hgi])
    (fun n b hb => by rw [A2, AD (by simp [hb.1])]) N (j + 1) (a, j) (by omega) (by omega) ⟨rfl, by simp only; omega, rfl, hpre.symm⟩
   obtain ⟨b1, b2, b3, b4⟩ := hb
   have e' : A2 N f (fun v4 => (Eh ((0 : Int) ≤ v4.2 ∧ (v4.2).toNat ≤ v4.1.length ∧ v4.1.length ≤ v4.1.length)).bind fun _ =>
     (Eh ((0 : Int) ≤ v4.2 ∧ 0 ≤ (v4.2).toNat ∧ (v4.2).toNat ≤ (HM v4.1 ((v4.2).toNat) (List.replicate ((v4.1.length - (v4.2).toNat)) ((Ah.mk 0 0 0)))).length)).bind fun _ =>
     some ((v4.2).toNat, HM v4.1 ((v4.2).toNat) (List.replicate ((v4.1.length - (v4.2).toNat)) ((Ah.mk 0 0 0))))) N (a, (j : Int), ((j + 1 : Nat) : Int)) = _ := e
   rw [e']
   have hsl : (HM b.1 b.2 (List.replicate (b.1.length - b.2) (Ah.mk 0 0 0))).length = b.1.length := IF (by rw [List.length_replicate]; omega)
   simp only [Int.toNat_natCast]
   rw [As ⟨by omega, by omega, Nat.le_refl _⟩, As ⟨by omega, by omega, by rw [hsl]; omega⟩]
   refine ⟨_, _, rfl, by rw [hsl]; omega, ?_⟩
   unfold HM
   rw [List.append_assoc, List.take_append_of_le_length (by simp; omega), List.take_take, Nat.min_self, b4, List.take_length]
  ·cases hr
theorem Vy (N : Nat) (hN : N ≤ 1000000) (h20 : 100 ≤ N) {p : Ad} {m : Ag} (hv : BG p = 0) (hm : Cs p m) : Hu N p m = some (GY p m, 0) := by
 obtain ⟨hp, _⟩ := Dl hv
 unfold Hu
 rw [J2 N p m hN (by omega) (Ok hm), Ll hv hm]
 simp only [oS, bne_self_eq_false, Au]
 rw [To N hN h20 hp]
 simp only [oS]
 have hl := V8 hp
 obtain ⟨X, n, e, h1, h2⟩ := Ua N hN (EU p) (fun x => EB N x p.fc p.fh p.fm p.fb m.fd m.fa m.fe) (fun s => !((A8 p m s).2 == 0)) (by omega) (by omega) (fun x hx => Ts N hN h20 hp hm hx)
 rw [e]
 simp only [oS]
 rw [As h1, h2]
 unfold GY
 simp
theorem JF {β : Type} (g : Nat → List β) : ∀ n : Nat, BE (fun i (_ : Nat) => g i) 0 (List.range n) = (List.range n).flatMap g
 | 0 => rfl
 | n + 1 => by rw [List.range_succ, NM, JF g n, List.flatMap_append]; simp [BE]
def YK (p : Ad) (m : Ag) (s : Ah) : Bool := (A8 p m s).2 == 0
def gS (p : Ad) (m : Ag) (k : Int) (i v : Nat) : List Ah := if YK p m ⟨k, (i : Int), (v : Int)⟩ = true then [⟨k, (i : Int), (v : Int)⟩] else []
def bS (p : Ad) (m : Ag) (k : Int) (i : Nat) : List Ah := (List.range 6).flatMap (gS p m k i)
def VE (p : Ad) : Nat := max p.fc.length p.fb.length
def kS (p : Ad) (m : Ag) (k : Int) : List Ah := (List.range (VE p)).flatMap (bS p m k)
theorem L9 {β : Type} (f : Nat → β) (q : β → Bool) : ∀ n : Nat, ((List.range n).flatMap fun v => if q (f v) = true then [f v] else []) = ((List.range n).map f).filter q
 | 0 => rfl
 | n + 1 => by
  rw [List.range_succ, List.flatMap_append, L9 f q n, List.map_append, List.filter_append]
  cases h : q (f n) <;> simp [h]
theorem Mp {β : Type} (g : Nat → List β) (a : Nat) (h : ∀ v, a ≤ v → g v = []) : ∀ n, a ≤ n → (List.range n).flatMap g = (List.range a).flatMap g
 | 0, hn => by rw [Nat.le_zero.1 hn]
 | n + 1, hn => by
  by_cases h1 : a = n + 1
  ·rw [h1]
  ·rw [List.range_succ, List.flatMap_append, Mp g a h n (by omega)]
   simp [h n (by omega)]
theorem Xv (p : Ad) (m : Ag) (k : Int) (i v : Nat) : (gS p m k i v).length ≤ 1 := by unfold gS; split <;> simp
theorem Yk (p : Ad) (m : Ag) (k : Int) (i : Nat) : (bS p m k i).length ≤ 6 := by
 unfold bS
 rw [← JF]
 have := Gq (g := fun i' (_ : Nat) => gS p m k i i') (c := 1) (i := 0) (xs := List.range 6) fun j x _ => Xv p m k i _
 simpa using this
theorem ba {p : Ad} (hp : Bj p) (m : Ag) (k : Int) : (kS p m k).length ≤ 72 := by
 have h1 := hp.nv
 have h2 := hp.nt
 unfold kS
 rw [← JF]
 have := Gq (g := fun i' (_ : Nat) => bS p m k i') (c := 6) (i := 0) (xs := List.range (VE p)) fun j x _ => Yk p m k _
 simp only [List.length_range] at this
 have h3 : VE p ≤ 12 := by unfold VE; omega
 omega
theorem aK {p : Ad} {m : Ag} {s : Ah} (h : YK p m s = true) : HX s = true ∧ GZ p s = true := by
 unfold YK A8 at h
 split at h
 ·cases h
 ·rename_i h1
  split at h
  ·cases h
  ·rename_i h2
   exact ⟨by simpa using h1, by simpa using h2⟩
theorem Ov {p : Ad} {m : Ag} {k : Int} {i v : Nat} (h : YK p m ⟨k, (i : Int), (v : Int)⟩ = true) : (k = 3 → i < p.fb.length) ∧ (k ≠ 3 → i < p.fc.length) ∧ (k = 1 → (v : Int) < p.fc.getD i 0) ∧ (k ≠ 1 → v = 0) := by
 obtain ⟨h1, h2⟩ := aK h
 obtain ⟨a1, a2, a3, a4, a5⟩ := Jk h1
 obtain ⟨b1, b2, b3⟩ := J5 h2
 simp only [Int.toNat_natCast] at *
 exact ⟨fun e => by have := b1 e; omega, fun e => by have := b2 e; omega, b3, fun e => by have := a5 e; omega⟩
theorem XY {p : Ad} (hp : Bj p) (m : Ag) : kS p m 1 ++ kS p m 2 ++ kS p m 3 = GY p m := by
 have hnv := hp.nv
 have hnt := hp.nt
 unfold GY EU
 rw [List.filter_append, List.filter_append]
 have e1 : kS p m 1 = (BE KE 0 p.fc).filter fun s => (A8 p m s).2 == 0 := by
  unfold kS
  rw [Mp (bS p m 1) p.fc.length (fun i hi => by
   unfold bS
   rw [List.flatMap_eq_nil_iff]
   intro v _
   unfold gS
   rw [if_neg]
   intro h
   have := (Ov h).2.1 (by decide)
   omega) (VE p) (by unfold VE; omega)]
  have e : ∀ (xs : List Int) (i : Nat), (∀ j x, xs[j]? = some x → 1 ≤ x ∧ x ≤ 6 ∧ p.fc.getD (i + j) 0 = x) → ((List.range xs.length).flatMap fun j => bS p m 1 (i + j)) = (BE KE i xs).filter fun s => (A8 p m s).2 == 0 := by
   intro xs
   induction xs with
   | nil => intro i _; rfl
   | cons x xs ih =>
    intro i hx
    rw [List.length_cons, List.range_succ_eq_map, List.flatMap_cons, List.flatMap_map, BE, List.filter_append]
    have ih' := ih (i + 1) (fun j y hy => by
     have := hx (j + 1) y (by simpa using hy)
     rw [show i + 1 + j = i + (j + 1) from by omega]; exact this)
    have hx0 := hx 0 x rfl
    rw [Nat.add_zero] at hx0
    congr 1
    ·rw [Nat.add_zero]
     unfold bS KE
     rw [Mp (gS p m 1 i) x.toNat (fun v hv => by
      unfold gS
      rw [if_neg]
      intro h
      have := (Ov h).2.2.1 rfl
      rw [hx0.2.2] at this
      omega) 6 (by omega)]
     exact L9 (fun v => (⟨1, (i : Int), ((v : Nat) : Int)⟩ : Ah)) (YK p m) x.toNat
    ·rw [← ih']
     congr 1
     funext j
     rw [show i + (j + 1) = i + 1 + j from by omega]
  have := e p.fc 0 (fun j x hx => by
   have h1 := hp.ver x (lM hx)
   refine ⟨h1.1, h1.2, ?_⟩
   rw [Nat.zero_add, lD, hx]; rfl)
  simp only [Nat.zero_add] at this
  exact this
 have e23 : ∀ (k : Int) (n : Nat), k ≠ 1 → n ≤ VE p → (∀ i v, YK p m ⟨k, ((i : Nat) : Int), ((v : Nat) : Int)⟩ = true → i < n) → kS p m k = (((List.range n).map fun i => (⟨k, ((i : Nat) : Int), 0⟩ : Ah)).filter fun s => (A8 p m s).2 == 0) := by
  intro k n hk hn hi
  unfold kS
  rw [Mp (bS p m k) n (fun i hi' => by
   unfold bS
   rw [List.flatMap_eq_nil_iff]
   intro v _
   unfold gS
   rw [if_neg]
   intro h
   have := hi i v h
   omega) (VE p) hn]
  show _ = List.filter (YK p m) _
  rw [← L9 (fun i => (⟨k, ((i : Nat) : Int), 0⟩ : Ah)) (YK p m) n]
  congr 1
  funext i
  unfold bS
  rw [Mp (gS p m k i) 1 (fun v hv => by
   unfold gS
   rw [if_neg]
   intro h
   have := (Ov h).2.2.2 hk
   omega) 6 (by omega)]
  simp [gS]
 rw [e1, e23 2 p.fc.length (by decide) (by unfold VE; omega) (fun i v h => (Ov h).2.1 (by decide)), e23 3 p.fb.length (by decide) (by unfold VE; omega) (fun i v h => (Ov h).1 rfl)]
theorem UJ (a b : Nat) : WA (a : Int) (b : Int) = ((max a b : Nat) : Int) := by
 unfold WA
 omega
theorem Ti (N : Nat) (hN : N ≤ 1000000) (h20 : 100 ≤ N) {p : Ad} {m : Ag} (hv : BG p = 0) (hm : Cs p m) : FW N p m = some (GY p m) := by
 obtain ⟨hp, _⟩ := Dl hv
 have hnv := hp.nv
 have hnt := hp.nt
 have hmx : VE p ≤ 12 := by unfold VE; omega
 unfold FW
 have hmix := Ll hv hm
 -- one number
 have inn : ∀ (k : Int) (c0 a : List Ah) (i : Nat) (d0 : List Ah) (j : List Ah → Option (List Ah)), a.length ≤ 1000 →
   CR N p m (c0, k) (d0, (i : Int)) j N (a, 0) = j (a ++ bS p m k i) := by
  intro k c0 a i d0 j ha
  have := DG (CR N p m (c0, k) (d0, (i : Int)) j) (fun a i => (a, i)) (List.range 6) j (fun v _ => gS p m k i v) 1 2000
   (fun v x _ => Xv _ _ _ _ _)
   (fun n v x a hx hl => by
    have hi := (lI.1 hx).1
    simp only [List.length_range] at hi
    rw [CR, AK (by simp only; omega)]
    simp only [Bn]
    rw [SQ N hN h20 (Ok hm), if_pos hmix]
    simp only [oS, AF (show v < 1000000 by omega)]
    unfold gS YK
    cases hq : (A8 p m ⟨k, (i : Int), (v : Int)⟩).2 == 0
    ·rw [Au, if_neg (by simp), List.append_nil]
    ·rw [AU, if_pos rfl, As (by simp [DP]; unfold gS YK at hl; rw [hq] at hl; simp at hl; omega)])
   (fun n a => by rw [CR, AD (by simp)]) N a (by simp; omega) (by simp; omega)
  rw [JF] at this
  exact this
 have mid : ∀ (k : Int) (c0 a : List Ah) (j : List Ah → Option (List Ah)), a.length ≤ 500 →
   CS N p m (c0, k) j N (a, 0) = j (a ++ kS p m k) := by
  intro k c0 a j ha
  have := DG (CS N p m (c0, k) j) (fun a i => (a, i)) (List.range (VE p)) j (fun i _ => bS p m k i) 6 900
   (fun v x _ => Yk _ _ _ _)
   (fun n i x a hx hl => by
    have hi := (lI.1 hx).1
    simp only [List.length_range] at hi
    rw [CS, AK (by simp only; rw [UJ]; unfold VE at hi; omega)]
    rw [inn k c0 a i a _ (by omega)]
    simp only [AF (show i < 1000000 by omega)])
   (fun n a => by rw [CS, AD (by simp [UJ, VE])]) N a (by simp; omega) (by simp; omega)
  rw [JF] at this
  exact this
 have hk := ba hp m
 have go : ∀ (k : Int) (n : Nat) (a : List Ah), k ≤ 3 → 1 ≤ k → a.length ≤ 300 → BP N p m (fun v2 => some v2) (n + 1) (a, k) = BP N p m (fun v2 => some v2) n (a ++ kS p m k, k + 1) := by
  intro k n a h1 h2 ha
  rw [BP, AK h1]
  rw [mid k a a _ (by omega), DL (by omega) (by omega)]
 obtain ⟨N', hN'⟩ : ∃ q, N = q + 4 := ⟨N - 4, by omega⟩
 have e0 : BP N p m (fun v2 => some v2) N ([], 1) = BP N p m (fun v2 => some v2) (N' + 4) ([], 1) := by rw [hN']
 rw [e0, go 1 (N' + 3) [] (by decide) (by decide) (by simp), List.nil_append]
 rw [show (1 : Int) + 1 = 2 from rfl, go 2 (N' + 2) _ (by decide) (by decide) (by have := hk 1; omega)]
 rw [show (2 : Int) + 1 = 3 from rfl, go 3 (N' + 1) _ (by decide) (by decide) (by have h1 := hk 1; have h2 := hk 2; rw [List.length_append]; omega)]
 rw [BP, AD (by simp), XY hp]
end Go.Lift
namespace Go.Lift
open List renaming mem_of_getElem? → lM
open List renaming getElem?_eq_some_iff → lI
namespace Bfs
section
variable {α σ : Type}
def code (rk : σ → Nat) (K : Nat) (w : List σ) : Nat := w.foldl (fun c s => c * K + rk s) 0
theorem J9 (rk : σ → Nat) (K : Nat) (w : List σ) (s : σ) : code rk K (w ++ [s]) = code rk K w * K + rk s := by
 simp [code]
theorem TX (rk : σ → Nat) (K : Nat) : code rk K ([] : List σ) = 0 := rfl
def Dig (rk : σ → Nat) (K : Nat) (w : List σ) : Prop := ∀ s, s ∈ w → 1 ≤ rk s ∧ rk s ≤ K
theorem Dig.snoc {rk : σ → Nat} {K : Nat} {w : List σ} {s : σ} (h : Dig rk K w) (hs : 1 ≤ rk s ∧ rk s ≤ K) : Dig rk K (w ++ [s]) := by
 intro x hx; rcases List.mem_append.1 hx with h1 | h1
 ·exact h x h1
 ·rw [List.mem_singleton.1 h1]; exact hs
theorem VQ {c d K a b : Nat} (h : c < d) (_ : 1 ≤ b) (ha : a ≤ K) : c * K + a < d * K + b := by
 have : c * K + K ≤ d * K := by rw [← Nat.succ_mul]; exact Nat.mul_le_mul_right K h
 omega
theorem YQ {c d K a : Nat} (h : c ≤ d) : c * K + a ≤ d * K + a := Nat.add_le_add_right (Nat.mul_le_mul_right K h) a
theorem list_snoc {β : Type} (l : List β) : l = [] ∨ ∃ u s, l = u ++ [s] := by
 cases h : l.reverse with
 | nil => exact .inl (List.reverse_eq_nil_iff.1 h)
 | cons s r => exact .inr ⟨r.reverse, s, by rw [← List.reverse_cons, ← h, List.reverse_reverse]⟩
abbrev Nd (α σ : Type) := α × Int × σ
def put [DecidableEq α] (i : Nat) (l : List (Nd α σ)) (q : σ × α) : List (Nd α σ) := if (l.any fun n => decide (n.1 = q.2)) = true then l else l ++ [(q.2, (i : Int), q.1)]
def inner [DecidableEq α] (most i : Nat) : List (σ × α) → List (Nd α σ) → Option (List (Nd α σ))
 | [], l => some l
 | q :: qs, l => if most < (put i l q).length then none else inner most i qs (put i l q)
def go [DecidableEq α] (nxt : α → List (σ × α)) (most : Nat) : Nat → Nat → List (Nd α σ) → Option (List (Nd α σ))
 | 0, _, _ => none
 | n + 1, i, l => match l[i]? with
  | none => some l
  | some nd => (inner most i (nxt nd.1) l).bind fun l' => go nxt most n (i + 1) l'
structure Inv (nxt : α → List (σ × α)) (rk : σ → Nat) (K : Nat) (root : α) (i : Nat) (done : List (σ × α)) (l : List (Nd α σ)) (ws : List (List σ)) : Prop where
 len : ws.length = l.length
 root : ∃ s, l[0]? = some (root, -1, s)
 root' : ws[0]? = some []
 par : ∀ (k : Nat) x f s, 0 < k → l[k]? = some (x, f, s) → ∃ (j : Nat) (y : α) (g : Int) (t : σ) (w : List σ), f = (j : Int) ∧ j < k ∧ l[j]? = some (y, g, t) ∧ (s, x) ∈ nxt y ∧ ws[j]? = some w ∧ ws[k]? = some (w ++ [s]) ∧ (j < i ∨ (j = i ∧ (s, x) ∈ done))
 nodup : ∀ (a b : Nat) x f s g t, l[a]? = some (x, f, s) → l[b]? = some (x, g, t) → a = b
 inc : ∀ (a b : Nat) u w, ws[a]? = some u → ws[b]? = some w → a < b → code rk K u < code rk K w
 dig : ∀ (k : Nat) w, ws[k]? = some w → Dig rk K w
 closed : ∀ (j : Nat) x f s w, l[j]? = some (x, f, s) → ws[j]? = some w → ∀ q, (j < i ∧ q ∈ nxt x) ∨ (j = i ∧ q ∈ done) → ∃ (k : Nat) (f' : Int) (s' : σ) (w' : List σ), l[k]? = some (q.2, f', s') ∧ ws[k]? = some w' ∧ code rk K w' ≤ code rk K (w ++ [q.1])
theorem get_app {β : Type} {l : List β} {y x : β} {k : Nat} (h : (l ++ [y])[k]? = some x) : l[k]? = some x ∨ (k = l.length ∧ x = y) := by
 rcases Nat.lt_trichotomy k l.length with h1 | h1 | h1
 ·rw [List.getElem?_append_left h1] at h; exact .inl h
 ·subst h1; simp at h; exact .inr ⟨rfl, h.symm⟩
 ·rw [List.getElem?_eq_none (by simp; omega)] at h; cases h
theorem get_app_of {β : Type} {l : List β} {y x : β} {k : Nat} (h : l[k]? = some x) : (l ++ [y])[k]? = some x := by
 rw [List.getElem?_append_left ((lI.1 h).1)]; exact h
theorem get_app_new {β : Type} {l : List β} {y : β} : (l ++ [y])[l.length]? = some y := by simp
theorem lt_get {β : Type} {l : List β} {k : Nat} {x : β} (h : l[k]? = some x) : k < l.length := (lI.1 h).1
theorem get_ex {β : Type} {l : List β} {k : Nat} (h : k < l.length) : ∃ x, l[k]? = some x := ⟨l[k], List.getElem?_eq_getElem h⟩
theorem Y5 [DecidableEq α] {nxt : α → List (σ × α)} {rk : σ → Nat} {K : Nat} {root : α} {i : Nat} {done : List (σ × α)} {l : List (Nd α σ)} {ws : List (List σ)} {x : α} {f : Int} {s : σ} {q : σ × α}
  (hI : Inv nxt rk K root i done l ws) (hx : l[i]? = some (x, f, s)) (hq : q ∈ nxt x) (hd : ∀ r, r ∈ done → rk r.1 < rk q.1) (hr : 1 ≤ rk q.1 ∧ rk q.1 ≤ K) :
  ∃ ws', Inv nxt rk K root i (done ++ [q]) (put i l q) ws' ∧ (∀ (k : Nat) w, ws[k]? = some w → ws'[k]? = some w) ∧ (∀ (k : Nat) n, l[k]? = some n → (put i l q)[k]? = some n) := by
 obtain ⟨w0, hw0⟩ := get_ex (l := ws) (k := i) (by rw [hI.len]; exact lt_get hx)
 unfold put
 by_cases hin : (l.any fun n => decide (n.1 = q.2)) = true
 ·rw [if_pos hin]
  refine ⟨ws, ⟨hI.len, hI.root, hI.root', ?_, hI.nodup, hI.inc, hI.dig, ?_⟩, fun _ _ h => h, fun _ _ h => h⟩
  ·intro k y g t hk hy
   obtain ⟨j, y', g', t', w, h1, h2, h3, h4, h5, h6, h7⟩ := hI.par k y g t hk hy
   exact ⟨j, y', g', t', w, h1, h2, h3, h4, h5, h6, h7.imp id fun h => ⟨h.1, List.mem_append_left _ h.2⟩⟩
  ·intro j y g t w hy hw r hr'
   by_cases hold : (j < i ∧ r ∈ nxt y) ∨ (j = i ∧ r ∈ done)
   ·exact hI.closed j y g t w hy hw r hold
   ·have hjr : j = i ∧ r = q := by
     rcases hr' with h | ⟨h1, h2⟩
     ·exact absurd (.inl h) hold
     ·rcases List.mem_append.1 h2 with h3 | h3
      ·exact absurd (.inr ⟨h1, h3⟩) hold
      ·exact ⟨h1, List.mem_singleton.1 h3⟩
    obtain ⟨rfl, rfl⟩ := hjr
    rw [hw0] at hw; cases hw
    obtain ⟨n, hn1, hn2⟩ := List.any_eq_true.1 hin
    obtain ⟨k, hk⟩ := List.mem_iff_getElem?.1 hn1
    obtain ⟨nx, nf, ns⟩ := n
    have hn2 : nx = r.2 := of_decide_eq_true hn2
    subst hn2
    obtain ⟨wk, hwk⟩ := get_ex (l := ws) (k := k) (by rw [hI.len]; exact lt_get hk)
    refine ⟨k, nf, ns, wk, hk, hwk, ?_⟩
    rw [J9]
    rcases Nat.eq_zero_or_pos k with rfl | hk0
    ·rw [hI.root'] at hwk; cases hwk; rw [TX]; omega
    ·obtain ⟨j', y', g', t', w, h1, h2, h3, h4, h5, h6, h7⟩ := hI.par k _ _ _ hk0 hk
     rw [h6] at hwk; cases hwk
     rw [J9]
     have hdg : 1 ≤ rk ns ∧ rk ns ≤ K := hI.dig k _ h6 ns (by simp)
     rcases h7 with h7 | ⟨h7, h8⟩
     ·exact Nat.le_of_lt (VQ (hI.inc _ _ _ _ h5 hw0 h7) hr.1 hdg.2)
     ·subst h7; rw [hw0] at h5; cases h5
      have := hd _ h8
      simp only at this; omega
 ·rw [if_neg hin]
  have hnew : ∀ (k : Nat) y g t, l[k]? = some (y, g, t) → y ≠ q.2 := fun k y g t hy e => hin (List.any_eq_true.2 ⟨_, lM hy, decide_eq_true e⟩)
  have hbig : ∀ (k : Nat) u, ws[k]? = some u → code rk K u < code rk K (w0 ++ [q.1]) := by
   intro k u hu
   rw [J9]
   obtain ⟨⟨nx, nf, ns⟩, hk⟩ := get_ex (l := l) (k := k) (by rw [← hI.len]; exact lt_get hu)
   rcases Nat.eq_zero_or_pos k with rfl | hk0
   ·rw [hI.root'] at hu; cases hu; rw [TX]; omega
   ·obtain ⟨j', y', g', t', w, h1, h2, h3, h4, h5, h6, h7⟩ := hI.par k _ _ _ hk0 hk
    rw [h6] at hu; cases hu
    rw [J9]
    have hdg : 1 ≤ rk ns ∧ rk ns ≤ K := hI.dig k _ h6 ns (by simp)
    rcases h7 with h7 | ⟨h7, h8⟩
    ·exact VQ (hI.inc _ _ _ _ h5 hw0 h7) hr.1 hdg.2
    ·subst h7; rw [hw0] at h5; cases h5
     have := hd _ h8
     simp only at this; omega
  refine ⟨ws ++ [w0 ++ [q.1]], ⟨by simp [hI.len], ?_, get_app_of hI.root', ?_, ?_, ?_, ?_, ?_⟩, fun _ _ h => get_app_of h, fun _ _ h => get_app_of h⟩
  ·obtain ⟨s0, hs0⟩ := hI.root; exact ⟨s0, get_app_of hs0⟩
  ·intro k y g t hk hy
   rcases get_app hy with hy | ⟨hk1, hy⟩
   ·obtain ⟨j, y', g', t', w, h1, h2, h3, h4, h5, h6, h7⟩ := hI.par k y g t hk hy
    exact ⟨j, y', g', t', w, h1, h2, get_app_of h3, h4, get_app_of h5, get_app_of h6, h7.imp id fun h => ⟨h.1, List.mem_append_left _ h.2⟩⟩
   ·cases hy
    refine ⟨i, x, f, s, w0, rfl, by rw [hk1]; exact lt_get hx, get_app_of hx, hq, get_app_of hw0, by rw [hk1, ← hI.len]; exact get_app_new, .inr ⟨rfl, by simp⟩⟩
  ·intro a b y g t g' t' ha hb
   rcases get_app ha with ha | ⟨ha1, ha⟩ <;> rcases get_app hb with hb | ⟨hb1, hb⟩
   ·exact hI.nodup a b y g t g' t' ha hb
   ·cases hb; exact absurd rfl (hnew _ _ _ _ ha)
   ·cases ha; exact absurd rfl (hnew _ _ _ _ hb)
   ·omega
  ·intro a b u w ha hb hab
   rcases get_app ha with ha | ⟨ha1, ha⟩ <;> rcases get_app hb with hb | ⟨hb1, hb⟩
   ·exact hI.inc a b u w ha hb hab
   ·rw [hb]; exact hbig _ _ ha
   ·have := lt_get hb; omega
   ·omega
  ·intro k w hw
   rcases get_app hw with hw | ⟨hw1, hw⟩
   ·exact hI.dig k w hw
   ·rw [hw]; exact (hI.dig _ _ hw0).snoc hr
  ·intro j y g t w hy hw r hr'
   rcases get_app hy with hy1 | ⟨hy1, hy2⟩
   ·have hw1 : ws[j]? = some w := by
     rcases get_app hw with h | ⟨h, _⟩
     ·exact h
     ·have := lt_get hy1; rw [← hI.len] at this; omega
    by_cases hold : (j < i ∧ r ∈ nxt y) ∨ (j = i ∧ r ∈ done)
    ·obtain ⟨k, f', s', w', h1, h2, h3⟩ := hI.closed j y g t w hy1 hw1 r hold
     exact ⟨k, f', s', w', get_app_of h1, get_app_of h2, h3⟩
    ·have hjr : j = i ∧ r = q := by
      rcases hr' with h | ⟨h1, h2⟩
      ·exact absurd (.inl h) hold
      ·rcases List.mem_append.1 h2 with h3 | h3
       ·exact absurd (.inr ⟨h1, h3⟩) hold
       ·exact ⟨h1, List.mem_singleton.1 h3⟩
     obtain ⟨rfl, rfl⟩ := hjr
     rw [hw0] at hw1; cases hw1
     exact ⟨l.length, _, _, _, get_app_new, by rw [← hI.len]; exact get_app_new, Nat.le_refl _⟩
   ·have := lt_get hx
    rcases hr' with h | h <;> omega
theorem RC [DecidableEq α] {nxt : α → List (σ × α)} {rk : σ → Nat} {K : Nat} {root : α} {i most : Nat} {x : α} {f : Int} {s : σ} (hP : (nxt x).Pairwise fun a b => rk a.1 < rk b.1) (hD : ∀ q, q ∈ nxt x → 1 ≤ rk q.1 ∧ rk q.1 ≤ K) :
  ∀ (qs done : List (σ × α)) (l l' : List (Nd α σ)) (ws : List (List σ)), done ++ qs = nxt x → Inv nxt rk K root i done l ws → l[i]? = some (x, f, s) → inner most i qs l = some l' →
   ∃ ws', Inv nxt rk K root i (nxt x) l' ws' ∧ (∀ (k : Nat) w, ws[k]? = some w → ws'[k]? = some w) ∧ (∀ (k : Nat) n, l[k]? = some n → l'[k]? = some n)
 | [], done, l, l', ws, he, hI, hx, h => by
  cases h; rw [List.append_nil] at he; subst he; exact ⟨ws, hI, fun _ _ h => h, fun _ _ h => h⟩
 | q :: qs, done, l, l', ws, he, hI, hx, h => by
  have hqm : q ∈ nxt x := by rw [← he]; simp
  have hlt : ∀ r, r ∈ done → rk r.1 < rk q.1 := fun r hr => by
   rw [← he] at hP
   exact (List.pairwise_append.1 hP).2.2 r hr q (by simp)
  obtain ⟨ws1, h1, h2, h3⟩ := Y5 hI hx hqm hlt (hD q hqm)
  simp only [inner] at h
  split at h
  ·cases h
  ·obtain ⟨ws2, g1, g2, g3⟩ := RC hP hD qs (done ++ [q]) _ l' ws1 (by rw [List.append_assoc]; exact he) h1 (h3 _ _ hx) h
   exact ⟨ws2, g1, fun k w hw => g2 k w (h2 k w hw), fun k n hn => g3 k n (h3 k n hn)⟩
theorem XV {nxt : α → List (σ × α)} {rk : σ → Nat} {K : Nat} {root : α} {i : Nat} {x : α} {f : Int} {s : σ} {l : List (Nd α σ)} {ws : List (List σ)} (h : Inv nxt rk K root i (nxt x) l ws) (hx : l[i]? = some (x, f, s)) : Inv nxt rk K root (i + 1) [] l ws := by
 refine ⟨h.len, h.root, h.root', ?_, h.nodup, h.inc, h.dig, ?_⟩
 ·intro k y g t hk hy
  obtain ⟨j, y', g', t', w, h1, h2, h3, h4, h5, h6, h7⟩ := h.par k y g t hk hy
  exact ⟨j, y', g', t', w, h1, h2, h3, h4, h5, h6, .inl (by rcases h7 with h7 | h7 <;> omega)⟩
 ·intro j y g t w hy hw r hr
  rcases hr with ⟨h1, h2⟩ | ⟨_, h2⟩
  ·refine h.closed j y g t w hy hw r ?_
   by_cases hj : j < i
   ·exact .inl ⟨hj, h2⟩
   ·have : j = i := by omega
    subst this; rw [hx] at hy; cases hy; exact .inr ⟨rfl, h2⟩
  ·cases h2
theorem inv_go [DecidableEq α] {nxt : α → List (σ × α)} {rk : σ → Nat} {K : Nat} {root : α} {most : Nat} (P : α → Prop) (hP : ∀ x, P x → (nxt x).Pairwise fun a b => rk a.1 < rk b.1) (hD : ∀ x, P x → ∀ q, q ∈ nxt x → (1 ≤ rk q.1 ∧ rk q.1 ≤ K) ∧ P q.2) (hroot : P root) :
  ∀ (n i : Nat) (l l' : List (Nd α σ)) (ws : List (List σ)), i ≤ l.length → Inv nxt rk K root i [] l ws → (∀ (k : Nat) x f s, l[k]? = some (x, f, s) → P x) → go nxt most n i l = some l' → ∃ ws', Inv nxt rk K root l'.length [] l' ws' ∧ (∀ (k : Nat) x f s, l'[k]? = some (x, f, s) → P x)
 | 0, i, l, l', ws, _, _, _, h => by cases h
 | n + 1, i, l, l', ws, hi, hI, hA, h => by
  simp only [go] at h
  split at h
  ·rename_i hn
   cases h
   have : i = l.length := by
    have := List.getElem?_eq_none_iff.1 hn; omega
   subst this
   exact ⟨ws, hI, hA⟩
  ·rename_i nd hn
   obtain ⟨x, f, s⟩ := nd
   cases hin : inner most i (nxt x) l with
   | none => rw [hin] at h; cases h
   | some l1 =>
    rw [hin] at h
    have hx := hA _ _ _ _ hn
    obtain ⟨ws1, h1, h2, h3⟩ := RC (hP x hx) (fun q hq => (hD x hx q hq).1) (nxt x) [] l l1 ws rfl hI hn hin
    have hA1 : ∀ (k : Nat) y g t, l1[k]? = some (y, g, t) → P y := fun k y g t hy => by
     rcases Nat.eq_zero_or_pos k with rfl | hk
     ·obtain ⟨s0, hs0⟩ := h1.root; rw [hs0] at hy; cases hy; exact hroot
     ·obtain ⟨j, y', g', t', w, e1, e2, e3, e4, e5, e6, e7⟩ := h1.par k y g t hk hy
      have hj : P y' := by
       have hjl : j < l.length := by rcases e7 with h | h <;> have := lt_get hn <;> omega
       obtain ⟨⟨z, zf, zs⟩, hz⟩ := get_ex hjl
       have := h3 _ _ hz
       rw [e3] at this; cases this
       exact hA _ _ _ _ hz
      exact (hD y' hj _ e4).2
    exact inv_go P hP hD hroot n (i + 1) l1 l' ws1 (by have := lt_get (h3 _ _ hn); omega) (XV h1 (h3 _ _ hn)) hA1 h
theorem inv_start {nxt : α → List (σ × α)} {rk : σ → Nat} {K : Nat} {root : α} {s : σ} : Inv nxt rk K root 0 [] [(root, -1, s)] [[]] := by
 refine ⟨rfl, ⟨s, rfl⟩, rfl, ?_, ?_, ?_, ?_, ?_⟩
 ·intro k x f s hk h; rw [List.getElem?_eq_none (by simp; omega)] at h; cases h
 ·intro a b x f s g t ha hb; have := lt_get ha; have := lt_get hb; simp at *; omega
 ·intro a b u w ha hb hab; have := lt_get hb; simp at this; omega
 ·intro k w hw
  have := lt_get hw; simp at this; subst this; simp at hw; subst hw
  intro s hs; cases hs
 ·intro j x f s w _ _ q h
  rcases h with h | h
  ·omega
  ·cases h.2
def run (nxt : α → List (σ × α)) (x : α) : List σ → α → Prop
 | [], y => y = x
 | s :: w, y => ∃ z, (s, z) ∈ nxt x ∧ run nxt z w y
theorem Ho {nxt : α → List (σ × α)} : ∀ {u w : List σ} {x y : α}, run nxt x (u ++ w) y ↔ ∃ z, run nxt x u z ∧ run nxt z w y
 | [], w, x, y => by simp [run]
 | s :: u, w, x, y => by
  simp only [List.cons_append, run]
  constructor
  ·rintro ⟨z, h1, h2⟩
   obtain ⟨z', h3, h4⟩ := Ho.1 h2
   exact ⟨z', ⟨z, h1, h3⟩, h4⟩
  ·rintro ⟨z', ⟨z, h1, h3⟩, h4⟩
   exact ⟨z, h1, Ho.2 ⟨z', h3, h4⟩⟩
theorem way_run {nxt : α → List (σ × α)} {rk : σ → Nat} {K : Nat} {root : α} {i : Nat} {l : List (Nd α σ)} {ws : List (List σ)} (h : Inv nxt rk K root i [] l ws) : ∀ (n k : Nat) {x : α} {f : Int} {s : σ} {w : List σ}, k < n → l[k]? = some (x, f, s) → ws[k]? = some w → run nxt root w x
 | 0, k, _, _, _, _, hk, _, _ => by omega
 | n + 1, k, x, f, s, w, hk, hx, hw => by
  rcases Nat.eq_zero_or_pos k with rfl | hk0
  ·obtain ⟨s0, hs0⟩ := h.root; rw [hs0] at hx; cases hx
   rw [h.root'] at hw; cases hw; rfl
  ·obtain ⟨j, y', g', t', w', e1, e2, e3, e4, e5, e6, e7⟩ := h.par k _ _ _ hk0 hx
   rw [e6] at hw; cases hw
   exact Ho.2 ⟨y', way_run h n j (by omega) e3 e5, x, e4, rfl⟩
theorem reach_node {nxt : α → List (σ × α)} {rk : σ → Nat} {K : Nat} {root : α} {l : List (Nd α σ)} {ws : List (List σ)} (h : Inv nxt rk K root l.length [] l ws) : ∀ (n : Nat) {w : List σ} {y : α}, w.length = n → run nxt root w y → ∃ (k : Nat) (f : Int) (s : σ) (u : List σ), l[k]? = some (y, f, s) ∧ ws[k]? = some u ∧ code rk K u ≤ code rk K w
 | 0, w, y, hn, hr => by
  rw [List.length_eq_zero_iff.1 hn] at hr ⊢
  simp only [run] at hr; subst hr
  obtain ⟨s, hs⟩ := h.root
  exact ⟨0, _, _, _, hs, h.root', Nat.le_refl _⟩
 | n + 1, w, y, hn, hr => by
  rcases list_snoc w with rfl | ⟨w', s, rfl⟩
  ·simp at hn
  obtain ⟨z, h1, h2⟩ := Ho.1 hr
  simp only [run] at h2
  obtain ⟨z', h2, rfl⟩ := h2
  simp only [List.length_append, List.length_singleton] at hn
  obtain ⟨k, f, t, u, g1, g2, g3⟩ := reach_node h n (by omega) h1
  obtain ⟨k', f', s', u', e1, e2, e3⟩ := h.closed k z f t u g1 g2 (s, y) (.inl ⟨lt_get g1, h2⟩)
  refine ⟨k', f', s', u', e1, e2, Nat.le_trans e3 ?_⟩
  rw [J9, J9]
  exact YQ g3
theorem QZ [DecidableEq α] {most more i : Nat} (hm : most ≤ more) : ∀ (qs : List (σ × α)) (l l' : List (Nd α σ)), inner most i qs l = some l' → inner more i qs l = some l'
 | [], l, l', h => h
 | q :: qs, l, l', h => by
  simp only [inner] at h ⊢
  split at h
  ·cases h
  ·rw [if_neg (by omega)]; exact QZ hm qs _ _ h
theorem go_more [DecidableEq α] {nxt : α → List (σ × α)} {most more : Nat} (hm : most ≤ more) : ∀ (n m i : Nat) (l l' : List (Nd α σ)), n ≤ m → go nxt most n i l = some l' → go nxt more m i l = some l'
 | 0, m, i, l, l', _, h => by cases h
 | n + 1, m, i, l, l', hnm, h => by
  obtain ⟨m, rfl⟩ : ∃ k, m = k + 1 := ⟨m - 1, by omega⟩
  simp only [go] at h ⊢
  cases hl : l[i]? with
  | none => rw [hl] at h; exact h
  | some nd =>
   rw [hl] at h
   simp only at h ⊢
   cases hin : inner most i (nxt nd.1) l with
   | none => rw [hin] at h; cases h
   | some l1 =>
    rw [hin] at h
    rw [QZ hm _ _ _ hin]
    exact go_more hm n m (i + 1) l1 l' (by omega) h
theorem inner_len [DecidableEq α] {most i : Nat} : ∀ (qs : List (σ × α)) (l l' : List (Nd α σ)), l.length ≤ most → inner most i qs l = some l' → l'.length ≤ most
 | [], l, l', h0, h => by cases h; exact h0
 | q :: qs, l, l', h0, h => by
  simp only [inner] at h
  split at h
  ·cases h
  ·exact inner_len qs _ _ (by omega) h
theorem go_len [DecidableEq α] {nxt : α → List (σ × α)} {most : Nat} : ∀ (n i : Nat) (l l' : List (Nd α σ)), l.length ≤ most → go nxt most n i l = some l' → l'.length ≤ most
 | 0, i, l, l', _, h => by cases h
 | n + 1, i, l, l', h0, h => by
  simp only [go] at h
  split at h
  ·cases h; exact h0
  ·rename_i nd hn
   cases hin : inner most i (nxt nd.1) l with
   | none => rw [hin] at h; cases h
   | some l1 => rw [hin] at h; exact go_len n (i + 1) l1 l' (inner_len _ _ _ h0 hin) h
end
end Bfs
end Go.Lift
namespace Go.Lift
open IntKind renaming wrap → wI
open Option renaming bind_some → oS
open List renaming mem_of_getElem? → lM
open List renaming getElem?_eq_some_iff → lI
open List renaming getD_eq_getElem?_getD → lD
open Go
theorem UL : ∀ {l : List Int}, bt l = 0 → ∀ x, x ∈ l → x = 0
 | [], _, x, hx => by cases hx
 | y :: ys, h, x, hx => by
  unfold bt at h
  split at h
  ·rename_i hy
   rcases List.mem_cons.1 hx with rfl | hx
   ·exact hy
   ·exact UL h x hx
  ·rename_i hy; exact absurd h hy
theorem Rv {a b : Ag} (h : U8 a b = 0) : a = b := by
 have := UL h
 have h1 := PF _ _ (this (J0 a.fd b.fd) (by simp))
 have h2 := PF _ _ (this (J0 a.fa b.fa) (by simp))
 have h3 := PF _ _ (this (J0 a.fe b.fe) (by simp))
 cases a; cases b; simp only at h1 h2 h3; subst h1; subst h2; subst h3; rfl
instance ez : DecidableEq Ag := fun a b => if h : U8 a b = 0 then isTrue (Rv h) else isFalse (fun e => h (by rw [e]; exact Rx b))
theorem XE (a b : Ag) : (U8 a b == 0) = decide (a = b) := by
 by_cases h : a = b
 ·rw [decide_eq_true h, h, Rx]; rfl
 ·rw [decide_eq_false h]
  exact beq_eq_false_iff_ne.2 fun e => h (Rv e)
def Sa (p : Ad) (m : Ag) (ss : List Ah) : List (Ah × Ag) := ss.filterMap fun s => if BM p (A8 p m s).1 = true then some (s, (A8 p m s).1) else none
def JC (p : Ad) (m : Ag) : List (Ah × Ag) := Sa p m (GY p m)
def NI (s : Ah) : Nat := if s.ff = 1 then 1 + 8 * s.fj.toNat + s.fr.toNat else if s.ff = 2 then 60 + s.fj.toNat else 70 + s.fj.toNat
theorem I4 {p : Ad} {m : Ag} {s : Ah} (h : s ∈ GY p m) : s ∈ EU p ∧ (A8 p m s).2 = 0 := by
 unfold GY at h
 have := List.mem_filter.1 h
 exact ⟨this.1, by simpa using this.2⟩
theorem PJ {p : Ad} {m : Ag} {ss : List Ah} {q : Ah × Ag} : q ∈ Sa p m ss ↔ q.1 ∈ ss ∧ q.2 = (A8 p m q.1).1 ∧ BM p q.2 = true := by
 unfold Sa
 rw [List.mem_filterMap]
 constructor
 ·rintro ⟨s, h1, h2⟩
  split at h2
  ·rename_i h3; cases h2; exact ⟨h1, rfl, h3⟩
  ·cases h2
 ·rintro ⟨h1, h2, h3⟩
  refine ⟨q.1, h1, ?_⟩
  rw [← h2, if_pos h3]
theorem Or {p : Ad} {m : Ag} {q : Ah × Ag} : q ∈ JC p m ↔ q.1 ∈ GY p m ∧ q.2 = (A8 p m q.1).1 ∧ BM p q.2 = true := PJ
theorem Vr {p : Ad} {m : Ag} (hp : Bj p) (hm : Cs p m) {q : Ah × Ag} (h : q ∈ JC p m) : Cs p q.2 ∧ BM p q.2 = true := by
 obtain ⟨h1, h2, h3⟩ := Or.1 h
 exact ⟨by rw [h2]; exact MG hp hm (I4 h1).2, h3⟩
theorem Qm {p : Ad} (hp : Bj p) {s : Ah} (h : s ∈ EU p) : s.ff ≤ 3 ∧ 1 ≤ NI s ∧ NI s ≤ 100 := by
 obtain ⟨h1, h2⟩ := OY hp h
 obtain ⟨a1, a2, a3, a4, a5⟩ := Jk h1
 obtain ⟨b1, b2, b3⟩ := J5 h2
 have hnv := hp.nv
 have hnt := hp.nt
 have hk : s.ff ≤ 3 := by
  unfold EU at h
  rcases List.mem_append.1 h with h | h
  ·rcases List.mem_append.1 h with h | h
   ·obtain ⟨j, x, hx, hk⟩ := Gn.1 h
    unfold KE at hk
    obtain ⟨v, hv, rfl⟩ := List.mem_map.1 hk
    exact (by decide : (1 : Int) ≤ 3)
   ·obtain ⟨v, hv, rfl⟩ := List.mem_map.1 h
    exact (by decide : (2 : Int) ≤ 3)
  ·obtain ⟨v, hv, rfl⟩ := List.mem_map.1 h
   exact (by decide : (3 : Int) ≤ 3)
 refine ⟨hk, ?_⟩
 unfold NI
 by_cases h1 : s.ff = 1
 ·rw [if_pos h1]
  have := b2 (by omega)
  have h3 := b3 h1
  have h4 := (JK hp (i := s.fj.toNat) (by omega)).2
  omega
 ·rw [if_neg h1]
  by_cases h2 : s.ff = 2
  ·rw [if_pos h2]
   have := b2 (by omega)
   omega
  ·rw [if_neg h2]
   have := b1 (by omega)
   omega
theorem Y7 (i : Nat) (n : Int) : (KE i n).Pairwise fun a b => NI a < NI b := by
 unfold KE
 rw [List.pairwise_map]
 refine List.Pairwise.imp ?_ List.pairwise_lt_range
 intro a b h
 simp [NI]; omega
theorem YU {p : Ad} (hp : Bj p) : (EU p).Pairwise fun a b => NI a < NI b := by
 have hnv := hp.nv
 have hnt := hp.nt
 have e1 : ∀ (xs : List Int) (i : Nat), (∀ x, x ∈ xs → x ≤ 6) → (BE KE i xs).Pairwise fun a b => NI a < NI b := by
  intro xs
  induction xs with
  | nil => intro i _; exact List.Pairwise.nil
  | cons x xs ih =>
   intro i hx
   rw [BE, List.pairwise_append]
   refine ⟨Y7 i x, ih (i + 1) fun y hy => hx y (List.mem_cons_of_mem _ hy), ?_⟩
   intro a ha b hb
   unfold KE at ha
   obtain ⟨v, hv, rfl⟩ := List.mem_map.1 ha
   obtain ⟨j, y, hy, hb⟩ := Gn.1 hb
   unfold KE at hb
   obtain ⟨w, hw, rfl⟩ := List.mem_map.1 hb
   have := hx x (by simp)
   have := List.mem_range.1 hv
   simp [NI]; omega
 unfold EU
 rw [List.pairwise_append, List.pairwise_append]
 refine ⟨⟨e1 _ 0 fun x hx => (hp.ver x hx).2, ?_, ?_⟩, ?_, ?_⟩
 ·rw [List.pairwise_map]
  refine List.Pairwise.imp ?_ List.pairwise_lt_range
  intro a b h
  simp [NI]; omega
 ·intro a ha b hb
  obtain ⟨w, hw, rfl⟩ := List.mem_map.1 hb
  obtain ⟨j, y, hy, ha⟩ := Gn.1 ha
  unfold KE at ha
  obtain ⟨v, hv, rfl⟩ := List.mem_map.1 ha
  have := List.mem_range.1 hv
  have := (hp.ver y (lM hy)).2
  have := (lI.1 hy).1
  simp [NI]; omega
 ·rw [List.pairwise_map]
  refine List.Pairwise.imp ?_ List.pairwise_lt_range
  intro a b h
  simp [NI]; omega
 ·intro a ha b hb
  obtain ⟨w, hw, rfl⟩ := List.mem_map.1 hb
  have hw := List.mem_range.1 hw
  rcases List.mem_append.1 ha with ha | ha
  ·obtain ⟨j, y, hy, ha⟩ := Gn.1 ha
   unfold KE at ha
   obtain ⟨v, hv, rfl⟩ := List.mem_map.1 ha
   have := List.mem_range.1 hv
   have := (hp.ver y (lM hy)).2
   have := (lI.1 hy).1
   simp [NI]; omega
  ·obtain ⟨v, hv, rfl⟩ := List.mem_map.1 ha
   have := List.mem_range.1 hv
   simp [NI]; omega
theorem bz {p : Ad} {m : Ag} {ss : List Ah} (h : ss.Pairwise fun a b => NI a < NI b) : (Sa p m ss).Pairwise fun a b => NI a.1 < NI b.1 := by
 unfold Sa
 rw [List.pairwise_filterMap]
 refine List.Pairwise.imp ?_ h
 intro a b hab x hx y hy
 split at hx
 ·cases hx
  split at hy
  ·cases hy; exact hab
  ·cases hy
 ·cases hx
theorem bA {p : Ad} (hp : Bj p) (m : Ag) : (JC p m).Pairwise fun a b => NI a.1 < NI b.1 := bz ((YU hp).filter _)
theorem Zt {p : Ad} {s : Ah} (hv : HX s = true) (hx : GZ p s = true) (hk : s.ff ≠ 4) : s ∈ EU p := by
 obtain ⟨a1, a2, a3, a4, a5⟩ := Jk hv
 obtain ⟨b1, b2, b3⟩ := J5 hx
 obtain ⟨k, i, v⟩ := s
 simp only at *
 unfold EU
 obtain ⟨i, rfl⟩ := Int.eq_ofNat_of_zero_le a3
 by_cases h1 : k = 1
 ·subst h1
  have h2 := b2 (by decide)
  have h3 := b3 rfl
  obtain ⟨v, rfl⟩ := Int.eq_ofNat_of_zero_le a4
  refine List.mem_append_left _ (List.mem_append_left _ (Gn.2 ⟨i, p.fc.getD i 0, ?_, ?_⟩))
  ·rw [lD]
   have hi : i < p.fc.length := by omega
   simp [hi]
  ·unfold KE
   refine List.mem_map.2 ⟨v, List.mem_range.2 ?_, by simp⟩
   simp only [Int.toNat_natCast] at h3
   omega
 ·have hv0 := a5 h1
  subst hv0
  by_cases h2 : k = 2
  ·subst h2
   have := b2 (by decide)
   exact List.mem_append_left _ (List.mem_append_right _ (List.mem_map.2 ⟨i, List.mem_range.2 (by omega), rfl⟩))
  ·have h3 : k = 3 := by omega
   subst h3
   have := b1 rfl
   exact List.mem_append_right _ (List.mem_map.2 ⟨i, List.mem_range.2 (by omega), rfl⟩)
theorem R5 {p : Ad} {m x : Ag} {s : Ah} : LY p m s = some x → (s, x) ∈ JC p m := by
 intro h
 obtain ⟨h1, h2, h3, h4, h5⟩ := WX.1 h
 unfold LY at h
 split at h
 ·rename_i h6
  cases h
  refine Or.2 ⟨?_, rfl, h6.2.2⟩
  unfold GY
  exact List.mem_filter.2 ⟨Zt h1 h2 h4, by simpa using h6.1⟩
 ·cases h
theorem Wz {p : Ad} (hp : Bj p) {m x : Ag} {s : Ah} (h : (s, x) ∈ JC p m) : LY p m s = some x := by
 obtain ⟨h1, h2, h3⟩ := Or.1 h
 have h1 : s ∈ GY p m := h1
 obtain ⟨h4, h5⟩ := I4 h1
 have := (Qm hp h4).1
 have h2 : x = (A8 p m s).1 := h2
 have h3 : BM p x = true := h3
 unfold LY
 rw [if_pos ⟨h5, by omega, by rw [← h2]; exact h3⟩, h2]
theorem Oh {p : Ad} (hp : Bj p) : ∀ {w : List Ah} {m x : Ag}, Ns p m w = some x ↔ Bfs.run (JC p) m w x
 | [], m, x => by simp only [Ns, Bfs.run, Option.some.injEq]; exact eq_comm
 | s :: w, m, x => by
  simp only [Ns, Bfs.run]
  constructor
  ·intro h
   cases hs : LY p m s with
   | none => rw [hs] at h; cases h
   | some z => rw [hs] at h; exact ⟨z, R5 hs, (Oh hp).1 h⟩
  ·rintro ⟨z, h1, h2⟩
   rw [Wz hp h1]
   exact (Oh hp).2 h2
abbrev KD := Bfs.Nd Ag Ah
def L6 (n : KD) : AM := ⟨n.1, n.2.1, n.2.2⟩
def N2 : Ah := ⟨0, 0, 0⟩
theorem XS {N : Nat} {p : Ad} {a b : Ag} (hN : N ≤ 1000000) (h20 : 100 ≤ N) (hp : Bj p) (ha : Cs p a) (hb : Cs p b) : FL N a b = some (decide (a = b)) := by
 have hnv := hp.nv
 have hnt := hp.nt
 unfold FL
 rw [Us hN (by rw [ha.base]; omega) (by rw [ha.next]; omega) (by rw [ha.held]; omega) (by rw [hb.held]; omega) (Ok ha) (Ok hb)]
 simp only [oS]
 rw [XE]
theorem TA {N : Nat} (hN : N ≤ 1000000) (h20 : 100 ≤ N) {p : Ad} (hp : Bj p) {x : Ag} (hx : Cs p x) {l : List KD} (hl : l.length < N) (hA : ∀ n, n ∈ l → Cs p n.1) :
  ∃ r, Ff N (l.map L6) x = some r ∧ decide (r < 0) = !(l.any fun n => decide (n.1 = x)) := by
 unfold Ff
 have := DU (C3 N (l.map L6) x fun _ => some (-1)) l (some (-1)) (fun i n => if n.1 = x then some (i : Int) else none)
  (fun n i nd hnd => by
   have hi := (lI.1 hnd).1
   rw [C3, AK (by rw [List.length_map]; omega), AZ, List.getElem?_map, hnd]
   simp only [Option.map_some, oS, L6]
   have e := XS hN h20 hp (hA nd (lM hnd)) hx
   rw [show (Ag.mk nd.1.fd nd.1.fa nd.1.fe) = nd.1 from rfl, e, AF (by omega)]
   simp only [oS]
   by_cases h : nd.1 = x
   ·rw [decide_eq_true h, if_pos h]; rfl
   ·rw [decide_eq_false h, if_neg h]; rfl)
  (fun n => by rw [C3, AD (by simp)]) N 0 (Nat.zero_le _) (by omega)
 have e' : C3 N (l.map L6) x (fun _ => some (-1)) N 0 = _ := this
 rw [e', List.drop_zero]
 cases hs : Ei (fun i (n : KD) => if n.1 = x then some (i : Int) else none) 0 l with
 | none =>
  refine ⟨_, rfl, ?_⟩
  have : (l.any fun n => decide (n.1 = x)) = false := by
   rw [List.any_eq_false]
   intro n hn
   obtain ⟨j, hj⟩ := List.mem_iff_getElem?.1 hn
   have := Gm hs j n hj
   split at this
   ·cases this
   ·rename_i h; simpa using h
  rw [this]; rfl
 | some r =>
  refine ⟨_, rfl, ?_⟩
  obtain ⟨j, n, hj, hr⟩ := F2 hs
  split at hr
  ·rename_i h
   cases hr
   have : (l.any fun n => decide (n.1 = x)) = true := List.any_eq_true.2 ⟨n, lM hj, decide_eq_true h⟩
   rw [this]
   exact decide_eq_false (by omega)
  ·cases hr
theorem Ur {i : Nat} {l : List KD} {q : Ah × Ag} {k : Nat} {n : KD} (h : l[k]? = some n) : (Bfs.put i l q)[k]? = some n := by
 unfold Bfs.put
 split
 ·exact h
 ·exact Bfs.get_app_of h
theorem VY {i : Nat} {l : List KD} {q : Ah × Ag} {n : KD} (h : n ∈ Bfs.put i l q) : n ∈ l ∨ n.1 = q.2 := by
 unfold Bfs.put at h
 split at h
 ·exact .inl h
 ·rcases List.mem_append.1 h with h | h
  ·exact .inl h
  ·rw [List.mem_singleton.1 h]; exact .inr rfl
theorem T3 {p : Ad} {m : Ag} {s : Ah} {ss : List Ah} : Sa p m (s :: ss) = if BM p (A8 p m s).1 = true then (s, (A8 p m s).1) :: Sa p m ss else Sa p m ss := by
 unfold Sa
 rw [List.filterMap_cons]
 split <;> rename_i h
 ·split at h
  ·cases h
  ·rename_i h2; rw [if_neg h2]
 ·split at h
  ·rename_i h2; cases h; rw [if_pos h2]
  ·cases h
theorem LA {p : Ad} {most i : Nat} : ∀ {qs : List (Ah × Ag)} {l l' : List KD}, Bfs.inner most i qs l = some l' → (∀ q, q ∈ qs → Cs p q.2 ∧ BM p q.2 = true) → (∀ n, n ∈ l → Cs p n.1 ∧ BM p n.1 = true) → (∀ n, n ∈ l' → Cs p n.1 ∧ BM p n.1 = true) ∧ (∀ (k : Nat) n, l[k]? = some n → l'[k]? = some n)
 | [], l, l', h, _, hA => by cases h; exact ⟨hA, fun _ _ h => h⟩
 | q :: qs, l, l', h, hq, hA => by
  simp only [Bfs.inner] at h
  split at h
  ·cases h
  ·obtain ⟨h1, h2⟩ := LA h (fun q hq' => hq q (List.mem_cons_of_mem _ hq')) (fun n hn => by
    rcases VY hn with h | h
    ·exact hA n h
    ·rw [h]; exact hq q (by simp))
   exact ⟨h1, fun k n hn => h2 k n (Ur hn)⟩
theorem SU (N : Nat) (hN : N ≤ 1000000) (h20 : 100 ≤ N) {p : Ad} {m : Ag} (hp : Bj p) (hm : Cs p m) {s : Ah} (hs : s ∈ GY p m) : ∃ b, DF N p m s = some ((A8 p m s).1, b) := by
 obtain ⟨h1, h2⟩ := I4 hs
 obtain ⟨h3, h4⟩ := OY hp h1
 rw [NR N hN h20 hp hm h3 h4]
 unfold A8 at h2 ⊢
 rw [h3, h4, if_neg (by simp), if_neg (by simp)] at h2 ⊢
 cases h : Gu p m s with
 | none => rw [h] at h2; cases h2
 | some x => exact ⟨true, rfl⟩
theorem LO {N : Nat} (hN : N ≤ 1000000) (h20 : 100 ≤ N) {p : Ad} (hp : Bj p) {m : Ag} (hm : Cs p m) {f : Int} {t : Ah} {most i : Nat} (hmo : most ≤ 20000) {v1 : List AM × Int} (hv1 : v1.2 = (i : Int)) (ss : List Ah) (hss : ∀ s, s ∈ ss → s ∈ GY p m) (hsl : ss.length ≤ 1000) (j : List AM → Option (List AM × Bool)) :
  ∀ (n k : Nat) (l : List KD), k ≤ ss.length → ss.length - k < n → l[i]? = some (m, f, t) → (∀ n, n ∈ l → Cs p n.1 ∧ BM p n.1 = true) → l.length ≤ most → (l.length < N ∧ most < N ∨ ∃ l', Bfs.inner most i (Sa p m (ss.drop k)) l = some l' ∧ l'.length < N) →
   Cd N p (most : Int) v1 ss j n (l.map L6, (k : Int)) = match Bfs.inner most i (Sa p m (ss.drop k)) l with
    | none => some ([], false)
    | some l' => j (l'.map L6)
 | 0, k, l, _, h, _, _, _, _ => by omega
 | n + 1, k, l, hk, h, hi, hA, hlm, hfu => by
  by_cases h1 : k < ss.length
  ·have hs : ss[k]? = some ss[k] := by simp [h1]
   have hsm := hss _ (lM hs)
   have hl1 : l.length < N := by
    rcases hfu with h | ⟨l', h, h2⟩
    ·exact h.1
    ·have hk := (LA (p := p) h (fun q hq => by
      obtain ⟨g1, g2, g3⟩ := PJ.1 hq
      exact ⟨by rw [g2]; exact MG hp hm (I4 (hss _ (List.mem_of_mem_drop g1))).2, g3⟩) hA).2
     by_cases h0 : l.length = 0
     ·omega
     ·have := hk (l.length - 1) l[l.length - 1] (by simp)
      have := (lI.1 this).1
      omega
   rw [Cd, AK (by simp only; omega)]
   simp only [Bn, hv1, AZ, List.getElem?_map, hi, hs, Option.map_some, oS, L6]
   obtain ⟨b, ea⟩ := SU N hN h20 hp hm hsm
   rw [show (Ag.mk m.fd m.fa m.fe) = m from rfl, ea]
   simp only [oS]
   have hxo := MG hp hm (I4 hsm).2
   rw [Na N p _ hN h20 hp hxo]
   simp only [oS]
   rw [H8 hs, T3] at hfu ⊢
   cases hr : BM p (A8 p m ss[k]).1
   ·rw [hr] at hfu
    rw [Au, Au, if_neg (by simp), AD (by rw [List.length_map]; omega), AF (by omega)]
    rw [if_neg (by simp)] at hfu
    exact LO hN h20 hp hm hmo hv1 ss hss hsl j n (k + 1) l (by omega) (by omega) hi hA hlm hfu
   ·rw [hr] at hfu
    rw [AU, if_pos rfl]
    rw [if_pos rfl] at hfu
    obtain ⟨r, er, hr2⟩ := TA hN h20 hp hxo hl1 (fun n hn => (hA n hn).1)
    have er' : Ff N (l.map fun n => AM.mk n.1 n.2.1 n.2.2) (A8 p m ss[k]).1 = some r := er
    have em : (l.map fun n : KD => AM.mk n.1 n.2.1 n.2.2) = l.map L6 := rfl
    rw [← em, er']
    simp only [oS]
    rw [hr2]
    have hput : Bfs.put i l (ss[k], (A8 p m ss[k]).1) = if (l.any fun n => decide (n.1 = (A8 p m ss[k]).1)) = true then l else l ++ [((A8 p m ss[k]).1, (i : Int), ss[k])] := rfl
    simp only [Bfs.inner] at hfu ⊢
    have hA2 : ∀ n, n ∈ Bfs.put i l (ss[k], (A8 p m ss[k]).1) → Cs p n.1 ∧ BM p n.1 = true := fun n hn => by
     rcases VY hn with h | h
     ·exact hA n h
     ·rw [h]; exact ⟨hxo, hr⟩
    have hi2 : (Bfs.put i l (ss[k], (A8 p m ss[k]).1))[i]? = some (m, f, t) := Ur hi
    have main : (AW (decide ((most : Int) < (((Bfs.put i l (ss[k], (A8 p m ss[k]).1)).map L6).length : Int))) (some (([] : List AM), false)) (Cd N p (most : Int) v1 ss j n ((Bfs.put i l (ss[k], (A8 p m ss[k]).1)).map L6, (wI .i64 ((k : Int) + 1))))) =
      match (if most < (Bfs.put i l (ss[k], (A8 p m ss[k]).1)).length then none else Bfs.inner most i (Sa p m (ss.drop (k + 1))) (Bfs.put i l (ss[k], (A8 p m ss[k]).1))) with
      | none => some ([], false)
      | some l' => j (l'.map L6) := by
     by_cases hb : most < (Bfs.put i l (ss[k], (A8 p m ss[k]).1)).length
     ·rw [if_pos hb, AK (by rw [List.length_map]; omega)]
     ·rw [if_neg hb] at hfu
      rw [if_neg hb, AD (by rw [List.length_map]; omega), AF (by omega)]
      exact LO hN h20 hp hm hmo hv1 ss hss hsl j n (k + 1) _ (by omega) (by omega) hi2 hA2 (by omega) (hfu.imp (fun h => ⟨by omega, h.2⟩) id)
    cases hin : (l.any fun n => decide (n.1 = (A8 p m ss[k]).1))
    ·rw [hin] at hput
     rw [Bool.not_false, AU, As (by simp [DP]; omega)]
     rw [if_neg (by simp)] at hput
     rw [hput, List.map_append] at main
     rw [hput]
     exact main
    ·rw [hin] at hput
     rw [Bool.not_true, Au]
     rw [if_pos rfl] at hput
     rw [hput] at main
     rw [hput]
     exact main
  ·have : k = ss.length := by omega
   subst this
   rw [Cd, AD (by simp), List.drop_eq_nil_of_le (Nat.le_refl _)]
   rfl
theorem Wn {p : Ad} {m : Ag} (hm : Cs p m) (hr : BM p m = true) : ∀ n, n ∈ ([(m, -1, N2)] : List KD) → Cs p n.1 ∧ BM p n.1 = true := fun n hn => by
 rw [List.mem_singleton.1 hn]; exact ⟨hm, hr⟩
theorem Se {p : Ad} (hp : Bj p) (m : Ag) : (GY p m).length ≤ 54 := Nat.le_trans (List.length_filter_le _ _) (V8 hp)
theorem Mc {N : Nat} (hN : N ≤ 1000000) (h20 : 100 ≤ N) {p : Ad} (hv : BG p = 0) {most : Nat} (hmo : most ≤ 20000) (j : List AM → Option (List AM × Bool)) :
  ∀ (n i : Nat) (l : List KD), i ≤ l.length → (∀ n, n ∈ l → Cs p n.1 ∧ BM p n.1 = true) → l.length ≤ most → (most < N ∧ most < n + i ∨ ∃ l', Bfs.go (JC p) most n i l = some l' ∧ l'.length < N) →
   Cf N p (most : Int) j n (l.map L6, (i : Int)) = match Bfs.go (JC p) most n i l with
    | none => some ([], false)
    | some l' => j (l'.map L6)
 | 0, i, l, hi, _, hlm, hfu => by
  rcases hfu with h | ⟨l', h, _⟩
  ·omega
  ·cases h
 | n + 1, i, l, hi, hA, hlm, hfu => by
  obtain ⟨hp, _⟩ := Dl hv
  simp only [Bfs.go] at hfu ⊢
  rw [Cf]
  by_cases h1 : i < l.length
  ·obtain ⟨⟨m, f, t⟩, hx⟩ := Bfs.get_ex h1
   have hm := (hA _ (lM hx)).1
   rw [hx] at hfu ⊢
   simp only at hfu ⊢
   rw [AK (by rw [List.length_map]; omega)]
   simp only [AZ, List.getElem?_map, hx, Option.map_some, oS, L6]
   rw [show (Ag.mk m.fd m.fa m.fe) = m from rfl, Ti N hN h20 hv hm]
   simp only [oS]
   have hgo : Sa p m ((GY p m).drop 0) = JC p m := rfl
   have hsl := Se hp m
   have e := LO hN h20 hp hm hmo (v1 := (l.map L6, (i : Int))) rfl (GY p m) (fun s hs => hs) (by omega) (fun (v7 : (List AM)) =>
    Cf N p (most : Int) j n (v7, (wI .i64 ((i : Int) + 1)))) N 0 l (Nat.zero_le _) (by omega) hx hA hlm (by
     rcases hfu with ⟨g1, g2⟩ | ⟨l', h, hl'⟩
     ·exact .inl ⟨by omega, g1⟩
     ·right
      rw [hgo]
      cases hin : Bfs.inner most i (JC p m) l with
      | none => rw [hin] at h; cases h
      | some l1 =>
       rw [hin] at h
       refine ⟨l1, rfl, ?_⟩
       have : l1.length ≤ l'.length := by
        have : ∀ (n i : Nat) (l l' : List KD), Bfs.go (JC p) most n i l = some l' → l.length ≤ l'.length := by
         intro n
         induction n with
         | zero => intro i l l' h; cases h
         | succ n ih =>
          intro i l l' h
          simp only [Bfs.go] at h
          split at h
          ·cases h; exact Nat.le_refl _
          ·rename_i nd _
           cases hin : Bfs.inner most i (JC p nd.1) l with
           | none => rw [hin] at h; cases h
           | some l1 =>
            rw [hin] at h
            refine Nat.le_trans ?_ (ih _ _ _ h)
            have : ∀ (qs : List (Ah × Ag)) (l l1 : List KD), Bfs.inner most i qs l = some l1 → l.length ≤ l1.length := by
             intro qs
             induction qs with
             | nil => intro l l1 h; cases h; exact Nat.le_refl _
             | cons q qs ih =>
              intro l l1 h
              simp only [Bfs.inner] at h
              split at h
              ·cases h
              ·refine Nat.le_trans ?_ (ih _ _ h)
               unfold Bfs.put; split
               ·exact Nat.le_refl _
               ·simp
            exact this _ _ _ hin
        exact this _ _ _ _ h
       omega)
   have e' : Cd N p (most : Int) (l.map L6, (i : Int)) (GY p m) (fun (v7 : (List AM)) => Cf N p (most : Int) j n (v7, (wI .i64 ((i : Int) + 1)))) N (l.map L6, 0) = _ := e
   rw [e', hgo]
   cases hin : Bfs.inner most i (JC p m) l with
   | none => rfl
   | some l1 =>
    rw [hin] at hfu
    obtain ⟨k1, k2⟩ := LA hin (fun q hq => Vr hp hm hq) hA
    have := (lI.1 (k2 _ _ hx)).1
    simp only [oS] at hfu ⊢
    rw [AF (by omega)]
    exact Mc hN h20 hv hmo j n (i + 1) l1 (by omega) k1 (Bfs.inner_len _ _ _ hlm hin) (hfu.imp (fun h => ⟨h.1, by omega⟩) id)
  ·have hi' : i = l.length := by omega
   subst hi'
   rw [List.getElem?_eq_none (Nat.le_refl _)]
   rw [AD (by simp)]
def LI (p : Ad) (m : Ag) (most n : Nat) : Option (List KD) := Bfs.go (JC p) most n 0 [(m, -1, N2)]
theorem S7 {N : Nat} (hN : N ≤ 1000000) (h20 : 100 ≤ N) {p : Ad} (hv : BG p = 0) {m : Ag} (hm : Cs p m) (hr : BM p m = true) {most : Nat} (hmo : most ≤ 20000) (h1 : 1 ≤ most) (hfu : most < N ∨ ∃ l', LI p m most N = some l' ∧ l'.length < N) :
  ET N p m (most : Int) = some (match LI p m most N with
   | none => ([], false)
   | some l' => (l'.map L6, true)) := by
 unfold ET
 have e := Mc hN h20 hv hmo (fun (v2 : (List AM)) => some (v2, true)) N 0 [(m, -1, N2)] (Nat.zero_le _) (Wn hm hr) h1 (hfu.imp (fun h => ⟨h, by omega⟩) id)
 have e' : Cf N p (most : Int) (fun (v2 : (List AM)) => some (v2, true)) N (([(AM.mk m ((-1)) ((Ah.mk 0 0 0)))] : List AM), 0) = _ := e
 rw [e']
 unfold LI
 cases Bfs.go (JC p) most N 0 [(m, -1, N2)] <;> rfl
structure bj (p : Ad) (m : Ag) (l : List KD) (ws : List (List Ah)) : Prop where
 inv : Bfs.Inv (JC p) NI 100 m l.length [] l ws
 ok : ∀ (k : Nat) x f s, l[k]? = some (x, f, s) → Cs p x ∧ BM p x = true
theorem XA {p : Ad} (hp : Bj p) {m : Ag} (hm : Cs p m) (hr : BM p m = true) {most n : Nat} {l : List KD} (h : LI p m most n = some l) : ∃ ws, bj p m l ws := by
 obtain ⟨ws, h1, h2⟩ := Bfs.inv_go (rk := NI) (K := 100) (fun x => Cs p x ∧ BM p x = true) (fun x _ => bA hp x) (fun x hx q hq => by
  refine ⟨?_, Vr hp hx.1 hq⟩
  exact (Qm hp (I4 (Or.1 hq).1).1).2) ⟨hm, hr⟩ n 0 [(m, -1, N2)] l [[]] (Nat.zero_le _) Bfs.inv_start (fun k x f s hk => by
   have := Bfs.lt_get hk
   simp at this; subst this
   cases hk; exact ⟨hm, hr⟩) h
 exact ⟨ws, h1, h2⟩
theorem YX {p : Ad} (hp : Bj p) {m : Ag} {l : List KD} {ws : List (List Ah)} (h : bj p m l ws) {k : Nat} {x : Ag} {f : Int} {s : Ah} {w : List Ah} (hx : l[k]? = some (x, f, s)) (hw : ws[k]? = some w) : Ns p m w = some x :=
 (Oh hp).2 (Bfs.way_run h.inv (k + 1) k (Nat.lt_succ_self k) hx hw)
theorem Rt {p : Ad} (hp : Bj p) {m x : Ag} {l : List KD} {ws : List (List Ah)} (h : bj p m l ws) {w : List Ah} (hw : Ns p m w = some x) : ∃ (k : Nat) (f : Int) (s : Ah) (u : List Ah), l[k]? = some (x, f, s) ∧ ws[k]? = some u ∧ Bfs.code NI 100 u ≤ Bfs.code NI 100 w :=
 Bfs.reach_node h.inv w.length rfl ((Oh hp).1 hw)
theorem Sn {p : Ad} {m : Ag} {l : List KD} {ws : List (List Ah)} (h : bj p m l ws) : ∀ (n k : Nat) {w : List Ah}, k < n → ws[k]? = some w → w.length ≤ k
 | 0, k, _, hk, _ => by omega
 | n + 1, k, w, hk, hw => by
  obtain ⟨⟨x, f, s⟩, hx⟩ := Bfs.get_ex (l := l) (k := k) (by rw [← h.inv.len]; exact Bfs.lt_get hw)
  rcases Nat.eq_zero_or_pos k with rfl | hk0
  ·rw [h.inv.root'] at hw; cases hw; exact Nat.le_refl _
  ·obtain ⟨j, y', g', t', w', e1, e2, e3, e4, e5, e6, e7⟩ := h.inv.par k _ _ _ hk0 hx
   rw [e6] at hw; cases hw
   have := Sn h n j (by omega) e5
   simp; omega
def L7 (p : Ad) (l : List KD) : Option Nat := Ei (fun i (n : KD) => if Js p n.1 = true then some i else none) 0 l
theorem RM {p : Ad} {l : List KD} {k : Nat} (h : L7 p l = some k) : (∃ x f s, l[k]? = some (x, f, s) ∧ Js p x = true) ∧ ∀ j x f s, j < k → l[j]? = some (x, f, s) → Js p x = false := by
 have : ∀ (xs : List KD) (i k : Nat), Ei (fun i (n : KD) => if Js p n.1 = true then some i else none) i xs = some (i + k) → (∃ x f s, xs[k]? = some (x, f, s) ∧ Js p x = true) ∧ ∀ j x f s, j < k → xs[j]? = some (x, f, s) → Js p x = false := by
  intro xs
  induction xs with
  | nil => intro i k h; cases h
  | cons n xs ih =>
   intro i k h
   rw [G5] at h
   cases hg : Js p n.1
   ·rw [hg] at h
    simp only [Bool.false_eq_true, if_false] at h
    cases k with
    | zero =>
     exfalso
     obtain ⟨j, x, _, hj⟩ := F2 h
     split at hj
     ·have := Option.some.inj hj; omega
     ·cases hj
    | succ k =>
     obtain ⟨⟨x, f, s, h1, h2⟩, h3⟩ := ih (i + 1) k (by rw [show i + 1 + k = i + (k + 1) from by omega]; exact h)
     refine ⟨⟨x, f, s, by simpa using h1, h2⟩, ?_⟩
     intro j x f s hj hx
     cases j with
     | zero => simp at hx; subst hx; exact hg
     | succ j => exact h3 j x f s (by omega) (by simpa using hx)
   ·rw [hg] at h
    simp only [if_true, Option.some.injEq] at h
    have : k = 0 := by omega
    subst this
    exact ⟨⟨n.1, n.2.1, n.2.2, rfl, hg⟩, fun j _ _ _ hj => by omega⟩
 exact this l 0 k (by rw [Nat.zero_add]; exact h)
theorem WJ {p : Ad} {l : List KD} (h : L7 p l = none) {k : Nat} {x : Ag} {f : Int} {s : Ah} (hx : l[k]? = some (x, f, s)) : Js p x = false := by
 have := Gm h k _ hx
 split at this
 ·cases this
 ·rename_i h; simpa using h
def Q0 (p : Ad) (l : List KD) (ws : List (List Ah)) : List Ah × Int := match L7 p l with
 | none => ([], 14)
 | some k => (ws.getD k [], 0)
def Fx (n : AG) : KD := (n.fq, n.fg, n.ft)
def Kf (x : Ag) : List (Ag × Int) → Option Int
 | [] => none
 | e :: r => if x = e.1 then some e.2 else Kf x r
def MZ (q : List (Ag × Int)) : List (ByteArray × Int) := q.map fun e => (Di (ME e.1), e.2)
theorem Zo {p : Ad} (hp : Bj p) {x y : Ag} (hx : Cs p x) (hy : Cs p y) : (Di (ME x) == Di (ME y)) = decide (x = y) := by
 by_cases h : x = y
 ·rw [decide_eq_true h, h, Td]
 ·rw [decide_eq_false h]
  cases hb : Di (ME x) == Di (ME y)
  ·rfl
  ·exact absurd (ZR hp hx hy hb) h
theorem QE {p : Ad} (hp : Bj p) {x : Ag} (hx : Cs p x) : ∀ {q : List (Ag × Int)}, (∀ e, e ∈ q → Cs p e.1) → Mb (Di (ME x)) (MZ q) = Kf x q
 | [], _ => rfl
 | e :: q, h => by
  have ih := QE hp hx (q := q) fun e he => h e (List.mem_cons_of_mem _ he)
  show (if (Di (ME x) == Di (ME e.1)) = true then some e.2 else Mb (Di (ME x)) (MZ q)) = if x = e.1 then some e.2 else Kf x q
  rw [Zo hp hx (h e (by simp)), ih]
  by_cases h : x = e.1
  ·rw [decide_eq_true h, if_pos rfl, if_pos h]
  ·rw [decide_eq_false h, if_neg (by simp), if_neg h]
theorem Mr (x y : Ag) (r : Int) : ∀ q : List (Ag × Int), Kf x (q ++ [(y, r)]) = match Kf x q with
  | some v => some v
  | none => if x = y then some r else none
 | [] => rfl
 | e :: q => by
  simp only [List.cons_append, Kf]
  by_cases h : x = e.1
  ·rw [if_pos h, if_pos h]
  ·rw [if_neg h, if_neg h, Mr x y r q]
theorem Yh (q : List (Ag × Int)) (x : Ag) (r : Int) : MZ (q ++ [(x, r)]) = MZ q ++ [(Di (ME x), r)] := by simp [MZ]
structure PG (p : Ad) (q : List (Ag × Int)) (l : List KD) : Prop where
 ok : ∀ e, e ∈ q → Cs p e.1
 none : ∀ x, Cs p x → Kf x q = none → ∀ n, n ∈ l → n.1 ≠ x
 some : ∀ x r, Cs p x → Kf x q = some r → (r = -1 ∧ BM p x = false) ∨ ∃ (j : Nat) (f : Int) (s : Ah), r = (j : Int) ∧ l[j]? = some (x, f, s)
structure Nm (p : Ad) (i : Nat) (done : List (Ah × Ag)) (pl : List AG) : Prop where
 to : ∀ (b : Nat) nd, pl[b]? = some nd → ∀ r, r ∈ nd.fa → ∃ s y, ((b < i ∧ (s, y) ∈ JC p nd.fq) ∨ (b = i ∧ (s, y) ∈ done)) ∧ ∃ (a : Nat) (f : Int) (t : Ah), r = (a : Int) ∧ (pl.map Fx)[a]? = some (y, f, t)
 of : ∀ (b : Nat) nd, pl[b]? = some nd → ∀ s y, ((b < i ∧ (s, y) ∈ JC p nd.fq) ∨ (b = i ∧ (s, y) ∈ done)) → ∃ (a : Nat) (f : Int) (t : Ah), ((a : Nat) : Int) ∈ nd.fa ∧ (pl.map Fx)[a]? = some (y, f, t)
def MR (pl : List AG) (i : Nat) (nd : AG) (r : Int) : List AG := if 0 ≤ r then pl.set i ⟨nd.fq, nd.fg, nd.ft, nd.fa ++ [r]⟩ else pl
theorem NQ {pl : List AG} {i : Nat} {nd : AG} {r : Int} (h : pl[i]? = some nd) : (MR pl i nd r).map Fx = pl.map Fx := by
 unfold MR
 split
 ·apply List.ext_getElem?
  intro k
  rw [List.getElem?_map, List.getElem?_map, List.getElem?_set]
  by_cases hk : i = k
  ·subst hk
   rw [if_pos rfl, if_pos (Bfs.lt_get h), h]; rfl
  ·rw [if_neg hk]
 ·rfl
theorem MI {pl : List AG} {i : Nat} {nd : AG} {r : Int} (h : pl[i]? = some nd) {b : Nat} {nb : AG} (hb : (MR pl i nd r)[b]? = some nb) : (b ≠ i ∧ pl[b]? = some nb) ∨ (b = i ∧ nb.fq = nd.fq ∧ nb.fg = nd.fg ∧ nb.ft = nd.ft ∧ nb.fa = if 0 ≤ r then nd.fa ++ [r] else nd.fa) := by
 unfold MR at hb
 split at hb
 ·rename_i hr
  rw [List.getElem?_set] at hb
  by_cases hk : i = b
  ·subst hk
   rw [if_pos rfl, if_pos (Bfs.lt_get h)] at hb
   cases hb
   exact .inr ⟨rfl, rfl, rfl, rfl, by rw [if_pos hr]⟩
  ·rw [if_neg hk] at hb
   exact .inl ⟨fun e => hk e.symm, hb⟩
 ·rename_i hr
  by_cases hk : b = i
  ·subst hk; rw [h] at hb; cases hb
   exact .inr ⟨rfl, rfl, rfl, rfl, by rw [if_neg hr]⟩
  ·exact .inl ⟨hk, hb⟩
theorem Uo {p : Ad} {i : Nat} {done : List (Ah × Ag)} {pl pl2 : List AG} {nd : AG} {s : Ah} {x : Ag} {a : Nat} {f : Int} {t : Ah} (h : Nm p i done pl)
  (hkeep : ∀ (b : Nat) nb, pl2[b]? = some nb → pl[b]? = some nb ∨ (i < b ∧ nb.fa = [])) (hk2 : ∀ (b : Nat) n, (pl.map Fx)[b]? = some n → (pl2.map Fx)[b]? = some n) (hi : pl2[i]? = some nd) (ha : (pl2.map Fx)[a]? = some (x, f, t)) : Nm p i (done ++ [(s, x)]) (MR pl2 i nd (a : Int)) := by
 constructor
 ·intro b nb hb r hr
  rw [NQ hi]
  rcases MI hi hb with ⟨h1, h2⟩ | ⟨h1, h2, h3, h4, h5⟩
  ·rcases hkeep b nb h2 with h3 | ⟨h3, h4⟩
   ·obtain ⟨s', y, g1, a', f', t', g2, g3⟩ := h.to b nb h3 r hr
    refine ⟨s', y, ?_, a', f', t', g2, hk2 _ _ g3⟩
    rcases g1 with g1 | g1
    ·exact .inl g1
    ·exact absurd g1.1 h1
   ·rw [h4] at hr; cases hr
  ·subst h1
   rw [h5, if_pos (Int.natCast_nonneg a)] at hr
   rcases List.mem_append.1 hr with hr | hr
   ·rcases hkeep b nd hi with h6 | ⟨h6, _⟩
    ·obtain ⟨s', y, g1, a', f', t', g2, g3⟩ := h.to b nd h6 r hr
     refine ⟨s', y, ?_, a', f', t', g2, hk2 _ _ g3⟩
     rcases g1 with g1 | g1
     ·exact .inl ⟨g1.1, by rw [h2]; exact g1.2⟩
     ·exact .inr ⟨rfl, List.mem_append_left _ g1.2⟩
    ·omega
   ·rw [List.mem_singleton.1 hr]
    exact ⟨s, x, .inr ⟨rfl, by simp⟩, a, f, t, rfl, ha⟩
 ·intro b nb hb s' y hs
  rw [NQ hi]
  rcases MI hi hb with ⟨h1, h2⟩ | ⟨h1, h2, h3, h4, h5⟩
  ·rcases hkeep b nb h2 with h3 | ⟨h3, h4⟩
   ·obtain ⟨a', f', t', g2, g3⟩ := h.of b nb h3 s' y (by
     rcases hs with hs | hs
     ·exact .inl hs
     ·exact absurd hs.1 h1)
    exact ⟨a', f', t', g2, hk2 _ _ g3⟩
   ·rcases hs with hs | hs <;> omega
  ·subst h1
   rw [h5, if_pos (Int.natCast_nonneg a)]
   rcases hkeep b nd hi with h6 | ⟨h6, _⟩
   ·rcases hs with hs | ⟨_, hs⟩
    ·omega
    ·rcases List.mem_append.1 hs with hs | hs
     ·obtain ⟨a', f', t', g2, g3⟩ := h.of b nd h6 s' y (.inr ⟨rfl, hs⟩)
      exact ⟨a', f', t', List.mem_append_left _ g2, hk2 _ _ g3⟩
     ·cases List.mem_singleton.1 hs
      exact ⟨a, f, t, by simp, ha⟩
   ·omega
theorem Im {N : Nat} (hN : N ≤ 1000000) (h20 : 100 ≤ N) {p : Ad} (hv : BG p = 0) {m : Ag} (hm : Cs p m) {most i : Nat} (hmo : most ≤ 20000) {v2 : List AG × List (ByteArray × Int) × Int} (hv2 : v2.2.2 = (i : Int)) (ss : List Ah) (e0 : Int) (hss : ∀ s, s ∈ ss → s ∈ GY p m) (hsl : ss.length ≤ 1000) (j : List AG × List (ByteArray × Int) → Option (List AG × Int)) :
  ∀ (n k : Nat) (pl : List AG) (q : List (Ag × Int)) (l' : List KD), k ≤ ss.length → ss.length - k < n → (∃ nd, pl[i]? = some nd ∧ nd.fq = m) → (∀ n, n ∈ pl.map Fx → Cs p n.1 ∧ BM p n.1 = true) → pl.length ≤ most → PG p q (pl.map Fx) → Nm p i (Sa p m (ss.take k)) pl →
   (∃ nd, pl[i]? = some nd ∧ nd.fa.length ≤ k) → Bfs.inner most i (Sa p m (ss.drop k)) (pl.map Fx) = some l' →
   ∃ pl' q', C0 N p v2 (ss, e0) j n (pl, MZ q, (k : Int)) = j (pl', MZ q') ∧ pl'.map Fx = l' ∧ PG p q' l' ∧ Nm p i (Sa p m ss) pl' ∧ (∀ (b : Nat) nb, pl'[b]? = some nb → b ≠ i → pl[b]? = some nb ∨ nb.fa = [])
 | 0, k, pl, q, l', _, h, _, _, _, _, _, _, _ => by omega
 | n + 1, k, pl, q, l', hk, h, hi, hA, hlm, hpl, hnx, hfl, hin => by
  obtain ⟨hp, _⟩ := Dl hv
  obtain ⟨nd, hnd, hndm⟩ := hi
  obtain ⟨nd', hnd', hfl⟩ := hfl
  rw [hnd] at hnd'; cases hnd'
  by_cases h1 : k < ss.length
  ·have hs : ss[k]? = some ss[k] := by simp [h1]
   have hsm := hss _ (lM hs)
   have hstep := (I4 hsm).2
   have hxo := MG hp hm hstep
   have hil := Bfs.lt_get hnd
   rw [C0, AK (by simp only; omega)]
   simp only [Bn, hv2, AZ, hnd, hs, oS]
   rw [show (Ag.mk nd.fq.fd nd.fq.fa nd.fq.fe) = m from hndm, Ro N hN h20 (Ok hm), if_pos (Ll hv hm)]
   simp only [oS]
   rw [hstep, bne_self_eq_false, Au, Xj N hN h20 hp hxo]
   simp only [oS]
   rw [QE hp hxo hpl.ok]
   have htk : ss.take (k + 1) = ss.take k ++ [ss[k]] := by rw [List.take_add_one, hs]; rfl
   have hgo : Sa p m (ss.take (k + 1)) = if BM p (A8 p m ss[k]).1 = true then Sa p m (ss.take k) ++ [(ss[k], (A8 p m ss[k]).1)] else Sa p m (ss.take k) := by
    rw [htk]; unfold Sa; rw [List.filterMap_append]
    cases hr : BM p (A8 p m ss[k]).1 <;> simp [hr]
   rw [H8 hs, T3] at hin
   -- what follows when the node's number is known
   have tail : ∀ (pl2 : List AG) (q2 : List (Ag × Int)) (r : Int) (nd2 : AG), pl2[i]? = some nd2 → nd2.fq = m → nd2.fa.length ≤ k → pl2.length ≤ most →
     AW (decide (0 ≤ r)) ((A5 pl2 (i : Int)).bind fun v26 => (Eh (v26.fa.length + (([r] : List Int)).length ≤ DP)).bind fun _ => (A5 pl2 (i : Int)).bind fun v28 =>
      AW (decide ((20000 : Int) < ((pl2.set ((i : Int)).toNat (AG.mk (Ag.mk v28.fq.fd v28.fq.fa v28.fq.fe) v28.fg (Ah.mk v28.ft.ff v28.ft.fj v28.ft.fr) (v26.fa ++ ([r] : List Int)))).length : Int))) (some (([] : List AG), 3))
       (C0 N p v2 (ss, e0) j n (pl2.set ((i : Int)).toNat (AG.mk (Ag.mk v28.fq.fd v28.fq.fa v28.fq.fe) v28.fg (Ah.mk v28.ft.ff v28.ft.fj v28.ft.fr) (v26.fa ++ ([r] : List Int))), MZ q2, (wI .i64 ((k : Int) + 1)))))
      (AW (decide ((20000 : Int) < (pl2.length : Int))) (some (([] : List AG), 3)) (C0 N p v2 (ss, e0) j n (pl2, MZ q2, (wI .i64 ((k : Int) + 1))))) =
     C0 N p v2 (ss, e0) j n (MR pl2 i nd2 r, MZ q2, ((k + 1 : Nat) : Int)) := by
    intro pl2 q2 r nd2 h2 h3 h4 h5
    by_cases hr : 0 ≤ r
    ·rw [AK hr]
     simp only [AZ, h2, oS, Int.toNat_natCast]
     rw [As (by simp [DP]; omega), AD (by rw [List.length_set]; omega), AF (by omega)]
     unfold MR; rw [if_pos hr]
    ·rw [AD hr, AD (by omega), AF (by omega)]
     unfold MR; rw [if_neg hr]
   cases hlq : Kf (A8 p m ss[k]).1 q with
   | some r =>
    simp only [Option.isSome_some, Bool.not_true, Au, Option.getD_some]
    have ht := tail pl q r nd hnd hndm hfl hlm
    simp only [AZ, hnd, oS] at ht
    rw [show (Ag.mk nd.fq.fd nd.fq.fa nd.fq.fe) = m from hndm] at ht
    rw [ht]
    rcases hpl.some _ _ hxo hlq with ⟨hr, hnr⟩ | ⟨a, f, t, hr, ha⟩
    ·subst hr
     rw [hnr, if_neg (by simp)] at hin
     rw [hnr, if_neg (by simp)] at hgo
     have hadd : MR pl i nd (-1) = pl := by unfold MR; rw [if_neg (by decide)]
     rw [hadd]
     exact Im hN h20 hv hm hmo hv2 ss e0 hss hsl j n (k + 1) pl q l' (by omega) (by omega) ⟨nd, hnd, hndm⟩ hA hlm hpl (by rw [hgo]; exact hnx) ⟨nd, hnd, by omega⟩ hin
    ·subst hr
     have hrob : BM p (A8 p m ss[k]).1 = true := (hA _ (lM ha)).2
     rw [hrob, if_pos rfl] at hin hgo
     have hput : Bfs.put i (pl.map Fx) (ss[k], (A8 p m ss[k]).1) = pl.map Fx := by
      unfold Bfs.put
      rw [if_pos]
      exact List.any_eq_true.2 ⟨_, lM ha, decide_eq_true rfl⟩
     simp only [Bfs.inner] at hin
     rw [hput, if_neg (by rw [List.length_map]; omega)] at hin
     have hpr := NQ (r := (a : Int)) hnd
     have hnx2 := Uo (s := ss[k]) hnx (pl2 := pl) (fun b nb hb => .inl hb) (fun b n hb => hb) hnd ha
     obtain ⟨nd3, hnd3⟩ := Bfs.get_ex (l := MR pl i nd (a : Int)) (k := i) (by
      have := congrArg List.length hpr; simp only [List.length_map] at this; omega)
     obtain ⟨g1, g2⟩ | ⟨_, g2, g3, g4, g5⟩ := MI hnd hnd3
     ·exact absurd rfl g1
     obtain ⟨pl', q', r1, r2, r3, r4, r5⟩ := Im hN h20 hv hm hmo hv2 ss e0 hss hsl j n (k + 1) (MR pl i nd (a : Int)) q l' (by omega) (by omega) ⟨nd3, hnd3, by rw [g2]; exact hndm⟩ (by rw [hpr]; exact hA) (by have := congrArg List.length hpr; simp only [List.length_map] at this; omega)  (by rw [hpr]; exact hpl) (by rw [hgo]; exact hnx2) ⟨nd3, hnd3, by rw [g5]; split <;> (try simp only [List.length_append, List.length_singleton]) <;> omega⟩ (by rw [hpr]; exact hin)
     refine ⟨pl', q', r1, r2, r3, r4, ?_⟩
     intro b nb hb hbi
     rcases r5 b nb hb hbi with h2 | h2
     ·rcases MI hnd h2 with ⟨_, h3⟩ | ⟨h3, _⟩
      ·exact .inl h3
      ·exact absurd h3 hbi
     ·exact .inr h2
   | none =>
    simp only [Option.isSome_none, Bool.not_false, AU]
    rw [KV N p _ hN h20 (Ok hxo) (Ll hv hxo)]
    simp only [oS, bne_self_eq_false, Au]
    have hms : ∀ r, Od (Di (ME (A8 p m ss[k]).1)) r (MZ q) = MZ (q ++ [((A8 p m ss[k]).1, r)]) := fun r => by
     rw [Yh]; exact MJ _ _ (by rw [QE hp hxo hpl.ok, hlq])
    have hok2 : ∀ r e, e ∈ q ++ [((A8 p m ss[k]).1, r)] → Cs p e.1 := fun r e he => by
     rcases List.mem_append.1 he with he | he
     ·exact hpl.ok e he
     ·rw [List.mem_singleton.1 he]; exact hxo
    cases hrob : BM p (A8 p m ss[k]).1
    ·rw [Bool.not_false, AU]
     rw [hrob, if_neg (by simp)] at hin hgo
     rw [hms]
     have ht := tail pl (q ++ [((A8 p m ss[k]).1, -1)]) (-1) nd hnd hndm hfl hlm
     simp only [AZ, hnd, oS] at ht
     rw [show (Ag.mk nd.fq.fd nd.fq.fa nd.fq.fe) = m from hndm] at ht
     rw [ht]
     have hadd : MR pl i nd (-1) = pl := by unfold MR; rw [if_neg (by decide)]
     rw [hadd]
     refine Im hN h20 hv hm hmo hv2 ss e0 hss hsl j n (k + 1) pl _ l' (by omega) (by omega) ⟨nd, hnd, hndm⟩ hA hlm ⟨hok2 (-1), ?_, ?_⟩ (by rw [hgo]; exact hnx) ⟨nd, hnd, by omega⟩ hin
     ·intro x hx hq
      rw [Mr] at hq
      cases hq2 : Kf x q with
      | none => exact hpl.none x hx hq2
      | some v => rw [hq2] at hq; cases hq
     ·intro x r hx hq
      rw [Mr] at hq
      cases hq2 : Kf x q with
      | none =>
       rw [hq2] at hq
       simp only at hq
       split at hq
       ·rename_i he
        cases hq; left; exact ⟨rfl, by rw [he]; exact hrob⟩
       ·cases hq
      | some v => rw [hq2] at hq; cases hq; exact hpl.some x _ hx hq2
    ·rw [Bool.not_true, Au]
     rw [hrob, if_pos rfl] at hin hgo
     rw [hms]
     have hnew : ((pl.map Fx).any fun n => decide (n.1 = (A8 p m ss[k]).1)) = false := by
      rw [List.any_eq_false]
      intro n hn
      simpa using hpl.none _ hxo hlq n hn
     have hput : Bfs.put i (pl.map Fx) (ss[k], (A8 p m ss[k]).1) = (pl ++ [AG.mk (A8 p m ss[k]).1 (i : Int) ss[k] []]).map Fx := by
      unfold Bfs.put
      rw [hnew, if_neg (by simp), List.map_append]; rfl
     simp only [Bfs.inner] at hin
     rw [hput] at hin
     split at hin
     ·cases hin
     rename_i hmm
     rw [List.length_map, List.length_append, List.length_singleton] at hmm
     rw [As (by simp [DP]; omega)]
     have hnd2 : (pl ++ [AG.mk (A8 p m ss[k]).1 (i : Int) ss[k] []])[i]? = some nd := Bfs.get_app_of hnd
     have ht := tail (pl ++ [AG.mk (A8 p m ss[k]).1 (i : Int) ss[k] []]) (q ++ [((A8 p m ss[k]).1, (pl.length : Int))]) (pl.length : Int) nd hnd2 hndm hfl (by rw [List.length_append, List.length_singleton]; omega)
     simp only [AZ] at ht
     rw [ht]
     have hpr := NQ (r := (pl.length : Int)) hnd2
     have hlast : ((pl ++ [AG.mk (A8 p m ss[k]).1 (i : Int) ss[k] []]).map Fx)[pl.length]? = some ((A8 p m ss[k]).1, (i : Int), ss[k]) := by
      rw [List.getElem?_map, Bfs.get_app_new]; rfl
     have hold : ∀ (b : Nat) n, (pl.map Fx)[b]? = some n → ((pl ++ [AG.mk (A8 p m ss[k]).1 (i : Int) ss[k] []]).map Fx)[b]? = some n := fun b n hb => by
      rw [List.map_append]; exact Bfs.get_app_of hb
     have hkeep : ∀ (b : Nat) nb, (pl ++ [AG.mk (A8 p m ss[k]).1 (i : Int) ss[k] []])[b]? = some nb → pl[b]? = some nb ∨ (i < b ∧ nb.fa = []) := fun b nb hb => by
      rcases Bfs.get_app hb with h2 | ⟨h2, h3⟩
      ·exact .inl h2
      ·exact .inr ⟨by omega, by rw [h3]⟩
     have hnx2 := Uo (s := ss[k]) hnx hkeep hold hnd2 hlast
     have hpl2 : PG p (q ++ [((A8 p m ss[k]).1, (pl.length : Int))]) ((pl ++ [AG.mk (A8 p m ss[k]).1 (i : Int) ss[k] []]).map Fx) := by
      refine ⟨hok2 _, ?_, ?_⟩
      ·intro x hx hq n hn
       rw [Mr] at hq
       cases hq2 : Kf x q with
       | none =>
        rw [hq2] at hq
        simp only at hq
        split at hq
        ·cases hq
        ·rename_i hne
         rw [List.map_append] at hn
         rcases List.mem_append.1 hn with hn | hn
         ·exact hpl.none x hx hq2 n hn
         ·simp at hn; subst hn
          exact fun e => hne e.symm
       | some v => rw [hq2] at hq; cases hq
      ·intro x r hx hq
       rw [Mr] at hq
       cases hq2 : Kf x q with
       | none =>
        rw [hq2] at hq
        simp only at hq
        split at hq
        ·rename_i he
         cases hq
         exact .inr ⟨pl.length, _, _, rfl, by rw [he]; exact hlast⟩
        ·cases hq
       | some v =>
        rw [hq2] at hq; cases hq
        rcases hpl.some x _ hx hq2 with g | ⟨a, f, t, g1, g2⟩
        ·exact .inl g
        ·exact .inr ⟨a, f, t, g1, hold _ _ g2⟩
     obtain ⟨nd3, hnd3⟩ := Bfs.get_ex (l := MR (pl ++ [AG.mk (A8 p m ss[k]).1 (i : Int) ss[k] []]) i nd (pl.length : Int)) (k := i) (by
      have := congrArg List.length hpr; simp only [List.length_map, List.length_append, List.length_singleton] at this; omega)
     obtain ⟨g1, g2⟩ | ⟨_, g2, g3, g4, g5⟩ := MI hnd2 hnd3
     ·exact absurd rfl g1
     obtain ⟨pl', q', r1, r2, r3, r4, r5⟩ := Im hN h20 hv hm hmo hv2 ss e0 hss hsl j n (k + 1) (MR (pl ++ [AG.mk (A8 p m ss[k]).1 (i : Int) ss[k] []]) i nd (pl.length : Int)) _ l' (by omega) (by omega) ⟨nd3, hnd3, by rw [g2]; exact hndm⟩ (by
       rw [hpr]
       intro n hn
       rw [List.map_append] at hn
       rcases List.mem_append.1 hn with hn | hn
       ·exact hA n hn
       ·simp at hn; subst hn; exact ⟨hxo, hrob⟩) (by have := congrArg List.length hpr; simp only [List.length_map, List.length_append, List.length_singleton] at this; omega)  (by rw [hpr]; exact hpl2) (by rw [hgo]; exact hnx2) ⟨nd3, hnd3, by rw [g5]; split <;> (try simp only [List.length_append, List.length_singleton]) <;> omega⟩ (by rw [hpr]; exact hin)
     refine ⟨pl', q', r1, r2, r3, r4, ?_⟩
     intro b nb hb hbi
     rcases r5 b nb hb hbi with h2 | h2
     ·rcases MI hnd2 h2 with ⟨_, h3⟩ | ⟨h3, _⟩
      ·rcases hkeep b nb h3 with h4 | ⟨_, h4⟩
       ·exact .inl h4
       ·exact .inr h4
      ·exact absurd h3 hbi
     ·exact .inr h2
  ·have : k = ss.length := by omega
   subst this
   rw [List.drop_eq_nil_of_le (Nat.le_refl _)] at hin
   have hin : some (pl.map Fx) = some l' := hin
   cases hin
   rw [List.take_length] at hnx
   rw [C0, AD (by simp)]
   exact ⟨pl, q, rfl, rfl, hpl, hnx, fun b nb hb _ => .inl hb⟩
theorem LU {N : Nat} (hN : N ≤ 1000000) (h20 : 100 ≤ N) {p : Ad} (hv : BG p = 0) {most : Nat} (hmo : most ≤ 20000) (j : List AG → Option (List AG × Int)) :
  ∀ (n i : Nat) (pl : List AG) (q : List (Ag × Int)) (l' : List KD), i ≤ pl.length → (∀ n, n ∈ pl.map Fx → Cs p n.1 ∧ BM p n.1 = true) → pl.length ≤ most → PG p q (pl.map Fx) → Nm p i [] pl → (∀ (b : Nat) nb, i ≤ b → pl[b]? = some nb → nb.fa = []) →
   Bfs.go (JC p) most n i (pl.map Fx) = some l' →
   ∃ pl', EE N p j n (pl, MZ q, (i : Int)) = j pl' ∧ pl'.map Fx = l' ∧ Nm p l'.length [] pl'
 | 0, i, pl, q, l', _, _, _, _, _, _, h => by cases h
 | n + 1, i, pl, q, l', hi, hA, hlm, hpl, hnx, hem, h => by
  obtain ⟨hp, _⟩ := Dl hv
  simp only [Bfs.go] at h
  rw [EE]
  by_cases h1 : i < pl.length
  ·obtain ⟨nd, hx⟩ := Bfs.get_ex h1
   have hxl : (pl.map Fx)[i]? = some (Fx nd) := by rw [List.getElem?_map, hx]; rfl
   have hm := (hA _ (lM hxl)).1
   have hm : Cs p nd.fq := hm
   rw [hxl] at h
   simp only at h
   rw [AK (by simp only; omega)]
   simp only [AZ, hx, oS]
   rw [show (Ag.mk nd.fq.fd nd.fq.fa nd.fq.fe) = nd.fq from rfl, Vy N hN h20 hv hm]
   simp only [oS, bne_self_eq_false, Au]
   have hsl := Se hp nd.fq
   cases hin : Bfs.inner most i (JC p nd.fq) (pl.map Fx) with
   | none =>
    have hin' : Bfs.inner most i (JC p (Fx nd).1) (pl.map Fx) = none := hin
    rw [hin'] at h; cases h
   | some l1 =>
    have hin' : Bfs.inner most i (JC p (Fx nd).1) (pl.map Fx) = some l1 := hin
    rw [hin'] at h
    simp only [oS] at h
    obtain ⟨pl1, q1, e1, e2, e3, e4, e5⟩ := Im hN h20 hv hm hmo (v2 := (pl, MZ q, (i : Int))) rfl (GY p nd.fq) 0 (fun s hs => hs) (by omega) (fun (v9 : (List AG) × (List (ByteArray × Int))) =>
     EE N p j n (v9.1, v9.2, (wI .i64 ((i : Int) + 1)))) N 0 pl q l1 (Nat.zero_le _) (by omega) ⟨nd, hx, rfl⟩ hA hlm hpl (by
      rw [List.take_zero]; exact hnx) ⟨nd, hx, by rw [hem i nd (Nat.le_refl _) hx]; exact Nat.le_refl _⟩ hin
    have e1' : C0 N p (pl, MZ q, (i : Int)) (GY p nd.fq, 0) (fun (v9 : (List AG) × (List (ByteArray × Int))) =>
     EE N p j n (v9.1, v9.2, (wI .i64 ((i : Int) + 1)))) N (pl, MZ q, 0) = _ := e1
    rw [e1']
    simp only
    obtain ⟨k1, k2⟩ := LA hin (fun q hq => Vr hp hm hq) hA
    have hl1 : l1.length = pl1.length := by rw [← e2, List.length_map]
    have hil : i < pl1.length := by rw [← hl1]; exact Bfs.lt_get (k2 _ _ hxl)
    rw [AF (by have := Bfs.inner_len _ _ _ (by rw [List.length_map]; exact hlm) hin; omega)]
    refine LU hN h20 hv hmo j n (i + 1) pl1 q1 l' (by omega) (by rw [e2]; exact k1) (by rw [← hl1]; exact Bfs.inner_len _ _ _ (by rw [List.length_map]; exact hlm) hin) (by rw [e2]; exact e3) ?_ ?_ (by rw [e2]; exact h)
    ·have hmi : ∀ nb, pl1[i]? = some nb → nb.fq = nd.fq := fun nb hb => by
      have := k2 _ _ hxl
      rw [← e2, List.getElem?_map, hb] at this
      exact congrArg (fun n : KD => n.1) (Option.some.inj this)
     constructor
     ·intro b nb hb r hr
      obtain ⟨s, y, g1, g2⟩ := e4.to b nb hb r hr
      refine ⟨s, y, .inl ?_, g2⟩
      rcases g1 with g1 | ⟨g1, g3⟩
      ·exact ⟨by omega, g1.2⟩
      ·subst g1; exact ⟨by omega, by rw [hmi nb hb]; exact g3⟩
     ·intro b nb hb s y hs
      refine e4.of b nb hb s y ?_
      rcases hs with ⟨h2, h3⟩ | ⟨_, h3⟩
      ·by_cases hbi : b < i
       ·exact .inl ⟨hbi, h3⟩
       ·have : b = i := by omega
        subst this
        exact .inr ⟨rfl, by rw [hmi nb hb] at h3; exact h3⟩
      ·cases h3
    ·intro b nb hb hb2
     rcases e5 b nb hb2 (by omega) with h2 | h2
     ·exact hem b nb (by omega) h2
     ·exact h2
  ·have hi' : i = pl.length := by omega
   subst hi'
   rw [List.getElem?_eq_none (by rw [List.length_map]; exact Nat.le_refl _)] at h
   have h : some (pl.map Fx) = some l' := h
   cases h
   rw [AD (by simp)]
   exact ⟨pl, rfl, rfl, by rw [List.length_map]; exact hnx⟩
theorem QM {N : Nat} (hN : N ≤ 1000000) (h20 : 100 ≤ N) {p : Ad} (hv : BG p = 0) {m : Ag} (hm : Cs p m) (hr : BM p m = true) {most : Nat} (hmo : most ≤ 20000) (h1 : 1 ≤ most) {l : List KD} (hs : LI p m most N = some l) :
  ∃ pl, HO N p m = some (pl, 0) ∧ pl.map Fx = l ∧ Nm p l.length [] pl := by
 obtain ⟨hp, _⟩ := Dl hv
 unfold HO
 rw [Xj N hN h20 hp hm]
 simp only [oS]
 obtain ⟨pl, e1, e2, e3⟩ := LU hN h20 hv hmo (fun (v3 : (List AG)) => some (v3, 0)) N 0 [AG.mk m (-1) N2 []] [(m, 0)] l (Nat.zero_le _) (Wn hm hr) h1 (by
  refine ⟨fun e he => by rw [List.mem_singleton.1 he]; exact hm, ?_, ?_⟩
  ·intro x _ hq n hn
   have hn : n = (m, -1, N2) := List.mem_singleton.1 hn
   simp only [Kf] at hq
   split at hq
   ·cases hq
   ·rename_i h; rw [hn]; exact fun e => h e.symm
  ·intro x r _ hq
   simp only [Kf] at hq
   split at hq
   ·rename_i h
    cases hq; right; exact ⟨0, -1, N2, rfl, by rw [h]; rfl⟩
   ·cases hq) (by
  constructor
  ·intro b nb hb r hr
   have := Bfs.lt_get hb
   simp at this; subst this
   cases hb; cases hr
  ·intro b nb hb s y hs
   rcases hs with h | h
   ·omega
   ·cases h.2) (fun b nb _ hb => by
    have := Bfs.lt_get hb
    simp at this; subst this
    cases hb; rfl) hs
 refine ⟨pl, ?_, e2, e3⟩
 exact e1
theorem Wm {α : Type} (xs : List α) (x y : α) : ∀ (A B : List α), ((A ++ x :: (xs ++ y :: B)).set A.length y).set (A.length + 1 + xs.length) x = A ++ y :: (xs ++ x :: B)
 | [], B => by
  rw [List.nil_append, List.length_nil, List.set_cons_zero, show 0 + 1 + xs.length = xs.length + 1 from by omega, List.set_cons_succ, List.set_append_right _ _ (Nat.le_refl _), Nat.sub_self]
  rfl
 | a :: A, B => by
  have := Wm xs x y A B
  simp only [List.cons_append, List.length_cons]
  rw [List.set_cons_succ, show A.length + 1 + 1 + xs.length = (A.length + 1 + xs.length) + 1 from by omega, List.set_cons_succ, this]
theorem Tl (N : Nat) (j : List Ah → Option (List Ah)) : ∀ (n : Nat) (xs A B : List Ah), xs.length < 2 * n → A.length + xs.length ≤ 100000 →
  Bx N j n (A ++ (xs ++ B), (A.length : Int), ((A.length + xs.length : Nat) : Int) - 1) = j (A ++ (xs.reverse ++ B))
 | 0, xs, A, B, h, _ => by omega
 | n + 1, xs, A, B, h, h2 => by
  rw [Bx]
  rcases xs with _ | ⟨x, xs⟩
  ·rw [AD (by simp only [List.length_nil]; omega)]; rfl
  ·rcases Bfs.list_snoc xs with rfl | ⟨xs, y, rfl⟩
   ·rw [AD (by simp only [List.length_cons, List.length_nil]; omega)]; rfl
   ·simp only [List.length_cons, List.length_append, List.length_nil] at h h2
    rw [AK (by simp only [List.length_cons, List.length_append, List.length_nil]; omega)]
    have e1 : (((A.length + (x :: (xs ++ [y])).length : Nat) : Int) - 1) = ((A.length + 1 + xs.length : Nat) : Int) := by simp only [List.length_cons, List.length_append, List.length_nil]; omega
    have e2 : A ++ (x :: (xs ++ [y]) ++ B) = A ++ x :: (xs ++ y :: B) := by simp
    simp only [e1, e2, AZ, Int.toNat_natCast]
    have g1 : (A ++ x :: (xs ++ y :: B))[A.length + 1 + xs.length]? = some y := by
     rw [List.getElem?_append_right (by omega), show A.length + 1 + xs.length - A.length = xs.length + 1 from by omega, List.getElem?_cons_succ, List.getElem?_append_right (Nat.le_refl _), Nat.sub_self]; rfl
    have g2 : (A ++ x :: (xs ++ y :: B))[A.length]? = some x := by
     rw [List.getElem?_append_right (Nat.le_refl _), Nat.sub_self]; rfl
    rw [g1, g2]
    simp only [oS]
    rw [List.getElem?_set, if_neg (by omega), g1]
    simp only [oS]
    rw [Wm, AF (by omega), show wI .i64 (((A.length + 1 + xs.length : Nat) : Int) - 1) = (((A ++ [y]).length + xs.length : Nat) : Int) - 1 from by
     rw [DL (by omega) (by omega)]; simp only [List.length_append, List.length_singleton]]
    have := Tl N j n xs (A ++ [y]) (x :: B) (by omega) (by simp only [List.length_append, List.length_singleton]; omega)
    rw [show ((A.length + 1 : Nat) : Int) = (((A ++ [y]).length : Nat) : Int) from by simp]
    rw [show A ++ y :: (xs ++ x :: B) = (A ++ [y]) ++ (xs ++ x :: B) from by simp, this]
    simp
theorem Vt (N : Nat) (h20 : 100 ≤ N) (l : List Ah) (h : l.length < 2 * N) (h2 : l.length ≤ 100000) : BO N l = some l.reverse := by
 unfold BO
 rw [DL (by omega) (by omega)]
 have := Tl N (fun v2 => some v2) N l [] [] h (by simpa using h2)
 simp only [List.nil_append, List.append_nil, List.length_nil, Nat.zero_add] at this
 exact this
theorem Nb {p : Ad} {m : Ag} {l : List KD} {ws : List (List Ah)} (h : bj p m l ws) (N : Nat) {pl : List AG} (hpl : pl.map Fx = l) (j : List Ah → Option (List Ah)) : ∀ (n k : Nat) {w acc : List Ah}, k < n → ws[k]? = some w → acc.length + k ≤ 20000 →
  G6 N pl j n ((k : Int), acc) = j (acc ++ w.reverse)
 | 0, k, _, _, hk, _, _ => by omega
 | n + 1, k, w, acc, hk, hw, ha => by
  obtain ⟨⟨x, f, s⟩, hx⟩ := Bfs.get_ex (l := l) (k := k) (by rw [← h.inv.len]; exact Bfs.lt_get hw)
  have hx2 := hx
  rw [← hpl, List.getElem?_map] at hx2
  cases hnd : pl[k]? with
  | none => rw [hnd] at hx2; cases hx2
  | some nd =>
   rw [hnd] at hx2
   have hx2 : Fx nd = (x, f, s) := Option.some.inj hx2
   have hf : nd.fg = f := congrArg (fun n : KD => n.2.1) hx2
   have hs : nd.ft = s := congrArg (fun n : KD => n.2.2) hx2
   rw [G6]
   simp only [AZ, hnd, oS]
   rw [hf]
   rcases Nat.eq_zero_or_pos k with rfl | hk0
   ·obtain ⟨s0, hs0⟩ := h.inv.root; rw [hs0] at hx; cases hx
    rw [h.inv.root'] at hw; cases hw
    rw [AD (by decide)]; simp
   ·obtain ⟨i, y', g', t', w', e1, e2, e3, e4, e5, e6, e7⟩ := h.inv.par k _ _ _ hk0 hx
    rw [e6] at hw; cases hw
    subst e1
    rw [AK (Int.natCast_nonneg i), As (by simp [DP]; omega)]
    have := Nb h N hpl j n i (w := w') (acc := acc ++ [Ah.mk nd.ft.ff nd.ft.fj nd.ft.fr]) (by omega) e5 (by simp; omega)
    rw [this, show (Ah.mk nd.ft.ff nd.ft.fj nd.ft.fr) = s from hs]
    simp
theorem VX {p : Ad} {l : List KD} {k : Nat} (h : L7 p l = some k) : k < l.length := by
 obtain ⟨⟨x, f, s, h1, _⟩, _⟩ := RM h
 exact Bfs.lt_get h1
theorem SB {N : Nat} (hN : N ≤ 1000000) (h20 : 100 ≤ N) {p : Ad} (hv : BG p = 0) {m : Ag} (hm : Cs p m) (hr : BM p m = true) {most : Nat} (hmo : most ≤ 20000) (h1 : 1 ≤ most) {l : List KD} (hs : LI p m most N = some l) (hl : l.length < N) {ws : List (List Ah)} (h : bj p m l ws) :
  GK N p m = some (Q0 p l ws) := by
 obtain ⟨hp, _⟩ := Dl hv
 have hl2 : l.length ≤ 20000 := Nat.le_trans (Bfs.go_len _ _ _ _ (by simpa using h1) hs) hmo
 unfold GK
 rw [KV N p m hN h20 (Ok hm) (Ll hv hm), hr]
 simp only [oS, bne_self_eq_false, Au, Bool.not_true]
 obtain ⟨pl, e1, e2, e3⟩ := QM hN h20 hv hm hr hmo h1 hs
 rw [e1]
 simp only [oS, bne_self_eq_false, Au]
 have hpll : pl.length = l.length := by rw [← e2, List.length_map]
 unfold CX
 have := DU (A1 N pl ((fun (x : AG) => FR N x p.fc p.fh p.fm p.fb)) fun _ => some (-1)) l (some (-1)) (fun i n => (if Js p n.1 = true then some i else none).map fun (k : Nat) => (k : Int))
  (fun n i nd hnd => by
   have hi := (lI.1 hnd).1
   have hnd2 := hnd
   rw [← e2, List.getElem?_map] at hnd2
   cases hq : pl[i]? with
   | none => rw [hq] at hnd2; cases hnd2
   | some nq =>
    rw [hq] at hnd2
    have hnd2 : Fx nq = nd := Option.some.inj hnd2
    rw [A1, AK (by omega), AZ, hq]
    simp only [oS]
    have hok := (h.ok _ _ _ _ (show l[i]? = some (nd.1, nd.2.1, nd.2.2) from hnd)).1
    have hM : nq.fq = nd.1 := congrArg (fun n : KD => n.1) hnd2
    unfold FR
    simp only
    rw [show (Ad.mk p.fc p.fh p.fm p.fb) = p from rfl, show (Ag.mk nq.fq.fd nq.fq.fa nq.fq.fe) = nd.1 from hM, Uu N p nd.1 hN h20 (Ok hok), AF (by omega)]
    simp only [oS]
    cases hg : Js p nd.1 <;> rfl)
  (fun n => by rw [A1, AD (by omega)]) N 0 (Nat.zero_le _) (by omega)
 have e3 : A1 N pl ((fun (x : AG) => FR N x p.fc p.fh p.fm p.fb)) (fun _ => some (-1)) N 0 = _ := this
 rw [e3, List.drop_zero, NV]
 unfold Q0
 cases hg : L7 p l with
 | none =>
  unfold L7 at hg
  rw [hg]; rfl
 | some k =>
  have hk := VX hg
  unfold L7 at hg
  rw [hg]
  simp only [Option.map_some, Ch, oS]
  rw [AD (by omega)]
  obtain ⟨w, hw⟩ := Bfs.get_ex (l := ws) (k := k) (by rw [h.inv.len]; exact hk)
  have e4 := Nb h N e2 (fun (v2 : (List Ah)) => (BO N v2).bind fun v8 => some v8) N k (w := w) (acc := []) (by omega) hw (by simp; omega)
  unfold KK
  have hwl := Sn h (k + 1) k (Nat.lt_succ_self k) hw
  rw [e4, List.nil_append, Vt N h20 _ (by rw [List.length_reverse]; omega) (by rw [List.length_reverse]; omega), List.reverse_reverse]
  simp only [oS]
  rw [lD, hw]; rfl
def Z9 (p : Ad) (m : Ag) (w : List Ah) : Prop := LV p m w = true ∧ Bfs.Dig NI 100 w ∧ ∀ u, LV p m u = true → Bfs.code NI 100 w ≤ Bfs.code NI 100 u
theorem Wb {p : Ad} (hp : Bj p) : ∀ {w : List Ah} {m x : Ag}, Ns p m w = some x → Bfs.Dig NI 100 w ∧ ∀ s, s ∈ w → s ∈ EU p
 | [], _, _, _ => ⟨fun s hs => (by cases hs), fun s hs => (by cases hs)⟩
 | s :: w, m, x, h => by
  simp only [Ns] at h
  cases hs : LY p m s with
  | none => rw [hs] at h; cases h
  | some z =>
   rw [hs] at h
   obtain ⟨h1, h2⟩ := Wb hp h
   have h3 := (I4 (Or.1 (R5 hs)).1).1
   refine ⟨fun t ht => ?_, fun t ht => ?_⟩
   ·rcases List.mem_cons.1 ht with rfl | ht
    ·exact (Qm hp h3).2
    ·exact h1 t ht
   ·rcases List.mem_cons.1 ht with rfl | ht
    ·exact h3
    ·exact h2 t ht
theorem W3 {p : Ad} (hp : Bj p) {m : Ag} {l : List KD} {ws : List (List Ah)} (h : bj p m l ws) :
  ((Q0 p l ws).2 = 0 ∧ Z9 p m (Q0 p l ws).1 ∧ (Q0 p l ws).1.length ≤ l.length) ∨ (Q0 p l ws = ([], 14) ∧ ∀ u, LV p m u = false) := by
 unfold Q0
 cases hg : L7 p l with
 | none =>
  right
  refine ⟨rfl, fun u => ?_⟩
  cases hu : LV p m u
  ·rfl
  ·obtain ⟨x, h1, h2⟩ := RN hu
   obtain ⟨k, f, s, w, g1, g2, g3⟩ := Rt hp h h1
   rw [WJ hg g1] at h2; cases h2
 | some k =>
  left
  obtain ⟨⟨x, f, s, h1, h2⟩, h3⟩ := RM hg
  have hk := VX hg
  obtain ⟨w, hw⟩ := Bfs.get_ex (l := ws) (k := k) (by rw [h.inv.len]; exact hk)
  have hwe : ws.getD k [] = w := by rw [lD, hw]; rfl
  simp only [hwe]
  have hrun := YX hp h h1 hw
  refine ⟨trivial, ⟨?_, (Wb hp hrun).1, ?_⟩, ?_⟩
  ·unfold LV; rw [hrun]; exact h2
  ·intro u hu
   obtain ⟨y, g1, g2⟩ := RN hu
   obtain ⟨k', f', s', w', e1, e2, e3⟩ := Rt hp h g1
   refine Nat.le_trans ?_ e3
   by_cases hkk : k' < k
   ·rw [h3 k' y f' s' hkk e1] at g2; cases g2
   ·rcases Nat.lt_or_eq_of_le (Nat.le_of_not_lt hkk) with h4 | h4
    ·exact Nat.le_of_lt (h.inv.inc _ _ _ _ hw e2 h4)
    ·subst h4; rw [hw] at e2; cases e2; exact Nat.le_refl _
  ·have := Sn h (k + 1) k (Nat.lt_succ_self k) hw
   omega
def Tz (p : Ad) (m : Ag) (r : List Ah × Int) : Prop := (r.2 = 0 ∧ Z9 p m r.1 ∧ r.1.length ≤ 120) ∨ (r = ([], 14) ∧ ∀ u, LV p m u = false)
def OR (p : Ad) : Prop := BM p (F4 p) = false ∨ ∃ l, LI p (F4 p) 120 1000 = some l
def Qr (p : Ad) (r : List Ah × Int) : Prop := (BM p (F4 p) = false ∧ r = ([], 13)) ∨ (BM p (F4 p) = true ∧ Tz p (F4 p) r)
theorem Qq {α : Type} [DecidableEq α] : ∀ (L S : List α), L.Nodup → (∀ x, x ∈ L → x ∈ S) → L.length ≤ S.length
 | [], S, _, _ => Nat.zero_le _
 | x :: L, S, hn, hs => by
  obtain ⟨h1, h2⟩ := List.nodup_cons.1 hn
  have hx := hs x (by simp)
  have := Qq L (S.erase x) h2 (fun y hy => by
   have hne : y ≠ x := fun e => h1 (e ▸ hy)
   exact (List.mem_erase_of_ne hne).2 (hs y (List.mem_cons_of_mem _ hy)))
  rw [List.length_erase_of_mem hx] at this
  have := List.length_pos_of_mem hx
  simp only [List.length_cons]
  omega
def L3 (l : List KD) : List Ag := l.map fun n => n.1
theorem Xn {i : Nat} {l : List KD} {q : Ah × Ag} (h : (L3 l).Nodup) : (L3 (Bfs.put i l q)).Nodup ∧ ∀ x, x ∈ L3 (Bfs.put i l q) → x ∈ L3 l ∨ x = q.2 := by
 unfold Bfs.put
 split
 ·exact ⟨h, fun x hx => .inl hx⟩
 ·rename_i hn
  unfold L3 at h ⊢
  rw [List.map_append]
  refine ⟨?_, ?_⟩
  ·rw [List.nodup_append]
   refine ⟨h, by simp, ?_⟩
   intro a ha b hb
   have hb : b = q.2 := by simpa using hb
   subst hb
   intro e
   subst e
   obtain ⟨n, hn1, hn2⟩ := List.mem_map.1 ha
   exact hn (List.any_eq_true.2 ⟨n, hn1, decide_eq_true hn2⟩)
  ·intro x hx
   rcases List.mem_append.1 hx with hx | hx
   ·exact .inl hx
   ·exact .inr (by simpa using hx)
theorem Pb {S : List Ag} {most i : Nat} (hS : S.length ≤ most) : ∀ (qs : List (Ah × Ag)) (l : List KD), (L3 l).Nodup → (∀ x, x ∈ L3 l → x ∈ S) → (∀ q, q ∈ qs → q.2 ∈ S) →
  ∃ l', Bfs.inner most i qs l = some l' ∧ (L3 l').Nodup ∧ (∀ x, x ∈ L3 l' → x ∈ S) ∧ l.length ≤ l'.length
 | [], l, h1, h2, _ => ⟨l, rfl, h1, h2, Nat.le_refl _⟩
 | q :: qs, l, h1, h2, h3 => by
  obtain ⟨g1, g2⟩ := Xn (i := i) (q := q) h1
  have g3 : ∀ x, x ∈ L3 (Bfs.put i l q) → x ∈ S := fun x hx => (g2 x hx).elim (h2 x) fun e => by rw [e]; exact h3 q (by simp)
  have := Qq _ S g1 g3
  unfold L3 at this
  rw [List.length_map] at this
  simp only [Bfs.inner]
  rw [if_neg (by omega)]
  obtain ⟨l', e1, e2, e3, e4⟩ := Pb hS qs (Bfs.put i l q) g1 g3 (fun q hq => h3 q (List.mem_cons_of_mem _ hq))
  refine ⟨l', e1, e2, e3, Nat.le_trans ?_ e4⟩
  unfold Bfs.put; split
  ·exact Nat.le_refl _
  ·simp
theorem Ue {p : Ad} {S : List Ag} {most : Nat} (hS : S.length ≤ most) (hc : ∀ x, x ∈ S → ∀ q, q ∈ JC p x → q.2 ∈ S) : ∀ (n i : Nat) (l : List KD), (L3 l).Nodup → (∀ x, x ∈ L3 l → x ∈ S) → i ≤ l.length → most < n + i → ∃ l', Bfs.go (JC p) most n i l = some l'
 | 0, i, l, h1, h2, hi, hn => by
  have := Qq _ S h1 h2
  unfold L3 at this
  rw [List.length_map] at this
  omega
 | n + 1, i, l, h1, h2, hi, hn => by
  simp only [Bfs.go]
  cases hx : l[i]? with
  | none => exact ⟨l, rfl⟩
  | some nd =>
   have hS2 : nd.1 ∈ S := h2 _ (List.mem_map.2 ⟨nd, lM hx, rfl⟩)
   obtain ⟨l1, e1, e2, e3, e4⟩ := Pb (i := i) hS (JC p nd.1) l h1 h2 (hc _ hS2)
   simp only [e1, oS]
   have := Bfs.lt_get hx
   exact Ue hS hc n (i + 1) l1 e2 e3 (by omega) (by omega)
end Go.Lift
